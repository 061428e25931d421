/- A part of the proof: what its functions compute. -/
import Derived.Test.YtilajmcellffiaaGreatDoorB6
import Derived.Test.YtilajmcellffiaaGreatDoorProg
import Derived.Ground.NamesProg
import Derived.Shelf.LaysM
import Derived.Shelf.Strconv.Itoa1
import Derived.Shelf.Strconv.Itoa2
import Derived.Lib.Walk
import Derived.Lib.ItoaMem
import Derived.WalkKit
import Derived.BigCall
import Derived.BigGuard
set_option linter.unusedVariables false
set_option linter.unusedSimpArgs false
set_option maxRecDepth 100000
namespace Go.Proofs.YtilajmcellffiaaGreatDoorX
open Go Go.RowKit
open IB (IT ITsAt flatT)
attribute [local irreducible] XS XC XA thenE blockE retE loopE loopS cutB cutN doneE SE
def cutT (a : IT) (t : RB IT) : RB IT := bif RB.has IB.ltT a t then RB.blacken ((IB.delC a t).getD .nil) else t
def CutOk (a : IT) (t : RB IT) : Prop := RB.has IB.ltT a t = true → IB.delC a t = some ((IB.delC a t).getD .nil) ∧ ((IB.delC a t).getD .nil).list.length + 1 = t.list.length
def cutQ1 (s : Qs) (a : IT) : Qs := ⟨(takM s.m a.1.p).getD .zero, cutT a s.t, updI s.f a.1.id none, if (s.f a.1.id).isSome then s.n - 1 else s.n, nowQ s⟩
def cutQ (s : Qs) (a : IT) : Qs := centreQ (cutQ1 s a)
set_option maxHeartbeats 4000000 in
theorem qcut_ret (qb : Nat) (s : Qs) (F : List Nat) (a : IT) (w0 : World) (h : QAt w0 qb s F) (hlen : s.t.list.length ≤ 1000000) (hd : CutOk a s.t) :
    Ret Tryz.prog 101 #[.pointer (some ⟨qb, 0, none⟩), iv a.1] w0 fun v w' => ∃ F', QAt w' qb (cutQ s a) F' ∧ (∀ k ∈ F', k ∈ F ∨ w0.heap.size ≤ k) ∧ Only F w0 w' := by
  have hq := h
  obtain ⟨tb, mb, Ft, rfl, h1, h2, h3, h4, h5⟩ := h
  have hs := (St.nil w0).track h1 (by simp)
  have lt1 := lt_of_block h1
  have ltF := hq.lt
  have hP0 : QP w0 qb tb mb Ft s := ⟨h1, h2, h3⟩
  refine ret_of_xc Tryz.func101 (by kernel_rfl) rfl Tryz.ntmps101 rfl rfl rfl ?_; refine xc_seq ?_; refine xc_region ?_ ?_; exact rfl; refine bx hs (k := ?_); intro bq wq hzq hs; repeat' (first|refine vs (k:=?_)|refine qRg ?_|refine Nx.h ?_|fail)
  have hbq := hs.new (bq, true) (by simp) rfl
  simp only at hbq
  have ho := hs.onlyF [] (by simp [h1]) (by simp [D0])
  (with_reducible apply xs_call); exact rfl; exact rfl; exact qnow_ret qb s _ _ (hq.only ho)
  rintro v w' ⟨rfl, ho⟩; replace hs := hs.call0 ho; repeat' (first|refine vs (k:=?_)|(refine st hs (k:=?_);intro w hs)|refine Nx.h ?_|fail)
  refine dr [13] hs (k := ?_); intro hX w hs
  refine tk 0 hX (k := ?_)
  refine tk 1 hX (k := ?_)
  refine tk 2 hX (k := ?_)
  refine tk 3 hX (k := ?_)
  refine tk 4 hX (k := ?_)
  refine tk 5 hX (k := ?_)
  refine tk 6 hX (k := ?_)
  refine dt 7 hX (k := ?_)
  (with_reducible apply xs_call); exact rfl; exact rfl; exact mtake_ret s.m a.1.p h4 a.2.1 _
  rintro v w' ⟨rfl, ho⟩; replace hs := hs.call0 ho; repeat' (first|refine Nx.h ?_|fail)
  refine dn (k := ?_)
  refine tk 8 hX (k := ?_)
  refine tk 9 hX (k := ?_)
  refine tk 10 hX (k := ?_)
  refine tk 11 hX (k := ?_)
  refine tk 12 hX (k := ?_)
  refine dt 13 hX (k := ?_)
  repeat' (first|(refine stA hs (k:=?_);intro w hs)|refine Nx.h ?_|fail)
  refine dn (k := ?_)
  refine en (k := ?_)
  repeat' (first|refine Nx.h ?_|fail)
  have ho2 := hs.onlyF [qb] (by simp) (by simp [D0])
  have hP2 := hP0.own ho2 (hs.get (At.tail At.head))
  have hQ2 := hs.get At.head
  have n1 : bq ≠ qb := blocks_ne hQ2 hP2.q (by decide)
  clear hs
  have hs := ((St.nil _).track hP2.q (by simp)).track hQ2 (by simpa using n1)
  refine dr [] hs (k := ?_); intro hX w hs
  refine tk 0 hX (k := ?_)
  refine tk 1 hX (k := ?_)
  refine tk 2 hX (k := ?_)
  refine tk 3 hX (k := ?_)
  refine tk 4 hX (k := ?_)
  refine tk 5 hX (k := ?_)
  refine dt 6 hX (k := ?_)
  have ho3 := hs.onlyF [] (by simp [hP2.q, hQ2]) (by simp [D0])
  have hP3 := hP2.only ho3
  have hQ3 := hs.get At.head
  have hoC := ho2.step ho3 (by simp)
  (with_reducible apply xs_call); exact rfl; exact rfl; exact IB.rbDelete_ret tb s.t Ft a _ _ hP3.T hd hlen
  rintro v w4 ⟨rfl, F', hT', hF', ho4⟩
  have hz := hoC.size
  have hM4 := hP3.M.keep ho4 hP3.mT
  have hq4 := ho4.block hP3.q hP3.qT
  have hQ4 := ho4.block hQ3 (hP3.T.not hQ3 (by decide) (by decide))
  have hF'' : ∀ k ∈ F', k ∈ Ft ∨ w0.heap.size ≤ k := fun k hk => by rcases hF' k hk with h | h; exact .inl h; exact .inr (by omega)
  have hoD : Only (qb :: mb :: Ft) w0 w4 := (hoC.weaken (by simp)).step ho4 (fun k hk => .inl (by simp [hk]))
  clear hs
  have hs := ((St.nil w4).track hq4 (by simp)).track hQ4 (by simpa using n1)
  repeat' (first|refine Nx.h ?_|fail)
  refine dn (k := ?_)
  refine en (k := ?_)
  repeat' (first|refine Nx.h ?_|fail)
  refine dr [] hs (k := ?_); intro hX w hs
  refine tk 0 hX (k := ?_)
  refine tk 1 hX (k := ?_)
  refine tk 2 hX (k := ?_)
  refine tk 3 hX (k := ?_)
  refine tk 4 hX (k := ?_)
  refine tk 5 hX (k := ?_)
  refine dt 6 hX (k := ?_)
  have ho5 := hs.onlyF [] (by simp [hq4, hQ4]) (by simp [D0])
  have hM5 := hM4.keep ho5 (by simp)
  have hT5 := hT'.only ho5
  have hq5 := hs.get (At.tail At.head)
  refine xs_mapDel (e := 29) hM5 a.2.2.1 (by kernel_rfl) (k := ?_)
  intro w6 hM6 ho6
  have hbm := hM5.ne (hs.get At.head)
  have hqm := hM5.ne hq5
  have hmT := mb_not hT5 hM5
  replace hs := hs.call ho6 (fun k hk hm => by
    obtain rfl := List.mem_singleton.1 hk
    simp only [List.map_cons, List.map_nil, List.mem_cons, List.not_mem_nil, or_false] at hm
    rcases hm with rfl | rfl
    · exact hbm rfl
    · exact hqm rfl) (by simp [D0])
  have hq6 := hs.get (At.tail At.head)
  have hT6 := hT5.keepD ho6 (fun k hk hm => by obtain rfl := List.mem_singleton.1 hm; exact hmT hk)
  have hoE : Only (qb :: mb :: Ft) w0 w6 := (hoD.step ho5 (by simp)).step ho6 (fun k hk => .inl (by obtain rfl := List.mem_singleton.1 hk; simp))
  have hM6' : MapAt w6 mb (vals (updI s.f a.1.id none)) (if (s.f a.1.id).isSome then s.n - 1 else s.n) := by
    rw [← vals_upd, ← vals_isSome]
    exact hM6
  have hA6 : QAt w6 qb (cutQ1 s a) (qb :: mb :: F') := ⟨tb, mb, F', rfl, hq6, hM6', hT6, getD_in (fun m e => takM_in h4 e), nowQ_in h5⟩
  have hz6 := hoE.size
  have hQ6 := hs.get At.head
  clear hs
  have hs := ((St.nil w6).track hq6 (by simp)).track hQ6 (by simpa using n1)
  refine XS.nil ?_
  refine dn (k := ?_)
  refine en (k := ?_)
  repeat' (first|refine vs (k:=?_)|refine qRg ?_|refine Nx.h ?_|fail)
  have ho7 := hs.onlyF [] (by simp [hq6, hQ6]) (by simp [D0])
  (with_reducible apply xs_call); exact rfl; exact rfl; exact qcentre_ret qb (cutQ1 s a) _ _ (hA6.only ho7)
  rintro v w8 ⟨hA8, ho8⟩
  have hs := St.nil w8
  repeat' (first|refine Nx.h ?_|fail)
  first | refine rt' (vs := []) (hr := resOk_nil) (hq := ?_) | refine rt (vs := []) (hr := resOk_nil) (hq := ?_)
  refine ⟨_, hA8, fun k hk => ?_, ((hoE.step ho7 (by simp)).step ho8 (fun k hk => .inl (by obtain rfl := List.mem_singleton.1 hk; simp)))⟩
  simp only [List.mem_cons] at hk
  rcases hk with rfl | rfl | hk
  · exact .inl (by simp)
  · exact .inl (by simp)
  · rcases hF'' k hk with h | h
    · exact .inl (by simp [h])
    · exact .inr h
theorem vals_get (f : Int → Option IT) (i : Int) : (vals f i).getD (iv .zero) = iv (match f i with | some a => a.1 | none => .zero) := by unfold vals; cases f i <;> rfl
def leaveQ (s : Qs) (id : Int) : Qs := match s.f id with | some a => cutQ s a | none => s
set_option maxHeartbeats 4000000 in
theorem qleave_ret (qb : Nat) (s : Qs) (F : List Nat) (id : Int) (w0 : World) (h : QAt w0 qb s F) (hid : In64 id) (hlen : s.t.list.length ≤ 1000000) (hd : ∀ a, s.f id = some a → CutOk a s.t) :
    Ret Tryz.prog 61 #[.pointer (some ⟨qb, 0, none⟩), .int .i64 id] w0 fun v w' => v = .tuple #[iv (match s.f id with | some a => a.1 | none => .zero), .int .i64 (if (s.f id).isSome then 0 else 14)] ∧ ∃ F', QAt w' qb (leaveQ s id) F' ∧ (∀ k ∈ F', k ∈ F ∨ w0.heap.size ≤ k) ∧ Only F w0 w' := by
  have hq := h
  obtain ⟨tb, mb, Ft, rfl, h1, h2, h3, h4, h5⟩ := h
  have hs := (St.nil w0).track h1 (by simp)
  refine ret_of_xc Tryz.func61 (by kernel_rfl) rfl Tryz.ntmps61 rfl rfl rfl ?_
  refine xc_seq ?_
  refine xc_region ?_ ?_; exact rfl
  refine al hs (k := ?_); intro b4 w hz hs
  have g4 := hs.new (b4, true) (by simp) rfl
  simp only at g4
  repeat' (first|refine vs (k:=?_)|refine qRg ?_|refine Nx.h ?_|refine qCf ?_|fail)
  have ho := hs.onlyF [] (by simp [h1]) (by simp [D0])
  refine xs_look (e := 29) (z := iv .zero) (h2.keep ho (by simp)) hid (by kernel_rfl) (by kernel_rfl) (k := ?_)
  rw [vals_get, vals_isSome]
  unfold leaveQ
  cases hf : s.f id with
  | none =>
    repeat' (first|refine vs (k:=?_)|(refine stA hs (k:=?_);intro w hs)|(refine al hs (k:=?_);intro b w hz hs)|refine qRg ?_|refine Nx.h ?_|refine qCt ?_|fail)
    first | refine rt (hq := ?_) | refine rt' (hq := ?_)
    have ho := hs.onlyF [] (by simp [h1]) (by simp [D0])
    exact ⟨rfl, _, hq.only ho, fun k hk => .inl hk, ho.weaken (by simp)⟩
  | some a =>
    refine vs (k := ?_)
    refine vs (k := ?_)
    refine vs (k := ?_)
    refine al hs (k := ?_); intro b6 w6 hz6 hs
    have g6 := hs.new (b6, true) (by simp) rfl
    simp only at g6
    have n46 : b6 ≠ b4 := by have := hs.nd; simp only [List.map_cons, List.nodup_cons, List.mem_cons, not_or] at this; exact this.1.1
    repeat' (first|refine vs (k:=?_)|(refine stA hs (k:=?_);intro w hs)|refine qRg ?_|refine Nx.h ?_|refine qCf ?_|fail)
    have ho := hs.onlyF [] (by simp [h1]) (by simp [D0])
    have hqw := hq.only ho
    (with_reducible apply xs_call); exact rfl; exact rfl; exact qcut_ret qb s _ a _ hqw hlen (hd a hf)
    rintro v w7 ⟨F', hA, hF', ho7⟩
    have k4 := ho7.block (hs.get (At.tail At.head)) (hqw.not (hs.get (At.tail At.head)) (by decide) (by decide) (by decide))
    have k6 := ho7.block (hs.get At.head) (hqw.not (hs.get At.head) (by decide) (by decide) (by decide))
    have hz7 := ho.size
    clear hs
    have hs := ((St.nil w7).track k4 (by simp)).track k6 (by simpa using n46)
    repeat' (first|refine vs (k:=?_)|(refine stA hs (k:=?_);intro w hs)|refine qRg ?_|refine Nx.h ?_|fail)
    first | refine rt (hq := ?_) | refine rt' (hq := ?_)
    have ho8 := hs.onlyF [b4] (by simp [k6]) (by simp [D0])
    refine ⟨rfl, F', hA.keepD ho8 (fun k hk hm => by obtain rfl := List.mem_singleton.1 hm; exact hA.not k4 (by decide) (by decide) (by decide) hk), fun k hk => ?_, ((ho.weaken (by simp)).step ho7 (fun k hk => .inl hk)).step ho8 (fun k hk => .inr (by obtain rfl := List.mem_singleton.1 hk; exact g4))⟩
    rcases hF' k hk with h | h
    · exact .inl h
    · exact .inr (by omega)
end Go.Proofs.YtilajmcellffiaaGreatDoorX

namespace Go.Proofs.YtilajmcellffiaaGreatDoorX
open IB (IT)
namespace RB
variable {α : Type} {lt : α → α → Bool} {S : α → Prop} {x : α}
theorem insL_perm (x : α) : ∀ l : List α, (insL lt x l).Perm (x :: l)
  | [] => .refl _
  | y :: l => by
    unfold insL
    cases lt x y
    · exact ((insL_perm x l).cons y).trans (.swap _ _ _)
    · exact .refl _
theorem insL_srt (ho : OrdOn lt S) (hx : S x) : ∀ {l : List α}, (∀ z ∈ l, S z) → Srt lt l → x ∉ l → Srt lt (insL lt x l)
  | [], _, _, _ => List.pairwise_singleton _ _
  | y :: l, hS, h, hn => by
    obtain ⟨h1, h2⟩ := List.pairwise_cons.1 h
    have hy := hS y List.mem_cons_self
    unfold insL
    cases e : lt x y
    · have hyx : lt y x = true := by
        cases e' : lt y x
        · exact absurd (ho.tri x y hx hy e e') (fun h => hn (by rw [h]; exact List.mem_cons_self))
        · rfl
      refine List.pairwise_cons.2 ⟨fun z hz => ?_, insL_srt ho hx (fun z hz => hS z (List.mem_cons_of_mem _ hz)) h2 (fun hm => hn (List.mem_cons_of_mem _ hm))⟩
      rcases List.mem_cons.1 ((insL_perm x l).mem_iff.1 hz) with rfl | hz
      · exact hyx
      · exact h1 z hz
    · refine List.pairwise_cons.2 ⟨fun z hz => ?_, h⟩
      rcases List.mem_cons.1 hz with rfl | hz
      · exact e
      · exact ho.tr x y z hx hy (hS z (List.mem_cons_of_mem _ hz)) e (h1 z hz)
theorem srt_nodup (ho : OrdOn lt S) {l : List α} (hS : ∀ z ∈ l, S z) (h : Srt lt l) : l.Nodup := by
  refine List.Pairwise.imp_of_mem (fun {a b} ha hb hab e => ?_) h
  subst e
  rw [ho.irr a (hS a ha)] at hab; cases hab
theorem sans_perm [DecidableEq α] {l : List α} (h : l.Nodup) (hx : x ∈ l) : l.Perm (x :: sans x l) := by
  induction l with
  | nil => cases hx
  | cons y l ih =>
    obtain ⟨h1, h2⟩ := List.nodup_cons.1 h
    by_cases e : y = x
    · subst e
      rw [sans_self, sans_none (fun z hz he => h1 (by rw [← he]; exact hz))]
    · rw [sans_cons e]
      exact ((ih h2 ((List.mem_cons.1 hx).resolve_left (fun h => e h.symm))).cons y).trans (.swap _ _ _)
end RB
theorem ordT {L : List IT} {b lo : Int} (h : ∀ x ∈ L, Win b lo x.1) (hm : Mid lo) (hi : ∀ x ∈ L, ∀ y ∈ L, x.1.id = y.1.id → x = y) : OrdOn IB.ltT (· ∈ L) := by
  have o := ahead_ord (b := b) (lo := lo) (S := fun z => ∃ y ∈ L, y.1 = z) hm (by rintro _ ⟨y, hy, rfl⟩; exact h y hy) (by rintro _ _ ⟨y, hy, rfl⟩ ⟨z, hz, rfl⟩ e; rw [hi y hy z hz e])
  exact ⟨fun a ha => o.irr a.1 ⟨a, ha, rfl⟩, fun a b c ha hb hc => o.tr a.1 b.1 c.1 ⟨a, ha, rfl⟩ ⟨b, hb, rfl⟩ ⟨c, hc, rfl⟩, fun a b ha hb k1 k2 => Subtype.ext (o.tri a.1 b.1 ⟨a, ha, rfl⟩ ⟨b, hb, rfl⟩ k1 k2)⟩
theorem dueT {L : List IT} {b lo : Int} (h : ∀ x ∈ L, Win b lo x.1) (hm : Mid lo) (hi : ∀ x ∈ L, ∀ y ∈ L, x.1.id = y.1.id → x = y) : OrdOn (fun x y : IT => due x.1 y.1) (· ∈ L) := by
  have o := due_ord (b := b) (lo := lo) (S := fun z => ∃ y ∈ L, y.1 = z) hm (by rintro _ ⟨y, hy, rfl⟩; exact h y hy) (by rintro _ _ ⟨y, hy, rfl⟩ ⟨z, hz, rfl⟩ e; rw [hi y hy z hz e])
  exact ⟨fun a ha => o.irr a.1 ⟨a, ha, rfl⟩, fun a b c ha hb hc => o.tr a.1 b.1 c.1 ⟨a, ha, rfl⟩ ⟨b, hb, rfl⟩ ⟨c, hc, rfl⟩, fun a b ha hb k1 k2 => Subtype.ext (o.tri a.1 b.1 ⟨a, ha, rfl⟩ ⟨b, hb, rfl⟩ k1 k2)⟩
theorem delC_ok {a : IT} {t : RB IT} {S : IT → Prop} (ho : OrdOn IB.ltT S) (hg : RB.Good t) (hs : RB.Srt IB.ltT t.list) (hS : ∀ z ∈ t.list, S z) (ha : a ∈ t.list) : ∃ t', IB.delC a t = some t' ∧ (∃ h, RB.Ok t' h) ∧ t'.list = RB.sans a t.list := by
  cases t with
  | nil => cases ha
  | node l y r c =>
    obtain ⟨hc, h, hk⟩ := hg
    obtain rfl : c = false := hc
    obtain ⟨h', rfl, hl, hr, hrr⟩ := hk.inv_black
    have hq : ∃ h', RB.Ok (.node l y r (IB.rootC l r false)) h' ∧ (IB.rootC l r false = true ∨ l.red = true) := by
      unfold IB.rootC
      rw [hrr]
      cases e : l.red
      · exact ⟨_, .red hl hr e hrr, .inl rfl⟩
      · exact ⟨_, .black hl hr hrr, .inr rfl⟩
    obtain ⟨h2, hok, hc⟩ := hq
    obtain ⟨t1, e1, e2⟩ := RB.cut_ok ho (RB.node l y r false).list.length (.node l y r (IB.rootC l r false)) h2 hok rfl hc (Nat.le_refl _) ⟨hs, hS, ha⟩
    exact ⟨t1, e1, ⟨_, e2.ok⟩, e2.list⟩
end Go.Proofs.YtilajmcellffiaaGreatDoorX

namespace Go.Proofs.YtilajmcellffiaaGreatDoorX
open Go Go.RowKit
open IB (IT ITsAt flatT)
attribute [local irreducible] XS XC XA thenE blockE retE loopE loopS cutB cutN doneE SE
def newQ (c : Int) : Qs := ⟨.zero, .nil, fun _ => none, 0, c⟩
theorem qnew_ret (c : Int) (hc : U64 c) (w0 : World) : Ret Tryz.prog 60 #[.int .u64 c] w0 fun v w' => (∃ qb F, v = .pointer (some ⟨qb, 0, none⟩) ∧ QAt w' qb (newQ c) F ∧ ∀ k ∈ F, w0.heap.size ≤ k) ∧ Only [] w0 w' := by
  have hs := St.nil w0
  refine ret_of_xc Tryz.func60 (by kernel_rfl) rfl Tryz.ntmps60 rfl rfl rfl ?_
  repeat' (first|refine vs (k:=?_)|refine qRg ?_|refine Nx.h ?_|fail)
  (with_reducible apply xs_call); exact rfl; exact rfl; exact IB.newTree_ret [] (.slice none 0 0) (by simp) _ (LsAt.nil _ _ _)
  rintro v w1 ⟨⟨tb, Ft, rfl, hT, hFt⟩, ho⟩; replace hs := hs.call0 ho
  have ho1 := hs.only0 rfl
  have hz1 := ho1.size
  refine xs_mapNew (k := ?_)
  intro mb w2 ho2 hM hmb
  clear hs
  have hs := St.nil w2
  refine vs (k := ?_)
  refine vs (k := ?_)
  refine bx hs (k := ?_); intro qb w3 hz hs
  have hqb := hs.new (qb, true) (by simp) rfl
  simp only at hqb
  have hz2 := ho2.size
  have hM3 := hM.keep (hs.only0 rfl) (by simp)
  have hT3 := (hT.only ho2).only (hs.only0 rfl)
  have hM4 : MapAt w3 mb (vals (fun _ => none)) 0 := hM3
  have hq3 := hs.get At.head
  have ho3 := (ho1.trans ho2).trans (hs.only0 rfl)
  have hA : QAt w3 qb (newQ c) (qb :: mb :: Ft) := ⟨tb, mb, Ft, rfl, hq3, hM4, hT3, (by decide : Mn.zero.In), hc⟩
  have hnew : ∀ k ∈ qb :: mb :: Ft, w0.heap.size ≤ k := fun k hk => by
    simp only [List.mem_cons] at hk
    rcases hk with rfl | rfl | hk
    · omega
    · omega
    · have := hFt k hk; omega
  repeat' (first|refine vs (k:=?_)|refine Nx.h ?_|fail)
  first | refine rt (hq := ?_) | refine rt' (hq := ?_)
  exact ⟨⟨qb, _, rfl, hA, hnew⟩, ho3⟩
def owedQ (s : Qs) (id : Int) : Int := match s.f id with | some a => cmpI ((ovM s.m a.1.p).getD 0) 0 | none => 0
def lagQ (s : Qs) (id : Int) : Int := match s.f id with | some a => (rdM s.m a.1.p).getD 0 | none => 0
def errN (b : Bool) : Int := bif b then 0 else 14
set_option maxHeartbeats 4000000 in
theorem qowed_ret (qb : Nat) (s : Qs) (F : List Nat) (id : Int) (w0 : World) (h : QAt w0 qb s F) (hid : In64 id) : Ret Tryz.prog 118 #[.pointer (some ⟨qb, 0, none⟩), .int .i64 id] w0 fun v w' => v = .tuple #[.int .i64 (owedQ s id), .int .i64 (errN (s.f id).isSome)] ∧ Only [] w0 w' := by
  obtain ⟨tb, mb, Ft, rfl, h1, h2, h3, h4, h5⟩ := h
  have hs := (St.nil w0).track h1 (by simp)
  refine ret_of_xc Tryz.func118 (by kernel_rfl) rfl Tryz.ntmps118 rfl rfl rfl ?_
  repeat' (first|refine vs (k:=?_)|refine qRg ?_|refine Nx.h ?_|refine qCf ?_|fail)
  have ho := hs.onlyF [] (by simp [h1]) (by simp [D0])
  refine xs_look (e := 29) (z := iv .zero) (h2.keep ho (by simp)) hid (by kernel_rfl) (by kernel_rfl) (k := ?_)
  rw [vals_get, vals_isSome]
  unfold owedQ
  cases hf : s.f id with
  | none =>
    repeat' (first|refine vs (k:=?_)|(refine stA hs (k:=?_);intro w hs)|(refine al hs (k:=?_);intro b w hz hs)|refine qRg ?_|refine Nx.h ?_|refine qCt ?_|fail)
    first | refine rt (hq := ?_) | refine rt' (hq := ?_)
    exact ⟨rfl, hs.onlyF [] (by simp [h1]) (by simp [D0])⟩
  | some a =>
    repeat' (first|refine vs (k:=?_)|(refine stA hs (k:=?_);intro w hs)|(refine al hs (k:=?_);intro b w hz hs)|refine qRg ?_|refine Nx.h ?_|refine qCf ?_|fail)
    refine dr [] hs (k := ?_); intro hX w hs
    refine tk 0 hX (k := ?_)
    refine tk 1 hX (k := ?_)
    refine tk 2 hX (k := ?_)
    refine tk 3 hX (k := ?_)
    refine tk 4 hX (k := ?_)
    refine tk 5 hX (k := ?_)
    refine dt 6 hX (k := ?_)
    (with_reducible apply xs_call); exact rfl; exact rfl; exact lsign_ret s.m a.1.p h4 a.2.1 _
    rintro v w' ⟨rfl, ho⟩; replace hs := hs.call0 ho; repeat' (first|refine Nx.h ?_|fail)
    refine dn (k := ?_)
    refine tk 7 hX (k := ?_)
    refine tk 8 hX (k := ?_)
    refine tk 9 hX (k := ?_)
    refine tk 10 hX (k := ?_)
    refine tk 11 hX (k := ?_)
    refine en (k := ?_)
    repeat' (first|refine vs (k:=?_)|refine qRg ?_|refine Nx.h ?_|fail)
    first | refine rt (hq := ?_) | refine rt' (hq := ?_)
    exact ⟨rfl, hs.onlyF [] (by simp [h1]) (by simp [D0])⟩
set_option maxHeartbeats 4000000 in
theorem qlag_ret (qb : Nat) (s : Qs) (F : List Nat) (id : Int) (w0 : World) (h : QAt w0 qb s F) (hid : In64 id) : Ret Tryz.prog 27 #[.pointer (some ⟨qb, 0, none⟩), .int .i64 id] w0 fun v w' => v = .tuple #[wv (lagQ s id), .int .i64 (errN (s.f id).isSome)] ∧ Only [] w0 w' := by
  obtain ⟨tb, mb, Ft, rfl, h1, h2, h3, h4, h5⟩ := h
  have hs := (St.nil w0).track h1 (by simp)
  refine ret_of_xc Tryz.func27 (by kernel_rfl) rfl Tryz.ntmps27 rfl rfl rfl ?_
  repeat' (first|refine vs (k:=?_)|(refine al hs (k:=?_);intro b w hz hs)|refine qRg ?_|refine Nx.h ?_|refine qCf ?_|fail)
  have ho := hs.onlyF [] (by simp [h1]) (by simp [D0])
  refine xs_look (e := 29) (z := iv .zero) (h2.keep ho (by simp)) hid (by kernel_rfl) (by kernel_rfl) (k := ?_)
  rw [vals_get, vals_isSome]
  unfold lagQ
  cases hf : s.f id with
  | none =>
    repeat' (first|refine vs (k:=?_)|(refine stA hs (k:=?_);intro w hs)|(refine al hs (k:=?_);intro b w hz hs)|refine qRg ?_|refine Nx.h ?_|refine qCt ?_|fail)
    first | refine rt (hq := ?_) | refine rt' (hq := ?_)
    exact ⟨rfl, hs.onlyF [] (by simp [h1]) (by simp [D0])⟩
  | some a =>
    repeat' (first|refine vs (k:=?_)|(refine stA hs (k:=?_);intro w hs)|(refine al hs (k:=?_);intro b w hz hs)|refine qRg ?_|refine Nx.h ?_|refine qCf ?_|fail)
    refine dr [] hs (k := ?_); intro hX w hs
    refine tk 0 hX (k := ?_)
    refine tk 1 hX (k := ?_)
    refine tk 2 hX (k := ?_)
    refine tk 3 hX (k := ?_)
    refine tk 4 hX (k := ?_)
    refine tk 5 hX (k := ?_)
    refine pd0 10 8 hs (k := ?_); intro f X w hp; have hs := hp.st
    apply xa_pend 6 10 (f := f) (X := X) hX hp; exact rfl; exact rfl; (first | (apply makes_alloc tabOk; exact rfl) | (apply makes_slice tabOk; exact rfl; exact rfl; exact rfl; exact rfl; exact rfl; (intro X; ((repeat (first | exact Bld.nil | (apply Bld.one; exact rfl; (conv => lhs; whnf); exact rfl; (repeat (first | exact PutL.nil | apply PutL.skip | apply PutL.cons))) | (apply Bld.agg; exact rfl; exact rfl; exact rfl; (repeat (first | exact PutL.nil | apply PutL.skip | apply PutL.cons))))))))); kernel_rfl; kernel_rfl; kernel_rfl; kernel_rfl; (intro X Y; (repeat (first | exact pgg_base | refine pgg_step ?_ (by exact rfl)))); (intro w' hs; ((first | exact se_hold hs.hold | exact se_hold (hold_sim hs.hold rfl) | exact se_hold (hold_sim hs.hold.tail rfl) | exact se_hold (hR hs rfl) | exact se_hold hs.hold.tail | exact se_hold hs.hold.tail.tail | exact se_hold hs.hold.tail.tail.tail | exact se_done rfl))); intro f X w hp; have hs := hp.st
    (with_reducible apply xs_call); exact rfl; exact rfl; exact read_ret s.m a.1.p h4 a.2.1 _
    rintro v w' ⟨rfl, ho⟩; replace hp := hp.only ho; replace hs := hp.st; repeat' (first|refine Nx.h ?_|fail)
    refine dn (k := ?_)
    refine tk 7 hX (hc := by cases f <;> kernel_rfl) (k := ?_)
    refine tk 8 hX (hc := by cases f <;> kernel_rfl) (k := ?_)
    refine tk 9 hX (hc := by cases f <;> kernel_rfl) (k := ?_)
    apply xa_pendE 10 (f := f) (X := X) hX hp; exact rfl; (first | (apply makes_alloc tabOk; exact rfl) | (apply makes_slice tabOk; exact rfl; exact rfl; exact rfl; exact rfl; exact rfl; (intro X; ((repeat (first | exact Bld.nil | (apply Bld.one; exact rfl; (conv => lhs; whnf); exact rfl; (repeat (first | exact PutL.nil | apply PutL.skip | apply PutL.cons))) | (apply Bld.agg; exact rfl; exact rfl; exact rfl; (repeat (first | exact PutL.nil | apply PutL.skip | apply PutL.cons))))))))); kernel_rfl; kernel_rfl; (intro X Y; (repeat (first | exact pgg_base | refine pgg_step ?_ (by exact rfl)))); (intro w' hs; ((first | exact se_hold hs.hold | exact se_hold (hold_sim hs.hold rfl) | exact se_hold (hold_sim hs.hold.tail rfl) | exact se_hold (hR hs rfl) | exact se_hold hs.hold.tail | exact se_hold hs.hold.tail.tail | exact se_hold hs.hold.tail.tail.tail | exact se_done rfl))); intro b w hI hs
    refine dt 11 hX (k := ?_)
    repeat' (first|(refine stA hs (k:=?_);intro w hs)|refine Nx.h ?_|fail)
    refine dn (k := ?_)
    refine tk 12 hX (k := ?_)
    refine en (k := ?_)
    repeat' (first|refine vs (k:=?_)|(refine stA hs (k:=?_);intro w hs)|refine qRg ?_|refine Nx.h ?_|fail)
    first | refine rt (hq := ?_) | refine rt' (hq := ?_)
    exact ⟨rfl, hs.onlyF [] (by simp [h1]) (by simp [D0])⟩
abbrev qptrO (qb : Nat) : Obj := .cells #[.pointer (some ⟨qb, 0, none⟩)] 46 (0, 0)
theorem qelig_ret (qb tb mb bb : Nat) (m : Mn) (c : Int) (a : IT) (w0 : World) (hm : m.In) (h1 : w0.heap[qb]? = some (queueO m tb mb c)) (h2 : w0.heap[bb]? = some (qptrO qb)) : Ret Tryz.prog 76 #[iv a.1, .pointer (some ⟨bb, 0, none⟩)] w0 fun v w' => v = .bool (elig m a.1.p) ∧ Only [] w0 w' := by
  have n1 := blocks_ne h2 h1 (by decide)
  have hs := ((St.nil w0).track h1 (by simp)).track h2 (by simpa using n1)
  refine ret_of_xc Tryz.func76 (by kernel_rfl) rfl Tryz.ntmps76 rfl rfl rfl ?_; refine xc_seq ?_; refine xc_region ?_ ?_; exact rfl; refine bx hs (k := ?_); intro bq wq hzq hs; repeat' (first|refine vs (k:=?_)|refine Nx.h ?_|fail)
  refine dr [] hs (k := ?_); intro hX w hs
  refine tk 0 hX (k := ?_)
  refine tk 1 hX (k := ?_)
  refine tk 2 hX (k := ?_)
  refine tk 3 hX (k := ?_)
  refine tk 4 hX (k := ?_)
  refine tk 5 hX (k := ?_)
  refine dt 6 hX (k := ?_)
  (with_reducible apply xs_call); exact rfl; exact rfl; exact elig_ret m a.1.p hm a.2.1 _
  rintro v w' ⟨rfl, ho⟩; replace hs := hs.call0 ho; repeat' (first|refine Nx.h ?_|fail)
  refine dn (k := ?_)
  refine tk 7 hX (k := ?_)
  refine en (k := ?_)
  repeat' (first|refine Nx.h ?_|fail)
  first | refine rt (hq := ?_) | refine rt' (hq := ?_)
  exact ⟨rfl, hs.onlyF [] (by simp [h1, h2]) (by simp [D0])⟩
def soonQ (s : Qs) : Option IT := IB.foldT (fun a => elig s.m a.1.p) s.t none
set_option maxHeartbeats 4000000 in
theorem qsoonest_ret (qb : Nat) (s : Qs) (F : List Nat) (w0 : World) (h : QAt w0 qb s F) : Ret Tryz.prog 28 #[.pointer (some ⟨qb, 0, none⟩)] w0 fun v w' => v = .tuple #[iv (IB.valO (soonQ s)), .bool (soonQ s).isSome] ∧ Only [] w0 w' := by
  obtain ⟨tb, mb, Ft, rfl, h1, h2, h3, h4, h5⟩ := h
  have hs := (St.nil w0).track h1 (by simp)
  refine ret_of_xc Tryz.func28 (by kernel_rfl) rfl Tryz.ntmps28 rfl rfl rfl ?_
  refine xc_seq ?_
  refine xc_region ?_ ?_; exact rfl
  refine bx hs (k := ?_); intro bb w hz hs
  refine al hs (k := ?_); intro b2 w hz hs
  repeat' (first|refine vs (k:=?_)|refine qRg ?_|refine Nx.h ?_|refine qCf ?_|fail)
  have ho := hs.onlyF [] (by simp [h1]) (by simp [D0])
  have hq := hs.get (At.tail (At.tail At.head))
  have hb := hs.get (At.tail At.head)
  (with_reducible apply xs_call); exact rfl; exact rfl; exact IB.dsoonest_ret tb s.t Ft _ (h3.only ho) 76 [.pointer (some ⟨bb, 0, none⟩)] (fun a => elig s.m a.1.p) (fun y w _ hw => qelig_ret qb tb mb bb s.m s.c y w h4 (hw.block hq (by simp)) (hw.block hb (by simp)))
  rintro v w' ⟨rfl, ho⟩; replace hs := hs.call0 ho; repeat' (first|refine vs (k:=?_)|(refine stA hs (k:=?_);intro w hs)|refine Nx.h ?_|fail)
  first | refine rt (hq := ?_) | refine rt' (hq := ?_)
  exact ⟨rfl, hs.onlyF [] (by simp [h1]) (by simp [D0])⟩
end Go.Proofs.YtilajmcellffiaaGreatDoorX

namespace Go.Proofs.YtilajmcellffiaaGreatDoorX
open Go Go.RowKit
attribute [local irreducible] XS XC XA thenE blockE retE loopE loopS cutB cutN doneE SE
def within (base : Int) (l : List It) : Bool := decide (spr base l ≤ 4611686018427387904)
theorem within_ret (base : Int) (l : List It) (sl : Value) (hm : l.length ≤ 1000000) (w0 : World) (hP : ItsAt w0 sl l) :
    Ret Tryz.prog 104 #[.int .u64 base, sl] w0 fun v w' => v = .bool (within base l) ∧ Only [] w0 w' := by
  obtain ⟨ad, cap, rfl, hD⟩ := id hP
  have hs := St.nil w0
  refine ret_of_xc Tryz.func104 (by kernel_rfl) rfl Tryz.ntmps104 rfl rfl rfl ?_
  repeat' (first|refine vs (k:=?_)|refine qRg ?_|refine Nx.h ?_|fail)
  (with_reducible apply xs_call); exact rfl; exact rfl; exact spread_ret base l _ hm _ (hP.only (hs.only0 rfl))
  rintro v w' ⟨rfl, ho⟩; replace hs := hs.call0 ho; repeat' (first|refine vs (k:=?_)|refine Nx.h ?_|fail)
  first | refine rt (hq := ?_) | refine rt' (hq := ?_)
  exact ⟨rfl, hs.only0 rfl⟩
theorem room0_ret (w0 : World) : Ret Tryz.prog 243 #[.int .u64 0, .slice none 0 0] w0 fun v w' => v = .int .u64 4611686018427387904 ∧ Only [] w0 w' := by
  have hs := St.nil w0
  refine ret_of_xc Tryz.func243 (by kernel_rfl) rfl Tryz.ntmps243 rfl rfl rfl ?_
  repeat' (first|refine vs (k:=?_)|refine qRg ?_|refine Nx.h ?_|fail)
  (with_reducible apply xs_call); exact rfl; exact rfl; exact within_ret 0 [] _ (by simp) _ (LsAt.nil _ _ _)
  rw [show within 0 [] = true from by decide]
  rintro v w' ⟨rfl, ho⟩; replace hs := hs.call0 ho; repeat' (first|refine vs (k:=?_)|refine qRg ?_|refine Nx.h ?_|refine qCf ?_|fail)
  (with_reducible apply xs_call); exact rfl; exact rfl; exact spread_ret 0 [] _ (by simp) _ (LsAt.nil _ _ _)
  rw [show spr 0 [] = 0 from by decide]
  rintro v w' ⟨rfl, ho⟩; replace hs := hs.call0 ho; repeat' (first|refine vs (k:=?_)|refine Nx.h ?_|fail)
  first | refine rt (hq := ?_) | refine rt' (hq := ?_)
  exact ⟨rfl, hs.only0 rfl⟩
end Go.Proofs.YtilajmcellffiaaGreatDoorX

namespace Go.Proofs.YtilajmcellffiaaGreatDoorX
open Go Go.RowKit
open IB (IT ITsAt flatT)
attribute [local irreducible] XS XC XA thenE blockE retE loopE loopS cutB cutN doneE SE
def baseQ (s : Qs) (a : IT) : Int := bif decide (s.t.list.length = 0) then a.1.p.t else nowQ s
def plain (l : List IT) : List It := l.map (·.1)
def joinE (s : Qs) (a : IT) : Int :=
  bif !a.1.right then 2 else bif (s.f a.1.id).isSome then 13 else bif decide (s.t.list.length = 32) then 7 else bif !within (baseQ s a) (plain (s.t.list ++ [a])) then 8 else 0
def joinQ (s : Qs) (a : IT) : Qs := bif decide (joinE s a = 0) then putQ s a else s
set_option maxHeartbeats 4000000 in
theorem qjoin_ret (qb : Nat) (s : Qs) (F : List Nat) (a : IT) (w0 : World) (h : QAt w0 qb s F) (hlen : s.t.list.length + 1 ≤ 1000000) (hn : s.n < 1000000) :
    Ret Tryz.prog 64 #[.pointer (some ⟨qb, 0, none⟩), iv a.1] w0 fun v w' => v = .int .i64 (joinE s a) ∧ ∃ F', QAt w' qb (joinQ s a) F' ∧ (∀ k ∈ F', k ∈ F ∨ w0.heap.size ≤ k) ∧ Only F w0 w' := by
  have hq := h
  obtain ⟨tb, mb, Ft, rfl, h1, h2, h3, h4, h5⟩ := h
  have hs := (St.nil w0).track h1 (by simp)
  have same : ∀ w', Only [] w0 w' → ∃ F', QAt w' qb s F' ∧ (∀ k ∈ F', k ∈ qb :: mb :: Ft ∨ w0.heap.size ≤ k) ∧ Only (qb :: mb :: Ft) w0 w' := fun w' ho => ⟨_, hq.only ho, fun k hk => .inl hk, ho.weaken (by simp)⟩
  refine ret_of_xc Tryz.func64 (by kernel_rfl) rfl Tryz.ntmps64 rfl rfl rfl ?_; refine xc_seq ?_; refine xc_region ?_ ?_; exact rfl; refine bx hs (k := ?_); intro bq wq hzq hs; repeat' (first|refine vs (k:=?_)|refine qRg ?_|refine Nx.h ?_|refine qCf ?_|fail)
  have hbq := hs.new (bq, true) (by simp) rfl
  simp only at hbq
  have ho := hs.onlyF [] (by simp [h1]) (by simp [D0])
  (with_reducible apply xs_call); exact rfl; exact rfl; exact qnow_ret qb s _ _ (hq.only ho)
  rintro v w' ⟨rfl, ho⟩; replace hs := hs.call0 ho
  refine vs (k := ?_)
  refine XS.nil ?_
  refine then_of ?_
  refine xc_seq ?_
  refine xc_cutN (fun _ : Unit => [(0, .pointer (some ⟨qb, 0, none⟩)), (3, .pointer (some ⟨bq, 0, none⟩)), (4, .int .i64 0), (5, .int .u64 (baseQ s a))]) (fun _ w => St w0 D0 [(bq, itQ a.1, true), (qb, queueO s.m tb mb s.c, false)] w) ?_ ?_
  · repeat' (first|refine vs (k:=?_)|refine qRg ?_|refine Nx.h ?_|fail)
    have ho := hs.onlyF [] (by simp [h1]) (by simp [D0])
    (with_reducible apply xs_call); exact rfl; exact rfl; exact qlen_ret qb s _ _ (hq.only ho)
    rintro v w' ⟨rfl, ho⟩; replace hs := hs.call0 ho; repeat' (first|refine vs (k:=?_)|refine qRg ?_|refine Nx.h ?_|(refine xc_if rfl (fun hc=>?_) (fun hc=>?_))|fail)
    · have e : baseQ s a = a.1.p.t := by unfold baseQ; rw [decide_eq_true (show s.t.list.length = 0 by omega)]; rfl
      rw [e]
      exact cutN_normal () (by (repeat (first | exact agree_nil | (apply agree_cons; exact rfl)))) hs
    · have e : baseQ s a = nowQ s := by unfold baseQ; rw [decide_eq_false (show ¬ s.t.list.length = 0 by omega)]; rfl
      rw [e]
      exact cutN_normal () (by (repeat (first | exact agree_nil | (apply agree_cons; exact rfl)))) hs
  clear hs ho
  rintro _ env w hs
  repeat' (first|refine Nx.h ?_|fail)
  refine dr [] hs (k := ?_); intro hX w hs
  refine tk 0 hX (k := ?_)
  refine tk 1 hX (k := ?_)
  refine tk 2 hX (k := ?_)
  refine tk 3 hX (k := ?_)
  refine tk 4 hX (k := ?_)
  refine tk 5 hX (k := ?_)
  refine pd0 10 6 hs (k := ?_); intro f X w hp; have hs := hp.st
  apply xa_pend 6 10 (f := f) (X := X) hX hp; exact rfl; exact rfl; (first | (apply makes_alloc tabOk; exact rfl) | (apply makes_slice tabOk; exact rfl; exact rfl; exact rfl; exact rfl; exact rfl; (intro X; ((repeat (first | exact Bld.nil | (apply Bld.one; exact rfl; (conv => lhs; whnf); exact rfl; (repeat (first | exact PutL.nil | apply PutL.skip | apply PutL.cons))) | (apply Bld.agg; exact rfl; exact rfl; exact rfl; (repeat (first | exact PutL.nil | apply PutL.skip | apply PutL.cons))))))))); kernel_rfl; kernel_rfl; kernel_rfl; kernel_rfl; (intro X Y; (repeat (first | exact pgg_base | refine pgg_step ?_ (by exact rfl)))); (intro w' hs; ((first | exact se_hold hs.hold | exact se_hold (hold_sim hs.hold rfl) | exact se_hold (hold_sim hs.hold.tail rfl) | exact se_hold (hR hs rfl) | exact se_hold hs.hold.tail | exact se_hold hs.hold.tail.tail | exact se_hold hs.hold.tail.tail.tail | exact se_done rfl))); intro f X w hp; have hs := hp.st
  have ho := hs.onlyF [] (by simp [h1]) (by simp [D0])
  refine xs_look (e := 29) (z := iv .zero) (h2.keep ho (by simp)) a.2.2.1 (by kernel_rfl) (by kernel_rfl) (k := ?_)
  rw [vals_get, vals_isSome]
  generalize hx : (match s.f a.1.id with | some a => a.1 | none => It.zero) = x
  repeat' (first|refine Nx.h ?_|fail)
  refine dn (k := ?_)
  refine tk 7 hX (hc := by cases f <;> kernel_rfl) (k := ?_)
  refine tk 8 hX (hc := by cases f <;> kernel_rfl) (k := ?_)
  refine tk 9 hX (hc := by cases f <;> kernel_rfl) (k := ?_)
  apply xa_pendE 10 (f := f) (X := X) hX hp; exact rfl; (first | (apply makes_alloc tabOk; exact rfl) | (apply makes_slice tabOk; exact rfl; exact rfl; exact rfl; exact rfl; exact rfl; (intro X; ((repeat (first | exact Bld.nil | (apply Bld.one; exact rfl; (conv => lhs; whnf); exact rfl; (repeat (first | exact PutL.nil | apply PutL.skip | apply PutL.cons))) | (apply Bld.agg; exact rfl; exact rfl; exact rfl; (repeat (first | exact PutL.nil | apply PutL.skip | apply PutL.cons))))))))); kernel_rfl; kernel_rfl; (intro X Y; (repeat (first | exact pgg_base | refine pgg_step ?_ (by exact rfl)))); (intro w' hs; ((first | exact se_hold hs.hold | exact se_hold (hold_sim hs.hold rfl) | exact se_hold (hold_sim hs.hold.tail rfl) | exact se_hold (hR hs rfl) | exact se_hold hs.hold.tail | exact se_hold hs.hold.tail.tail | exact se_hold hs.hold.tail.tail.tail | exact se_done rfl))); intro b w hI hs
  refine dt 11 hX (k := ?_)
  repeat' (first|(refine stA hs (k:=?_);intro w hs)|refine Nx.h ?_|fail)
  refine dn (k := ?_)
  refine tk 12 hX (k := ?_)
  refine en (k := ?_)
  replace hs := hs.forgetNew
  repeat' (first|refine vs (k:=?_)|refine qRg ?_|refine Nx.h ?_|fail)
  (with_reducible apply xs_call); exact rfl; exact rfl; exact iright_ret a.1 _
  rintro v w' ⟨rfl, ho⟩; replace hs := hs.call0 ho; repeat' (first|refine vs (k:=?_)|refine qRg ?_|refine Nx.h ?_|(refine xc_cond rfl (fun hc=>?_) (fun hc=>?_))|fail)
  · first | refine rt (hq := ?_) | refine rt' (hq := ?_)
    have ho := hs.onlyF [] (by simp [h1]) (by simp [D0])
    have e : joinE s a = 2 := by unfold joinE; rw [show (!a.1.right) = true by simpa using hc]; rfl
    refine ⟨by rw [e]; rfl, ?_⟩
    unfold joinQ; rw [e]
    exact same _ ho
  · first | refine rt (hq := ?_) | refine rt' (hq := ?_)
    have ho := hs.onlyF [] (by simp [h1]) (by simp [D0])
    have e : joinE s a = 13 := by unfold joinE; rw [show (!a.1.right) = false by assumption, hc]; rfl
    refine ⟨by rw [e]; rfl, ?_⟩
    unfold joinQ; rw [e]
    exact same _ ho
  · have r1 : (!a.1.right) = false := by assumption
    have r2 : (s.f a.1.id).isSome = false := by simpa using hc
    have ho := hs.onlyF [] (by simp [h1]) (by simp [D0])
    (with_reducible apply xs_call); exact rfl; exact rfl; exact qlen_ret qb s _ _ (hq.only ho)
    rintro v w' ⟨rfl, ho⟩; replace hs := hs.call0 ho; repeat' (first|refine vs (k:=?_)|refine qRg ?_|refine Nx.h ?_|(refine xc_if rfl (fun hc=>?_) (fun hc=>?_))|fail)
    · first | refine rt (hq := ?_) | refine rt' (hq := ?_)
      have ho := hs.onlyF [] (by simp [h1]) (by simp [D0])
      have e : joinE s a = 7 := by unfold joinE; rw [r1, r2, decide_eq_true (show s.t.list.length = 32 by omega)]; rfl
      refine ⟨by rw [e]; rfl, ?_⟩
      unfold joinQ; rw [e]
      exact same _ ho
    · have r3 : ¬ s.t.list.length = 32 := by omega
      refine dr [] hs (k := ?_); intro hX w hs
      refine tk 0 hX (k := ?_)
      refine tk 1 hX (k := ?_)
      refine tk 3 hX (k := ?_)
      refine pd0S 4 43 a.1.cells hs (k := ?_); intro f X w hp; have hs := hp.st
      apply xa_pend 2 4 (f := f) (X := X) hX hp; exact rfl; exact rfl; (first | (apply makes_alloc tabOk; exact rfl) | (apply makes_slice tabOk; exact rfl; exact rfl; exact rfl; exact rfl; exact rfl; (intro X; ((repeat (first | exact Bld.nil | (apply Bld.one; exact rfl; (conv => lhs; whnf); exact rfl; (repeat (first | exact PutL.nil | apply PutL.skip | apply PutL.cons))) | (apply Bld.agg; exact rfl; exact rfl; exact rfl; (repeat (first | exact PutL.nil | apply PutL.skip | apply PutL.cons))))))))); kernel_rfl; kernel_rfl; kernel_rfl; kernel_rfl; (intro X Y; (repeat (first | exact pgg_base | refine pgg_step ?_ (by exact rfl)))); (intro w' hs; ((first | exact se_hold hs.hold | exact se_hold (hold_sim hs.hold rfl) | exact se_hold (hold_sim hs.hold.tail rfl) | exact se_hold (hR hs rfl) | exact se_hold hs.hold.tail | exact se_hold hs.hold.tail.tail | exact se_hold hs.hold.tail.tail.tail | exact se_done rfl))); intro f X w hp; have hs := hp.st
      have ho := hs.onlyF [] (by simp [h1]) (by simp [D0])
      have hbl := lt_of_block (hs.get At.head)
      (with_reducible apply xs_call); exact rfl; exact rfl; exact qitems_ret qb s _ _ (hq.only ho) (by omega)
      rintro v1 w1 ⟨⟨G, hG, hGn⟩, ho1⟩
      have hz := ho.size
      replace hp := (⟨hp.core.only ho1, hG, fun _ _ ho h => h.keep ho (by simp)⟩ : Pend w0 D0 _ _ _ (fun w => SlV w 29 7 v1 s.t.list.length (flatT s.t.list) G) _ _ _)
      replace hs := hp.st
      have hGn' : ∀ k ∈ G, w0.heap.size ≤ k := fun k hk => by have := hGn k hk; omega
      repeat' (first|refine Nx.h ?_|fail)
      refine dn (k := ?_)
      apply xa_pendE 4 (f := f) (X := X) hX hp; exact rfl; (first | (apply makes_alloc tabOk; exact rfl) | (apply makes_slice tabOk; exact rfl; exact rfl; exact rfl; exact rfl; exact rfl; (intro X; ((repeat (first | exact Bld.nil | (apply Bld.one; exact rfl; (conv => lhs; whnf); exact rfl; (repeat (first | exact PutL.nil | apply PutL.skip | apply PutL.cons))) | (apply Bld.agg; exact rfl; exact rfl; exact rfl; (repeat (first | exact PutL.nil | apply PutL.skip | apply PutL.cons))))))))); kernel_rfl; kernel_rfl; (intro X Y; (repeat (first | exact pgg_base | refine pgg_step ?_ (by exact rfl)))); (intro w' hs; ((first | exact se_hold hs.hold | exact se_hold (hold_sim hs.hold rfl) | exact se_hold (hold_sim hs.hold.tail rfl) | exact se_hold (hR hs rfl) | exact se_hold hs.hold.tail | exact se_hold hs.hold.tail.tail | exact se_hold hs.hold.tail.tail.tail | exact se_done rfl))); intro b w hI hs
      refine dt 5 hX (k := ?_)
      have hb4 := hs.get At.head
      have ho2 := hs.onlyF [] (by simp [h1]) (by simp [D0])
      refine xs_appendW tabOk rfl rfl rfl rfl rfl rfl rfl (by decide) (lit_cells (news := a.1.cells) hb4) (by simp [Value.oneCell']) hI (by omega) (by omega) ?_
      intro v2 w2 ⟨G', hG2, hG2'⟩ ho3
      have hbG : bq ∉ G := fun hm => by have := hGn bq hm; omega
      have hqG : qb ∉ G := IB.slv_not hI (by decide) (hs.get (At.tail (At.tail At.head)))
      replace hs := hs.forgetNew.call ho3 (fun k hk hm => by
        simp only [List.map_cons, List.map_nil, List.mem_cons, List.not_mem_nil, or_false] at hm
        rcases hm with rfl | rfl
        · exact hbG hk
        · exact hqG hk) (by simp [D0])
      have hoo : Only [] w0 w2 := (hs.onlyF (G ++ []) (by simp [h1]) (by simp [D0])).mono (fun k hk hm => by
        rw [List.append_nil] at hm
        have := hGn' k hm
        omega)
      have hL : ItsAt w2 v2 (plain (s.t.list ++ [a])) := IB.its_of (G := G') (by
        rw [IB.flatT_app, List.length_append]
        exact hG2)
      repeat' (first|refine Nx.h ?_|fail)
      refine dn (k := ?_)
      refine dt 6 hX (k := ?_)
      (with_reducible apply xs_call); exact rfl; exact rfl; exact within_ret (baseQ s a) (plain (s.t.list ++ [a])) v2 (by simp [plain]; omega) _ hL
      generalize hwi : within (baseQ s a) (plain (s.t.list ++ [a])) = wi
      rintro v3 w3 ⟨rfl, ho4⟩; replace hs := hs.call0 ho4
      have hoo3 := hoo.trans ho4
      repeat' (first|refine Nx.h ?_|fail)
      refine dn (k := ?_)
      refine tk 7 hX (k := ?_)
      refine tk 8 hX (k := ?_)
      refine en (k := ?_)
      cases wi
      · repeat' (first|refine vs (k:=?_)|refine qRg ?_|refine Nx.h ?_|refine qCt ?_|fail)
        first | refine rt (hq := ?_) | refine rt' (hq := ?_)
        have e : joinE s a = 8 := by unfold joinE; rw [r1, r2, decide_eq_false r3, hwi]; rfl
        refine ⟨by rw [e]; rfl, ?_⟩
        unfold joinQ; rw [e]
        exact same _ hoo3
      · have e : joinE s a = 0 := by unfold joinE; rw [r1, r2, decide_eq_false r3, hwi]; rfl
        repeat' (first|refine vs (k:=?_)|refine qRg ?_|refine Nx.h ?_|refine qCf ?_|fail)
        (with_reducible apply xs_call); exact rfl; exact rfl; exact qput_ret qb s _ a _ (hq.only hoo3) hlen hn
        rintro v w5 ⟨F', hA, hF', ho5⟩
        have hz5 := hoo3.size
        clear hs
        have hs := St.nil w5
        repeat' (first|refine vs (k:=?_)|refine qRg ?_|refine Nx.h ?_|fail)
        first | refine rt (hq := ?_) | refine rt' (hq := ?_)
        refine ⟨by rw [e]; rfl, ?_⟩
        unfold joinQ; rw [e]
        exact ⟨F', hA.only (hs.only0 rfl), fun k hk => by rcases hF' k hk with h | h; exact .inl h; exact .inr (by omega), ((hoo3.weaken (by simp)).step ho5 (fun k hk => .inl hk)).step (hs.only0 rfl) (by simp)⟩
end Go.Proofs.YtilajmcellffiaaGreatDoorX

namespace Go.Proofs.YtilajmcellffiaaGreatDoorX
open IB (IT)
structure QI (s : Qs) : Prop where
  good : RB.Good s.t
  srt : RB.Srt IB.ltT s.t.list
  f : ∀ i a, s.f i = some a ↔ a ∈ s.t.list ∧ a.1.id = i
  n : s.n = s.t.list.length
  len : s.t.list.length ≤ 32
  cen : s.t.list ≠ [] → Cen s.m (plain s.t.list)
  nil : s.t.list = [] → s.m.a = 0 ∧ s.m.w = 0 ∧ s.m.n = 0
theorem QI.inj {s : Qs} (h : QI s) : ∀ x ∈ s.t.list, ∀ y ∈ s.t.list, x.1.id = y.1.id → x = y := fun x hx y hy e => by
  have h1 := (h.f _ x).2 ⟨hx, rfl⟩
  have h2 := (h.f _ y).2 ⟨hy, e.symm⟩
  rw [h1] at h2; exact Option.some.inj h2
theorem plain_ne {l : List IT} (h : l ≠ []) : plain l ≠ [] := fun e => h (List.map_eq_nil_iff.1 e)
theorem plain_perm {l l' : List IT} (h : l.Perm l') : (plain l).Perm (plain l') := h.map _
theorem plain_win {l : List IT} {b lo : Int} (h : AllW b lo (plain l)) : ∀ x ∈ l, Win b lo x.1 := fun x hx => h.2.2 _ (List.mem_map_of_mem hx)
theorem QI.win {s : Qs} (h : QI s) : ∃ lo, AllW s.m.b lo (plain s.t.list) := by
  by_cases e : s.t.list = []
  · rw [e]; exact ⟨0, by unfold Mid; omega, by simp [plain], by simp [plain]⟩
  · exact (h.cen e).all
theorem QI.ord {s : Qs} (h : QI s) : OrdOn IB.ltT (· ∈ s.t.list) := by
  obtain ⟨lo, k⟩ := h.win
  exact ordT (plain_win k) k.1 h.inj
theorem nowQ_ne {s : Qs} (h : s.t.list ≠ []) : nowQ s = (flM s.m).getD 0 := by
  unfold nowQ
  rw [decide_eq_false (fun e => h (List.eq_nil_of_length_eq_zero e)), cond_false]
theorem nowQ_nil {s : Qs} (h : s.t.list = []) : nowQ s = s.c := by
  unfold nowQ
  rw [h]; rfl
theorem QI.now {s : Qs} (h : QI s) (e : s.t.list ≠ []) : nowQ s = s.m.b := by
  rw [nowQ_ne e, (h.cen e).now (plain_ne e)]; rfl
theorem preM_nil {s : Qs} {a : IT} (h : s.t.list = []) : preM s a = ⟨a.1.p.t, 0, 0, 0⟩ := by unfold preM; rw [h]; rfl
theorem preM_ne {s : Qs} {a : IT} (h : s.t.list ≠ []) : preM s a = s.m := by
  unfold preM
  rw [decide_eq_false (fun e => h (List.eq_nil_of_length_eq_zero e)), cond_false]
theorem QI.pre {s : Qs} (h : QI s) (a : IT) : IsM (preM s a) (plain s.t.list) := by
  by_cases e : s.t.list = []
  · rw [preM_nil e, e]; exact ⟨rfl, rfl, rfl⟩
  · rw [preM_ne e]; exact (h.cen e).is
theorem updI_spec {f : Int → Option IT} {L L' : List IT} {a : IT} (h : ∀ i x, f i = some x ↔ x ∈ L ∧ x.1.id = i) (hn : f a.1.id = none) (hp : L'.Perm (a :: L)) : ∀ i x, updI f a.1.id (some a) i = some x ↔ x ∈ L' ∧ x.1.id = i := fun i x => by
  unfold updI
  rw [hp.mem_iff, List.mem_cons]
  by_cases e : i = a.1.id
  · rw [decide_eq_true e, cond_true]
    constructor
    · rintro ⟨⟩; exact ⟨.inl rfl, e.symm⟩
    · rintro ⟨rfl | hx, hi⟩
      · rfl
      · rw [(h a.1.id x).2 ⟨hx, by omega⟩] at hn; cases hn
  · rw [decide_eq_false e, cond_false, h i x]
    constructor
    · exact fun ⟨h1, h2⟩ => ⟨.inr h1, h2⟩
    · rintro ⟨rfl | hx, hi⟩
      · exact absurd hi.symm e
      · exact ⟨hx, hi⟩
theorem QI.put {s : Qs} (h : QI s) {a : IT} {lo : Int} (hn : s.f a.1.id = none) (hw : AllW (preM s a).b lo (a.1 :: plain s.t.list)) : QI (putQ s a) ∧ (putQ s a).t.list.Perm (a :: s.t.list) ∧ (putQ s a).c = s.c := by
  have hna : a ∉ s.t.list := fun hm => by rw [(h.f _ a).2 ⟨hm, rfl⟩] at hn; cases hn
  have hid : ∀ x ∈ s.t.list, x.1.id ≠ a.1.id := fun x hx e => by rw [(h.f _ x).2 ⟨hx, e⟩] at hn; cases hn
  have ho : OrdOn IB.ltT (· ∈ a :: s.t.list) := ordT (b := (preM s a).b) (lo := lo) (fun x hx => by
      rcases List.mem_cons.1 hx with rfl | hx
      · exact hw.head
      · exact plain_win hw.tail x hx) hw.1 (fun x hx y hy e => by
      rcases List.mem_cons.1 hx with h1 | h1 <;> rcases List.mem_cons.1 hy with h2 | h2
      · rw [h1, h2]
      · rw [h1] at e; exact absurd e.symm (hid y h2)
      · rw [h2] at e; exact absurd e (hid x h1)
      · exact h.inj x h1 y h2 e)
  have hhas : RB.has IB.ltT a s.t = false := by
    have := RB.has_iff ho (x := a) List.mem_cons_self s.t h.srt (fun z hz => List.mem_cons_of_mem _ hz)
    cases e : RB.has IB.ltT a s.t
    · rfl
    · exact absurd (this.1 e) hna
  have ht : (putQ1 s a).t = RB.blacken (RB.ins IB.ltT s.t a) := by show IB.RB.insert s.t a = _; unfold IB.RB.insert; rw [hhas]; rfl
  have hl : (putQ1 s a).t.list = RB.insL IB.ltT a s.t.list := by rw [ht, RB.list_blacken, RB.list_ins ho List.mem_cons_self s.t h.srt (fun z hz => List.mem_cons_of_mem _ hz)]
  have hp : (putQ1 s a).t.list.Perm (a :: s.t.list) := by rw [hl]; exact RB.insL_perm _ _
  obtain ⟨m', e1, e2, e3⟩ := add_is hw (h.pre a)
  have em : (putQ1 s a).m = m' := by show (addM _ _).getD .zero = _; rw [e1]; rfl
  have hne : (putQ1 s a).t.list ≠ [] := fun e => by rw [e] at hp; exact absurd hp.length_eq (by simp)
  obtain ⟨m2, e4, e5⟩ := centre_is (m := m') (lo := lo) (l := a.1 :: plain s.t.list) (by rw [e2]; exact hw) e3 (by simp)
  have ec : putQ s a = { putQ1 s a with m := m2 } := by
    unfold putQ centreQ
    rw [nowQ_ne hne, em, e4]; rfl
  have hl32 := hw.2.1
  simp only [plain, List.length_cons, List.length_map] at hl32
  refine ⟨?_, by rw [ec]; exact hp, by rw [ec]; rfl⟩
  rw [ec]
  exact {
    good := by show RB.Good (putQ1 s a).t; rw [ht]; exact RB.Good.ins h.good
    srt := by show RB.Srt _ (putQ1 s a).t.list; rw [hl]; exact RB.insL_srt ho List.mem_cons_self (fun z hz => List.mem_cons_of_mem _ hz) h.srt hna
    f := updI_spec h.f hn hp
    n := by
      show (if (s.f a.1.id).isSome then s.n else s.n + 1) = (putQ1 s a).t.list.length
      rw [hn, hp.length_eq, h.n]; rfl
    len := by show (putQ1 s a).t.list.length ≤ 32; rw [hp.length_eq]; exact hl32
    cen := fun _ => e5.perm (plain_perm hp.symm)
    nil := fun e => absurd e hne }
theorem QI.cut {s : Qs} (h : QI s) {a : IT} (ha : a ∈ s.t.list) : QI (cutQ s a) ∧ (cutQ s a).t.list = RB.sans a s.t.list ∧ s.t.list.Perm (a :: RB.sans a s.t.list) ∧ (cutQ s a).c = nowQ s ∧ CutOk a s.t := by
  have hne : s.t.list ≠ [] := fun e => by rw [e] at ha; cases ha
  obtain ⟨t1, d1, d2, d3⟩ := delC_ok h.ord h.good h.srt (fun z hz => hz) ha
  have hhas : RB.has IB.ltT a s.t = true := (RB.has_iff h.ord (x := a) ha s.t h.srt (fun z hz => hz)).2 ha
  have hnd := RB.srt_nodup h.ord (fun z hz => hz) h.srt
  have hp := RB.sans_perm hnd ha
  have ht : (cutQ1 s a).t = RB.blacken t1 := by show cutT a s.t = _; unfold cutT; rw [hhas, d1]; rfl
  have hl : (cutQ1 s a).t.list = RB.sans a s.t.list := by rw [ht, RB.list_blacken, d3]
  have hC := h.cen hne
  obtain ⟨lo, hw⟩ := hC.all
  have hw2 : AllW s.m.b lo (a.1 :: plain (RB.sans a s.t.list)) := hw.perm (plain_perm hp)
  have hm2 : IsM s.m (a.1 :: plain (RB.sans a s.t.list)) := hC.is.perm (plain_perm hp)
  obtain ⟨e1, e2⟩ := take_is hw2 hm2
  have em : (cutQ1 s a).m = lessM s.m a.1.p := by show (takM _ _).getD .zero = _; rw [e1]; rfl
  have hok : CutOk a s.t := fun _ => ⟨by rw [d1]; rfl, by rw [d1]; show t1.list.length + 1 = _; rw [d3, hp.length_eq]; rfl⟩
  have hmem : ∀ x, x ∈ RB.sans a s.t.list ↔ x ∈ s.t.list ∧ x ≠ a := fun x => by unfold RB.sans; rw [List.mem_filter]; simp
  have hsrt : RB.Srt IB.ltT (RB.sans a s.t.list) := List.Pairwise.filter _ h.srt
  have hlen := hp.length_eq
  simp only [List.length_cons] at hlen
  have hfa : s.f a.1.id = some a := (h.f _ a).2 ⟨ha, rfl⟩
  have hf : ∀ i x, updI s.f a.1.id none i = some x ↔ x ∈ RB.sans a s.t.list ∧ x.1.id = i := fun i x => by
    unfold updI
    rw [hmem]
    by_cases e : i = a.1.id
    · rw [decide_eq_true e, cond_true]
      constructor
      · rintro ⟨⟩
      · rintro ⟨⟨k1, k2⟩, k3⟩; exact absurd (h.inj x k1 a ha (by omega)) k2
    · rw [decide_eq_false e, cond_false, h.f i x]
      constructor
      · exact fun ⟨h1, h2⟩ => ⟨⟨h1, fun e' => e (by rw [← h2, e'])⟩, h2⟩
      · exact fun ⟨h1, h2⟩ => ⟨h1.1, h2⟩
  have hn : (if (s.f a.1.id).isSome then s.n - 1 else s.n) = (RB.sans a s.t.list).length := by rw [hfa, h.n]; simp only [Option.isSome_some, if_true]; omega
  have hg : RB.Good (cutQ1 s a).t := by rw [ht]; obtain ⟨k, d2⟩ := d2; exact ⟨RB.blacken_red _, d2.blacken⟩
  by_cases hz : RB.sans a s.t.list = []
  · have e3 : rebM (lessM s.m a.1.p) (nowQ s) = some ⟨nowQ s, 0, 0, 0⟩ := by
      have i1 := e2.a; have i2 := e2.w; have i3 := e2.n
      rw [hz] at i1 i2 i3
      simp only [plain, List.map_nil, sumD, sumW, List.length_nil] at i1 i2 i3
      unfold rebM
      rw [i1, i2, i3]
      simp only [Int.zero_mul, Int.sub_zero]
      exact if_pos ⟨by rw [mright_iff]; left; exact ⟨i3, i2, i1⟩, inW0⟩
    have ec : cutQ s a = { cutQ1 s a with m := ⟨nowQ s, 0, 0, 0⟩ } := by
      unfold cutQ centreQ
      rw [nowQ_nil (hl.trans hz), em, show (cutQ1 s a).c = nowQ s from rfl, e3]; rfl
    refine ⟨?_, by rw [ec]; exact hl, hp, by rw [ec]; rfl, hok⟩
    rw [ec]
    exact { good := hg, srt := by show RB.Srt _ (cutQ1 s a).t.list; rw [hl]; exact hsrt, f := by show ∀ i x, updI s.f a.1.id none i = some x ↔ x ∈ (cutQ1 s a).t.list ∧ _; rw [hl]; exact hf, n := by show (if _ then _ else _) = (cutQ1 s a).t.list.length; rw [hl]; exact hn, len := by show (cutQ1 s a).t.list.length ≤ 32; rw [hl, hz]; simp, cen := fun k => absurd (hl.trans hz) k, nil := fun _ => ⟨rfl, rfl, rfl⟩ }
  · obtain ⟨m2, e4, e5⟩ := centre_is (m := lessM s.m a.1.p) (lo := lo) (l := plain (RB.sans a s.t.list)) hw2.tail e2 (plain_ne hz)
    have ec : cutQ s a = { cutQ1 s a with m := m2 } := by
      unfold cutQ centreQ
      rw [nowQ_ne (by rw [hl]; exact hz), em, e4]; rfl
    refine ⟨?_, by rw [ec]; exact hl, hp, by rw [ec]; rfl, hok⟩
    rw [ec]
    exact { good := hg, srt := by show RB.Srt _ (cutQ1 s a).t.list; rw [hl]; exact hsrt, f := by show ∀ i x, updI s.f a.1.id none i = some x ↔ x ∈ (cutQ1 s a).t.list ∧ _; rw [hl]; exact hf, n := by show (if _ then _ else _) = (cutQ1 s a).t.list.length; rw [hl]; exact hn, len := by show (cutQ1 s a).t.list.length ≤ 32; rw [hl]; have := h.len; omega, cen := fun _ => by show Cen m2 (plain (cutQ1 s a).t.list); rw [hl]; exact e5, nil := fun k => absurd (hl.symm.trans k) hz }
theorem QI.new (c : Int) : QI (newQ c) where
  good := RB.Good.nil
  srt := List.Pairwise.nil
  f i a := by constructor; rintro ⟨⟩; rintro ⟨h, _⟩; cases h
  n := rfl
  len := by simp [newQ, RB.list]
  cen h := absurd rfl h
  nil _ := ⟨rfl, rfl, rfl⟩
end Go.Proofs.YtilajmcellffiaaGreatDoorX

namespace Go.Proofs.YtilajmcellffiaaGreatDoorX
open Go Go.RowKit
attribute [local irreducible] XS XC XA thenE blockE retE loopE loopS cutB cutN doneE SE
structure Rq where
  i : It
  left : Int
  slice : Int
  asleep : Bool
deriving DecidableEq
abbrev Rq.cells (r : Rq) : List Value := [.int .u64 r.i.p.t, .int .u32 r.i.p.r, .int .u32 r.i.p.w, .int .i64 r.i.id, .int .u64 r.i.d.t, .int .u32 r.i.d.r, .int .u32 r.i.d.w, .int .u64 r.left, .int .u64 r.slice, .bool r.asleep]
def rv (r : Rq) : Value := .agg #[.int .u64 r.i.p.t, .int .u32 r.i.p.r, .int .u32 r.i.p.w, .int .i64 r.i.id, .int .u64 r.i.d.t, .int .u32 r.i.d.r, .int .u32 r.i.d.w, .int .u64 r.left, .int .u64 r.slice, .bool r.asleep]
def Rq.In (r : Rq) : Prop := r.i.In ∧ U64 r.left ∧ U64 r.slice
instance decRqIn (r : Rq) : Decidable r.In := by unfold Rq.In; infer_instance
def Rq.zero : Rq := ⟨.zero, 0, 0, false⟩
def mayN (n : Int) : Bool := decide (1 ≤ n) && decide (n ≤ 1099511627776)
theorem mayN_iff {n : Int} : mayN n = true ↔ 1 ≤ n ∧ n ≤ 1099511627776 := by unfold mayN; simp
theorem may_ret (n : Int) (w0 : World) : Ret Tryz.prog 128 #[.int .u64 n] w0 fun v w' => v = .bool (mayN n) ∧ Only [] w0 w' := by
  have hs := St.nil w0
  refine ret_of_xc Tryz.func128 (by kernel_rfl) rfl Tryz.ntmps128 rfl rfl rfl ?_
  repeat' (first|refine vs (k:=?_)|refine ps (k:=?_)|refine qRg ?_|refine Nx.h ?_|((with_reducible apply xs_guard);exact rfl;exact rfl;intro c hc;(fail_if_success have:true=c:=hc);(fail_if_success have:false=c:=hc);cases c)|fail)
  all_goals (first | refine rt (hq := ?_) | refine rt' (hq := ?_))
  all_goals refine ⟨?_, hs.only0 rfl⟩
  all_goals clear hs
  · have h1 : decide (1 ≤ n) = false := hc
    unfold mayN; rw [h1]; rfl
  · have h1 : decide (1 ≤ n) = true := hc
    unfold mayN; rw [h1]; rfl
def dueP (p : Pt) (n : Int) : Pt := (movP p (n * 1048576)).getD .zero
theorem ptD_in {o : Option Pt} (h : ∀ p, o = some p → p.In) : (o.getD .zero).In := by
  cases o with
  | none => decide
  | some p => exact h p rfl
theorem dueP_in (p : Pt) (n : Int) : (dueP p n).In := ptD_in fun q h => (at_some h).1
theorem rdue_ret (p : Pt) (n : Int) (hp' : p.In) (h0 : 0 ≤ n) (h1 : n ≤ 1099511627776) (w0 : World) : Ret Tryz.prog 129 #[pv p, .int .u64 n] w0 fun v w' => v = pv (dueP p n) ∧ Only [] w0 w' := by
  have e : IntKind.u64.wrap (n * 1048576) = n * 1048576 := by rw [wrap_u64]; omega
  have hs := St.nil w0
  refine ret_of_xc Tryz.func129 (by kernel_rfl) rfl Tryz.ntmps129 rfl rfl rfl ?_
  repeat' (first|refine vs (k:=?_)|(refine al hs (k:=?_);intro b w hz hs)|(refine bx hs (k:=?_);intro b w hz hs)|refine qRg ?_|refine Nx.h ?_|fail)
  (with_reducible apply xs_call); exact rfl; exact rfl; exact move_ret p (IntKind.u64.wrap (n * 1048576)) hp' (by rw [e]; exact ⟨by omega, by omega⟩) _
  rw [e]
  rintro v w' ⟨rfl, ho⟩; replace hs := hs.call0 ho; repeat' (first|refine vs (k:=?_)|(refine stA hs (k:=?_);intro w hs)|(refine al hs (k:=?_);intro b w hz hs)|refine qRg ?_|refine Nx.h ?_|fail)
  first | refine rt (hq := ?_) | refine rt' (hq := ?_)
  exact ⟨rfl, hs.only0 rfl⟩
def Rq.right (r : Rq) : Bool := r.i.right && mayN r.left && mayN r.slice && decide (dueP r.i.p r.left = r.i.d)
theorem eqPt (p q : Pt) : (cellEq (.int .u64 p.t) (.int .u64 q.t) && (cellEq (.int .u32 p.r) (.int .u32 q.r) && cellEq (.int .u32 p.w) (.int .u32 q.w))) = decide (p = q) := by
  show ((p.t == q.t) && ((p.r == q.r) && (p.w == q.w))) = _
  obtain ⟨a, b, c⟩ := p
  obtain ⟨a', b', c'⟩ := q
  simp only [Pt.mk.injEq]
  by_cases h1 : a = a' <;> by_cases h2 : b = b' <;> by_cases h3 : c = c' <;> simp [h1, h2, h3]
set_option maxHeartbeats 4000000 in
theorem rright_ret (r : Rq) (hr : r.In) (w0 : World) : Ret Tryz.prog 102 #[rv r] w0 fun v w' => v = .bool r.right ∧ Only [] w0 w' := by
  have hs := St.nil w0
  refine ret_of_xc Tryz.func102 (by kernel_rfl) rfl Tryz.ntmps102 rfl rfl rfl ?_
  repeat' (first|refine vs (k:=?_)|(refine bx hs (k:=?_);intro b w hz hs)|refine qRg ?_|refine Nx.h ?_|fail)
  refine dr [] hs (k := ?_); intro hX w hs
  refine tk 0 hX (k := ?_)
  refine tk 1 hX (k := ?_)
  refine dt 2 hX (k := ?_)
  (with_reducible apply xs_call); exact rfl; exact rfl; exact iright_ret r.i _
  rintro v w' ⟨rfl, ho⟩; replace hs := hs.call0 ho; repeat' (first|refine Nx.h ?_|fail)
  refine dn (k := ?_)
  refine tk 3 hX (k := ?_)
  refine xa_late 6 rfl ?_; intro c q1; cases c
  · refine pt 4 hX (k := ?_)
    refine pt 5 hX (k := ?_)
    refine pt 6 hX (k := ?_)
    refine tk 7 hX (k := ?_)
    refine tk 8 hX (k := ?_)
    refine pt 9 hX (k := ?_)
    refine pt 10 hX (k := ?_)
    refine pt 11 hX (k := ?_)
    refine tk 12 hX (k := ?_)
    refine tk 13 hX (k := ?_)
    refine pt 14 hX (k := ?_)
    refine pt 15 hX (k := ?_)
    refine pt 16 hX (k := ?_)
    refine pt 17 hX (k := ?_)
    refine pt 18 hX (k := ?_)
    refine pt 19 hX (k := ?_)
    refine pt 20 hX (k := ?_)
    refine pt 21 hX (k := ?_)
    refine pt 22 hX (k := ?_)
    refine pt 23 hX (k := ?_)
    refine tk 24 hX (k := ?_)
    refine tk 25 hX (k := ?_)
    refine en (k := ?_)
    repeat' (first|refine Nx.h ?_|fail)
    first | refine rt (hq := ?_) | refine rt' (hq := ?_)
    refine ⟨?_, hs.only0 rfl⟩
    unfold Rq.right; rw [q1]; rfl
  · refine tk 4 hX (k := ?_)
    refine tk 5 hX (k := ?_)
    refine dt 6 hX (k := ?_)
    (with_reducible apply xs_call); exact rfl; exact rfl; exact may_ret r.left _
    rintro v w' ⟨rfl, ho⟩; replace hs := hs.call0 ho; repeat' (first|refine Nx.h ?_|fail)
    refine dn (k := ?_)
    refine tk 7 hX (k := ?_)
    refine tk 8 hX (k := ?_)
    refine xa_late 11 rfl ?_; intro c q2; cases c
    · refine pt 9 hX (k := ?_)
      refine pt 10 hX (k := ?_)
      refine pt 11 hX (k := ?_)
      refine tk 12 hX (k := ?_)
      refine tk 13 hX (k := ?_)
      refine pt 14 hX (k := ?_)
      refine pt 15 hX (k := ?_)
      refine pt 16 hX (k := ?_)
      refine pt 17 hX (k := ?_)
      refine pt 18 hX (k := ?_)
      refine pt 19 hX (k := ?_)
      refine pt 20 hX (k := ?_)
      refine pt 21 hX (k := ?_)
      refine pt 22 hX (k := ?_)
      refine pt 23 hX (k := ?_)
      refine tk 24 hX (k := ?_)
      refine tk 25 hX (k := ?_)
      refine en (k := ?_)
      repeat' (first|refine Nx.h ?_|fail)
      first | refine rt (hq := ?_) | refine rt' (hq := ?_)
      refine ⟨?_, hs.only0 rfl⟩
      unfold Rq.right; rw [q1, q2]; rfl
    · refine tk 9 hX (k := ?_)
      refine tk 10 hX (k := ?_)
      refine dt 11 hX (k := ?_)
      (with_reducible apply xs_call); exact rfl; exact rfl; exact may_ret r.slice _
      rintro v w' ⟨rfl, ho⟩; replace hs := hs.call0 ho; repeat' (first|refine Nx.h ?_|fail)
      refine dn (k := ?_)
      refine tk 12 hX (k := ?_)
      refine tk 13 hX (k := ?_)
      refine xa_late 16 rfl ?_; intro c q3; cases c
      · refine pt 14 hX (k := ?_)
        refine pt 15 hX (k := ?_)
        refine pt 16 hX (k := ?_)
        refine pt 17 hX (k := ?_)
        refine pt 18 hX (k := ?_)
        refine pt 19 hX (k := ?_)
        refine pt 20 hX (k := ?_)
        refine pt 21 hX (k := ?_)
        refine pt 22 hX (k := ?_)
        refine pt 23 hX (k := ?_)
        refine tk 24 hX (k := ?_)
        refine tk 25 hX (k := ?_)
        refine en (k := ?_)
        repeat' (first|refine Nx.h ?_|fail)
        first | refine rt (hq := ?_) | refine rt' (hq := ?_)
        refine ⟨?_, hs.only0 rfl⟩
        unfold Rq.right; rw [q1, q2, q3]; rfl
      · have h2 := mayN_iff.1 q2
        refine tk 14 hX (k := ?_)
        refine tk 15 hX (k := ?_)
        refine tk 16 hX (k := ?_)
        refine tk 17 hX (k := ?_)
        refine tk 18 hX (k := ?_)
        refine tk 20 hX (k := ?_)
        refine tk 21 hX (k := ?_)
        refine tk 22 hX (k := ?_)
        refine dt 19 hX (k := ?_)
        (with_reducible apply xs_call); exact rfl; exact rfl; exact rdue_ret r.i.p r.left hr.1.1 (by omega) h2.2 _
        rintro v w' ⟨rfl, ho⟩; replace hs := hs.call0 ho; repeat' (first|refine Nx.h ?_|fail)
        refine dn (k := ?_)
        refine tk 23 hX (k := ?_)
        refine tk 24 hX (k := ?_)
        refine tk 25 hX (k := ?_)
        refine en (k := ?_)
        repeat' (first|refine Nx.h ?_|fail)
        first | refine rt (hq := ?_) | refine rt' (hq := ?_)
        refine ⟨?_, hs.only0 rfl⟩
        unfold Rq.right; rw [q1, q2, q3]
        show Value.bool _ = Value.bool _
        rw [eqPt]; rfl
def fixR (r : Rq) : Rq := bif mayN r.left then ⟨⟨r.i.p, r.i.id, dueP r.i.p r.left⟩, r.left, r.slice, r.asleep⟩ else r
def setR (r : Rq) : Option Rq := bif (fixR r).right then some (fixR r) else none
theorem fixR_in {r : Rq} (h : r.In) : (fixR r).In := by
  unfold fixR
  cases mayN r.left
  · exact h
  · exact ⟨⟨h.1.1, h.1.2.1, dueP_in _ _⟩, h.2⟩
def rqV (o : Option Rq) : Value := .tuple #[rv (o.getD .zero), .bool o.isSome]
set_option maxHeartbeats 4000000 in
theorem rset_ret (r : Rq) (hr : r.In) (w0 : World) : Ret Tryz.prog 98 #[rv r] w0 fun v w' => v = rqV (setR r) ∧ Only [] w0 w' := by
  have hs := St.nil w0
  refine ret_of_xc Tryz.func98 (by kernel_rfl) rfl Tryz.ntmps98 rfl rfl rfl ?_
  refine xc_seq ?_
  refine xc_region ?_ ?_; exact rfl
  refine bx hs (k := ?_); intro b1 w hz hs
  refine al hs (k := ?_); intro b2 w hz hs
  refine vs (k := ?_)
  refine XS.nil ?_
  refine then_of ?_
  refine xc_seq ?_
  refine xc_cutN (fun _ : Unit => [(1, .pointer (some ⟨b1, 0, none⟩)), (2, .pointer (some ⟨b2, 0, none⟩))]) (fun _ w => St w0 D0 [(b2, .cells Rq.zero.cells.toArray 31, true), (b1, .cells (fixR r).cells.toArray 31, true)] w) ?_ ?_
  · repeat' (first|refine vs (k:=?_)|refine qRg ?_|refine Nx.h ?_|fail)
    (with_reducible apply xs_call); exact rfl; exact rfl; exact may_ret r.left _
    generalize hq : mayN r.left = q
    cases q
    · have e : fixR r = r := by unfold fixR; rw [hq]; rfl
      rw [e]
      rintro v w' ⟨rfl, ho⟩; replace hs := hs.call0 ho; repeat' (first|refine Nx.h ?_|refine qCf ?_|fail)
      exact cutN_normal () (by (repeat (first | exact agree_nil | (apply agree_cons; exact rfl)))) hs
    · have e : fixR r = ⟨⟨r.i.p, r.i.id, dueP r.i.p r.left⟩, r.left, r.slice, r.asleep⟩ := by unfold fixR; rw [hq]; rfl
      have h2 := mayN_iff.1 hq
      rw [e]
      rintro v w' ⟨rfl, ho⟩; replace hs := hs.call0 ho; repeat' (first|refine vs (k:=?_)|refine qRg ?_|refine Nx.h ?_|refine qCt ?_|fail)
      (with_reducible apply xs_call); exact rfl; exact rfl; exact rdue_ret r.i.p r.left hr.1.1 (by omega) h2.2 _
      rintro v w' ⟨rfl, ho⟩; replace hs := hs.call0 ho; repeat' (first|refine vs (k:=?_)|(refine stA hs (k:=?_);intro w hs)|refine Nx.h ?_|fail)
      exact cutN_normal () (by (repeat (first | exact agree_nil | (apply agree_cons; exact rfl)))) hs
  clear hs
  rintro _ env w hs
  have hf := fixR_in hr
  unfold setR
  generalize fixR r = u at *
  repeat' (first|refine vs (k:=?_)|refine qRg ?_|refine Nx.h ?_|fail)
  (with_reducible apply xs_call); exact rfl; exact rfl; exact rright_ret u hf _
  generalize hq : u.right = q
  cases q
  · rintro v w' ⟨rfl, ho⟩; replace hs := hs.call0 ho; repeat' (first|refine vs (k:=?_)|(refine stA hs (k:=?_);intro w hs)|refine qRg ?_|refine Nx.h ?_|refine qCt ?_|fail)
    first | refine rt (hq := ?_) | refine rt' (hq := ?_)
    exact ⟨rfl, hs.only0 rfl⟩
  · rintro v w' ⟨rfl, ho⟩; replace hs := hs.call0 ho; repeat' (first|refine vs (k:=?_)|(refine stA hs (k:=?_);intro w hs)|refine qRg ?_|refine Nx.h ?_|refine qCf ?_|fail)
    first | refine rt (hq := ?_) | refine rt' (hq := ?_)
    exact ⟨rfl, hs.only0 rfl⟩
def newR (p : Pt) (id n : Int) : Option Rq := setR ⟨⟨p, id, .zero⟩, n, n, false⟩
theorem rnew_ret (p : Pt) (id n : Int) (hp' : p.In) (hi : In64 id) (hn : U64 n) (w0 : World) : Ret Tryz.prog 58 #[pv p, .int .i64 id, .int .u64 n] w0 fun v w' => v = rqV (newR p id n) ∧ Only [] w0 w' := by
  have hs := St.nil w0
  refine ret_of_xc Tryz.func58 (by kernel_rfl) rfl Tryz.ntmps58 rfl rfl rfl ?_
  repeat' (first|refine vs (k:=?_)|(refine al hs (k:=?_);intro b w hz hs)|(refine bx hs (k:=?_);intro b w hz hs)|refine qRg ?_|refine Nx.h ?_|fail)
  (with_reducible apply xs_call); exact rfl; exact rfl; exact rset_ret ⟨⟨p, id, .zero⟩, n, n, false⟩ ⟨⟨hp', hi, (by decide : Pt.zero.In)⟩, hn, hn⟩ _
  rintro v w' ⟨rfl, ho⟩; replace hs := hs.call0 ho; repeat' (first|refine vs (k:=?_)|(refine stA hs (k:=?_);intro w hs)|refine Nx.h ?_|fail)
  first | refine rt (hq := ?_) | refine rt' (hq := ?_)
  exact ⟨rfl, hs.only0 rfl⟩
end Go.Proofs.YtilajmcellffiaaGreatDoorX

namespace Go.Proofs.YtilajmcellffiaaGreatDoorX
open Go Go.RowKit
attribute [local irreducible] XS XC XA thenE blockE retE loopE loopS cutB cutN doneE SE
theorem setR_in {r u : Rq} (h : r.In) (e : setR r = some u) : u.In ∧ u.right = true := by
  unfold setR at e
  cases hq : (fixR r).right
  · rw [hq] at e; cases e
  · rw [hq, cond_true] at e
    cases e
    exact ⟨fixR_in h, hq⟩
def lessR (r : Rq) (p : Pt) (n : Int) : Rq := ⟨⟨p, r.i.id, r.i.d⟩, bif decide (r.left - n = 0) then r.slice else r.left - n, r.slice, r.asleep⟩
def serveR (r : Rq) (n : Int) : Option (Rq × Bool) :=
  if r.right = true ∧ n ≠ 0 ∧ n ≤ r.left then (match movP r.i.p (n * 1048576) with | none => none | some p => (setR (lessR r p n)).map fun u => (u, decide (r.left - n = 0))) else none
def svV (o : Option (Rq × Bool)) : Value := match o with
  | none => .tuple #[rv .zero, .bool false, .bool false]
  | some (u, b) => .tuple #[rv u, .bool b, .bool true]
theorem right_left {r : Rq} (h : r.right = true) : 1 ≤ r.left ∧ r.left ≤ 1099511627776 ∧ 1 ≤ r.slice ∧ r.slice ≤ 1099511627776 := by
  unfold Rq.right at h
  simp only [Bool.and_eq_true] at h
  have h1 := mayN_iff.1 h.1.1.2
  have h2 := mayN_iff.1 h.1.2
  omega
theorem lessR_in {r : Rq} {p : Pt} {n : Int} (hr : r.In) (hp : p.In) (h0 : 0 ≤ n) (h1 : n ≤ r.left) : (lessR r p n).In := by
  refine ⟨⟨hp, hr.1.2⟩, ?_, hr.2.2⟩
  show U64 (bif decide (r.left - n = 0) then r.slice else r.left - n)
  cases decide (r.left - n = 0)
  · have := hr.2.1; unfold U64 at *; simp only [cond_false]; omega
  · exact hr.2.2
set_option maxHeartbeats 4000000 in
theorem rserve_ret (r : Rq) (n : Int) (hr : r.In) (hn : U64 n) (w0 : World) : Ret Tryz.prog 171 #[rv r, .int .u64 n] w0 fun v w' => v = svV (serveR r n) ∧ Only [] w0 w' := by
  have hs := St.nil w0
  refine ret_of_xc Tryz.func171 (by kernel_rfl) rfl Tryz.ntmps171 rfl rfl rfl ?_
  refine xc_seq ?_
  refine xc_region ?_ ?_; exact rfl
  refine bx hs (k := ?_); intro b2 w hz hs
  refine al hs (k := ?_); intro b4 w hz hs
  repeat' (first|refine vs (k:=?_)|refine qRg ?_|refine Nx.h ?_|fail)
  (with_reducible apply xs_call); exact rfl; exact rfl; exact rright_ret r hr _
  rintro v w' ⟨rfl, ho⟩; replace hs := hs.call0 ho; repeat' (first|refine vs (k:=?_)|refine ps (k:=?_)|(refine stA hs (k:=?_);intro w hs)|refine qRg ?_|refine Nx.h ?_|refine qCt ?_|((with_reducible apply xs_guard);exact rfl;exact rfl;intro c hc;(fail_if_success have:true=c:=hc);(fail_if_success have:false=c:=hc);cases c)|(refine xc_if rfl (fun hc=>?_) (fun hc=>?_))|fail)
  · first | refine rt (hq := ?_) | refine rt' (hq := ?_)
    refine ⟨?_, hs.only0 rfl⟩
    have : serveR r n = none := by unfold serveR; rw [if_neg (fun h => by omega)]
    rw [this]; rfl
  · have h1 : r.right = true := by simpa using ‹(!r.right) = false›
    have h2 : n ≠ 0 := by simpa using ‹(n == 0) = false›
    have h3 : n ≤ r.left := by omega
    have h4 := right_left h1
    have hn' := hn
    obtain ⟨hn0, hn1⟩ := hn'
    have e1 : IntKind.u64.wrap (n * 1048576) = n * 1048576 := by rw [wrap_u64]; omega
    have ev : serveR r n = match movP r.i.p (n * 1048576) with | none => none | some p => (setR (lessR r p n)).map fun u => (u, decide (r.left - n = 0)) := by unfold serveR; rw [if_pos ⟨h1, h2, h3⟩]
    (with_reducible apply xs_call); exact rfl; exact rfl; exact move_ret r.i.p (IntKind.u64.wrap (n * 1048576)) hr.1.1 (by rw [e1]; exact ⟨by omega, by omega⟩) _
    rw [e1]
    cases hp : movP r.i.p (n * 1048576) with
    | none =>
      rintro v w' ⟨rfl, ho⟩; replace hs := hs.call0 ho; repeat' (first|refine vs (k:=?_)|(refine stA hs (k:=?_);intro w hs)|(refine al hs (k:=?_);intro b w hz hs)|refine qRg ?_|refine Nx.h ?_|refine qCt ?_|fail)
      first | refine rt (hq := ?_) | refine rt' (hq := ?_)
      refine ⟨?_, hs.only0 rfl⟩
      rw [ev, hp]; rfl
    | some p =>
      have hpin := (at_some hp).1
      have e2 : IntKind.u64.wrap (r.left - n) = r.left - n := by rw [wrap_u64]; omega
      rw [hp] at ev
      simp only at ev
      have hlin := lessR_in hr hpin hn0 h3
      have ele : (lessR r p n).left = if IntKind.u64.wrap (r.left - n) = 0 then r.slice else IntKind.u64.wrap (r.left - n) := by
        rw [e2]; unfold lessR
        by_cases h : r.left - n = 0
        · rw [if_pos h, decide_eq_true h]; rfl
        · rw [if_neg h, decide_eq_false h]; rfl
      rintro v w' ⟨rfl, ho⟩; replace hs := hs.call0 ho
      repeat' (first|refine vs (k:=?_)|(refine st hs (k:=?_);intro w hs)|(refine stA hs (k:=?_);intro w hs)|(refine al hs (k:=?_);intro b w hz hs)|refine qRg ?_|refine Nx.h ?_|refine qCf ?_|(refine xc_if rfl (fun hc=>?_) (fun hc=>?_))|fail)
      · have ez : r.left - n = 0 := by rw [← e2]; assumption
        have el : lessR r p n = ⟨⟨p, r.i.id, r.i.d⟩, r.slice, r.slice, r.asleep⟩ := by unfold lessR; rw [decide_eq_true ez]; rfl
        rw [el] at ev hlin
        rw [decide_eq_true ez] at ev
        have eb : (IntKind.u64.wrap (r.left - n) == 0) = true := by rw [e2, ez]; rfl
        (with_reducible apply xs_call); exact rfl; exact rfl; exact rset_ret ⟨⟨p, r.i.id, r.i.d⟩, r.slice, r.slice, r.asleep⟩ hlin _
        generalize setR ⟨⟨p, r.i.id, r.i.d⟩, r.slice, r.slice, r.asleep⟩ = o at *
        cases o
        · rintro v w' ⟨rfl, ho⟩; replace hs := hs.call0 ho; repeat' (first|refine vs (k:=?_)|(refine stA hs (k:=?_);intro w hs)|refine qRg ?_|refine Nx.h ?_|refine qCt ?_|fail)
          first | refine rt (hq := ?_) | refine rt' (hq := ?_)
          exact ⟨by rw [ev]; rfl, hs.only0 rfl⟩
        · rintro v w' ⟨rfl, ho⟩; replace hs := hs.call0 ho; repeat' (first|refine vs (k:=?_)|(refine stA hs (k:=?_);intro w hs)|refine qRg ?_|refine Nx.h ?_|refine qCf ?_|fail)
          first | refine rt (hq := ?_) | refine rt' (hq := ?_)
          exact ⟨by rw [ev, eb]; rfl, hs.only0 rfl⟩
      · have ez : ¬r.left - n = 0 := by rw [← e2]; assumption
        have el : lessR r p n = ⟨⟨p, r.i.id, r.i.d⟩, IntKind.u64.wrap (r.left - n), r.slice, r.asleep⟩ := by unfold lessR; rw [decide_eq_false ez, e2]; rfl
        rw [el] at ev hlin
        rw [decide_eq_false ez] at ev
        have eb : (IntKind.u64.wrap (r.left - n) == 0) = false := beq_false_of_ne (by rw [e2]; exact ez)
        (with_reducible apply xs_call); exact rfl; exact rfl; exact rset_ret ⟨⟨p, r.i.id, r.i.d⟩, IntKind.u64.wrap (r.left - n), r.slice, r.asleep⟩ hlin _
        generalize setR ⟨⟨p, r.i.id, r.i.d⟩, IntKind.u64.wrap (r.left - n), r.slice, r.asleep⟩ = o at *
        cases o
        · rintro v w' ⟨rfl, ho⟩; replace hs := hs.call0 ho; repeat' (first|refine vs (k:=?_)|(refine stA hs (k:=?_);intro w hs)|refine qRg ?_|refine Nx.h ?_|refine qCt ?_|fail)
          first | refine rt (hq := ?_) | refine rt' (hq := ?_)
          exact ⟨by rw [ev]; rfl, hs.only0 rfl⟩
        · rintro v w' ⟨rfl, ho⟩; replace hs := hs.call0 ho; repeat' (first|refine vs (k:=?_)|(refine stA hs (k:=?_);intro w hs)|refine qRg ?_|refine Nx.h ?_|refine qCf ?_|fail)
          first | refine rt (hq := ?_) | refine rt' (hq := ?_)
          exact ⟨by rw [ev, eb]; rfl, hs.only0 rfl⟩
  · first | refine rt (hq := ?_) | refine rt' (hq := ?_)
    refine ⟨?_, hs.only0 rfl⟩
    have : serveR r n = none := by unfold serveR; rw [if_neg (fun h => by simp_all)]
    rw [this]; rfl
  · first | refine rt (hq := ?_) | refine rt' (hq := ?_)
    refine ⟨?_, hs.only0 rfl⟩
    have : serveR r n = none := by unfold serveR; rw [if_neg (fun h => by simp_all)]
    rw [this]; rfl
end Go.Proofs.YtilajmcellffiaaGreatDoorX

namespace Go.Proofs.YtilajmcellffiaaGreatDoorX
open Go Go.RowKit
attribute [local irreducible] XS XC XA thenE blockE retE loopE loopS cutB cutN doneE SE
def lessN (n a : Int) : Int := if a < n then a else n
theorem lessN_in {n a : Int} (h1 : U64 n) (h2 : U64 a) : U64 (lessN n a) := by
  unfold lessN U64 at *; split <;> omega
def servedL : Rq → Nat → List Int → Option (Rq × Nat)
  | r, c, [] => some (r, c)
  | r, c, n :: l => match serveR r (lessN n r.left) with
    | none => none
    | some (u, b) => servedL u (c + bif b then 1 else 0) l
def sdV (o : Option (Rq × Nat)) : Value := match o with
  | none => .tuple #[rv .zero, .int .i64 0, .bool false]
  | some (u, c) => .tuple #[rv u, .int .i64 c, .bool true]
theorem serveR_in {r u : Rq} {n : Int} {b : Bool} (hr : r.In) (hn : U64 n) (h : serveR r n = some (u, b)) : u.In := by
  unfold serveR at h
  split at h
  · rename_i h1
    cases hp : movP r.i.p (n * 1048576) with
    | none => rw [hp] at h; cases h
    | some p =>
      rw [hp] at h
      obtain ⟨v, hv, h⟩ := Option.map_eq_some_iff.1 h
      cases h
      exact (setR_in (lessR_in hr (at_some hp).1 hn.1 h1.2.2) hv).1
  · cases h
theorem servedL_cons {r : Rq} {c : Nat} {n : Int} {l : List Int} : servedL r c (n :: l) = match serveR r (lessN n r.left) with
    | none => none
    | some (u, b) => servedL u (c + bif b then 1 else 0) l := rfl
set_option maxHeartbeats 2000000 in
theorem rserved_ret (r : Rq) (ns : List Int) (sl : Value) (hr : r.In) (hn : ∀ n ∈ ns, U64 n) (hm : ns.length ≤ 1000000) (w0 : World) (hL : LsAt w0 22 1 sl (ns.map fun n => [.int .u64 n])) :
    Ret Tryz.prog 130 #[rv r, sl] w0 fun v w' => v = sdV (servedL r 0 ns) ∧ Only [] w0 w' := by
  obtain ⟨ad, cap, rfl, hD⟩ := hL
  rw [List.length_map] at *
  have hs := St.nil w0
  refine ret_of_xc Tryz.func130 (by kernel_rfl) rfl Tryz.ntmps130 rfl rfl rfl ?_
  refine xc_seq ?_
  refine xc_region ?_ ?_; exact rfl
  refine bx hs (k := ?_); intro b2 w hz hs
  refine al hs (k := ?_); intro b4 w hz hs
  repeat' (first|refine vs (k:=?_)|refine qRg ?_|refine Nx.h ?_|fail)
  refine xc_cutB (fun (s : Rq × Nat) => [(2, .pointer (some ⟨b2, 0, none⟩)), (4, .pointer (some ⟨b4, 0, none⟩)), (7, .int .i64 (s.2 : Nat))]) (fun s w => St w0 D0 [(b4, .cells Rq.zero.cells.toArray 31, true), (b2, .cells s.1.cells.toArray 31, true)] w ∧ servedL r 0 ns = some s) ?_ ?_
  · refine xc_loopS (fun (s : Nat × Rq × Nat) => [(2, .pointer (some ⟨b2, 0, none⟩)), (4, .pointer (some ⟨b4, 0, none⟩)), (7, .int .i64 (s.2.2 : Nat)), (13, .slice ad ns.length cap), (14, .int .i64 (ns.length : Nat)), (15, .int .i64 (s.1 : Nat))])
      (fun s w => s.1 ≤ ns.length ∧ s.2.2 ≤ s.1 ∧ s.2.1.In ∧ servedL r 0 ns = servedL s.2.1 s.2.2 (ns.drop s.1) ∧ St w0 D0 [(b4, .cells Rq.zero.cells.toArray 31, true), (b2, .cells s.2.1.cells.toArray 31, true)] w) (fun s => ns.length - s.1) (0, r, 0) (by (repeat (first | exact agree_nil | (apply agree_cons; exact rfl)))) ⟨Nat.zero_le _, Nat.le_refl _, hr, rfl, hs⟩ fun s env wl ⟨hi, hc0, hu, hv, hs⟩ => ?_
    obtain ⟨i, u, c⟩ := s
    simp only at hi hc0 hu hv hs
    repeat' (first|refine vs (k:=?_)|refine qRg ?_|refine Nx.h ?_|(refine xc_if rfl (fun hc=>?_) (fun hc=>?_))|fail)
    · have hlt : i < ns.length := by omega
      obtain ⟨b, off, cs, fz, rfl, _, hb, hcs⟩ := hD (fun h => by simp at h; subst h; cases hlt)
      have hpk := hcs i [.int .u64 ns[i]] (by rw [List.getElem?_map, List.getElem?_eq_getElem hlt]; rfl)
      have ei := nx64 (m := ns.length) hlt (by omega)
      have ec := nx64 (i := c) (m := ns.length) (by omega) (by omega)
      have ed : ns.drop i = ns[i] :: ns.drop (i + 1) := List.drop_eq_getElem_cons hlt
      have hnn := hn _ (List.getElem_mem hlt)
      rw [ed, servedL_cons] at hv
      generalize ns[i] = n at *
      refine ix (h0 := (by omega)) (h1 := (by omega)) (k := ?_)
      refine lh ((hs.only0 rfl).block hb (by simp)) (by cases hpk; assumption) (k := ?_)
      repeat' (first|refine vs (k:=?_)|refine qRg ?_|refine Nx.h ?_|fail)
      have hin : ∀ x y, serveR u (lessN n u.left) = some (x, y) → x.In := fun x y h => serveR_in hu (lessN_in hnn hu.2.1) h
      (with_reducible apply xs_call); exact rfl; exact rfl; exact rserve_ret u (lessN n u.left) hu (lessN_in hnn hu.2.1) _
      generalize serveR u (lessN n u.left) = o at *
      rcases o with _ | ⟨u', b'⟩
      · simp only at hv
        rintro v w' ⟨rfl, ho⟩; replace hs := hs.call0 ho; repeat' (first|refine vs (k:=?_)|(refine stA hs (k:=?_);intro w hs)|(refine al hs (k:=?_);intro b w hz hs)|refine qRg ?_|refine Nx.h ?_|refine qCt ?_|fail)
        first | refine rt (hq := ?_) | refine rt' (hq := ?_)
        exact ⟨by rw [hv]; rfl, hs.only0 rfl⟩
      · simp only at hv
        have hu2 := hin _ _ rfl
        cases b'
        · rintro v w' ⟨rfl, ho⟩; replace hs := hs.call0 ho; repeat' (first|refine vs (k:=?_)|(refine stA hs (k:=?_);intro w hs)|(refine al hs (k:=?_);intro b w hz hs)|refine qRg ?_|refine Nx.h ?_|refine qCf ?_|fail)
          exact loopS_next (i + 1, u', c) (by show ns.length - (i + 1) < ns.length - i; omega) (by (repeat (first | exact agree_nil | (apply agree_cons; first | exact rfl | exact congrArg (Value.int .i64) ei)))) ⟨by show i + 1 ≤ _; omega, by show c ≤ i + 1; omega, hu2, by rw [hv]; rfl, hs.forgetNew⟩
        · rintro v w' ⟨rfl, ho⟩; replace hs := hs.call0 ho; repeat' (first|refine vs (k:=?_)|(refine stA hs (k:=?_);intro w hs)|(refine al hs (k:=?_);intro b w hz hs)|refine qRg ?_|refine Nx.h ?_|refine qCt ?_|refine qCf ?_|fail)
          exact loopS_next (i + 1, u', c + 1) (by show ns.length - (i + 1) < ns.length - i; omega) (by (repeat (first | exact agree_nil | (apply agree_cons; first | exact rfl | exact congrArg (Value.int .i64) ei | exact congrArg (Value.int .i64) ec)))) ⟨by show i + 1 ≤ _; omega, by show c + 1 ≤ i + 1; omega, hu2, by rw [hv]; rfl, hs.forgetNew⟩
    · have e : i = ns.length := by omega
      subst e
      rw [List.drop_length] at hv
      exact cutB_exit (u, c) (by (repeat (first | exact agree_nil | (apply agree_cons; exact rfl)))) ⟨hs, hv⟩
  · clear hs
    rintro ⟨u, c⟩ env w ⟨hs, hv⟩
    simp only at hs
    rw [hv]
    repeat' (first|refine vs (k:=?_)|(refine stA hs (k:=?_);intro w hs)|refine qRg ?_|refine Nx.h ?_|fail)
    first | refine rt (hq := ?_) | refine rt' (hq := ?_)
    exact ⟨rfl, hs.only0 rfl⟩
end Go.Proofs.YtilajmcellffiaaGreatDoorX

namespace Go.Proofs.YtilajmcellffiaaGreatDoorX
open Go Go.RowKit
abbrev RT := {r : Rq // r.In}
def idR (r : RT) : Int := r.1.i.id
def OrdR (l : List RT) : Prop := (l.map idR).Pairwise (· < ·)
def findR (l : List RT) (i : Int) : Option RT := l.find? fun a => decide (idR a = i)
def putR (r : RT) : List RT → List RT
  | [] => [r]
  | a :: l => if idR r < idR a then r :: a :: l else if idR r = idR a then r :: l else a :: putR r l
def delR (i : Int) (l : List RT) : List RT := l.filter fun a => decide (idR a ≠ i)
def rvals (l : List RT) : Int → Option Value := fun i => (findR l i).map fun a => rv a.1
theorem findR_nil (i : Int) : findR [] i = none := rfl
theorem findR_cons (a : RT) (l : List RT) (i : Int) : findR (a :: l) i = if idR a = i then some a else findR l i := by
  unfold findR
  rw [List.find?_cons]
  by_cases h : idR a = i
  · rw [if_pos h, decide_eq_true h]
  · rw [if_neg h, decide_eq_false h]
theorem findR_put (r : RT) (i : Int) : ∀ l : List RT, findR (putR r l) i = if i = idR r then some r else findR l i
  | [] => by
    unfold putR
    rw [findR_cons, findR_nil]
    by_cases h : i = idR r
    · rw [if_pos h, if_pos h.symm]
    · rw [if_neg h, if_neg (fun e => h e.symm)]
  | a :: l => by
    unfold putR
    split
    · rw [findR_cons]
      by_cases h : i = idR r
      · rw [if_pos h, if_pos h.symm]
      · rw [if_neg h, if_neg (fun e => h e.symm)]
    · split
      · rename_i h1 h2
        rw [findR_cons, findR_cons]
        by_cases h : i = idR r
        · rw [if_pos h, if_pos h.symm]
        · rw [if_neg h, if_neg (fun e => h e.symm), if_neg (fun e => h (by omega))]
      · rename_i h1 h2
        rw [findR_cons, findR_cons, findR_put r i l]
        by_cases h : i = idR r
        · rw [if_pos h, if_pos h, if_neg (by omega)]
        · rw [if_neg h, if_neg h]
theorem findR_del (k i : Int) : ∀ l : List RT, findR (delR k l) i = if i = k then none else findR l i
  | [] => by unfold delR; rw [List.filter_nil, findR_nil]; split <;> rfl
  | a :: l => by
    have ih := findR_del k i l
    unfold delR at ih ⊢
    rw [List.filter_cons]
    by_cases h : idR a = k
    · rw [if_neg (by simp [h]), ih, findR_cons]
      by_cases hi : i = k
      · rw [if_pos hi, if_pos hi]
      · rw [if_neg hi, if_neg hi, if_neg (fun e => hi (by omega))]
    · rw [if_pos (by simp [h]), findR_cons, findR_cons, ih]
      by_cases hi : i = k
      · rw [if_pos hi, if_pos hi, if_neg (by omega)]
      · rw [if_neg hi, if_neg hi]
theorem OrdR.tail {a : RT} {l : List RT} (h : OrdR (a :: l)) : OrdR l := by
  unfold OrdR at *; rw [List.map_cons, List.pairwise_cons] at h; exact h.2
theorem OrdR.head {a : RT} {l : List RT} (h : OrdR (a :: l)) : ∀ b ∈ l, idR a < idR b := fun b hb => by
  unfold OrdR at *; rw [List.map_cons, List.pairwise_cons] at h; exact h.1 _ (List.mem_map_of_mem hb)
theorem OrdR.cons {a : RT} {l : List RT} (h : OrdR l) (hd : ∀ b ∈ l, idR a < idR b) : OrdR (a :: l) := by
  unfold OrdR at *; rw [List.map_cons, List.pairwise_cons]
  exact ⟨fun x hx => by obtain ⟨b, hb, rfl⟩ := List.mem_map.1 hx; exact hd b hb, h⟩
theorem findR_some {l : List RT} {i : Int} {a : RT} (h : findR l i = some a) : a ∈ l ∧ idR a = i := by
  unfold findR at h
  exact ⟨List.mem_of_find?_eq_some h, by simpa using List.find?_some h⟩
theorem findR_mem {l : List RT} {a : RT} (h : a ∈ l) : (findR l (idR a)).isSome = true := by
  unfold findR
  rw [List.find?_isSome]
  exact ⟨a, h, by simp⟩
theorem findR_less {l : List RT} {i : Int} (h : ∀ b ∈ l, i < idR b) : findR l i = none := by
  cases e : findR l i with
  | none => rfl
  | some a => obtain ⟨h1, h2⟩ := findR_some e; have := h a h1; omega
theorem mem_put {r b : RT} : ∀ {l : List RT}, b ∈ putR r l → b = r ∨ b ∈ l
  | [], h => by simpa [putR] using h
  | a :: l, h => by
    unfold putR at h
    split at h
    · simpa using h
    · split at h
      · rcases List.mem_cons.1 h with h | h
        · exact .inl h
        · exact .inr (List.mem_cons_of_mem _ h)
      · rcases List.mem_cons.1 h with h | h
        · exact .inr (h ▸ List.mem_cons_self)
        · rcases mem_put h with h | h
          · exact .inl h
          · exact .inr (List.mem_cons_of_mem _ h)
theorem ord_put {r : RT} : ∀ {l : List RT}, OrdR l → OrdR (putR r l)
  | [], h => by show OrdR [r]; exact OrdR.cons h (by simp)
  | a :: l, h => by
    unfold putR
    split
    · rename_i h1
      refine h.cons fun b hb => ?_
      rcases List.mem_cons.1 hb with rfl | hb
      · exact h1
      · have := h.head b hb; omega
    · split
      · rename_i h1 h2
        exact h.tail.cons fun b hb => by have := h.head b hb; omega
      · rename_i h1 h2
        refine (ord_put h.tail).cons fun b hb => ?_
        rcases mem_put hb with rfl | hb
        · omega
        · exact h.head b hb
theorem len_put {r : RT} : ∀ {l : List RT}, OrdR l → (putR r l).length = if (findR l (idR r)).isSome then l.length else l.length + 1
  | [], h => rfl
  | a :: l, h => by
    unfold putR
    split
    · rename_i h1
      rw [findR_less (fun b hb => by
        rcases List.mem_cons.1 hb with rfl | hb
        · exact h1
        · have := h.head b hb; omega)]
      rfl
    · split
      · rename_i h1 h2
        rw [findR_cons, if_pos h2.symm]; rfl
      · rename_i h1 h2
        have e1 : findR (a :: l) (idR r) = findR l (idR r) := by rw [findR_cons]; exact if_neg fun e => h2 e.symm
        rw [e1, List.length_cons, len_put h.tail]
        cases (findR l (idR r)).isSome <;> simp
theorem ord_del {i : Int} {l : List RT} (h : OrdR l) : OrdR (delR i l) := by
  unfold OrdR delR at *
  exact h.sublist (List.filter_sublist.map _)
theorem len_del {i : Int} : ∀ {l : List RT}, OrdR l → (delR i l).length = if (findR l i).isSome then l.length - 1 else l.length
  | [], h => rfl
  | a :: l, h => by
    have ih := len_del (i := i) h.tail
    unfold delR at ih ⊢
    rw [List.filter_cons, findR_cons]
    by_cases e : idR a = i
    · rw [if_neg (by simp [e]), if_pos e, ih, findR_less (fun b hb => by have := h.head b hb; omega)]
      rfl
    · rw [if_pos (by simp [e]), if_neg e, List.length_cons, ih]
      cases hf : findR l i with
      | none => rfl
      | some b =>
        have h1 := (findR_some hf).1
        cases l with
        | nil => cases h1
        | cons c l => simp
theorem rvals_put (r : RT) (l : List RT) : updF (rvals l) (idR r) (some (rv r.1)) = rvals (putR r l) := by
  funext i
  unfold updF rvals
  rw [findR_put]
  by_cases h : i = idR r
  · rw [if_pos h, decide_eq_true h]; rfl
  · rw [if_neg h, decide_eq_false h]; rfl
theorem rvals_del (k : Int) (l : List RT) : updF (rvals l) k none = rvals (delR k l) := by
  funext i
  unfold updF rvals
  rw [findR_del]
  by_cases h : i = k
  · rw [if_pos h, decide_eq_true h]; rfl
  · rw [if_neg h, decide_eq_false h]; rfl
theorem rvals_some (l : List RT) (i : Int) : (rvals l i).isSome = (findR l i).isSome := by unfold rvals; cases findR l i <;> rfl
def getL (l : List RT) (i : Int) : Rq := match findR l i with | some a => a.1 | none => .zero
theorem rvals_get (l : List RT) (i : Int) : (rvals l i).getD (rv .zero) = rv (getL l i) := by unfold rvals getL; cases findR l i <;> rfl
theorem ids_iff (l : List RT) (x : Int) : x ∈ l.map idR ↔ In64 x ∧ (rvals l x).isSome = true := by
  rw [rvals_some]
  constructor
  · intro h
    obtain ⟨a, ha, rfl⟩ := List.mem_map.1 h
    exact ⟨a.2.1.2.1, findR_mem ha⟩
  · rintro ⟨_, h⟩
    cases e : findR l x with
    | none => rw [e] at h; cases h
    | some a => obtain ⟨h1, h2⟩ := findR_some e; exact List.mem_map.2 ⟨a, h1, h2⟩
theorem findR_at {l : List RT} (h : OrdR l) {a : RT} (ha : a ∈ l) : findR l (idR a) = some a := by
  induction l with
  | nil => cases ha
  | cons b l ih =>
    rw [findR_cons]
    rcases List.mem_cons.1 ha with rfl | ha
    · rw [if_pos rfl]
    · have := h.head a ha
      rw [if_neg (by omega)]
      exact ih h.tail ha
end Go.Proofs.YtilajmcellffiaaGreatDoorX

namespace Go.Proofs.YtilajmcellffiaaGreatDoorX
open Go Go.RowKit
attribute [local irreducible] XS XC XA thenE blockE retE loopE loopS cutB cutN doneE SE
def WAt (w : World) (sl : Value) (xs : List Int) : Prop :=
  ∃ ad cap, sl = .slice ad xs.length cap ∧ (xs ≠ [] → ∃ (b off : Nat) (cs : List Value) (E : TypeId) (fz : Nat × Nat), ad = some ⟨b, off, none⟩ ∧ w.heap[b]? = some (.cells cs.toArray E fz) ∧
    ∀ (i : Nat) (x : Int), xs[i]? = some x → cs[off + i * 2]? = some (.int .i64 (x / 18446744073709551616)) ∧ cs[off + i * 2 + 1]? = some (.int .u64 (x % 18446744073709551616)))
def psum (xs : List Int) (i : Nat) : Int := (xs.take i).sum
theorem psum_succ {xs : List Int} {i : Nat} {x : Int} (h : xs[i]? = some x) : psum xs (i + 1) = psum xs i + x := by
  unfold psum
  rw [List.take_add_one, h, List.sum_append]
  simp
theorem psum_zero (xs : List Int) : psum xs 0 = 0 := by simp [psum]
theorem inW_zero : InW 0 := by unfold InW; omega
def InAll (xs : List Int) (n : Nat) : Prop := ∀ j, j ≤ n → InW (psum xs j)
theorem InAll.zero (xs : List Int) : InAll xs 0 := fun j hj => by
  have h0 : j = 0 := Nat.le_zero.1 hj
  rw [h0, psum_zero]
  exact inW_zero
theorem InAll.succ {xs : List Int} {n : Nat} (h : InAll xs n) (h1 : InW (psum xs (n + 1))) : InAll xs (n + 1) := fun j hj => by
  rcases Nat.lt_or_ge n j with h2 | h2
  · obtain rfl : j = n + 1 := by omega
    exact h1
  · exact h j h2
theorem next64 {i m : Nat} (h : i < m) (hm : m ≤ 9223372036854775807) : IntKind.i64.wrap ((i : Int) + 1) = ((i + 1 : Nat) : Int) := by
  rw [wrap_i64]; omega
theorem sum_ret (xs : List Int) (sl : Value) (hin : ∀ (i : Nat) (x : Int), xs[i]? = some x → InW x) (hm : xs.length ≤ 9223372036854775807) (w0 : World) (hW : WAt w0 sl xs) : Ret Tryz.prog 236 #[sl] w0 fun v w' =>
    (InAll xs xs.length ∧ v = .tuple #[wv (psum xs xs.length), .bool true] ∨ (∃ j, j ≤ xs.length ∧ ¬ InW (psum xs j)) ∧ v = .tuple #[wv 0, .bool false]) ∧ Only [] w0 w' := by
  obtain ⟨ad, cap, rfl, hD⟩ := hW
  have hs := St.nil w0
  refine ret_of_xc Tryz.func236 (by kernel_rfl) rfl Tryz.ntmps236 rfl rfl rfl ?_
  refine xc_seq ?_
  refine xc_region ?_ ?_; exact rfl
  refine al hs (k := ?_); intro b2 w hz hs
  refine vs (k := ?_)
  refine XS.nil ?_
  refine then_of ?_
  refine xc_seq ?_
  refine xc_region ?_ ?_; exact rfl
  refine al hs (k := ?_); intro b4 w hz hs
  repeat' (first|refine vs (k:=?_)|refine qRg ?_|refine Nx.h ?_|fail)
  refine xc_cutB (fun (_ : Unit) => [(2, .pointer (some ⟨b2, 0, none⟩)), (4, .pointer (some ⟨b4, 0, none⟩))])
    (fun _ w => InAll xs xs.length ∧ St w0 D0 [(b4, .cells #[.int .i64 (psum xs xs.length / 18446744073709551616), .int .u64 (psum xs xs.length % 18446744073709551616)] 61, true), (b2, .cells #[.int .i64 0, .int .u64 0] 61, true)] w) ?_ ?_
  · refine xc_loopS (fun (i : Nat) => [(2, .pointer (some ⟨b2, 0, none⟩)), (4, .pointer (some ⟨b4, 0, none⟩)), (9, .slice ad xs.length cap), (10, .int .i64 (xs.length : Nat)), (11, .int .i64 (i : Nat))])
      (fun i w => i ≤ xs.length ∧ InAll xs i ∧ St w0 D0 [(b4, .cells #[.int .i64 (psum xs i / 18446744073709551616), .int .u64 (psum xs i % 18446744073709551616)] 61, true), (b2, .cells #[.int .i64 0, .int .u64 0] 61, true)] w)
      (fun i => xs.length - i) 0 (by (repeat (first | exact agree_nil | (apply agree_cons; exact rfl)))) ⟨Nat.zero_le _, InAll.zero xs, by rw [psum_zero]; exact hs⟩ fun i env w ⟨hi, hf, hs⟩ => ?_
    repeat' (first|refine vs (k:=?_)|refine qRg ?_|refine Nx.h ?_|(refine xc_if rfl (fun hc=>?_) (fun hc=>?_))|fail)
    · have hlt : i < xs.length := by omega
      obtain ⟨b, off, cs, E, fz, rfl, hb, hcs⟩ := hD (fun h => by subst h; cases hlt)
      obtain ⟨h0, h1⟩ := hcs i _ (List.getElem?_eq_getElem hlt)
      have hx := hin i _ (List.getElem?_eq_getElem hlt)
      have hps := psum_succ (List.getElem?_eq_getElem hlt)
      generalize xs[i] = x at *
      refine ix (h0 := (by omega)) (h1 := (by omega)) (k := ?_)
      refine lh2 ((hs.only0 rfl).block hb (by simp)) h0 h1 (k := ?_)
      refine al hs (k := ?_); intro b6 w hz hs
      repeat' (first|refine vs (k:=?_)|(refine stA hs (k:=?_);intro w hs)|refine qRg ?_|refine Nx.h ?_|fail)
      (with_reducible apply xs_call); exact rfl; exact rfl; exact add_ret (psum xs i) x (hf i (Nat.le_refl _)) hx _
      rintro v w' ⟨rfl, ho⟩; replace hs := hs.call0 ho
      rcases tellV_cases (psum xs i + x) with ⟨hin1, e⟩ | ⟨hin1, e⟩
      · rw [e]
        repeat' (first|refine vs (k:=?_)|(refine stA hs (k:=?_);intro w hs)|(refine al hs (k:=?_);intro b w hz hs)|refine qRg ?_|refine Nx.h ?_|refine qCf ?_|fail)
        have ei := next64 hlt hm
        exact loopS_next (i + 1) (by omega) (by (repeat (first | exact agree_nil | (apply agree_cons; first | exact rfl | exact congrArg (Value.int .i64) ei)))) ⟨by omega, hf.succ (by rw [hps]; exact hin1), by rw [hps]; exact hs.forgetNew.forgetNew⟩
      · rw [e]
        repeat' (first|refine vs (k:=?_)|(refine stA hs (k:=?_);intro w hs)|(refine al hs (k:=?_);intro b w hz hs)|refine qRg ?_|refine Nx.h ?_|refine qCt ?_|fail)
        first | refine rt (hq := ?_) | refine rt' (hq := ?_)
        exact ⟨.inr ⟨⟨i + 1, hlt, by rw [hps]; exact hin1⟩, rfl⟩, hs.only0 rfl⟩
    · have e : i = xs.length := by omega
      rw [e] at hf hs
      exact cutB_exit () (by (repeat (first | exact agree_nil | (apply agree_cons; exact rfl)))) ⟨hf, hs⟩
  · rintro _ env w ⟨hf, hs⟩
    repeat' (first|refine vs (k:=?_)|(refine stA hs (k:=?_);intro w hs)|refine qRg ?_|refine Nx.h ?_|fail)
    first | refine rt (hq := ?_) | refine rt' (hq := ?_)
    exact ⟨.inl ⟨hf, rfl⟩, hs.only0 rfl⟩
end Go.Proofs.YtilajmcellffiaaGreatDoorX

namespace Go.Proofs.YtilajmcellffiaaGreatDoorX
open Go Go.RowKit
attribute [local irreducible] XS XC XA thenE blockE retE loopE loopS cutB cutN doneE SE
def great : Int := 170141183460469231731687303715884105727
theorem great_in : InW great := by decide
def winC (s t : Int) : Option Int := if 1 ≤ s ∧ s ≤ 1099511627776 ∧ 1 ≤ t ∧ t ≤ 1099511627776 then some ((2 * s + t) * 1048576) else none
theorem window_ret (s t : Int) (hs' : U64 s) (ht : U64 t) (w0 : World) : Ret Tryz.prog 84 #[.int .u64 s, .int .u64 t] w0 fun v w' => v = .tuple #[.int .i64 ((winC s t).getD 0), .bool (winC s t).isSome] ∧ Only [] w0 w' := by
  obtain ⟨hs0, hs1⟩ := hs'
  obtain ⟨ht0, ht1⟩ := ht
  have hs := St.nil w0
  refine ret_of_xc Tryz.func84 (by kernel_rfl) rfl Tryz.ntmps84 rfl rfl rfl ?_
  repeat' (first|refine vs (k:=?_)|refine ps (k:=?_)|refine qRg ?_|refine Nx.h ?_|refine qCt ?_|((with_reducible apply xs_guard);exact rfl;exact rfl;intro c hc;(fail_if_success have:true=c:=hc);(fail_if_success have:false=c:=hc);cases c)|(refine xc_if rfl (fun hc=>?_) (fun hc=>?_))|fail)
  all_goals (first | refine rt (hq := ?_) | refine rt' (hq := ?_))
  all_goals refine ⟨?_, hs.only0 rfl⟩
  all_goals clear hs
  · have : winC s t = none := if_neg (by omega)
    rw [this]; rfl
  · simp only [decide_eq_false_iff_not] at *
    have : winC s t = some ((2 * s + t) * 1048576) := if_pos (by omega)
    rw [this]
    show Value.tuple _ = Value.tuple _
    have e : IntKind.i64.wrap (IntKind.u64.wrap (IntKind.u64.wrap (IntKind.u64.wrap (2 * s) + t) * 1048576)) = (2 * s + t) * 1048576 := by simp only [wrap_u64, wrap_i64]; omega
    rw [e]; rfl
  · simp only [decide_eq_true_eq, decide_eq_false_iff_not] at *
    have : winC s t = none := if_neg (by omega)
    rw [this]; rfl
  · simp only [decide_eq_true_eq, decide_eq_false_iff_not] at *
    have : winC s t = none := if_neg (by omega)
    rw [this]; rfl
  · simp only [decide_eq_true_eq] at *
    have : winC s t = none := if_neg (by omega)
    rw [this]; rfl
theorem greatest_ret (w0 : World) : Ret Tryz.prog 237 #[] w0 fun v w' => v = wv great ∧ Only [] w0 w' := by
  have hs := St.nil w0
  refine ret_of_xc Tryz.func237 (by kernel_rfl) rfl Tryz.ntmps237 rfl rfl rfl ?_
  repeat' (first|refine vs (k:=?_)|(refine stA hs (k:=?_);intro w hs)|(refine al hs (k:=?_);intro b w hz hs)|refine qRg ?_|refine Nx.h ?_|fail)
  first | refine rt (hq := ?_) | refine rt' (hq := ?_)
  exact ⟨by kernel_rfl, hs.only0 rfl⟩
def sizeW (x : Int) : Int := if 0 ≤ x then x else if InW (-x) then -x else great
theorem sizeW_in {x : Int} (h : InW x) : InW (sizeW x) ∧ 0 ≤ sizeW x := by
  unfold sizeW
  split
  · exact ⟨h, by assumption⟩
  · split
    · exact ⟨by assumption, by omega⟩
    · exact ⟨great_in, by decide⟩
theorem csize_ret (x : Int) (hx : InW x) (w0 : World) : Ret Tryz.prog 229 #[wv x] w0 fun v w' => v = wv (sizeW x) ∧ Only [] w0 w' := by
  have hs := St.nil w0
  refine ret_of_xc Tryz.func229 (by kernel_rfl) rfl Tryz.ntmps229 rfl rfl rfl ?_
  repeat' (first|refine vs (k:=?_)|(refine al hs (k:=?_);intro b w hz hs)|(refine bx hs (k:=?_);intro b w hz hs)|refine qRg ?_|refine Nx.h ?_|fail)
  (with_reducible apply xs_call); exact rfl; exact rfl; exact sign_ret x hx _
  rintro v w' ⟨rfl, ho⟩; replace hs := hs.call0 ho; repeat' (first|refine vs (k:=?_)|(refine stA hs (k:=?_);intro w hs)|refine qRg ?_|refine Nx.h ?_|(refine xc_if rfl (fun hc=>?_) (fun hc=>?_))|fail)
  · have h0 : 0 ≤ x := by unfold cmpI at hc; split at hc <;> omega
    first | refine rt (hq := ?_) | refine rt' (hq := ?_)
    refine ⟨?_, hs.only0 rfl⟩
    unfold sizeW; rw [if_pos h0]; rfl
  · have h0 : ¬ 0 ≤ x := by unfold cmpI at hc; split at hc <;> (try split at hc) <;> omega
    (with_reducible apply xs_call); exact rfl; exact rfl; exact neg_t x hx _
    rintro v w' ⟨rfl, ho⟩; replace hs := hs.call0 ho; repeat' (first|refine vs (k:=?_)|(refine stA hs (k:=?_);intro w hs)|(refine al hs (k:=?_);intro b w hz hs)|refine qRg ?_|refine Nx.h ?_|(refine xc_if rfl (fun hc=>?_) (fun hc=>?_))|fail)
    · have h1 : InW (-x) := by simpa using hc
      first | refine rt (hq := ?_) | refine rt' (hq := ?_)
      refine ⟨?_, hs.only0 rfl⟩
      unfold sizeW; rw [if_neg h0, if_pos h1]
      have e : tot (-x) = -x := if_pos h1
      rw [e]; rfl
    · have h1 : ¬ InW (-x) := by simpa using hc
      (with_reducible apply xs_call); exact rfl; exact rfl; exact greatest_ret _
      rintro v w' ⟨rfl, ho⟩; replace hs := hs.call0 ho; repeat' (first|(refine stA hs (k:=?_);intro w hs)|refine Nx.h ?_|fail)
      first | refine rt (hq := ?_) | refine rt' (hq := ?_)
      refine ⟨?_, hs.only0 rfl⟩
      unfold sizeW; rw [if_neg h0, if_neg h1]; rfl
def caF : Int → List Int → Int
  | out, [] => out
  | out, x :: l => if InW (out + sizeW x + 2) then caF (out + sizeW x + 2) l else great
theorem wat_three {w : World} {b : Nat} {x y z : Int} (hb : w.heap[b]? = some (.cells #[.int .i64 (x / 18446744073709551616), .int .u64 (x % 18446744073709551616), .int .i64 (y / 18446744073709551616), .int .u64 (y % 18446744073709551616), .int .i64 (z / 18446744073709551616), .int .u64 (z % 18446744073709551616)] 61 (0, 0))) : WAt w (.slice (some ⟨b, 0, none⟩) 3 3) [x, y, z] :=
  ⟨_, 3, rfl, fun _ => ⟨b, 0, _, _, (0, 0), rfl, hb, fun i x h => by
    have : i = 0 ∨ i = 1 ∨ i = 2 := by
      rcases Nat.lt_or_ge i 3 with h' | h'
      · omega
      · rw [List.getElem?_eq_none (by simp; omega)] at h; cases h
    rcases this with rfl | rfl | rfl <;> (cases h; exact ⟨rfl, rfl⟩)⟩⟩
set_option maxHeartbeats 4000000 in
theorem carried_ret (xs : List Int) (sl : Value) (hin : ∀ (i : Nat) (x : Int), xs[i]? = some x → InW x) (hm : xs.length ≤ 9223372036854775807) (w0 : World) (hW : WAt w0 sl xs) : Ret Tryz.prog 228 #[sl] w0 fun v w' => v = wv (caF 0 xs) ∧ Only [] w0 w' := by
  obtain ⟨ad, cap, rfl, hD⟩ := hW
  have hs := St.nil w0
  refine ret_of_xc Tryz.func228 (by kernel_rfl) rfl Tryz.ntmps228 rfl rfl rfl ?_
  repeat' (first|refine Nx.h ?_|fail)
  refine xc_region ?_ ?_; exact rfl
  refine al hs (k := ?_); intro b2 w hz hs
  repeat' (first|refine Nx.h ?_|fail)
  refine xc_region ?_ ?_; exact rfl
  refine al hs (k := ?_); intro b3 w hz hs
  repeat' (first|refine vs (k:=?_)|refine qRg ?_|refine Nx.h ?_|fail)
  refine xc_cutB (fun (_ : Unit) => [(2, .pointer (some ⟨b2, 0, none⟩)), (3, .pointer (some ⟨b3, 0, none⟩))])
    (fun _ w => St w0 D0 [(b3, .cells #[.int .i64 (caF 0 xs / 18446744073709551616), .int .u64 (caF 0 xs % 18446744073709551616)] 61, true), (b2, .cells #[.int .i64 0, .int .u64 0] 61, true)] w) ?_ ?_
  · refine xc_loopS (fun (s : Nat × Int) => [(2, .pointer (some ⟨b2, 0, none⟩)), (3, .pointer (some ⟨b3, 0, none⟩)), (8, .slice ad xs.length cap), (9, .int .i64 (xs.length : Nat)), (10, .int .i64 (s.1 : Nat))])
      (fun s w => s.1 ≤ xs.length ∧ caF 0 xs = caF s.2 (xs.drop s.1) ∧ InW s.2 ∧ 0 ≤ s.2 ∧ St w0 D0 [(b3, .cells #[.int .i64 (s.2 / 18446744073709551616), .int .u64 (s.2 % 18446744073709551616)] 61, true), (b2, .cells #[.int .i64 0, .int .u64 0] 61, true)] w)
      (fun s => xs.length - s.1) (0, 0) (by (repeat (first | exact agree_nil | (apply agree_cons; exact rfl)))) ⟨Nat.zero_le _, rfl, inW_zero, Int.le_refl _, hs⟩ fun s env w ⟨hi, hca, ho1, ho2, hs⟩ => ?_
    obtain ⟨i, out⟩ := s
    simp only at hi hca ho1 ho2
    repeat' (first|refine vs (k:=?_)|refine qRg ?_|refine Nx.h ?_|(refine xc_if rfl (fun hc=>?_) (fun hc=>?_))|fail)
    · have hlt : i < xs.length := by omega
      obtain ⟨b, off, cs, E, fz, rfl, hb, hcs⟩ := hD (fun h => by subst h; cases hlt)
      obtain ⟨h0, h1⟩ := hcs i _ (List.getElem?_eq_getElem hlt)
      have hx := hin i _ (List.getElem?_eq_getElem hlt)
      have ei := nx64 hlt hm
      rw [List.drop_eq_getElem_cons hlt] at hca
      generalize xs[i] = x at *
      have hsz := sizeW_in hx
      refine ix (h0 := (by omega)) (h1 := (by omega)) (k := ?_)
      refine lh2 ((hs.only0 rfl).block hb (by simp)) h0 h1 (k := ?_)
      refine al hs (k := ?_); intro b5 w hz hs
      repeat' (first|(refine stA hs (k:=?_);intro w hs)|refine Nx.h ?_|fail)
      refine dr [] hs (k := ?_); intro hX w hs
      refine tk 0 hX (k := ?_)
      refine tk 1 hX (k := ?_)
      refine pd0 9 6 hs (k := ?_); intro f X w hp; have hs := hp.st
      apply xa_pend 2 9 (f := f) (X := X) hX hp; exact rfl; exact rfl; (first | (apply makes_alloc tabOk; exact rfl) | (apply makes_slice tabOk; exact rfl; exact rfl; exact rfl; exact rfl; exact rfl; (intro X; ((repeat (first | exact Bld.nil | (apply Bld.one; exact rfl; (conv => lhs; whnf); exact rfl; (repeat (first | exact PutL.nil | apply PutL.skip | apply PutL.cons))) | (apply Bld.agg; exact rfl; exact rfl; exact rfl; (repeat (first | exact PutL.nil | apply PutL.skip | apply PutL.cons))))))))); kernel_rfl; kernel_rfl; kernel_rfl; kernel_rfl; (intro X Y; (repeat (first | exact pgg_base | refine pgg_step ?_ (by exact rfl)))); (intro w' hs; ((first | exact se_hold hs.hold | exact se_hold (hold_sim hs.hold rfl) | exact se_hold (hold_sim hs.hold.tail rfl) | exact se_hold (hR hs rfl) | exact se_hold hs.hold.tail | exact se_hold hs.hold.tail.tail | exact se_hold hs.hold.tail.tail.tail | exact se_done rfl))); intro f X w hp; have hs := hp.st
      (with_reducible apply xs_call); exact rfl; exact rfl; exact csize_ret x hx _
      rintro v w' ⟨rfl, ho⟩; replace hp := hp.only ho; replace hs := hp.st; repeat' (first|refine Nx.h ?_|fail)
      refine dn (k := ?_)
      apply xa_pend 3 9 (f := f) (X := X) hX hp; exact rfl; exact rfl; (first | (apply makes_alloc tabOk; exact rfl) | (apply makes_slice tabOk; exact rfl; exact rfl; exact rfl; exact rfl; exact rfl; (intro X; ((repeat (first | exact Bld.nil | (apply Bld.one; exact rfl; (conv => lhs; whnf); exact rfl; (repeat (first | exact PutL.nil | apply PutL.skip | apply PutL.cons))) | (apply Bld.agg; exact rfl; exact rfl; exact rfl; (repeat (first | exact PutL.nil | apply PutL.skip | apply PutL.cons))))))))); kernel_rfl; kernel_rfl; kernel_rfl; kernel_rfl; (intro X Y; (repeat (first | exact pgg_base | refine pgg_step ?_ (by exact rfl)))); (intro w' hs; ((first | exact se_hold hs.hold | exact se_hold (hold_sim hs.hold rfl) | exact se_hold (hold_sim hs.hold.tail rfl) | exact se_hold (hR hs rfl) | exact se_hold hs.hold.tail | exact se_hold hs.hold.tail.tail | exact se_hold hs.hold.tail.tail.tail | exact se_done rfl))); intro f X w hp; have hs := hp.st
      (with_reducible apply xs_call); exact rfl; exact rfl; exact of_ret 2 (by decide) (by decide) _
      rintro v w' ⟨rfl, ho⟩; replace hp := hp.only ho; replace hs := hp.st; repeat' (first|refine Nx.h ?_|fail)
      refine dn (k := ?_)
      apply xa_pend 4 9 (f := f) (X := X) hX hp; exact rfl; exact rfl; (first | (apply makes_alloc tabOk; exact rfl) | (apply makes_slice tabOk; exact rfl; exact rfl; exact rfl; exact rfl; exact rfl; (intro X; ((repeat (first | exact Bld.nil | (apply Bld.one; exact rfl; (conv => lhs; whnf); exact rfl; (repeat (first | exact PutL.nil | apply PutL.skip | apply PutL.cons))) | (apply Bld.agg; exact rfl; exact rfl; exact rfl; (repeat (first | exact PutL.nil | apply PutL.skip | apply PutL.cons))))))))); kernel_rfl; kernel_rfl; kernel_rfl; kernel_rfl; (intro X Y; (repeat (first | exact pgg_base | refine pgg_step ?_ (by exact rfl)))); (intro w' hs; ((first | exact se_hold hs.hold | exact se_hold (hold_sim hs.hold rfl) | exact se_hold (hold_sim hs.hold.tail rfl) | exact se_hold (hR hs rfl) | exact se_hold hs.hold.tail | exact se_hold hs.hold.tail.tail | exact se_hold hs.hold.tail.tail.tail | exact se_done rfl))); intro f X w hp; have hs := hp.st
      refine bsP hp (k := ?_); intro b4 w4 _ hp; replace hs := hp.st
      repeat' (first|refine Nx.h ?_|fail)
      refine dn (k := ?_)
      apply xa_pend 5 9 (f := f) (X := X) hX hp; exact rfl; exact rfl; (first | (apply makes_alloc tabOk; exact rfl) | (apply makes_slice tabOk; exact rfl; exact rfl; exact rfl; exact rfl; exact rfl; (intro X; ((repeat (first | exact Bld.nil | (apply Bld.one; exact rfl; (conv => lhs; whnf); exact rfl; (repeat (first | exact PutL.nil | apply PutL.skip | apply PutL.cons))) | (apply Bld.agg; exact rfl; exact rfl; exact rfl; (repeat (first | exact PutL.nil | apply PutL.skip | apply PutL.cons))))))))); kernel_rfl; kernel_rfl; kernel_rfl; kernel_rfl; (intro X Y; (repeat (first | exact pgg_base | refine pgg_step ?_ (by exact rfl)))); (intro w' hs; ((first | exact se_hold hs.hold | exact se_hold (hold_sim hs.hold rfl) | exact se_hold (hold_sim hs.hold.tail rfl) | exact se_hold (hR hs rfl) | exact se_hold hs.hold.tail | exact se_hold hs.hold.tail.tail | exact se_hold hs.hold.tail.tail.tail | exact se_done rfl))); intro f X w hp; have hs := hp.st
      have hin3 : ∀ (i : Nat) (y : Int), [out, sizeW x, 2][i]? = some y → InW y := fun i y h => by
        have hy := List.mem_of_getElem? h
        simp only [List.mem_cons, List.not_mem_nil, or_false] at hy
        rcases hy with rfl | rfl | rfl
        · exact ho1
        · exact hsz.1
        · decide
      have p0 : psum [out, sizeW x, 2] 0 = 0 := by simp [psum]
      have p1 : psum [out, sizeW x, 2] 1 = out := by simp [psum]
      have p2 : psum [out, sizeW x, 2] 2 = out + sizeW x := by simp [psum]
      have p3 : psum [out, sizeW x, 2] 3 = out + sizeW x + 2 := by simp [psum]; omega
      (with_reducible apply xs_call); exact rfl; exact rfl; exact sum_ret [out, sizeW x, 2] _ hin3 (by simp) _ (wat_three (hs.get At.head))
      rintro v w' ⟨hq, ho⟩; replace hp := hp.only ho; replace hs := hp.st
      rcases hq with ⟨hA, rfl⟩ | ⟨⟨j, hj, hn⟩, rfl⟩
      · have hA3 := hA 3 (Nat.le_refl _)
        rw [p3] at hA3
        rw [show [out, sizeW x, 2].length = 3 from rfl, p3]
        rw [show caF out (x :: xs.drop (i + 1)) = caF (out + sizeW x + 2) (xs.drop (i + 1)) from if_pos hA3] at hca
        repeat' (first|refine Nx.h ?_|fail)
        refine dn (k := ?_)
        refine tk 6 hX (hc := by cases f <;> kernel_rfl) (k := ?_)
        refine tk 7 hX (hc := by cases f <;> kernel_rfl) (k := ?_)
        refine tk 8 hX (hc := by cases f <;> kernel_rfl) (k := ?_)
        apply xa_pendE 9 (f := f) (X := X) hX hp; exact rfl; (first | (apply makes_alloc tabOk; exact rfl) | (apply makes_slice tabOk; exact rfl; exact rfl; exact rfl; exact rfl; exact rfl; (intro X; ((repeat (first | exact Bld.nil | (apply Bld.one; exact rfl; (conv => lhs; whnf); exact rfl; (repeat (first | exact PutL.nil | apply PutL.skip | apply PutL.cons))) | (apply Bld.agg; exact rfl; exact rfl; exact rfl; (repeat (first | exact PutL.nil | apply PutL.skip | apply PutL.cons))))))))); kernel_rfl; kernel_rfl; (intro X Y; (repeat (first | exact pgg_base | refine pgg_step ?_ (by exact rfl)))); (intro w' hs; ((first | exact se_hold hs.hold | exact se_hold (hold_sim hs.hold rfl) | exact se_hold (hold_sim hs.hold.tail rfl) | exact se_hold (hR hs rfl) | exact se_hold hs.hold.tail | exact se_hold hs.hold.tail.tail | exact se_hold hs.hold.tail.tail.tail | exact se_done rfl))); intro b w hI hs
        refine dt 10 hX (k := ?_)
        repeat' (first|(refine stA hs (k:=?_);intro w hs)|refine Nx.h ?_|fail)
        refine dn (k := ?_)
        refine tk 11 hX (k := ?_)
        refine en (k := ?_)
        repeat' (first|refine vs (k:=?_)|(refine stA hs (k:=?_);intro w hs)|refine qRg ?_|refine Nx.h ?_|refine qCf ?_|fail)
        exact loopS_next (i + 1, out + sizeW x + 2) (by show xs.length - (i + 1) < xs.length - i; omega) (by (repeat (first | exact agree_nil | (apply agree_cons; first | exact rfl | exact congrArg (Value.int .i64) ei)))) ⟨by show i + 1 ≤ xs.length; omega, hca, hA3, by show 0 ≤ out + sizeW x + 2; omega, hs.forgetNew.forgetNew.forgetNew⟩
      · have hA3 : ¬ InW (out + sizeW x + 2) := fun h => by
          have : j = 0 ∨ j = 1 ∨ j = 2 ∨ j = 3 := by simp at hj; omega
          rcases this with rfl | rfl | rfl | rfl
          · rw [p0] at hn; exact hn inW_zero
          · rw [p1] at hn; exact hn ho1
          · rw [p2] at hn; apply hn; unfold InW at *; omega
          · rw [p3] at hn; exact hn h
        rw [show caF out (x :: xs.drop (i + 1)) = great from if_neg hA3] at hca
        repeat' (first|refine Nx.h ?_|fail)
        refine dn (k := ?_)
        refine tk 6 hX (hc := by cases f <;> kernel_rfl) (k := ?_)
        refine tk 7 hX (hc := by cases f <;> kernel_rfl) (k := ?_)
        refine tk 8 hX (hc := by cases f <;> kernel_rfl) (k := ?_)
        apply xa_pendE 9 (f := f) (X := X) hX hp; exact rfl; (first | (apply makes_alloc tabOk; exact rfl) | (apply makes_slice tabOk; exact rfl; exact rfl; exact rfl; exact rfl; exact rfl; (intro X; ((repeat (first | exact Bld.nil | (apply Bld.one; exact rfl; (conv => lhs; whnf); exact rfl; (repeat (first | exact PutL.nil | apply PutL.skip | apply PutL.cons))) | (apply Bld.agg; exact rfl; exact rfl; exact rfl; (repeat (first | exact PutL.nil | apply PutL.skip | apply PutL.cons))))))))); kernel_rfl; kernel_rfl; (intro X Y; (repeat (first | exact pgg_base | refine pgg_step ?_ (by exact rfl)))); (intro w' hs; ((first | exact se_hold hs.hold | exact se_hold (hold_sim hs.hold rfl) | exact se_hold (hold_sim hs.hold.tail rfl) | exact se_hold (hR hs rfl) | exact se_hold hs.hold.tail | exact se_hold hs.hold.tail.tail | exact se_hold hs.hold.tail.tail.tail | exact se_done rfl))); intro b w hI hs
        refine dt 10 hX (k := ?_)
        repeat' (first|(refine stA hs (k:=?_);intro w hs)|refine Nx.h ?_|fail)
        refine dn (k := ?_)
        refine tk 11 hX (k := ?_)
        refine en (k := ?_)
        repeat' (first|refine vs (k:=?_)|refine qRg ?_|refine Nx.h ?_|refine qCt ?_|fail)
        (with_reducible apply xs_call); exact rfl; exact rfl; exact greatest_ret _
        rintro v w' ⟨rfl, ho⟩; replace hs := hs.call0 ho; repeat' (first|(refine stA hs (k:=?_);intro w hs)|refine Nx.h ?_|fail)
        first | refine rt (hq := ?_) | refine rt' (hq := ?_)
        refine ⟨?_, hs.only0 rfl⟩
        rw [hca]; rfl
    · have hc' : ¬ ((i : Int) < xs.length) := hc
      have e : i = xs.length := by omega
      rw [e, List.drop_length] at hca
      have e2 : caF 0 xs = out := hca
      exact cutB_exit () (by (repeat (first | exact agree_nil | (apply agree_cons; exact rfl)))) (by rw [e2]; exact hs)
  · rintro _ env w hs
    repeat' (first|refine vs (k:=?_)|(refine stA hs (k:=?_);intro w hs)|refine qRg ?_|refine Nx.h ?_|fail)
    first | refine rt (hq := ?_) | refine rt' (hq := ?_)
    exact ⟨rfl, hs.only0 rfl⟩
end Go.Proofs.YtilajmcellffiaaGreatDoorX

namespace Go.Proofs.YtilajmcellffiaaGreatDoorX
open Go Go.RowKit
abbrev strV (l : List UInt8) : Value := .string ⟨l.toArray⟩
section
variable {P : Program} {env : Env} {w : World} {d : Option Nat} {ty : Nat} {pos : String} {aft : Array Edge} {g : Option (Nat × Bool)}
theorem r_addS {t t' : Nat} {x y : Operand} {a b : List UInt8} (hx : ev env x = strV a) (hy : ev env y = strV b) (hl : a.length + b.length ≤ 9223372036854775807) :
    (execOp (ev env) (⟨d, .binOp .add t x y t', ty, pos, aft, g⟩ : Oper)).run P w = .ok (.value (strV (a ++ b))) w := by
  have e : (⟨a.toArray⟩ : ByteArray) ++ ⟨b.toArray⟩ = ⟨(a ++ b).toArray⟩ := ByteArray.ext (by rw [ByteArray.data_append]; simp)
  simp [execOp, hx, hy, eqGuard, binOp, Sem.run_bind, Op.stringOp, e]
  have h1 : ByteArray.size ⟨a.toArray⟩ = a.length := rfl
  have h2 : ByteArray.size ⟨b.toArray⟩ = b.length := rfl
  rw [h1, h2]
  omega
theorem r_lenStr {x : Operand} {t : Nat} {ats : Array TypeId} {a : List UInt8} (hat : ats[0]? = some t) (hu : P.underlying t = some .string) (hx : ev env x = strV a) :
    (execOp (ev env) (⟨d, .call { callee := .builtin .len, args := #[x], argTypes := ats }, ty, pos, aft, g⟩ : Oper)).run P w = .ok (.value (.int .i64 a.length)) w := by
  simp [execOp, resolve, Sem.run_bind, invoke, builtin, Builtin.len_, hat, hx, run_underlying' hu, goInt]
  rfl
theorem r_eqStr {t t' : Nat} {x y : Operand} {a b : List UInt8} (hu : P.underlying t = some .string) (hx : ev env x = strV a) (hy : ev env y = strV b) :
    (execOp (ev env) (⟨d, .binOp .eql t x y t', ty, pos, aft, g⟩ : Oper)).run P w = .ok (.value (.bool (decide (a = b)))) w := by
  have e : ((⟨a.toArray⟩ : ByteArray).toList == (⟨b.toArray⟩ : ByteArray).toList) = decide (a = b) := by
    rw [ByteArray.toList_eq, ByteArray.toList_eq]
    show (a == b) = decide (a = b)
    by_cases h : a = b
    · subst h; simp
    · rw [decide_eq_false h]; simp [h]
  have e0 : (a == b) = decide (a = b) := by
    by_cases h : a = b
    · subst h; simp
    · rw [decide_eq_false h]; simp [h]
  simp [execOp, hx, hy, eqGuard, binOp, Sem.run_bind, Op.stringOp, e]
  exact e0
theorem r_idxStr {t : Nat} {x y : Operand} {a : List UInt8} {kk : IntKind} {i : Nat} {b : UInt8} (hu : P.underlying t = some .string) (hx : ev env x = strV a) (hy : ev env y = .int kk (i : Nat)) (hb : a[i]? = some b) :
    (execOp (ev env) (⟨d, .index t x y, ty, pos, aft, g⟩ : Oper)).run P w = .ok (.value (.int .u8 (b.toNat : Nat))) w := by
  have h : (⟨a.toArray⟩ : ByteArray)[i]? = some b := by
    have hlt : i < a.length := (List.getElem?_eq_some_iff.1 hb).1
    have he := (List.getElem?_eq_some_iff.1 hb).2
    rw [getElem?_pos (⟨a.toArray⟩ : ByteArray) i (show i < a.toArray.size by simpa using hlt)]
    exact congrArg some he
  simp [execOp, hx, hy, Instr.index, asIntOf, Sem.run_bind, run_underlying' hu, h]
theorem r_tailStr {t l : Nat} {x lo : Operand} {a : List UInt8} {kk : IntKind} (hu : P.underlying t = some .string) (hx : ev env x = strV a) (hlo : ev env lo = .int kk (l : Nat)) (hl : l ≤ a.length) :
    (execOp (ev env) (⟨d, .slice t x (some lo) none none, ty, pos, aft, g⟩ : Oper)).run P w = .ok (.value (strV (a.drop l))) w := by
  have h1 : ByteArray.size ⟨a.toArray⟩ = a.length := rfl
  have h2 : (⟨a.toArray⟩ : ByteArray).extract l a.length = ⟨(a.drop l).toArray⟩ := ByteArray.ext (by
    rw [ByteArray.data_extract]
    simp
    exact List.take_of_length_le (by simp))
  simp [execOp, Instr.sliceAt, Sem.run_bind, run_underlying' hu, hx, Instr.slice, Instr.sliceBounds, h1, bound_some hlo hl, h2]
end
end Go.Proofs.YtilajmcellffiaaGreatDoorX

namespace Go.Proofs.YtilajmcellffiaaGreatDoorX
open Go Go.RowKit
attribute [local irreducible] XS XC XA thenE blockE retE loopE loopS cutB cutN doneE SE
theorem Only.on {w0 w w' : World} (h : Only [] w0 w) (k : Only [] w w') : Only [] w0 w' := h.trans k
theorem string_ty : Tryz.prog.underlying 9 = some .string := by kernel_rfl
def trimZ : List UInt8 → List UInt8
  | a :: b :: l => if a = 48 then trimZ (b :: l) else a :: b :: l
  | l => l
theorem trimZ_short {l : List UInt8} (h : l.length ≤ 1) : trimZ l = l := by
  match l, h with
  | [], _ => rfl
  | [a], _ => rfl
set_option maxHeartbeats 1000000 in
theorem wideTrim_ret (l : List UInt8) (w0 : World) : Ret Tryz.prog 261 #[strV l] w0 fun v w' => v = strV (trimZ l) ∧ Only [] w0 w' := by
  have hs := St.nil w0
  refine ret_of_xc Tryz.func261 (by kernel_rfl) rfl Tryz.ntmps261 rfl rfl rfl ?_
  repeat' (first|refine vs (k:=?_)|refine qRg ?_|refine Nx.h ?_|fail)
  refine xc_cutB (fun s : List UInt8 => [(0, strV s)]) (fun s w => s = trimZ l ∧ Only [] w0 w) ?_ ?_
  · refine xc_loopS (fun (s : List UInt8) => [(0, strV s)]) (fun s w => trimZ s = trimZ l ∧ Only [] w0 w) (fun s => s.length) l (by (repeat (first | exact agree_nil | (apply agree_cons; exact rfl)))) ⟨rfl, hs.only0 rfl⟩ fun s env w ⟨h1, ho⟩ => ?_
    clear hs
    have hs := St.nil w
    repeat' (first|refine Nx.h ?_|fail)
    refine xc_region ?_ ?_; exact rfl
    refine vs (k := ?_)
    refine xs_val rfl (r_lenStr rfl string_ty rfl) ?_
    refine vs (k := ?_)
    match s, h1 with
    | [], h1 =>
      refine xs_set 5 (v := .bool false) (congrArg Value.bool rfl) ?_
      repeat' (first|refine vs (k:=?_)|refine ps (k:=?_)|refine Nx.h ?_|refine qCf ?_|fail)
      exact cutB_exit [] (by (repeat (first | exact agree_nil | (apply agree_cons; exact rfl)))) ⟨h1, ho.on (hs.only0 rfl)⟩
    | [a], h1 =>
      refine xs_set 5 (v := .bool false) (congrArg Value.bool rfl) ?_
      repeat' (first|refine vs (k:=?_)|refine ps (k:=?_)|refine Nx.h ?_|refine qCf ?_|fail)
      exact cutB_exit [a] (by (repeat (first | exact agree_nil | (apply agree_cons; exact rfl)))) ⟨h1, ho.on (hs.only0 rfl)⟩
    | a :: b :: s, h1 =>
      refine xs_set 5 (v := .bool true) (congrArg Value.bool (decide_eq_true (by simp only [List.length_cons]; omega))) ?_
      refine vs (k := ?_)
      refine vs (k := ?_)
      refine xs_val rfl (r_idxStr (i := 0) (b := a) string_ty rfl rfl rfl) ?_
      repeat' (first|refine vs (k:=?_)|refine qRg ?_|refine Nx.h ?_|(refine xc_if rfl (fun hc=>?_) (fun hc=>?_))|fail)
      · have e : a = 48 := by
          have h : (a.toNat : Int) = 48 := by simpa using hc
          exact UInt8.toNat_inj.1 (by have : a.toNat = 48 := by omega
                                      rw [this]; rfl)
        refine xs_val rfl (r_tailStr (l := 1) string_ty rfl rfl (by simp)) ?_
        repeat' (first|refine vs (k:=?_)|refine Nx.h ?_|fail)
        refine loopS_next (b :: s) (by simp) (by (repeat (first | exact agree_nil | (apply agree_cons; exact rfl)))) ⟨?_, ho.on (hs.only0 rfl)⟩
        rw [← h1, e]
        rfl
      · have e : a ≠ 48 := fun e => by subst e; simp at hc
        refine cutB_exit (a :: b :: s) (by (repeat (first | exact agree_nil | (apply agree_cons; exact rfl)))) ⟨?_, ho.on (hs.only0 rfl)⟩
        rw [← h1]
        simp [trimZ, e]
  · clear hs
    rintro s env w ⟨rfl, ho⟩
    have hs := St.nil w
    repeat' (first|refine vs (k:=?_)|refine qRg ?_|refine Nx.h ?_|fail)
    first | refine rt (hq := ?_) | refine rt' (hq := ?_)
    exact ⟨rfl, ho.on (hs.only0 rfl)⟩
end Go.Proofs.YtilajmcellffiaaGreatDoorX

namespace Go.Proofs.YtilajmcellffiaaGreatDoorX
open Go Go.Shelf Go.RowKit Go.Sort Go.Lib
theorem holds_zero0 (w : World) (T : TypeId) (nd : Nat) (hs : nd ≤ 24) : Holds (fun (b : UInt8) => Value.int .u8 (b.toNat : Int)) (w.alloc (.cells zeros24 T)) w.heap.size 0 (Array.replicate nd (0 : UInt8)) := by
  intro j hj
  have hj' : j < nd := by simpa using hj
  refine ⟨?_, World.frozen?_alloc_new _ _ _ _⟩
  rw [World.cell?_alloc_new, Nat.zero_add, zeros24_at j (by omega)]
  simp [hj']
theorem fin0 (w : World) (o : Obj) (dk : Array UInt8) (k : Nat) : ∃ os, (putRow (fun (b : UInt8) => Value.int .u8 (b.toNat : Int)) (w.alloc o) w.heap.size 0 dk).drewN k = grow (w.drewN k) os := by
  rw [alloc_eq_grow]
  obtain ⟨os', _, e⟩ := putRow_grow_new (fun (b : UInt8) => Value.int .u8 (b.toNat : Int)) w #[o] w.heap.size 0 dk (Nat.le_refl _)
  exact ⟨os', by rw [e]; rfl⟩
set_option maxHeartbeats 6400000 in
theorem fmt_small (u : Nat) (hu : u < 100) (w : World) : Calls Tryz.prog 266 #[.int .u64 (u : Int), .int .i64 10] w fun e w' => e = .returned (.string ⟨(Lib.decDigits u).toArray⟩) ∧ ∃ k os, w' = grow (w.drewN k) os := by
  go_enter Tryz.func266, Tryz.ntmps266
  go_wp2_with (go_at_call 269; refine (Any.internal_strconv_small Tryz.laysSmall u hu _).mono ?_; rintro e w' ⟨rfl, rfl⟩)
  go_ret
  exact ⟨rfl, 0, #[], by simp [World.drewN_zero]⟩
set_option maxHeartbeats 6400000 in
theorem fmt_big (u : Nat) (h100 : 100 ≤ u) (hu64 : u < 18446744073709551616) (w : World) (htab : Lib.TabIs Tryz.prog w "internal/strconv.uint64pow10" .u64 Lib.pow10Tab) : Calls Tryz.prog 266 #[.int .u64 (u : Int), .int .i64 10] w fun e w' => e = .returned (.string ⟨(Lib.decDigits u).toArray⟩) ∧ ∃ k os, w' = grow (w.drewN k) os := by
  have hu1 : 1 ≤ u := by omega
  have hnd20 : Lib.nDigits u ≤ 20 := by have := Lib.numDigits_eq u hu1 hu64; split at this <;> omega
  have hb4 : Lib.nDigits u ≤ 24 := by omega
  have hal : Tryz.prog.arrayLen 305 = 24 := by kernel_rfl
  have hsl : ∀ W, (Instr.sliceAt 305 (.pointer (some ⟨w.heap.size, 0, none⟩)) none (some (.int .i64 (Lib.nDigits u : Int))) none).run Tryz.prog W = .ok (.slice (some ⟨w.heap.size, 0, none⟩) (Lib.nDigits u) 24) W := fun W => by
    rw [run_sliceAt_array_h W 305 ⟨w.heap.size, 0, none⟩ (by kernel_rfl) .i64 (Lib.nDigits u : Int) (by omega) (by rw [hal]; omega)]
    rw [hal]
    have e5 : Tryz.prog.elem 305 = 5 := by kernel_rfl
    rw [e5]
    go_simp
    try omega
  have hH0 := holds_zero0 w 305 (Lib.nDigits u) hb4
  have hfmt := Any.internal_strconv_formatBase10 Tryz.laysBase w.heap.size 0 24 u (Array.replicate (Lib.nDigits u) 0) (w.alloc (.cells Lib.zeros24 305)) hH0 (by rw [Array.size_replicate]; exact Lib.lt_pow_nDigits u) hu64 (by rw [Array.size_replicate]; omega)
  rw [Array.size_replicate] at hfmt
  have HH0 := Lib.hid hH0
  clear hH0 hal
  go_enter Tryz.func266, Tryz.ntmps266
  go_wp2_with (first
    | (go_at_call 270; refine (Any.internal_strconv_numDigits Tryz.laysDigits u hu1 hu64 _ (Lib.tabIs_alloc htab _)).mono ?_; rintro e w' ⟨rfl, rfl⟩))
  refine hfmt.mono ?_
  rintro e w' ⟨rfl, k, v', dk, rfl, hF⟩
  have hcv : (convert 56 9 (.slice (some ⟨w.heap.size, 0, none⟩) (Lib.nDigits u) 24)).run Tryz.prog ((putRow (fun (b : UInt8) => Value.int .u8 (b.toNat : Int)) (w.alloc (.cells Lib.zeros24 305)) w.heap.size 0 dk).drewN k) = .ok (.string ⟨(Lib.decDigits u).toArray⟩) ((putRow (fun (b : UInt8) => Value.int .u8 (b.toNat : Int)) (w.alloc (.cells Lib.zeros24 305)) w.heap.size 0 dk).drewN k) := by
    have h := run_convert_bytes_back (P := Tryz.prog) ((putRow (fun (b : UInt8) => Value.int .u8 (b.toNat : Int)) (w.alloc (.cells Lib.zeros24 305)) w.heap.size 0 dk).drewN k) 56 9 5 ⟨w.heap.size, 0, none⟩ 24 (Lib.decDigits u) (by kernel_rfl) (by kernel_rfl) (by kernel_rfl) (fun j hj => by
      rw [Lib.row_is_numeral hF j hj, Lib.add_plain, World.cell?_drewN]
      exact cell?_putRow (fun (b : UInt8) => Value.int .u8 (b.toNat : Int)) _ w.heap.size 0 _ dk HH0.out (by rw [hF.size, Array.size_replicate]) j (by rw [hF.size]; rw [Lib.decDigits_length] at hj; exact hj))
    rw [Lib.decDigits_length] at h
    exact h
  go_wp2
  go_ret
  obtain ⟨os, eo⟩ := fin0 w (.cells Lib.zeros24 305) dk k
  exact ⟨rfl, k, os, eo⟩
end Go.Proofs.YtilajmcellffiaaGreatDoorX

namespace Go.Proofs.YtilajmcellffiaaGreatDoorX
open Go Go.RowKit Go.Sort Go.Lib
attribute [local irreducible] XS XC XA thenE blockE retE loopE loopS cutB cutN doneE SE
theorem ret_of_calls {P : Program} {f : FuncId} {args : Array Value} {w : World} {Q : Value → World → Prop} (he : entersB P f = true) (h : Calls P f args w fun e w' => ∃ v, e = .returned v ∧ Q v w') : Ret P f args w Q := .inl ⟨enters_run he args w, h⟩
abbrev Pows (w : World) : Prop := Lib.TabIs Tryz.prog w "internal/strconv.uint64pow10" .u64 Lib.pow10Tab
theorem tab_only {w w' : World} (h : Pows w) (ho : Only [] w w') : Pows w' := by
  unfold Pows TabIs World.var? at *
  cases hg : Tryz.prog.globalNamed "internal/strconv.uint64pow10" with
  | none => simp [hg] at h
  | some g =>
    simp only [hg, Option.bind_some] at h ⊢
    have hlt : g < w.heap.size := by
      rcases Nat.lt_or_ge g w.heap.size with h' | h'
      · exact h'
      · rw [Array.getElem?_eq_none h'] at h; simp at h
    rw [ho.frame g hlt (by simp)]
    exact h
theorem grow_only (w : World) (k : Nat) (os : Array Obj) : Only [] w (grow (w.drewN k) os) :=
  ⟨rfl, rfl, rfl, by show w.heap.size ≤ (w.heap ++ os).size; rw [Array.size_append]; exact Nat.le_add_right _ _, fun i hi _ => by show (w.heap ++ os)[i]? = _; rw [Array.getElem?_append_left hi]⟩
theorem fmtIn_ret (u : Nat) (hu : u < 18446744073709551616) (w0 : World) (ht : Pows w0) : Ret Tryz.prog 266 #[.int .u64 (u : Int), .int .i64 10] w0 fun v w' => v = .string ⟨(Lib.decDigits u).toArray⟩ ∧ Only [] w0 w' := by
  refine ret_of_calls (by kernel_rfl) ?_
  by_cases h : u < 100
  · exact (fmt_small u h w0).mono fun e w' ⟨he, k, os, hw⟩ => ⟨_, he, rfl, hw ▸ grow_only w0 k os⟩
  · exact (fmt_big u (by omega) hu w0 ht).mono fun e w' ⟨he, k, os, hw⟩ => ⟨_, he, rfl, hw ▸ grow_only w0 k os⟩
theorem fmt_ret (u : Nat) (hu : u < 18446744073709551616) (w0 : World) (ht : Pows w0) : Ret Tryz.prog 260 #[.int .u64 (u : Int), .int .i64 10] w0 fun v w' => v = .string ⟨(Lib.decDigits u).toArray⟩ ∧ Only [] w0 w' := by
  have hs := St.nil w0
  refine ret_of_xc Tryz.func260 (by kernel_rfl) rfl Tryz.ntmps260 rfl rfl rfl ?_
  repeat' (first|refine vs (k:=?_)|refine qRg ?_|refine Nx.h ?_|fail)
  (with_reducible apply xs_call); exact rfl; exact rfl; exact fmtIn_ret u hu _ (tab_only ht (hs.only0 rfl))
  rintro v w' ⟨rfl, ho⟩; replace hs := hs.call0 ho; repeat' (first|refine vs (k:=?_)|refine Nx.h ?_|fail)
  first | refine rt (hq := ?_) | refine rt' (hq := ?_)
  exact ⟨rfl, hs.only0 rfl⟩
end Go.Proofs.YtilajmcellffiaaGreatDoorX

namespace Go.Proofs.YtilajmcellffiaaGreatDoorX
open Go Go.Lib
def DigS (l : List UInt8) : Prop := ∀ b ∈ l, 48 ≤ b.toNat ∧ b.toNat ≤ 57
def valS (l : List UInt8) : Nat := l.foldl (fun n b => 10 * n + (b.toNat - 48)) 0
theorem valS_snoc (l : List UInt8) (b : UInt8) : valS (l ++ [b]) = 10 * valS l + (b.toNat - 48) := by simp [valS, List.foldl_append]
theorem foldl_val (l : List UInt8) : ∀ n : Nat, l.foldl (fun n b => 10 * n + (b.toNat - 48)) n = 10 ^ l.length * n + valS l := by
  induction l with
  | nil => intro n; simp [valS]
  | cons a l ih =>
    intro n
    simp only [List.foldl_cons, valS]
    rw [ih, ih (10 * 0 + (a.toNat - 48))]
    simp only [List.length_cons, Nat.pow_succ]
    rw [Nat.mul_add, Nat.mul_zero, Nat.zero_add, Nat.add_assoc, ← Nat.mul_assoc, Nat.mul_assoc (10 ^ l.length)]
theorem valS_append (a b : List UInt8) : valS (a ++ b) = 10 ^ b.length * valS a + valS b := by
  unfold valS
  rw [List.foldl_append, foldl_val b]
  rfl
theorem valS_cons (a : UInt8) (l : List UInt8) : valS (a :: l) = 10 ^ l.length * (a.toNat - 48) + valS l := by
  have := valS_append [a] l
  simpa [valS] using this
theorem byte_ext {a b : UInt8} (h : a.toNat = b.toNat) : a = b := UInt8.toNat_inj.1 h
theorem digs_eq : ∀ (n : Nat) (l : List UInt8), l.length = n + 1 → DigS l → (l.length = 1 ∨ l.head? ≠ some 48) → l = decDigits (valS l)
  | 0, l, hl, hd, _ => by
    obtain ⟨a, rfl⟩ := List.length_eq_one_iff.1 hl
    have h := hd a (by simp)
    have hv : valS [a] = a.toNat - 48 := by simp [valS]
    rw [hv, decDigits_one (by omega)]
    congr 1
    apply byte_ext
    rw [show 48 + (a.toNat - 48) = a.toNat by omega]
    simp
  | n + 1, l, hl, hd, hc => by
    obtain ⟨m, d, rfl⟩ : ∃ m d, l = m ++ [d] := by
      refine ⟨l.dropLast, l.getLast (by intro h; rw [h] at hl; cases hl), (List.dropLast_concat_getLast _).symm⟩
    have hml : m.length = n + 1 := by simpa using hl
    have hmd : DigS m := fun b hb => hd b (List.mem_append_left _ hb)
    have hdd := hd d (by simp)
    have hh : m.head? ≠ some 48 := by
      rcases hc with hc | hc
      · simp at hc; rw [hc] at hml; cases hml
      · rw [List.head?_append] at hc
        cases m with
        | nil => cases hml
        | cons a m => simpa using hc
    have ih := digs_eq n m hml hmd (.inr hh)
    have hpos : 1 ≤ valS m := by
      cases m with
      | nil => cases hml
      | cons a m =>
        have ha := hmd a (by simp)
        have hne : a.toNat ≠ 48 := fun e => hh (by simp; exact byte_ext e)
        rw [valS_cons]
        have : 1 ≤ 10 ^ m.length * (a.toNat - 48) := Nat.mul_pos (Nat.pow_pos (by decide)) (by omega)
        omega
    rw [valS_snoc, decDigits, dif_neg (by omega)]
    have e1 : (10 * valS m + (d.toNat - 48)) / 10 = valS m := by omega
    have e2 : (10 * valS m + (d.toNat - 48)) % 10 = d.toNat - 48 := by omega
    rw [e1, e2, ← ih]
    congr 2
    apply byte_ext
    rw [show 48 + (d.toNat - 48) = d.toNat by omega]
    simp
theorem trimZ_digs : ∀ (l : List UInt8), l ≠ [] → DigS l → trimZ l = decDigits (valS l)
  | [], h, _ => absurd rfl h
  | [a], _, hd => digs_eq 0 [a] rfl hd (.inl rfl)
  | a :: b :: l, _, hd => by
    by_cases e : a = 48
    · subst e
      rw [show trimZ (48 :: b :: l) = trimZ (b :: l) by simp [trimZ], valS_cons]
      rw [trimZ_digs (b :: l) (by simp) (fun x hx => hd x (List.mem_cons_of_mem _ hx))]
      simp
    · rw [show trimZ (a :: b :: l) = a :: b :: l by simp [trimZ, e]]
      exact digs_eq (l.length + 1) _ (by simp) hd (.inr (by simpa using e))
end Go.Proofs.YtilajmcellffiaaGreatDoorX

namespace Go.Proofs.YtilajmcellffiaaGreatDoorX
open Go Go.RowKit Go.Lib
attribute [local irreducible] XS XC XA thenE blockE retE loopE loopS cutB cutN doneE SE
theorem digS_dec : ∀ u : Nat, DigS (decDigits u) := by
  intro u
  induction u using Nat.strongRecOn with
  | _ u ih =>
    intro b hb
    rw [decDigits] at hb
    split at hb
    · obtain rfl := List.mem_singleton.1 hb
      have : (UInt8.ofNat (48 + u)).toNat = 48 + u := by simp; omega
      omega
    · rcases List.mem_append.1 hb with hb | hb
      · exact ih (u / 10) (by omega) b hb
      · obtain rfl := List.mem_singleton.1 hb
        have : (UInt8.ofNat (48 + u % 10)).toNat = 48 + u % 10 := by simp; omega
        omega
theorem valS_dec : ∀ u : Nat, valS (decDigits u) = u := by
  intro u
  induction u using Nat.strongRecOn with
  | _ u ih =>
    rw [decDigits]
    split
    · have : (UInt8.ofNat (48 + u)).toNat = 48 + u := by simp; omega
      simp only [valS, List.foldl_cons, List.foldl_nil]
      omega
    · have : (UInt8.ofNat (48 + u % 10)).toNat = 48 + u % 10 := by simp; omega
      rw [valS_snoc, ih (u / 10) (by omega)]
      omega
theorem dec_ne (u : Nat) : decDigits u ≠ [] := fun h => by have := decDigits_length u; rw [h] at this; have := nDigits_pos u; simp at *; omega
theorem valS_nought (l : List UInt8) : valS (48 :: l) = valS l := by rw [valS_cons]; simp
theorem digS_cons {a : UInt8} {l : List UInt8} (h1 : 48 ≤ a.toNat ∧ a.toNat ≤ 57) (h : DigS l) : DigS (a :: l) := fun b hb => by
  rcases List.mem_cons.1 hb with rfl | hb
  · exact h1
  · exact h b hb
theorem digS_append {a b : List UInt8} (h : DigS a) (k : DigS b) : DigS (a ++ b) := fun x hx => by
  rcases List.mem_append.1 hx with hx | hx
  · exact h x hx
  · exact k x hx
theorem dec_len18 {u : Nat} (h : u < 1000000000000000000) : (decDigits u).length ≤ 18 := by
  rw [decDigits_length]
  rcases Nat.lt_or_ge 18 (nDigits u) with h1 | h1
  · rcases Nat.eq_zero_or_pos u with rfl | hu
    · rw [nDigits_small (by decide)] at h1; omega
    · exfalso
      have key : ∀ (n u : Nat), nDigits u = n + 1 → 0 < u → 10 ^ n ≤ u := by
        intro n
        induction n with
        | zero => intro u _ h; rw [Nat.pow_zero]; exact h
        | succ n ih =>
          intro u h1 h2
          have hb : ¬ u < 10 := fun h => by rw [nDigits_small h] at h1; omega
          rw [nDigits_big hb] at h1
          have := ih (u / 10) (by omega) (by omega)
          rw [Nat.pow_succ]
          omega
      obtain ⟨n, hn⟩ : ∃ n, nDigits u = n + 1 := ⟨nDigits u - 1, by omega⟩
      have h2 := key n u hn hu
      have h3 : 10 ^ 18 ≤ 10 ^ n := Nat.pow_le_pow_right (by decide) (by omega)
      have h4 : (10 : Nat) ^ 18 = 1000000000000000000 := by decide
      omega
  · exact h1
end Go.Proofs.YtilajmcellffiaaGreatDoorX

namespace Go.Proofs.YtilajmcellffiaaGreatDoorX
open Go Go.RowKit Go.Lib
attribute [local irreducible] XS XC XA thenE blockE retE loopE loopS cutB cutN doneE SE
def textOf (x : Int) : List UInt8 := (if x < 0 then [45] else []) ++ decDigits x.natAbs
structure Txt (n m : Nat) (s : List UInt8) : Prop where
  dig : DigS s
  val : 10 ^ s.length * m + valS s = n
  len : s.length ≤ 60
  le : m ≤ n
theorem txt_len {n m : Nat} {s : List UInt8} (h : Txt n m s) (hm : 0 < m) (hn : n < 340282366920938463463374607431768211456) : s.length ≤ 38 := by
  rcases Nat.lt_or_ge 38 s.length with h1 | h1
  · exfalso
    have h2 : 10 ^ 39 ≤ 10 ^ s.length := Nat.pow_le_pow_right (by decide) h1
    have h3 : 10 ^ s.length ≤ 10 ^ s.length * m := Nat.le_mul_of_pos_right _ hm
    have h4 := h.val
    have h5 : (10 : Nat) ^ 39 = 1000000000000000000000000000000000000000 := by decide
    omega
  · exact h1
theorem txt_next {n m : Nat} {s p : List UInt8} (h : Txt n m s) (hm : 0 < m) (hn : n < 340282366920938463463374607431768211456) (hp : DigS p) (hl : p.length = 18) (hv : valS p = m % 1000000000000000000) : Txt n (m / 1000000000000000000) (p ++ s) := by
  refine ⟨digS_append hp h.dig, ?_, ?_, Nat.le_trans (Nat.div_le_self _ _) h.le⟩
  · rw [valS_append, List.length_append, hl, hv, Nat.pow_add]
    have h1 := h.val
    have h2 : m = 1000000000000000000 * (m / 1000000000000000000) + m % 1000000000000000000 := (Nat.div_add_mod m _).symm
    rw [← h1]
    have e : (10 : Nat) ^ 18 = 1000000000000000000 := by decide
    rw [e]
    generalize 10 ^ s.length = T at *
    generalize valS s = v at *
    generalize hq : m / 1000000000000000000 = q at *
    generalize hr : m % 1000000000000000000 = r at *
    rw [h2]
    rw [Nat.mul_add, ← Nat.add_assoc]
    congr 2
    rw [Nat.mul_comm T, Nat.mul_assoc, Nat.mul_assoc, Nat.mul_comm T q, Nat.mul_comm q T]
  · have := txt_len h hm hn
    rw [List.length_append, hl]
    omega
theorem txt_end {n m : Nat} {s : List UInt8} (h : Txt n m s) : DigS (decDigits m ++ s) ∧ valS (decDigits m ++ s) = n ∧ decDigits m ++ s ≠ [] :=
  ⟨digS_append (digS_dec m) h.dig, by rw [valS_append, valS_dec]; exact h.val, fun e => dec_ne m (List.append_eq_nil_iff.1 e).1⟩
end Go.Proofs.YtilajmcellffiaaGreatDoorX
