/- A part of the proof: what its functions compute. -/
import Derived.Test.YtilajmcellffiaaGreatDoorA3
set_option linter.unusedVariables false
set_option linter.unusedSimpArgs false
set_option maxRecDepth 100000
namespace Go.Proofs.YtilajmcellffiaaGreatDoorX
open Go Go.RowKit
attribute [local irreducible] XS XC XA thenE blockE retE loopE loopS cutB cutN doneE SE
def ints (xs : List Int) : List Value := xs.map (Value.int .i64)
theorem ints_snoc (xs : List Int) (d : Int) : ints xs ++ [.int .i64 d] = ints (xs ++ [d]) := by simp [ints]
theorem own_dat {wb : World} {v : Value} {n : Nat} {xs : List Int} {H : List Ent} {w : World} {D : Ctx} (h : OwnS wb D H 3 1 v n (ints xs) w) (hn : n = xs.length) : DAt w v xs := by
  subst hn
  rcases h with ⟨rfl, h0, hx, hs⟩ | ⟨g, cap, cur, rfl, hc, hl, hxl, ht, hs⟩
  · have : xs = [] := by simpa using h0
    subst this
    exact ⟨none, 0, rfl, fun h => absurd rfl h⟩
  · refine ⟨_, cap, rfl, fun _ => ⟨g, 0, cur, (0, 0), rfl, hc, hs.get At.head, fun i d hi => ?_⟩⟩
    have h1 : (ints xs)[i]? = some (.int .i64 d) := by simp [ints, hi]
    rw [← ht, List.getElem?_take] at h1
    split at h1
    · simpa using h1
    · cases h1
theorem OwnS.st {wb : World} {v : Value} {n k e : Nat} {xs : List Value} {H : List Ent} {w : World} {D : Ctx} (h : OwnS wb D H e k v n xs w) : St wb D H w := by
  rcases h with ⟨_, _, _, hs⟩ | ⟨g, cap, cur, _, _, _, _, _, hs⟩
  · exact hs
  · exact hs.forgetNew
structure Plus (A B xs : List Int) (i : Nat) (c : Int) : Prop where
  len : xs.length = i
  ok : DOk xs
  c0 : 0 ≤ c
  c1 : c ≤ 1
  le : i ≤ max A.length B.length + 1
  last : max A.length B.length < i → c = 0
  sum : valD xs + 10000 ^ i * c = valD (A.take i) + valD (B.take i)
theorem plus_next {A B xs : List Int} {i : Nat} {c : Int} (hA : DOk A) (hB : DOk B) (h : Plus A B xs i c) (hgo : i < A.length ∨ i < B.length ∨ 0 < c) :
    Plus A B (xs ++ [(dig A i + dig B i + c) % 10000]) (i + 1) ((dig A i + dig B i + c) / 10000) := by
  obtain ⟨h1, h2, h3, h4, h5, h6, h7⟩ := h
  have a1 := dig_rng hA i
  have b1 := dig_rng hB i
  refine ⟨by simp [h1], h2.snoc (by omega) (by omega), by omega, by omega, by omega, fun hl => ?_, ?_⟩
  · have : max A.length B.length ≤ i := by omega
    rw [dig_ge (show A.length ≤ i by omega), dig_ge (show B.length ≤ i by omega)]
    omega
  · rw [valD_snoc, h1, valD_take, valD_take, Int.pow_succ]
    have e := Int.mul_ediv_add_emod (dig A i + dig B i + c) 10000
    generalize (dig A i + dig B i + c) / 10000 = q at *
    generalize (dig A i + dig B i + c) % 10000 = r at *
    have : (10000 : Int) ^ i * r + 10000 ^ i * 10000 * q = 10000 ^ i * (dig A i + dig B i + c) := by rw [← e]; grind
    have e3 : (10000 : Int) ^ i * (dig A i + dig B i + c) = 10000 ^ i * dig A i + 10000 ^ i * dig B i + 10000 ^ i * c := by grind
    omega
theorem plus_end {A B xs : List Int} {i : Nat} {c : Int} (h : Plus A B xs i c) (h1 : A.length ≤ i) (h2 : B.length ≤ i) (h3 : ¬ 0 < c) : valD xs = valD A + valD B := by
  have hs := h.sum
  have hc : c = 0 := by have := h.c0; omega
  rw [hc, List.take_of_length_le h1, List.take_of_length_le h2] at hs
  simpa using hs
set_option maxHeartbeats 1000000 in
theorem plus_ret (na nb : Bool) (sa sb : Value) (A B : List Int) (w0 : World) (hDA : DAt w0 sa A) (hDB : DAt w0 sb B) (hA : DOk A) (hB : DOk B) (lA : A.length ≤ 1000) (lB : B.length ≤ 1000) :
    Ret Tryz.prog 166 #[.agg #[.bool na, sa], .agg #[.bool nb, sb]] w0 fun v w' => (∃ ds, DAt w' v ds ∧ DOk ds ∧ ds.length ≤ 1001 ∧ valD ds = valD A + valD B) ∧ Only [] w0 w' := by
  obtain ⟨ada, ca, rfl, hDA'⟩ := id hDA
  obtain ⟨adb, cb, rfl, hDB'⟩ := id hDB
  have hs := St.nil w0
  refine ret_of_xc Tryz.func166 (by kernel_rfl) rfl Tryz.ntmps166 rfl rfl rfl ?_
  refine xc_seq ?_
  refine xc_region ?_ ?_; exact rfl
  refine bx hs (k := ?_); intro b2 w hz hs
  refine bx hs (k := ?_); intro b3 w hz hs
  repeat' (first|refine vs (k:=?_)|refine qRg ?_|refine Nx.h ?_|fail)
  refine xc_cutB (fun (s : Value) => [(5, s)]) (fun v w => ∃ xs c i, Plus A B xs i c ∧ A.length ≤ i ∧ B.length ≤ i ∧ ¬ 0 < c ∧ OwnS w0 D0 [(b3, .cells #[.bool nb, .slice adb B.length cb] 79, true), (b2, .cells #[.bool na, .slice ada A.length ca] 79, true)] 3 1 v i (ints xs) w) ?_ ?_
  · refine xc_loopS (fun (s : Nat × Int × Value × List Int) => [(2, .pointer (some ⟨b2, 0, none⟩)), (3, .pointer (some ⟨b3, 0, none⟩)), (5, s.2.2.1), (6, .int .i64 s.2.1), (7, .int .i64 (s.1 : Nat))])
      (fun s w => Plus A B s.2.2.2 s.1 s.2.1 ∧ OwnS w0 D0 [(b3, .cells #[.bool nb, .slice adb B.length cb] 79, true), (b2, .cells #[.bool na, .slice ada A.length ca] 79, true)] 3 1 s.2.2.1 s.1 (ints s.2.2.2) w)
      (fun s => max A.length B.length + 2 - s.1) (0, 0, .slice none 0 0, []) (by (repeat (first | exact agree_nil | (apply agree_cons; exact rfl)))) ⟨⟨rfl, DOk.nil, by decide, by decide, by omega, by omega, by simp [valD]⟩, .inl ⟨rfl, rfl, rfl, hs⟩⟩ fun s env w hI => ?_
    obtain ⟨hp, hO⟩ := hI
    clear hs
    generalize hi : s.1 = i at *
    generalize hcc : s.2.1 = c at *
    generalize hvv : s.2.2.1 = v at *
    generalize hxs : s.2.2.2 = xs at *
    have hs := hO.st
    refine xc_seq ?_
    refine xc_seq ?_
    refine xc_cutN (fun (_ : Unit) => [(2, .pointer (some ⟨b2, 0, none⟩)), (3, .pointer (some ⟨b3, 0, none⟩)), (5, v), (6, .int .i64 c), (7, .int .i64 (i : Nat)), (24, .bool (decide (i < A.length ∨ i < B.length ∨ 0 < c)))]) (fun _ w' => w' = w) ?_ ?_
    · refine xc_region ?_ ?_; exact rfl
      refine vs (k := ?_)
      refine vs (k := ?_)
      refine vs (k := ?_)
      refine vs (k := ?_)
      refine vs (k := ?_)
      refine vs (k := ?_)
      refine xs_late 14 rfl ?_; intro c h14; cases c
      · refine vs (k := ?_)
        refine vs (k := ?_)
        refine vs (k := ?_)
        refine vs (k := ?_)
        refine vs (k := ?_)
        refine vs (k := ?_)
        refine vs (k := ?_)
        refine xs_late 21 rfl ?_; intro c h21; cases c
        · repeat' (first|refine vs (k:=?_)|refine Nx.h ?_|fail)
          have e24 : decide (0 < c) = decide (i < A.length ∨ i < B.length ∨ 0 < c) := by
            have h1 := of_decide_eq_false h14
            have h2 := of_decide_eq_false h21
            apply decide_eq_decide.2
            omega
          exact cutN_normal () (by (repeat (first | exact agree_nil | (apply agree_cons; first | exact rfl | exact congrArg Value.bool e24)))) rfl
        · repeat' (first|refine vs (k:=?_)|refine ps (k:=?_)|refine Nx.h ?_|fail)
          have e24 : true = decide (i < A.length ∨ i < B.length ∨ 0 < c) := by
            have h2 := of_decide_eq_true h21
            exact (decide_eq_true (by omega)).symm
          exact cutN_normal () (by (repeat (first | exact agree_nil | (apply agree_cons; first | exact rfl | exact congrArg Value.bool e24)))) rfl
      · repeat' (first|refine vs (k:=?_)|refine ps (k:=?_)|refine Nx.h ?_|fail)
        have e24 : true = decide (i < A.length ∨ i < B.length ∨ 0 < c) := by
          have h2 := of_decide_eq_true h14
          exact (decide_eq_true (by omega)).symm
        exact cutN_normal () (by (repeat (first | exact agree_nil | (apply agree_cons; first | exact rfl | exact congrArg Value.bool e24)))) rfl
    rintro _ env _ rfl
    repeat' (first|refine Nx.h ?_|(refine xc_if rfl (fun hc=>?_) (fun hc=>?_))|fail)
    · have hA1 := dig_rng hA i
      have hB1 := dig_rng hB i
      have hc0 := hp.c0
      have hc1 := hp.c1
      have hle := hp.le
      have eS : IntKind.i64.wrap (IntKind.i64.wrap (dig A i + dig B i) + c) = dig A i + dig B i + c := by
        have e1 : IntKind.i64.wrap (dig A i + dig B i) = dig A i + dig B i := i64_small (by omega) (by omega)
        rw [e1]
        exact i64_small (by omega) (by omega)
      have ei : IntKind.i64.wrap ((i : Int) + 1) = ((i + 1 : Nat) : Int) := by
        have e1 : (i : Int) + 1 = ((i + 1 : Nat) : Int) := by omega
        rw [e1]
        exact i64_small (by omega) (by omega)
      clear hs
      rcases hO with ⟨rfl, hn, hx, hs⟩ | ⟨g, cap, cur, rfl, hcap, hcl, hxl, htk, hs⟩
      all_goals (
        refine dr [] hs (k := ?_); intro hX w hs
        refine tk 0 hX (k := ?_)
        refine tk 1 hX (k := ?_)
        refine tk 3 hX (k := ?_)
        refine tk 4 hX (k := ?_)
        refine tk 7 hX (k := ?_)
        refine dt 2 hX (k := ?_)
        (with_reducible apply xs_call); exact rfl; exact rfl; exact digit_ret na _ A _ (hDA.only (hs.only0 rfl)) i
        rintro v w' ⟨rfl, ho⟩; replace hs := hs.call0 ho; repeat' (first|refine Nx.h ?_|fail)
        refine dn (k := ?_)
        refine dt 5 hX (k := ?_)
        (with_reducible apply xs_call); exact rfl; exact rfl; exact digit_ret nb _ B _ (hDB.only (hs.only0 rfl)) i
        rintro v w' ⟨rfl, ho⟩; replace hs := hs.call0 ho; repeat' (first|refine Nx.h ?_|fail)
        refine dn (k := ?_)
        refine tk 6 hX (k := ?_)
        refine tk 8 hX (k := ?_)
        rw [eS]
        refine tk 9 hX (k := ?_)
        refine en (k := ?_)
        repeat' (first|refine vs (k:=?_)|(refine bs hs (k:=?_);intro b w hz hs)|refine qRg ?_|refine Nx.h ?_|fail)
        refine apd (k := i) (xs := ints xs) (news := [.int .i64 ((dig A i + dig B i + c) % 10000)]) (by first | exact .inl ⟨rfl, hn, hx, hs⟩ | exact .inr ⟨_, _, _, rfl, hcap, hcl, hxl, htk, hs.swap⟩) (hk := by omega) (hk' := by simp only [maxLen]; omega) (kk := ?_)
        intro v' w hO' hv'
        rw [ints_snoc] at hO'
        clear hs
        have hs := hO'.st
        repeat' (first|refine vs (k:=?_)|refine qRg ?_|refine Nx.h ?_|fail)
        exact loopS_next (i + 1, (dig A i + dig B i + c) / 10000, v', xs ++ [(dig A i + dig B i + c) % 10000]) (by simp only [hi]; omega) (by (repeat (first | exact agree_nil | (apply agree_cons; first | exact rfl | exact congrArg (Value.int .i64) ei)))) ⟨plus_next hA hB hp hc, hO'⟩)
    · exact cutB_exit v (by (repeat (first | exact agree_nil | (apply agree_cons; exact rfl)))) ⟨xs, c, i, hp, by omega, by omega, by omega, hO⟩
  · rintro v env w ⟨xs, c, i, hp, h1, h2, h3, hO⟩
    have hs := hO.st
    repeat' (first|refine vs (k:=?_)|refine qRg ?_|refine Nx.h ?_|fail)
    first | refine rt (hq := ?_) | refine rt' (hq := ?_)
    exact ⟨⟨xs, own_dat hO hp.len.symm, hp.ok, by have := hp.le; have := hp.len; omega, plus_end hp h1 h2 h3⟩, hs.only0 rfl⟩
end Go.Proofs.YtilajmcellffiaaGreatDoorX

namespace Go.Proofs.YtilajmcellffiaaGreatDoorX
structure OrdOn {α : Type} (lt : α → α → Bool) (S : α → Prop) : Prop where
  irr : ∀ a, S a → lt a a = false
  tr : ∀ a b c, S a → S b → S c → lt a b = true → lt b c = true → lt a c = true
  tri : ∀ a b, S a → S b → lt a b = false → lt b a = false → a = b
inductive RB (α : Type) where
  | nil
  | node (l : RB α) (x : α) (r : RB α) (c : Bool)
namespace RB
variable {α : Type}
def red : RB α → Bool
  | nil => false
  | node _ _ _ c => c
def left : RB α → RB α
  | nil => nil
  | node l _ _ _ => l
def right : RB α → RB α
  | nil => nil
  | node _ _ r _ => r
def list : RB α → List α
  | nil => []
  | node l x r _ => l.list ++ x :: r.list
def depth : RB α → Nat
  | nil => 0
  | node l _ r _ => 1 + max l.depth r.depth
def toLeft : RB α → RB α
  | node l x (node rl y rr _) c => node (node l x rl true) y rr c
  | t => t
def toRight : RB α → RB α
  | node (node ll y lr _) x r c => node ll y (node lr x r true) c
  | t => t
def flip : RB α → RB α
  | node (node a x b c1) y (node d z e c2) c => node (node a x b !c1) y (node d z e !c2) !c
  | t => t
def mend1 (t : RB α) : RB α := bif t.right.red && !t.left.red then toLeft t else t
def mend2 (t : RB α) : RB α := bif t.left.red && t.left.left.red then toRight t else t
def mend3 (t : RB α) : RB α := bif t.left.red && t.right.red then flip t else t
def mend (t : RB α) : RB α := mend3 (mend2 (mend1 t))
def ins (lt : α → α → Bool) : RB α → α → RB α
  | nil, x => node nil x nil true
  | node l y r c, x => bif lt x y then mend (node (ins lt l x) y r c) else mend (node l y (ins lt r x) c)
def blacken : RB α → RB α
  | nil => nil
  | node l x r _ => node l x r false
theorem left_node (l : RB α) (x : α) (r : RB α) (c : Bool) : (node l x r c).left = l := rfl
theorem right_node (l : RB α) (x : α) (r : RB α) (c : Bool) : (node l x r c).right = r := rfl
theorem red_node (l : RB α) (x : α) (r : RB α) (c : Bool) : (node l x r c).red = c := rfl
theorem list_toLeft : ∀ t : RB α, (toLeft t).list = t.list
  | nil => rfl
  | node l x nil c => rfl
  | node l x (node rl y rr _) c => by simp [toLeft, list]
theorem list_toRight : ∀ t : RB α, (toRight t).list = t.list
  | nil => rfl
  | node nil x r c => rfl
  | node (node ll y lr _) x r c => by simp [toRight, list]
theorem list_flip : ∀ t : RB α, (flip t).list = t.list
  | nil => rfl
  | node nil x r c => rfl
  | node (node a x b _) y nil c => rfl
  | node (node a x b _) y (node d z e _) c => by simp [flip, list]
theorem list_mend (t : RB α) : (mend t).list = t.list := by
  unfold mend mend3 mend2 mend1
  repeat' (cases (_ && _) <;> simp only [cond_true, cond_false])
  all_goals simp only [list_toLeft, list_toRight, list_flip]
theorem list_blacken : ∀ t : RB α, (blacken t).list = t.list
  | nil => rfl
  | node l x r c => rfl
def insL (lt : α → α → Bool) (x : α) : List α → List α
  | [] => [x]
  | y :: l => bif lt x y then x :: y :: l else y :: insL lt x l
theorem insL_left {lt : α → α → Bool} {x y : α} (h : lt x y = true) (R : List α) : ∀ L : List α, insL lt x (L ++ y :: R) = insL lt x L ++ y :: R
  | [] => by simp [insL, h]
  | z :: L => by
    simp only [List.cons_append, insL]
    cases lt x z <;> simp [insL_left h R L]
theorem insL_right {lt : α → α → Bool} {x : α} (R : List α) : ∀ L : List α, (∀ z ∈ L, lt x z = false) → insL lt x (L ++ R) = L ++ insL lt x R
  | [], _ => rfl
  | z :: L, h => by
    simp only [List.cons_append, insL, h z List.mem_cons_self, cond_false]
    rw [insL_right R L fun z hz => h z (List.mem_cons_of_mem _ hz)]
def Srt (lt : α → α → Bool) (l : List α) : Prop := l.Pairwise fun a b => lt a b = true
theorem srt_node {lt : α → α → Bool} {L R : List α} {y : α} (h : Srt lt (L ++ y :: R)) : Srt lt L ∧ Srt lt R ∧ (∀ z ∈ L, lt z y = true) ∧ (∀ z ∈ R, lt y z = true) ∧ ∀ a ∈ L, ∀ b ∈ R, lt a b = true := by
  unfold Srt at *
  rw [List.pairwise_append, List.pairwise_cons] at h
  obtain ⟨h1, ⟨h2, h3⟩, h4⟩ := h
  exact ⟨h1, h3, fun z hz => h4 z hz y List.mem_cons_self, h2, fun a ha b hb => h4 a ha b (List.mem_cons_of_mem _ hb)⟩
theorem asym {lt : α → α → Bool} {S : α → Prop} (ho : OrdOn lt S) {a b : α} (ha : S a) (hb : S b) (h : lt a b = true) : lt b a = false := by
  cases h2 : lt b a
  · rfl
  · have h3 := ho.tr a b a ha hb ha h h2
    rw [ho.irr a ha] at h3
    cases h3
theorem list_ins {lt : α → α → Bool} {S : α → Prop} (ho : OrdOn lt S) {x : α} (hx : S x) : ∀ t : RB α, Srt lt t.list → (∀ z ∈ t.list, S z) → (ins lt t x).list = insL lt x t.list
  | nil, _, _ => rfl
  | node l y r c, hs, hS => by
    obtain ⟨h1, h2, h3, h4, h5⟩ := srt_node hs
    simp only [list, List.mem_append, List.mem_cons] at hS
    have hl := list_ins ho hx l h1 fun z hz => hS z (.inl hz)
    have hr := list_ins ho hx r h2 fun z hz => hS z (.inr (.inr hz))
    have hy := hS y (.inr (.inl rfl))
    simp only [ins, list]
    cases hxy : lt x y
    · rw [cond_false, list_mend]
      simp only [list, hr]
      rw [insL_right _ l.list fun z hz => ?_]
      · simp [insL, hxy]
      · have hz' := hS z (.inl hz)
        cases hxz : lt x z
        · rfl
        · rw [ho.tr x z y hx hz' hy hxz (h3 z hz)] at hxy; cases hxy
    · rw [cond_true, list_mend]
      simp only [list, hl]
      rw [insL_left hxy]
/-! ### Balance -/
inductive Ok : RB α → Nat → Prop
  | nil : Ok nil 0
  | black {l r : RB α} {x : α} {h : Nat} : Ok l h → Ok r h → r.red = false → Ok (node l x r false) (h + 1)
  | red {l r : RB α} {x : α} {h : Nat} : Ok l h → Ok r h → l.red = false → r.red = false → Ok (node l x r true) h
inductive Alm : RB α → Nat → Prop
  | ok {t : RB α} {h : Nat} : Ok t h → Alm t h
  | rr {l r : RB α} {x : α} {h : Nat} : Ok l h → Ok r h → l.red = true → r.red = false → Alm (node l x r true) h
theorem Ok.blacken {t : RB α} {h : Nat} (k : Ok t h) : ∃ h', Ok (blacken t) h' := by
  cases k with
  | nil => exact ⟨_, .nil⟩
  | black a b c => exact ⟨_, .black a b c⟩
  | red a b c d => exact ⟨_, .black a b d⟩
theorem red_true {t : RB α} (h : t.red = true) : ∃ l x r, t = node l x r true := by
  cases t with
  | nil => cases h
  | node l x r c => exact ⟨l, x, r, by rw [show c = true from h]⟩
theorem Ok.inv_red {l r : RB α} {x : α} {h : Nat} (k : Ok (node l x r true) h) : Ok l h ∧ Ok r h ∧ l.red = false ∧ r.red = false := by
  cases k with
  | red a b c d => exact ⟨a, b, c, d⟩
theorem Ok.inv_black {l r : RB α} {x : α} {h : Nat} (k : Ok (node l x r false) h) : ∃ h', h = h' + 1 ∧ Ok l h' ∧ Ok r h' ∧ r.red = false := by
  cases k with
  | black a b c => exact ⟨_, rfl, a, b, c⟩
theorem red_left_false {t : RB α} {h : Nat} (k : Ok t h) (hr : t.red = true) : t.left.red = false := by
  obtain ⟨l, x, r, rfl⟩ := red_true hr
  exact k.inv_red.2.2.1
theorem mendL_black {l r : RB α} {y : α} {h : Nat} (hl : Alm l h) (hr : Ok r h) (h1 : r.red = false) : Ok (mend (node l y r false)) (h + 1) := by
  cases hl with
  | ok hl =>
    have hlr : (l.red && l.left.red) = false := by
      cases hc : l.red
      · rfl
      · rw [red_left_false hl hc]; rfl
    have : mend (node l y r false) = node l y r false := by
      simp [mend, mend1, mend2, mend3, left_node, right_node, red_node, h1, hlr]
    rw [this]
    exact .black hl hr h1
  | rr a b c d =>
    obtain ⟨ll, z, lr, rfl⟩ := red_true c
    obtain ⟨p1, p2, p3, p4⟩ := a.inv_red
    simp [mend, mend1, mend2, mend3, left_node, right_node, red_node, h1, toRight, flip]
    exact .red (.black p1 p2 p4) (.black b hr h1) rfl rfl
theorem mendL_red {l r : RB α} {y : α} {h : Nat} (hl : Ok l h) (hr : Ok r h) (h1 : r.red = false) : Alm (mend (node l y r true)) h := by
  have hlr : (l.red && l.left.red) = false := by
    cases hc : l.red
    · rfl
    · rw [red_left_false hl hc]; rfl
  have : mend (node l y r true) = node l y r true := by
    simp [mend, mend1, mend2, mend3, left_node, right_node, red_node, h1, hlr]
  rw [this]
  cases hc : l.red
  · exact .ok (.red hl hr hc h1)
  · exact .rr hl hr hc h1
theorem mendR_black {l r : RB α} {y : α} {h : Nat} (hl : Ok l h) (hr : Ok r h) : Ok (mend (node l y r false)) (h + 1) := by
  cases hc : r.red
  · exact mendL_black (.ok hl) hr hc
  · obtain ⟨rl, z, rr, rfl⟩ := red_true hc
    obtain ⟨p1, p2, p3, p4⟩ := hr.inv_red
    cases hd : l.red
    · have : mend (node l y (node rl z rr true) false) = node (node l y rl true) z rr false := by
        simp [mend, mend1, mend2, mend3, left_node, right_node, red_node, toLeft, hd, p4]
      rw [this]
      exact .black (.red hl p1 hd p3) p2 p4
    · obtain ⟨ll, u, lr, rfl⟩ := red_true hd
      obtain ⟨q1, q2, q3, q4⟩ := hl.inv_red
      have : mend (node (node ll u lr true) y (node rl z rr true) false) = node (node ll u lr false) y (node rl z rr false) true := by
        simp [mend, mend1, mend2, mend3, left_node, right_node, red_node, flip, q3]
      rw [this]
      exact .red (.black q1 q2 q4) (.black p1 p2 p4) rfl rfl
theorem mendR_red {l r : RB α} {y : α} {h : Nat} (hl : Ok l h) (hr : Ok r h) (h1 : l.red = false) : Alm (mend (node l y r true)) h := by
  cases hc : r.red
  · exact mendL_red hl hr hc
  · obtain ⟨rl, z, rr, rfl⟩ := red_true hc
    obtain ⟨p1, p2, p3, p4⟩ := hr.inv_red
    have : mend (node l y (node rl z rr true) true) = node (node l y rl true) z rr true := by
      simp [mend, mend1, mend2, mend3, left_node, right_node, red_node, toLeft, h1, p4]
    rw [this]
    exact .rr (.red hl p1 h1 p3) p2 rfl p4
theorem ok_ins (lt : α → α → Bool) (x : α) : ∀ {t : RB α} {h : Nat}, Ok t h → Alm (ins lt t x) h ∧ (t.red = false → Ok (ins lt t x) h) := by
  intro t h k
  induction k with
  | nil => exact ⟨.ok (.red .nil .nil rfl rfl), fun _ => .red .nil .nil rfl rfl⟩
  | @black l r y h a b c ia ib =>
    have key : Ok (ins lt (node l y r false) x) (h + 1) := by
      simp only [ins]
      cases lt x y
      · exact mendR_black a (ib.2 c)
      · exact mendL_black ia.1 b c
    exact ⟨.ok key, fun _ => key⟩
  | @red l r y h a b c d ia ib =>
    refine ⟨?_, fun h => by cases h⟩
    simp only [ins]
    cases lt x y
    · exact mendR_red a (ib.2 d) c
    · exact mendL_red (ia.2 c) b d
def Good (t : RB α) : Prop := t.red = false ∧ ∃ h, Ok t h
theorem Good.nil : Good (nil : RB α) := ⟨rfl, 0, .nil⟩
theorem blacken_red (t : RB α) : (blacken t).red = false := by cases t <;> rfl
theorem Good.ins {lt : α → α → Bool} {x : α} {t : RB α} (k : Good t) : Good (blacken (ins lt t x)) := by
  obtain ⟨hr, h, k⟩ := k
  exact ⟨blacken_red _, ((ok_ins lt x k).2 hr).blacken⟩
theorem ok_depth {t : RB α} {h : Nat} (k : Ok t h) : t.depth ≤ 2 * h + (if t.red then 1 else 0) ∧ 2 ^ h ≤ t.list.length + 1 := by
  induction k with
  | nil => simp [depth, list]
  | @black l r y h a b c ia ib =>
    obtain ⟨a1, a2⟩ := ia
    obtain ⟨b1, b2⟩ := ib
    refine ⟨?_, ?_⟩
    · simp only [depth, red]
      have : (if l.red = true then 1 else 0) ≤ 1 := by split <;> omega
      have : (if r.red = true then 1 else 0) ≤ 1 := by split <;> omega
      simp only [Bool.false_eq_true, if_false]
      omega
    · simp only [list, List.length_append, List.length_cons]
      rw [Nat.pow_succ]
      omega
  | @red l r y h a b c d ia ib =>
    obtain ⟨a1, a2⟩ := ia
    obtain ⟨b1, b2⟩ := ib
    rw [c] at a1
    rw [d] at b1
    refine ⟨?_, ?_⟩
    · simp only [depth, red]
      simp only [Bool.false_eq_true, if_false, if_true] at *
      omega
    · simp only [list, List.length_append, List.length_cons]
      omega
theorem Good.depth {t : RB α} (k : Good t) : 2 ^ ((t.depth + 1) / 2) ≤ t.list.length + 1 := by
  obtain ⟨hr, h, k⟩ := k
  obtain ⟨h1, h2⟩ := ok_depth k
  rw [hr] at h1
  simp only [Bool.false_eq_true, if_false] at h1
  exact Nat.le_trans (Nat.pow_le_pow_right (by decide) (show (t.depth + 1) / 2 ≤ h by omega)) h2
end RB
end Go.Proofs.YtilajmcellffiaaGreatDoorX

namespace Go.Proofs.YtilajmcellffiaaGreatDoorX
namespace RB
variable {α : Type}
def isNil : RB α → Bool
  | nil => true
  | node _ _ _ _ => false
def both : RB α → Bool
  | node (node _ _ _ _) _ (node _ _ _ _) _ => true
  | _ => false
def setR : RB α → RB α → RB α
  | nil, _ => nil
  | node l x _ c, r => node l x r c
def redLeft (t : RB α) : RB α := bif (flip t).right.left.red then flip (toLeft (setR (flip t) (toRight (flip t).right))) else flip t
def redRight (t : RB α) : RB α := bif (flip t).left.left.red then flip (toRight (flip t)) else flip t
def downL (t : RB α) : Option (RB α) := bif !t.left.red && !t.left.left.red then (bif both t then some (redLeft t) else none) else some t
def downR (t : RB α) : Option (RB α) := bif !t.right.red && !t.right.left.red then (bif both t then some (redRight t) else none) else some t
def least : RB α → Option α
  | nil => none
  | node nil x _ _ => some x
  | node (node a y b c) _ _ _ => least (node a y b c)
def cutMin : Nat → RB α → Option (RB α)
  | 0, _ => none
  | k + 1, t => bif t.isNil then none else bif t.left.isNil then some nil else
    match downL t with
    | some (node l x r c) => (cutMin k l).map fun l' => mend (node l' x r c)
    | _ => none
def cut (lt : α → α → Bool) (x : α) : Nat → RB α → Option (RB α)
  | 0, _ => none
  | _ + 1, nil => none
  | k + 1, node l y r c => bif lt x y then
      (bif l.isNil then none else
        match downL (node l y r c) with
        | some (node l1 y1 r1 c1) => (cut lt x k l1).map fun l' => mend (node l' y1 r1 c1)
        | _ => none)
    else bif (bif l.red then toRight (node l y r c) else node l y r c).right.isNil then some nil else
      match downR (bif l.red then toRight (node l y r c) else node l y r c) with
      | some (node l2 y2 r2 c2) => bif lt y2 x then (cut lt x k r2).map fun r' => mend (node l2 y2 r' c2)
          else match least r2 with
            | some m => (cutMin k r2).map fun r' => mend (node l2 m r' c2)
            | none => none
      | _ => none
theorem list_setR : ∀ (t r : RB α), t.right.list = r.list → (setR t r).list = t.list
  | nil, r, h => rfl
  | node l x r' c, r, h => by simp only [setR, list]; rw [← h]; rfl
theorem list_redLeft (t : RB α) : (redLeft t).list = t.list := by
  unfold redLeft
  cases (flip t).right.left.red
  · rw [cond_false, list_flip]
  · rw [cond_true, list_flip, list_toLeft, list_setR _ _ (list_toRight _).symm, list_flip]
theorem list_redRight (t : RB α) : (redRight t).list = t.list := by
  unfold redRight
  cases (flip t).left.left.red
  · rw [cond_false, list_flip]
  · rw [cond_true, list_flip, list_toRight, list_flip]
theorem least_list : ∀ t : RB α, least t = t.list.head?
  | nil => rfl
  | node nil x _ _ => rfl
  | node (node a y b c) x r d => by
    have := least_list (node a y b c)
    simp only [least, list] at *
    rw [this]
    cases h : a.list with
    | nil => simp
    | cons u v => simp
theorem least_cons {t : RB α} (h : t.isNil = false) : ∃ m, least t = some m ∧ t.list = m :: t.list.tail := by
  rw [least_list]
  cases hl : t.list with
  | nil => cases t with
    | nil => cases h
    | node l x r c => simp [list] at hl
  | cons m l => exact ⟨m, rfl, rfl⟩
theorem mend_id {l r : RB α} {x : α} {c : Bool} (h1 : l.red = false) (h2 : r.red = false) : mend (node l x r c) = node l x r c := by
  simp [mend, mend1, mend2, mend3, left_node, right_node, red_node, h1, h2]
theorem mendL_id {l r : RB α} {x : α} {c : Bool} {h : Nat} (hl : Ok l h) (h2 : r.red = false) : mend (node l x r c) = node l x r c := by
  have hlr : (l.red && l.left.red) = false := by
    cases hc : l.red
    · rfl
    · rw [red_left_false hl hc]; rfl
  simp [mend, mend1, mend2, mend3, left_node, right_node, red_node, h2, hlr]
theorem mendR_stays {l r : RB α} {y : α} {h : Nat} (hr : Ok r h) (hl : l.red = false) : (mend (node l y r false)).red = false := by
  cases hc : r.red
  · rw [mend_id hl hc]; rfl
  · obtain ⟨rl, z, rr, rfl⟩ := red_true hc
    obtain ⟨p1, p2, p3, p4⟩ := hr.inv_red
    have : mend (node l y (node rl z rr true) false) = node (node l y rl true) z rr false := by
      simp [mend, mend1, mend2, mend3, left_node, right_node, red_node, toLeft, hl, p4]
    rw [this]; rfl
theorem black_zero {t : RB α} (k : Ok t 0) (h : t.red = false) : t = nil := by
  cases k with
  | nil => rfl
  | red a b c d => cases h
theorem black_succ {t : RB α} {h : Nat} (k : Ok t (h + 1)) (hr : t.red = false) : ∃ l x r, t = node l x r false ∧ Ok l h ∧ Ok r h ∧ r.red = false := by
  cases k with
  | black a b c => exact ⟨_, _, _, rfl, a, b, c⟩
  | red a b c d => cases hr
theorem tail_append {A B : List α} {y : α} (h : A ≠ []) : (A ++ y :: B).tail = A.tail ++ y :: B := by cases A with
  | nil => exact absurd rfl h
  | cons a A => rfl
theorem tail_mid (A B C : List α) (y : α) : ((A ++ y :: B) ++ C).tail = (A ++ y :: B).tail ++ C := by cases A <;> simp
theorem list_ne {t : RB α} (h : t.isNil = false) : t.list ≠ [] := by
  cases t with
  | nil => cases h
  | node l x r c => simp [list]
structure Cut (t t' : RB α) (h : Nat) (L : List α) : Prop where
  ok : Ok t' h
  black : t.red = false → t'.red = false
  list : t'.list = L
theorem cutMin_ok : ∀ (k : Nat) (t : RB α) (h : Nat), Ok t h → t.isNil = false → (t.red = true ∨ t.left.red = true) → t.list.length ≤ k → ∃ t', cutMin k t = some t' ∧ Cut t t' h t.list.tail
  | 0, t, h, hk, hn, _, hl => by
    have := list_ne hn
    cases ht : t.list with
    | nil => exact absurd ht this
    | cons a b => rw [ht] at hl; simp at hl
  | k + 1, nil, h, hk, hn, _, hl => by cases hn
  | k + 1, node l x r true, h, hk, hn, _, hl => by
    obtain ⟨a, b, c, d⟩ := hk.inv_red
    simp only [list, List.length_append, List.length_cons] at hl
    cases h with
    | zero =>
      obtain rfl := black_zero a c
      obtain rfl := black_zero b d
      exact ⟨nil, rfl, .nil, (fun h => by cases h), rfl⟩
    | succ h =>
      obtain ⟨ll, y, lr, rfl, a1, a2, a3⟩ := black_succ a c
      obtain ⟨rl, z, rr, rfl, b1, b2, b3⟩ := black_succ b d
      simp only [list, List.length_append, List.length_cons] at hl
      cases hc : ll.red
      · cases hd : rl.red
        · obtain ⟨t', e, q⟩ := cutMin_ok k (node ll y lr true) h (.red a1 a2 hc a3) rfl (.inl rfl) (by simp only [list, List.length_append, List.length_cons]; omega)
          refine ⟨mend (node t' x (node rl z rr true) false), ?_, mendR_black q.ok (.red b1 b2 hd b3), (fun h => by cases h), ?_⟩
          · simp [cutMin, isNil, downL, both, redLeft, flip, left_node, right_node, red_node, hc, hd, e]
          · rw [list_mend]
            simp only [list, q.list]
            rw [tail_mid]
        · obtain ⟨rll, u, rlr, rfl⟩ := red_true hd
          obtain ⟨e1, e2, e3, e4⟩ := b1.inv_red
          obtain ⟨t', e, q⟩ := cutMin_ok k (node (node ll y lr true) x rll false) (h + 1) (.black (.red a1 a2 hc a3) e1 e3) rfl (.inr rfl) (by simp only [list, List.length_append, List.length_cons] at *; omega)
          have q2 := q.black rfl
          refine ⟨node t' u (node rlr z rr false) true, ?_, .red q.ok (.black e2 b2 b3) q2 rfl, (fun h => by cases h), ?_⟩
          · have := mend_id (l := t') (r := node rlr z rr false) (x := u) (c := true) q2 rfl
            simp [cutMin, isNil, downL, both, redLeft, flip, toLeft, toRight, setR, left_node, right_node, red_node, hc, e, this]
          · simp only [list, q.list]
            rw [tail_mid, tail_mid]
            simp
      · obtain ⟨t', e, q⟩ := cutMin_ok k (node ll y lr false) (h + 1) (.black a1 a2 a3) rfl (.inr hc) (by simp only [list, List.length_append, List.length_cons]; omega)
        have q2 := q.black rfl
        refine ⟨node t' x (node rl z rr false) true, ?_, .red q.ok (.black b1 b2 b3) q2 rfl, (fun h => by cases h), ?_⟩
        · have := mend_id (l := t') (r := node rl z rr false) (x := x) (c := true) q2 rfl
          simp [cutMin, isNil, downL, left_node, right_node, red_node, hc, e, this]
        · simp only [list, q.list]
          rw [tail_mid]
  | k + 1, node l x r false, h, hk, hn, hc, hl => by
    obtain ⟨h, rfl, a, b, c⟩ := hk.inv_black
    have hlr : l.red = true := by rcases hc with hc | hc; cases hc; exact hc
    simp only [list, List.length_append, List.length_cons] at hl
    obtain ⟨ll, y, lr, rfl⟩ := red_true hlr
    obtain ⟨t', e, q⟩ := cutMin_ok k (node ll y lr true) h a rfl (.inl rfl) (by omega)
    have e2 := mendL_id (x := x) (c := false) q.ok c
    refine ⟨node t' x r false, ?_, .black q.ok b c, fun _ => rfl, ?_⟩
    · simp [cutMin, isNil, downL, left_node, right_node, red_node, e, e2]
    · simp only [list, q.list]
      rw [tail_mid]
end RB
end Go.Proofs.YtilajmcellffiaaGreatDoorX

set_option linter.unusedSectionVars false
namespace Go.Proofs.YtilajmcellffiaaGreatDoorX
namespace RB
variable {α : Type} [DecidableEq α]
def sans (x : α) (l : List α) : List α := l.filter fun z => !decide (z = x)
theorem sans_append (x : α) (A B : List α) : sans x (A ++ B) = sans x A ++ sans x B := List.filter_append ..
theorem sans_none {x : α} {l : List α} (h : ∀ z ∈ l, z ≠ x) : sans x l = l := List.filter_eq_self.2 fun z hz => by simp [h z hz]
theorem sans_cons {x y : α} (h : y ≠ x) (l : List α) : sans x (y :: l) = y :: sans x l := by simp [sans, h]
theorem sans_self (x : α) (l : List α) : sans x (x :: l) = sans x l := by simp [sans]
structure In (lt : α → α → Bool) (S : α → Prop) (x : α) (l : List α) : Prop where
  srt : Srt lt l
  s : ∀ z ∈ l, S z
  mem : x ∈ l
variable {lt : α → α → Bool} {S : α → Prop} {x : α}
theorem lt_ne (ho : OrdOn lt S) {a b : α} (ha : S a) (h : lt a b = true) : a ≠ b := fun e => by
  subst e
  rw [ho.irr a ha] at h
  cases h
theorem In.left (ho : OrdOn lt S) {L R : List α} {y : α} (h : In lt S x (L ++ y :: R)) (hxy : lt x y = true) : In lt S x L ∧ sans x (L ++ y :: R) = sans x L ++ y :: R := by
  obtain ⟨h1, h2, h3, h4, h5⟩ := srt_node h.srt
  have hx := h.s x h.mem
  have hy := h.s y (by simp)
  have hR : ∀ z ∈ y :: R, z ≠ x := fun z hz e => by
    subst e
    rcases List.mem_cons.1 hz with rfl | hz
    · rw [ho.irr _ hx] at hxy; cases hxy
    · have := asym ho hy hx (h4 z hz); rw [hxy] at this; cases this
  have hm : x ∈ L := by
    rcases List.mem_append.1 h.mem with hm | hm
    · exact hm
    · exact absurd rfl (hR x hm)
  exact ⟨⟨h1, fun z hz => h.s z (List.mem_append_left _ hz), hm⟩, by rw [sans_append, sans_none hR]⟩
theorem In.right (ho : OrdOn lt S) {L R : List α} {y : α} (h : In lt S x (L ++ y :: R)) (hxy : lt y x = true) : In lt S x R ∧ sans x (L ++ y :: R) = L ++ y :: sans x R := by
  obtain ⟨h1, h2, h3, h4, h5⟩ := srt_node h.srt
  have hx := h.s x h.mem
  have hy := h.s y (by simp)
  have hL : ∀ z ∈ L, z ≠ x := fun z hz e => by
    subst e
    have := asym ho hx hy (h3 z hz); rw [hxy] at this; cases this
  have hyx := lt_ne ho hy hxy
  have hm : x ∈ R := by
    rcases List.mem_append.1 h.mem with hm | hm
    · exact absurd rfl (hL x hm)
    · rcases List.mem_cons.1 hm with rfl | hm
      · exact absurd rfl hyx
      · exact hm
  exact ⟨⟨h2, fun z hz => h.s z (by simp [hz]), hm⟩, by rw [sans_append, sans_none hL, sans_cons hyx]⟩
theorem In.eq (ho : OrdOn lt S) {L R : List α} {y : α} (h : In lt S x (L ++ y :: R)) (h6 : lt x y = false) (h7 : lt y x = false) : sans x (L ++ y :: R) = L ++ R := by
  obtain ⟨h1, h2, h3, h4, h5⟩ := srt_node h.srt
  have hx := h.s x h.mem
  have hy := h.s y (by simp)
  obtain rfl := ho.tri x y hx hy h6 h7
  rw [sans_append, sans_self, sans_none, sans_none]
  · intro z hz e; subst e; have := h4 _ hz; rw [ho.irr _ hx] at this; cases this
  · intro z hz e; subst e; have := h3 _ hz; rw [ho.irr _ hx] at this; cases this
theorem In.up (ho : OrdOn lt S) {L R : List α} {y u : α} (h : In lt S x (L ++ y :: R)) (hu : u ∈ R) (hxy : lt x y = true) : lt x u = true := by
  obtain ⟨h1, h2, h3, h4, h5⟩ := srt_node h.srt
  exact ho.tr x y u (h.s x h.mem) (h.s y (by simp)) (h.s u (by simp [hu])) hxy (h4 u hu)
theorem In.down (ho : OrdOn lt S) {L R : List α} {y u : α} (h : In lt S x (L ++ y :: R)) (hu : u ∈ L) (hxy : lt x y = false) : lt u x = true := by
  obtain ⟨h1, h2, h3, h4, h5⟩ := srt_node h.srt
  have hx := h.s x h.mem
  have hy := h.s y (by simp)
  have hus := h.s u (by simp [hu])
  have huy := h3 u hu
  cases hyx : lt y x
  · rw [ho.tri x y hx hy hxy hyx]; exact huy
  · exact ho.tr u y x hus hy hx huy hyx
def CutAt (lt : α → α → Bool) (S : α → Prop) (x : α) (k : Nat) : Prop :=
  ∀ (t : RB α) (h : Nat), Ok t h → t.isNil = false → (t.red = true ∨ t.left.red = true) → t.list.length ≤ k → In lt S x t.list → ∃ t', cut lt x k t = some t' ∧ Cut t t' h (sans x t.list)
theorem right_step (ho : OrdOn lt S) {k : Nat} (ih : CutAt lt S x k) {l r : RB α} {y : α} {c : Bool} {h : Nat} (hr : Ok r h) (hn : r.isNil = false) (hc : r.red = true ∨ r.left.red = true) (hl : r.list.length ≤ k) (hI : In lt S x (l.list ++ y :: r.list)) (hxy : lt x y = false) :
    ∃ m r', (bif lt y x then (cut lt x k r).map fun r' => mend (node l y r' c) else match least r with
      | some m => (cutMin k r).map fun r' => mend (node l m r' c)
      | none => none) = some (mend (node l m r' c)) ∧ Ok r' h ∧ (r.red = false → r'.red = false) ∧ l.list ++ m :: r'.list = sans x (l.list ++ y :: r.list) := by
  cases hyx : lt y x
  · obtain ⟨m, hm, hm2⟩ := least_cons hn
    obtain ⟨r', e, q⟩ := cutMin_ok k r h hr hn hc hl
    refine ⟨m, r', by simp [hm, e], q.ok, q.black, ?_⟩
    rw [hI.eq ho hxy hyx, q.list, ← hm2]
  · obtain ⟨hI', e1⟩ := hI.right ho hyx
    obtain ⟨r', e, q⟩ := ih r h hr hn hc hl hI'
    exact ⟨y, r', by simp [e], q.ok, q.black, by rw [e1, q.list]⟩
theorem cut_pre (ho : OrdOn lt S) {k : Nat} (ih : CutAt lt S x k) {l r : RB α} {y : α} {h : Nat} (hl : Ok l h) (hr : Ok r h) (h1 : l.red = false) (h2 : r.red = true) (hxy : lt x y = false) (hlen : (node l y r false).list.length ≤ k + 1) (hI : In lt S x (l.list ++ y :: r.list)) :
    ∃ t', cut lt x (k + 1) (node l y r false) = some t' ∧ Cut (node l y r false) t' (h + 1) (sans x (l.list ++ y :: r.list)) := by
  have hn : r.isNil = false := by
    obtain ⟨a, b, c, rfl⟩ := red_true h2
    rfl
  simp only [list, List.length_append, List.length_cons] at hlen
  obtain ⟨m, r', e, e1, e2, e3⟩ := right_step ho ih (c := false) hr hn (.inl h2) (by omega) hI hxy
  refine ⟨_, ?_, mendR_black (y := m) hl e1, fun _ => mendR_stays e1 h1, by rw [list_mend]; exact e3⟩
  simp only [cut, hxy, h1, cond_false, downR, right_node, hn, h2, Bool.not_true, Bool.false_and]
  exact e
theorem cut_ok (ho : OrdOn lt S) : ∀ k, CutAt lt S x k
  | 0 => fun t h hk hn _ hl hI => by
    have := hI.mem
    cases ht : t.list with
    | nil => rw [ht] at this; cases this
    | cons a b => rw [ht] at hl; simp at hl
  | k + 1 => fun t h hk hn hc hl hI => by
    have ih := cut_ok ho k
    cases t with
    | nil => cases hn
    | node l y r c =>
    simp only [list, List.length_append, List.length_cons] at hl
    simp only [list] at hI
    cases hxy : lt x y
    · -- to the right
      cases c with
      | false =>
        obtain ⟨h, rfl, a, b, c⟩ := hk.inv_black
        have hlr : l.red = true := by rcases hc with hc | hc; cases hc; exact hc
        obtain ⟨ll, z, lr, rfl⟩ := red_true hlr
        obtain ⟨a1, a2, a3, a4⟩ := a.inv_red
        simp only [list, List.length_append, List.length_cons] at hl
        have hzx : lt z x = true := hI.down ho (by simp [list]) hxy
        have hI2 : In lt S x (ll.list ++ z :: (node lr y r true).list) := by simpa [list] using hI
        obtain ⟨hI3, e1⟩ := hI2.right ho hzx
        obtain ⟨t', e, q⟩ := ih (node lr y r true) h (.red a2 b a4 c) rfl (.inl rfl) (by simp only [list, List.length_append, List.length_cons]; omega) hI3
        refine ⟨mend (node ll z t' false), ?_, mendR_black a1 q.ok, fun _ => mendR_stays q.ok a3, ?_⟩
        · simp only [cut, hxy, cond_false, red_node, cond_true, toRight, right_node, isNil, downR, Bool.not_true, Bool.false_and, hzx]
          simp [e]
        · rw [list_mend]
          simp only [list]
          rw [q.list, ← e1]
          simp [list]
      | true =>
        obtain ⟨a, b, c, d⟩ := hk.inv_red
        cases h with
        | zero =>
          obtain rfl := black_zero a c
          obtain rfl := black_zero b d
          refine ⟨nil, by simp [cut, hxy, red, right, isNil], .nil, (fun h => by cases h), ?_⟩
          have hm := hI.mem
          simp [list] at hm
          subst hm
          simp [list, sans]
        | succ h =>
          obtain ⟨ll, u, lr, rfl, a1, a2, a3⟩ := black_succ a c
          obtain ⟨rl, z, rr, rfl, b1, b2, b3⟩ := black_succ b d
          simp only [list, List.length_append, List.length_cons] at hl
          cases hd : rl.red
          · cases he : ll.red
            · obtain ⟨m, r', e, e1, e2, e3⟩ := right_step ho ih (l := node ll u lr true) (c := false) (Ok.red (x := z) b1 b2 hd b3) rfl (.inl rfl) (by simp only [list, List.length_append, List.length_cons]; omega) (y := y) (by simpa [list] using hI) hxy
              refine ⟨_, ?_, mendR_black (y := m) (.red a1 a2 he a3) e1, (fun h => by cases h), by rw [list_mend]; rw [show (node (node ll u lr true) m r' false).list = (node ll u lr true).list ++ m :: r'.list from rfl, e3]; rfl⟩
              simp only [cut, hxy, cond_false, red_node, right_node, left_node, isNil, downR, hd, Bool.not_false, Bool.and_self, both, cond_true, redRight, flip, Bool.not_true, he]
              exact e
            · obtain ⟨p, v, s, rfl⟩ := red_true he
              obtain ⟨c1, c2, c3, c4⟩ := a1.inv_red
              have hux : lt u x = true := hI.down ho (by simp [list]) hxy
              have hI2 : In lt S x ((node p v s false).list ++ u :: (lr.list ++ y :: (node rl z rr true).list)) := by simpa [list] using hI
              obtain ⟨hI3, e1⟩ := hI2.right ho hux
              cases k with
              | zero => omega
              | succ k =>
              have ih' := cut_ok ho k
              obtain ⟨t', e, q⟩ := cut_pre ho ih' a2 (Ok.red (x := z) b1 b2 hd b3) a3 rfl hxy (by simp only [list, List.length_append, List.length_cons] at *; omega) hI3
              have q2 := q.black rfl
              have e5 := mend_id (l := node p v s false) (r := t') (x := u) (c := true) rfl q2
              refine ⟨node (node p v s false) u t' true, ?_, .red (.black c1 c2 c4) q.ok rfl q2, (fun h => by cases h), ?_⟩
              · rw [cut]
                simp only [hxy, cond_false, red_node, right_node, left_node, isNil, downR, hd, Bool.not_false, Bool.and_self, both, cond_true, redRight, flip, toRight, Bool.not_true, hux]
                rw [← e5, e]
                rfl
              · simp only [list] at *
                rw [q.list, ← e1]
                simp
          · obtain ⟨m, r', e, e1, e2, e3⟩ := right_step ho ih (l := node ll u lr false) (c := true) b rfl (.inr hd) (by simp only [list, List.length_append, List.length_cons]; omega) (y := y) (by simpa [list] using hI) hxy
            have q2 := e2 rfl
            have e5 := mend_id (l := node ll u lr false) (r := r') (x := m) (c := true) rfl q2
            refine ⟨node (node ll u lr false) m r' true, ?_, .red a e1 rfl q2, (fun h => by cases h), e3⟩
            rw [← e5]
            simp only [cut, hxy, cond_false, red_node, right_node, left_node, isNil, downR, hd, Bool.not_false, Bool.not_true, Bool.and_false, cond_true]
            exact e
    · -- to the left
      obtain ⟨hI1, eF⟩ := hI.left ho hxy
      cases c with
      | false =>
        obtain ⟨h, rfl, a, b, c⟩ := hk.inv_black
        have hlr : l.red = true := by rcases hc with hc | hc; cases hc; exact hc
        obtain ⟨ll, z, lr, rfl⟩ := red_true hlr
        obtain ⟨t', e, q⟩ := ih _ h a rfl (.inl rfl) (by omega) hI1
        have e2 := mendL_id (x := y) (c := false) q.ok c
        refine ⟨node t' y r false, ?_, .black q.ok b c, fun _ => rfl, ?_⟩
        · simp [cut, hxy, isNil, downL, left_node, right_node, red_node, e, e2]
        · simp only [list] at *
          rw [q.list, eF]
      | true =>
        obtain ⟨a, b, c, d⟩ := hk.inv_red
        cases h with
        | zero =>
          obtain rfl := black_zero a c
          have := hI1.mem
          cases this
        | succ h =>
          obtain ⟨ll, u, lr, rfl, a1, a2, a3⟩ := black_succ a c
          obtain ⟨rl, z, rr, rfl, b1, b2, b3⟩ := black_succ b d
          simp only [list, List.length_append, List.length_cons] at hl
          cases he : ll.red
          · cases hd : rl.red
            · obtain ⟨t', e, q⟩ := ih (node ll u lr true) h (.red a1 a2 he a3) rfl (.inl rfl) (by simp only [list, List.length_append, List.length_cons]; omega) hI1
              refine ⟨mend (node t' y (node rl z rr true) false), ?_, mendR_black q.ok (.red b1 b2 hd b3), (fun h => by cases h), ?_⟩
              · simp [cut, hxy, isNil, downL, both, redLeft, flip, left_node, right_node, red_node, he, hd, e]
              · rw [list_mend]
                simp only [list] at *
                rw [q.list, eF]
            · obtain ⟨rll, v, rlr, rfl⟩ := red_true hd
              obtain ⟨c1, c2, c3, c4⟩ := b1.inv_red
              have hxv : lt x v = true := hI.up ho (by simp [list]) hxy
              have hI2 : In lt S x ((node (node ll u lr true) y rll false).list ++ v :: (node rlr z rr false).list) := by simpa [list] using hI
              obtain ⟨hI3, eF2⟩ := hI2.left ho hxv
              obtain ⟨t', e, q⟩ := ih (node (node ll u lr true) y rll false) (h + 1) (.black (.red a1 a2 he a3) c1 c3) rfl (.inr rfl) (by simp only [list, List.length_append, List.length_cons] at *; omega) hI3
              have q2 := q.black rfl
              have e5 := mend_id (l := t') (r := node rlr z rr false) (x := v) (c := true) q2 rfl
              refine ⟨node t' v (node rlr z rr false) true, ?_, .red q.ok (.black c2 b2 b3) q2 rfl, (fun h => by cases h), ?_⟩
              · simp [cut, hxy, isNil, downL, both, redLeft, flip, toLeft, toRight, setR, left_node, right_node, red_node, he, e, e5]
              · simp only [list] at *
                rw [q.list, ← eF2]
                simp
          · obtain ⟨t', e, q⟩ := ih (node ll u lr false) (h + 1) a rfl (.inr he) (by simp only [list, List.length_append, List.length_cons]; omega) hI1
            have q2 := q.black rfl
            have e5 := mend_id (l := t') (r := node rl z rr false) (x := y) (c := true) q2 rfl
            refine ⟨node t' y (node rl z rr false) true, ?_, .red q.ok b q2 rfl, (fun h => by cases h), ?_⟩
            · simp [cut, hxy, isNil, downL, left_node, right_node, red_node, he, e, e5]
            · simp only [list] at *
              rw [q.list, eF]
end RB
end Go.Proofs.YtilajmcellffiaaGreatDoorX

namespace Go.Proofs.YtilajmcellffiaaGreatDoorX
open Go Go.RowKit
abbrev nodeO (x : Int) (av : Value) (pl pr : Option Addr) (c : Bool) : Obj := .cells #[.int .i64 x, av, .pointer pl, .pointer pr, .bool c] 324 (0, 0)
abbrev treeO (p : Option Addr) (n : Int) : Obj := .cells #[.pointer p, .int .i64 n, .func (.func 284) #[] #[], .func (.func 285) #[] #[], .func (.func 286) #[] #[]] 322 (0, 0)
def TreeAt (w : World) : RB Int → Option Addr → List Nat → Prop
  | .nil, p, fp => p = none ∧ fp = []
  | .node l x r c, p, fp => ∃ b av pl pr fl fr, p = some ⟨b, 0, none⟩ ∧ fp = b :: (fl ++ fr) ∧ w.heap[b]? = some (nodeO x av pl pr c) ∧ DAt w av (l.list ++ x :: r.list) ∧ TreeAt w l pl fl ∧ TreeAt w r pr fr
def StaleAt (w : World) (l : RB Int) (x : Int) (r : RB Int) (c : Bool) (p : Option Addr) (fp : List Nat) : Prop :=
  ∃ b av pl pr fl fr, p = some ⟨b, 0, none⟩ ∧ fp = b :: (fl ++ fr) ∧ w.heap[b]? = some (nodeO x av pl pr c) ∧ TreeAt w l pl fl ∧ TreeAt w r pr fr
theorem TreeAt.stale {w : World} {l : RB Int} {x : Int} {r : RB Int} {c : Bool} {p : Option Addr} {fp : List Nat} (h : TreeAt w (.node l x r c) p fp) : StaleAt w l x r c p fp := by
  obtain ⟨b, av, pl, pr, fl, fr, h1, h2, h3, h4, h5, h6⟩ := h
  exact ⟨b, av, pl, pr, fl, fr, h1, h2, h3, h5, h6⟩
def Nodes (w : World) (F : List Nat) : Prop := ∀ b ∈ F, ∃ cs fz, w.heap[b]? = some (.cells cs 324 fz)
theorem Nodes.nil (w : World) : Nodes w [] := fun b h => by cases h
theorem Nodes.append {w : World} {F G : List Nat} (h : Nodes w F) (k : Nodes w G) : Nodes w (F ++ G) := fun b hb => by
  rcases List.mem_append.1 hb with hb | hb
  · exact h b hb
  · exact k b hb
theorem Nodes.sub {w : World} {F G : List Nat} (h : Nodes w F) (k : ∀ b ∈ G, b ∈ F) : Nodes w G := fun b hb => h b (k b hb)
theorem Nodes.cons {w : World} {F : List Nat} {b : Nat} {cs : Array Value} {fz : Nat × Nat} (h : w.heap[b]? = some (.cells cs 324 fz)) (k : Nodes w F) : Nodes w (b :: F) := fun b' hb => by
  rcases List.mem_cons.1 hb with rfl | hb
  · exact ⟨_, _, h⟩
  · exact k b' hb
theorem TreeAt.nodes {w : World} : ∀ {t : RB Int} {p : Option Addr} {fp : List Nat}, TreeAt w t p fp → Nodes w fp
  | .nil, p, fp, ⟨_, h⟩ => by subst h; exact Nodes.nil w
  | .node l x r c, p, fp, ⟨b, av, pl, pr, fl, fr, h1, h2, h3, h4, h5, h6⟩ => by
    subst h2
    exact .cons h3 (h5.nodes.append h6.nodes)
theorem StaleAt.nodes {w : World} {l : RB Int} {x : Int} {r : RB Int} {c : Bool} {p : Option Addr} {fp : List Nat} (h : StaleAt w l x r c p fp) : Nodes w fp := by
  obtain ⟨b, av, pl, pr, fl, fr, h1, h2, h3, h5, h6⟩ := h
  subst h2
  exact .cons h3 (h5.nodes.append h6.nodes)
theorem DAt.keep {w w' : World} {v : Value} {xs : List Int} {F : List Nat} (h : DAt w v xs) (ho : Only F w w') (hF : Nodes w F) : DAt w' v xs := by
  obtain ⟨ad, cap, rfl, h⟩ := h
  refine ⟨ad, cap, rfl, fun hn => ?_⟩
  obtain ⟨b, off, cs, fz, h1, h2, h3, h4⟩ := h hn
  refine ⟨b, off, cs, fz, h1, h2, ho.block h3 fun hb => ?_, h4⟩
  obtain ⟨cs', fz', h5⟩ := hF b hb
  rw [h3] at h5
  cases h5
theorem TreeAt.keep {w w' : World} {F : List Nat} (ho : Only F w w') (hF : Nodes w F) : ∀ {t : RB Int} {p : Option Addr} {fp : List Nat}, TreeAt w t p fp → (∀ b ∈ fp, b ∉ F) → TreeAt w' t p fp
  | .nil, p, fp, h, _ => h
  | .node l x r c, p, fp, ⟨b, av, pl, pr, fl, fr, h1, h2, h3, h4, h5, h6⟩, hd => by
    subst h2
    exact ⟨b, av, pl, pr, fl, fr, h1, rfl, ho.block h3 (hd b List.mem_cons_self), h4.keep ho hF, TreeAt.keep ho hF h5 fun k hk => hd k (List.mem_cons_of_mem _ (List.mem_append_left _ hk)),
      TreeAt.keep ho hF h6 fun k hk => hd k (List.mem_cons_of_mem _ (List.mem_append_right _ hk))⟩
theorem head_keep {w w' : World} {F : List Nat} {tb : Nat} {p : Option Addr} {n : Int} (h : w.heap[tb]? = some (treeO p n)) (ho : Only F w w') (hF : Nodes w F) : w'.heap[tb]? = some (treeO p n) :=
  ho.block h fun hb => by
    obtain ⟨cs', fz', h5⟩ := hF tb hb
    rw [h] at h5
    cases h5
def Sub (w0 : World) (fp fp' : List Nat) : Prop := fp'.Nodup ∧ ∀ k ∈ fp', k ∈ fp ∨ w0.heap.size ≤ k
end Go.Proofs.YtilajmcellffiaaGreatDoorX

namespace Go.Proofs.YtilajmcellffiaaGreatDoorX
open Go Go.RowKit
attribute [local irreducible] XS XC XA thenE blockE retE loopE loopS cutB cutN doneE SE
theorem less_ret (a b : Int) (w0 : World) : Ret Tryz.prog 284 #[.int .i64 a, .int .i64 b] w0 fun v w' => v = .bool (decide (a < b)) ∧ Only [] w0 w' := by
  have hs := St.nil w0
  refine ret_of_xc Tryz.func284 (by kernel_rfl) rfl Tryz.ntmps284 rfl rfl rfl ?_
  repeat' (first|refine vs (k:=?_)|refine qRg ?_|refine Nx.h ?_|fail)
  first | refine rt (hq := ?_) | refine rt' (hq := ?_)
  exact ⟨rfl, hs.only0 rfl⟩
theorem one_ret (a : Int) (w0 : World) : Ret Tryz.prog 285 #[.int .i64 a] w0 fun v w' => DAt w' v [a] ∧ Only [] w0 w' := by
  have hs := St.nil w0
  refine ret_of_xc Tryz.func285 (by kernel_rfl) rfl Tryz.ntmps285 rfl rfl rfl ?_
  repeat' (first|refine vs (k:=?_)|(refine bs hs (k:=?_);intro b w hz hs)|refine qRg ?_|refine Nx.h ?_|fail)
  first | refine rt (hq := ?_) | refine rt' (hq := ?_)
  refine ⟨⟨_, _, rfl, fun _ => ⟨_, 0, [.int .i64 a], (0, 0), rfl, Nat.le_refl _, hs.get At.head, fun i d h => ?_⟩⟩, hs.only0 rfl⟩
  cases i with
  | zero => simpa using h
  | succ i => simp at h
theorem ints_one (xs : List Int) : (xs.map (Value.int .i64)).all Value.oneCell' = true := by simp [Value.oneCell']
theorem DAt.cells {w : World} {ad : Option Addr} {cap n : Nat} {xs : List Int} (h : DAt w (.slice ad n cap) xs) (hn : xs ≠ []) : ∃ b off, ad = some ⟨b, off, none⟩ ∧ n = xs.length ∧ n ≤ cap ∧ ∀ (j : Nat) u, (ints xs)[j]? = some u → w.cell? ((⟨b, off, none⟩ : Addr).add j) = some u := by
  obtain ⟨ad', cap', e, h⟩ := h
  cases e
  obtain ⟨b, off, cs, fz, rfl, h2, h3, h4⟩ := h hn
  refine ⟨b, off, rfl, rfl, h2, fun j u hj => ?_⟩
  rw [add_addr]
  unfold ints at hj
  rw [List.getElem?_map] at hj
  obtain ⟨d, hd, rfl⟩ := Option.map_eq_some_iff.1 hj
  simp [World.cell?, h3, h4 j d hd]
theorem both_ret (va vb : Value) (A B : List Int) (hA0 : A ≠ []) (hB0 : B ≠ []) (hlen : A.length + B.length ≤ 1000000) (w0 : World) (hA : DAt w0 va A) (hB : DAt w0 vb B) :
    Ret Tryz.prog 286 #[va, vb] w0 fun v w' => DAt w' v (A ++ B) ∧ Only [] w0 w' := by
  obtain ⟨aa, ca, rfl, _⟩ := id hA
  obtain ⟨ab, cb, rfl, _⟩ := id hB
  have hs := St.nil w0
  refine ret_of_xc Tryz.func286 (by kernel_rfl) rfl Tryz.ntmps286 rfl rfl rfl ?_
  refine xc_seq ?_
  refine xc_region ?_ ?_; exact rfl
  refine vs (k := ?_)
  refine XS.nil ?_
  refine then_of ?_
  refine xc_seq ?_
  refine xc_region ?_ ?_; exact rfl
  refine xs_buildSlice0 tabOk rfl rfl hs ?_
  intro v1 w1 hO hv1
  refine vs (k := ?_)
  have ho1 := hO.st.only0 rfl
  obtain ⟨b, off, rfl, _, _, hc⟩ := (hA.only ho1).cells hA0
  refine xs_appendS tabOk rfl rfl rfl rfl rfl rfl (by simp [ints]) (List.length_pos_iff.2 hA0) hc (List.all_eq_true.1 (ints_one A)) hO (by omega) (by omega) ?_
  intro v2 w2 hO hv2
  refine vs (k := ?_)
  have ho2 := hO.st.only0 rfl
  obtain ⟨b', off', rfl, _, _, hc'⟩ := (hB.only ho2).cells hB0
  refine xs_appendS tabOk rfl rfl rfl rfl rfl rfl (by simp [ints]) (List.length_pos_iff.2 hB0) hc' (List.all_eq_true.1 (ints_one B)) hO (by omega) (by omega) ?_
  intro v3 w3 hO hv3
  have hs := hO.st
  repeat' (first|refine vs (k:=?_)|refine Nx.h ?_|fail)
  first | refine rt (hq := ?_) | refine rt' (hq := ?_)
  refine ⟨?_, hs.only0 rfl⟩
  have e : ints A ++ ints B = ints (A ++ B) := by simp [ints]
  simp only [List.nil_append] at hO
  rw [e] at hO
  exact own_dat hO (by simp)
theorem isRed_ret (t : RB Int) (p : Option Addr) (fp : List Nat) (w0 : World) (h : TreeAt w0 t p fp) : Ret Tryz.prog 299 #[.pointer p] w0 fun v w' => v = .bool t.red ∧ Only [] w0 w' := by
  have hs := St.nil w0
  cases t with
  | nil =>
    obtain ⟨rfl, rfl⟩ := h
    refine ret_of_xc Tryz.func299 (by kernel_rfl) rfl Tryz.ntmps299 rfl rfl rfl ?_
    repeat' (first|refine vs (k:=?_)|refine ps (k:=?_)|refine qRg ?_|refine Nx.h ?_|fail)
    first | refine rt (hq := ?_) | refine rt' (hq := ?_)
    exact ⟨rfl, hs.only0 rfl⟩
  | node l x r c =>
    obtain ⟨b, av, pl, pr, fl, fr, rfl, h2, h3, h4, h5, h6⟩ := h
    replace hs := hs.track h3 (by simp)
    refine ret_of_xc Tryz.func299 (by kernel_rfl) rfl Tryz.ntmps299 rfl rfl rfl ?_
    repeat' (first|refine vs (k:=?_)|refine qRg ?_|refine Nx.h ?_|fail)
    first | refine rt (hq := ?_) | refine rt' (hq := ?_)
    exact ⟨rfl, hs.onlyF [] (by simp [h3]) (by simp [D0])⟩
end Go.Proofs.YtilajmcellffiaaGreatDoorX

namespace Go.Proofs.YtilajmcellffiaaGreatDoorX
open Go Go.RowKit
attribute [local irreducible] XS XC XA thenE blockE retE loopE loopS cutB cutN doneE SE
structure Minus (A B xs : List Int) (i : Nat) (c : Int) : Prop where
  len : xs.length = i
  ok : DOk xs
  c0 : 0 ≤ c
  c1 : c ≤ 1
  le : i ≤ A.length
  sum : valD xs - 10000 ^ i * c = valD (A.take i) - valD (B.take i)
theorem minus_next {A B xs : List Int} {i : Nat} {c : Int} (hA : DOk A) (hB : DOk B) (h : Minus A B xs i c) (hi : i < A.length) :
    (dig A i - dig B i - c < 0 → Minus A B (xs ++ [dig A i - dig B i - c + 10000]) (i + 1) 1) ∧ (¬ dig A i - dig B i - c < 0 → Minus A B (xs ++ [dig A i - dig B i - c]) (i + 1) 0) := by
  obtain ⟨h1, h2, h3, h4, h5, h7⟩ := h
  have a1 := dig_rng hA i
  have b1 := dig_rng hB i
  refine ⟨fun hn => ⟨by simp [h1], h2.snoc (by omega) (by omega), by omega, by omega, by omega, ?_⟩, fun hn => ⟨by simp [h1], h2.snoc (by omega) (by omega), by omega, by omega, by omega, ?_⟩⟩
  · rw [valD_snoc, h1, valD_take, valD_take, Int.pow_succ]
    have : (10000 : Int) ^ i * (dig A i - dig B i - c + 10000) = 10000 ^ i * dig A i - 10000 ^ i * dig B i - 10000 ^ i * c + 10000 ^ i * 10000 := by grind
    omega
  · rw [valD_snoc, h1, valD_take, valD_take]
    have : (10000 : Int) ^ i * (dig A i - dig B i - c) = 10000 ^ i * dig A i - 10000 ^ i * dig B i - 10000 ^ i * c := by grind
    omega
theorem minus_end {A B xs : List Int} {i : Nat} {c : Int} (hA : DOk A) (hB : DOk B) (h : Minus A B xs i c) (h1 : A.length ≤ i) (h2 : B.length ≤ A.length) (h3 : valD B ≤ valD A) : valD xs = valD A - valD B := by
  have hs := h.sum
  rw [List.take_of_length_le h1, List.take_of_length_le (by omega)] at hs
  have h4 := valD_lt h.ok
  rw [h.len] at h4
  have h5 := valD_nonneg h.ok
  have hc : c = 0 := by
    have h6 := h.c0
    have h7 := h.c1
    have h8 : c = 0 ∨ c = 1 := by omega
    rcases h8 with h8 | h8
    · exact h8
    · subst h8; omega
  subst hc
  omega
set_option maxHeartbeats 1000000 in
theorem minus_ret (na nb : Bool) (sa sb : Value) (A B : List Int) (w0 : World) (hDA : DAt w0 sa A) (hDB : DAt w0 sb B) (hA : DOk A) (hB : DOk B) (lA : A.length ≤ 1001) (lB : B.length ≤ A.length) (hge : valD B ≤ valD A) :
    Ret Tryz.prog 168 #[.agg #[.bool na, sa], .agg #[.bool nb, sb]] w0 fun v w' => (∃ ds, DAt w' v ds ∧ DOk ds ∧ ds.length ≤ 1001 ∧ valD ds = valD A - valD B) ∧ Only [] w0 w' := by
  obtain ⟨ada, ca, rfl, hDA'⟩ := id hDA
  obtain ⟨adb, cb, rfl, hDB'⟩ := id hDB
  have hs := St.nil w0
  refine ret_of_xc Tryz.func168 (by kernel_rfl) rfl Tryz.ntmps168 rfl rfl rfl ?_
  refine xc_seq ?_
  refine xc_region ?_ ?_; exact rfl
  refine bx hs (k := ?_); intro b2 w hz hs
  refine bx hs (k := ?_); intro b3 w hz hs
  repeat' (first|refine vs (k:=?_)|refine qRg ?_|refine Nx.h ?_|fail)
  refine xc_cutB (fun (s : Value) => [(5, s)]) (fun v w => ∃ xs c i, Minus A B xs i c ∧ A.length ≤ i ∧ OwnS w0 D0 [(b3, .cells #[.bool nb, .slice adb B.length cb] 79, true), (b2, .cells #[.bool na, .slice ada A.length ca] 79, true)] 3 1 v i (ints xs) w) ?_ ?_
  · refine xc_loopS (fun (s : Nat × Int × Value × List Int) => [(2, .pointer (some ⟨b2, 0, none⟩)), (3, .pointer (some ⟨b3, 0, none⟩)), (5, s.2.2.1), (6, .int .i64 s.2.1), (7, .int .i64 (s.1 : Nat))])
      (fun s w => Minus A B s.2.2.2 s.1 s.2.1 ∧ OwnS w0 D0 [(b3, .cells #[.bool nb, .slice adb B.length cb] 79, true), (b2, .cells #[.bool na, .slice ada A.length ca] 79, true)] 3 1 s.2.2.1 s.1 (ints s.2.2.2) w)
      (fun s => A.length + 1 - s.1) (0, 0, .slice none 0 0, []) (by (repeat (first | exact agree_nil | (apply agree_cons; exact rfl)))) ⟨⟨rfl, DOk.nil, by decide, by decide, by omega, by simp [valD]⟩, .inl ⟨rfl, rfl, rfl, hs⟩⟩ fun s env w hI => ?_
    obtain ⟨hp, hO⟩ := hI
    clear hs
    generalize hi : s.1 = i at *
    generalize hcc : s.2.1 = c at *
    generalize hvv : s.2.2.1 = v at *
    generalize hxs : s.2.2.2 = xs at *
    have hs := hO.st
    repeat' (first|refine vs (k:=?_)|refine qRg ?_|refine Nx.h ?_|(refine xc_if rfl (fun hc=>?_) (fun hc=>?_))|fail)
    · have hA1 := dig_rng hA i
      have hB1 := dig_rng hB i
      have hc0 := hp.c0
      have hc1 := hp.c1
      have hle := hp.le
      have hiA : i < A.length := by omega
      obtain ⟨hn1, hn2⟩ := minus_next hA hB hp hiA
      have eS : IntKind.i64.wrap (IntKind.i64.wrap (dig A i - dig B i) - c) = dig A i - dig B i - c := by
        have e1 : IntKind.i64.wrap (dig A i - dig B i) = dig A i - dig B i := i64_small (by omega) (by omega)
        rw [e1]
        exact i64_small (by omega) (by omega)
      have eT : dig A i - dig B i - c < 0 → IntKind.i64.wrap (dig A i - dig B i - c + 10000) = dig A i - dig B i - c + 10000 := fun _ => i64_small (by omega) (by omega)
      have ei : IntKind.i64.wrap ((i : Int) + 1) = ((i + 1 : Nat) : Int) := by
        have e1 : (i : Int) + 1 = ((i + 1 : Nat) : Int) := by omega
        rw [e1]
        exact i64_small (by omega) (by omega)
      obtain ⟨b', off, cs, fz, rfl, h1, h2, h3⟩ := hDA' (by intro e; subst e; simp at hiA)
      have hget : cs[off + ((i : Nat) : Int).toNat * 1]? = some (.int .i64 (dig A i)) := by simpa using h3 i _ (dig_get hiA)
      clear hs
      rcases hO with ⟨rfl, hn, hx, hs⟩ | ⟨g, cap, cur, rfl, hcap, hcl, hxl, htk, hs⟩
      all_goals (
        have hR : ∀ {H : List Ent} {w : World}, St w0 D0 H w → olds H ++ D0.dirty = [] → Hold ((b', .cells cs.toArray 3 fz, false) :: H) w := fun hs ho => hold_cons ((hs.only0 ho).block h2 (by simp)) hs.hold
        refine drB [] b' (.cells cs.toArray 3 fz) hs (k := ?_); intro hX w hs
        refine tk 0 hX (k := ?_)
        refine tk 1 hX (k := ?_)
        refine tk 2 hX (k := ?_)
        refine tk 3 hX (hr := fun w' hH => r_indexAddr tabOk rfl rfl rfl (by omega) (by omega)) (k := ?_)
        refine tk 4 hX (v := .int .i64 (dig A i)) (hr := fun w' hH => r_load tabOk rfl rfl (hH rfl) At.head hget) (k := ?_)
        refine tk 5 hX (k := ?_)
        refine tk 6 hX (k := ?_)
        refine tk 9 hX (k := ?_)
        refine dt 7 hX (k := ?_)
        (with_reducible apply xs_call); exact rfl; exact rfl; exact digit_ret nb _ B _ (hDB.only (hs.only0 rfl)) i
        rintro v w' ⟨rfl, ho⟩; replace hs := hs.call0 ho; repeat' (first|refine Nx.h ?_|fail)
        refine dn (k := ?_)
        refine tk 8 hX (k := ?_)
        refine tk 10 hX (k := ?_)
        rw [eS]
        refine tk 11 hX (k := ?_)
        refine en (k := ?_)
        repeat' (first|refine vs (k:=?_)|(refine bs hs (k:=?_);intro b w hz hs)|refine qRg ?_|refine Nx.h ?_|(refine xc_if rfl (fun hc=>?_) (fun hc=>?_))|fail)
        · rw [eT hc] at hs ⊢
          refine apd (k := i) (xs := ints xs) (news := [.int .i64 (dig A i - dig B i - c + 10000)]) (by first | exact .inl ⟨rfl, hn, hx, hs⟩ | exact .inr ⟨_, _, _, rfl, hcap, hcl, hxl, htk, hs.swap⟩) (hk := by omega) (hk' := by simp only [maxLen]; omega) (kk := ?_)
          intro v' w hO' hv'
          rw [ints_snoc] at hO'
          clear hs
          have hs := hO'.st
          repeat' (first|refine vs (k:=?_)|refine qRg ?_|refine Nx.h ?_|fail)
          exact loopS_next (i + 1, 1, v', xs ++ [dig A i - dig B i - c + 10000]) (by simp only [hi]; omega) (by (repeat (first | exact agree_nil | (apply agree_cons; first | exact rfl | exact congrArg (Value.int .i64) ei)))) ⟨hn1 hc, hO'⟩
        · refine apd (k := i) (xs := ints xs) (news := [.int .i64 (dig A i - dig B i - c)]) (by first | exact .inl ⟨rfl, hn, hx, hs⟩ | exact .inr ⟨_, _, _, rfl, hcap, hcl, hxl, htk, hs.swap⟩) (hk := by omega) (hk' := by simp only [maxLen]; omega) (kk := ?_)
          intro v' w hO' hv'
          rw [ints_snoc] at hO'
          clear hs
          have hs := hO'.st
          repeat' (first|refine vs (k:=?_)|refine qRg ?_|refine Nx.h ?_|fail)
          exact loopS_next (i + 1, 0, v', xs ++ [dig A i - dig B i - c]) (by simp only [hi]; omega) (by (repeat (first | exact agree_nil | (apply agree_cons; first | exact rfl | exact congrArg (Value.int .i64) ei)))) ⟨hn2 hc, hO'⟩)
    · exact cutB_exit v (by (repeat (first | exact agree_nil | (apply agree_cons; exact rfl)))) ⟨xs, c, i, hp, by omega, hO⟩
  · rintro v env w ⟨xs, c, i, hp, h1, hO⟩
    have hs := hO.st
    repeat' (first|refine vs (k:=?_)|refine qRg ?_|refine Nx.h ?_|fail)
    first | refine rt (hq := ?_) | refine rt' (hq := ?_)
    exact ⟨⟨xs, own_dat hO hp.len.symm, hp.ok, by have := hp.le; have := hp.len; omega, minus_end hA hB hp h1 lB hge⟩, hs.only0 rfl⟩
end Go.Proofs.YtilajmcellffiaaGreatDoorX

namespace Go.Proofs.YtilajmcellffiaaGreatDoorX
open Go Go.RowKit
attribute [local irreducible] XS XC XA thenE blockE retE loopE loopS cutB cutN doneE SE
theorem valD_pos {ds : List Int} (h : DOk ds) (ht : Trim ds) (hn : ds ≠ []) : 0 < valD ds := by
  have := valD_nonneg h
  have h2 := mt (valD_zero h ht).1 hn
  omega
def notInt (e : Ent) : Bool := match e.2.1 with
  | .cells _ t _ => !(Nat.beq t 3)
  | _ => true
theorem BigAt.read {w wb : World} {D : Ctx} {H : List Ent} {v : Value} {x : Int} (hB : BigAt w v x) (hs : St wb D H w) (hH : H.all notInt = true) :
    ∃ R, St wb ⟨D.dirty, R ++ D.ro⟩ H w ∧ ∀ w', (∀ e ∈ R, w'.heap[e.1]? = some e.2) → BigAt w' v x := by
  obtain ⟨neg, sl, ds, rfl, ⟨ad, cap, rfl, hD⟩, hok, ht, hz, rfl⟩ := hB
  by_cases hn : ds = []
  · exact ⟨[], hs, fun w' _ => ⟨neg, _, ds, rfl, ⟨ad, cap, rfl, fun h => absurd hn h⟩, hok, ht, hz, rfl⟩⟩
  · obtain ⟨b, off, cs, fz, rfl, h1, h2, h3⟩ := hD hn
    refine ⟨[(b, .cells cs.toArray 3 fz)], hs.read h2 ?_, fun w' hw => ⟨neg, _, ds, rfl, ⟨_, cap, rfl, fun _ => ⟨b, off, cs, fz, rfl, h1, hw _ List.mem_cons_self, h3⟩⟩, hok, ht, hz, rfl⟩⟩
    intro hm
    obtain ⟨e, he, hb⟩ := List.mem_map.1 hm
    have h4 := hs.at_ e he
    rw [hb, h2] at h4
    have h5 := List.all_eq_true.1 hH e he
    unfold notInt at h5
    cases h4' : e.2.1 with
    | cells a t f =>
      rw [h4'] at h4 h5
      cases h4
      simp at h5
    | _ => rw [h4'] at h4; cases h4
theorem BigAt.shape {w : World} {v : Value} {x : Int} (hB : BigAt w v x) : ∃ n ad l c, v = .agg #[.bool n, .slice ad l c] := by
  obtain ⟨neg, sl, ds, rfl, ⟨ad, cap, rfl, hD⟩, _⟩ := hB
  exact ⟨_, _, _, _, rfl⟩
def InB (x : Int) : Prop := -(10000 ^ 60) < x ∧ x < 10000 ^ 60
theorem len_in {neg : Bool} {ds : List Int} (hok : DOk ds) (ht : Trim ds) (h : InB (sg neg (valD ds))) : ds.length ≤ 60 := by
  obtain ⟨h1, h2⟩ := h
  refine len_le hok ht ?_
  cases neg <;> simp only [sg, cond_true, cond_false] at h1 h2 <;> omega
theorem cmpI_neg {x : Int} (h : x < 0) : cmpI x 0 = -1 := by unfold cmpI; rw [if_pos h]
theorem cmpI_pos {x : Int} (h : 0 < x) : cmpI x 0 = 1 := by unfold cmpI; rw [if_neg (by omega), if_pos h]
theorem bigSign_ret (v : Value) (x : Int) (w0 : World) (hB : BigAt w0 v x) : Ret Tryz.prog 81 #[v] w0 fun v w' => v = .int .i64 (cmpI x 0) ∧ Only [] w0 w' := by
  obtain ⟨neg, sl, ds, rfl, hD, hok, ht, hz, rfl⟩ := hB
  obtain ⟨ad, cap, rfl, hD'⟩ := hD
  have hs := St.nil w0
  have key : ds ≠ [] → 0 < valD ds := valD_pos hok ht
  refine ret_of_xc Tryz.func81 (by kernel_rfl) rfl Tryz.ntmps81 rfl rfl rfl ?_
  repeat' (first|refine vs (k:=?_)|(refine bx hs (k:=?_);intro b w hz hs)|refine qRg ?_|refine Nx.h ?_|(refine xc_if rfl (fun hc=>?_) (fun hc=>?_))|(refine xc_cond rfl (fun hc=>?_) (fun hc=>?_))|fail)
  · first | refine rt (hq := ?_) | refine rt' (hq := ?_)
    refine ⟨?_, hs.only0 rfl⟩
    have h0 : ds = [] := List.eq_nil_of_length_eq_zero (by omega)
    subst h0
    rw [hz rfl]; rfl
  · first | refine rt (hq := ?_) | refine rt' (hq := ?_)
    refine ⟨?_, hs.only0 rfl⟩
    have hp := key (by intro e; subst e; simp at *)
    subst hc
    exact (congrArg (Value.int .i64) (cmpI_neg (x := sg true (valD ds)) (show -valD ds < 0 by omega))).symm
  · first | refine rt (hq := ?_) | refine rt' (hq := ?_)
    refine ⟨?_, hs.only0 rfl⟩
    have hp := key (by intro e; subst e; simp at *)
    subst hc
    exact (congrArg (Value.int .i64) (cmpI_pos (x := sg false (valD ds)) (show 0 < valD ds by omega))).symm
theorem bigNeg_ret (v : Value) (x : Int) (w0 : World) (hB : BigAt w0 v x) (hx : InB x) : Ret Tryz.prog 124 #[v] w0 fun v w' => BigAt w' v (-x) ∧ Only [] w0 w' := by
  obtain ⟨neg, sl, ds, rfl, hD, hok, ht, hz, rfl⟩ := hB
  have hlen : ds.length ≤ 60 := len_in hok ht hx
  have hD0 := hD
  obtain ⟨ad, cap, rfl, hD'⟩ := hD
  have hs := St.nil w0
  refine ret_of_xc Tryz.func124 (by kernel_rfl) rfl Tryz.ntmps124 rfl rfl rfl ?_
  repeat' (first|refine vs (k:=?_)|(refine al hs (k:=?_);intro b w hz hs)|(refine bx hs (k:=?_);intro b w hz hs)|refine qRg ?_|refine Nx.h ?_|fail)
  (with_reducible apply xs_call); exact rfl; exact rfl; exact trim_ret (!neg) _ ds _ (hD0.only (hs.only0 rfl)) hok (by omega)
  rintro v w' ⟨hB, ho⟩; replace hs := hs.call0 ho
  obtain ⟨n1, a1, l1, c1, rfl⟩ := hB.shape
  obtain ⟨R, hs, hB⟩ := hB.read hs rfl
  repeat' (first|(refine stA hs (k:=?_);intro w hs)|refine Nx.h ?_|fail)
  first | refine rt (hq := ?_) | refine rt' (hq := ?_)
  refine ⟨?_, hs.only0 rfl⟩
  have h := hB _ (fun e he => hs.ro e (List.mem_append_left _ he))
  have e : sg (!neg) (valD ds) = -sg neg (valD ds) := by cases neg <;> simp [sg]
  rw [e] at h
  exact h
end Go.Proofs.YtilajmcellffiaaGreatDoorX

namespace Go.Proofs.YtilajmcellffiaaGreatDoorX
open Go Go.RowKit
attribute [local irreducible] XS XC XA thenE blockE retE loopE loopS cutB cutN doneE SE
theorem DAt.read {w wb : World} {D : Ctx} {H : List Ent} {v : Value} {ds : List Int} (hB : DAt w v ds) (hs : St wb D H w) (hH : H.all notInt = true) :
    ∃ R, St wb ⟨D.dirty, R ++ D.ro⟩ H w ∧ ∀ w', (∀ e ∈ R, w'.heap[e.1]? = some e.2) → DAt w' v ds := by
  obtain ⟨ad, cap, rfl, hD⟩ := hB
  by_cases hn : ds = []
  · exact ⟨[], hs, fun w' _ => ⟨ad, cap, rfl, fun h => absurd hn h⟩⟩
  · obtain ⟨b, off, cs, fz, rfl, h1, h2, h3⟩ := hD hn
    refine ⟨[(b, .cells cs.toArray 3 fz)], hs.read h2 ?_, fun w' hw => ⟨_, cap, rfl, fun _ => ⟨b, off, cs, fz, rfl, h1, hw _ List.mem_cons_self, h3⟩⟩⟩
    intro hm
    obtain ⟨e, he, hb⟩ := List.mem_map.1 hm
    have h4 := hs.at_ e he
    rw [hb, h2] at h4
    have h5 := List.all_eq_true.1 hH e he
    unfold notInt at h5
    cases h4' : e.2.1 with
    | cells a t f =>
      rw [h4'] at h4 h5
      cases h4
      simp at h5
    | _ => rw [h4'] at h4; cases h4
theorem ne_of_objs {w : World} {a b : Nat} {o o' : Obj} (h : w.heap[a]? = some o) (k : w.heap[b]? = some o') (hne : o ≠ o') : a ≠ b := fun e => by
  subst e
  rw [h] at k
  exact hne (Option.some.inj k)
theorem head_ne {w : World} {tb b : Nat} {p : Option Addr} {n : Int} {cs : Array Value} {fz : Nat × Nat} (h : w.heap[tb]? = some (treeO p n)) (k : w.heap[b]? = some (.cells cs 324 fz)) : b ≠ tb := fun e => by
  subst e
  rw [h] at k
  cases k
set_option maxHeartbeats 1000000 in
theorem rbSum_ret (tb : Nat) (p0 : Option Addr) (n0 : Int) (l : RB Int) (x : Int) (r : RB Int) (c : Bool) (p : Option Addr) (fp : List Nat) (w0 : World) (hT : w0.heap[tb]? = some (treeO p0 n0)) (h : StaleAt w0 l x r c p fp) (hnd : fp.Nodup) (hlen : (l.list ++ x :: r.list).length ≤ 1000000) :
    Ret Tryz.prog 298 #[.pointer (some ⟨tb, 0, none⟩), .pointer p] w0 fun v w' => TreeAt w' (.node l x r c) p fp ∧ Only fp w0 w' := by
  obtain ⟨b, av, pl, pr, fl, fr, rfl, rfl, hb, hl, hr⟩ := h
  have hbt := head_ne hT hb
  obtain ⟨hnb, hnd2⟩ := List.nodup_cons.1 hnd
  have hnl : ∀ k ∈ fl, k ∉ [b] := fun k hk hm => by
    obtain rfl := List.mem_singleton.1 hm
    exact hnb (List.mem_append_left _ hk)
  have hnr : ∀ k ∈ fr, k ∉ [b] := fun k hk hm => by
    obtain rfl := List.mem_singleton.1 hm
    exact hnb (List.mem_append_right _ hk)
  have hlr : ∀ k ∈ fl, k ∉ fr := fun k hk hm => (List.nodup_append.1 hnd2).2.2 k hk k hm rfl
  have hNb : Nodes w0 [b] := Nodes.cons hb (Nodes.nil w0)
  have fin : ∀ (w' : World) (av' : Value), w'.heap[b]? = some (nodeO x av' pl pr c) → DAt w' av' (l.list ++ x :: r.list) → Only [b] w0 w' → TreeAt w' (.node l x r c) (some ⟨b, 0, none⟩) (b :: (fl ++ fr)) ∧ Only (b :: (fl ++ fr)) w0 w' := fun w' av' h1 h2 ho =>
    ⟨⟨b, av', pl, pr, fl, fr, rfl, rfl, h1, h2, hl.keep ho hNb hnl, hr.keep ho hNb hnr⟩, ho.weaken fun k hk => by obtain rfl := List.mem_singleton.1 hk; exact List.mem_cons_self⟩
  clear hnd
  have hs := St.nil w0
  replace hs := hs.track hT (by simp)
  replace hs := hs.track hb (by simpa using hbt)
  cases l with
  | nil =>
    cases r with
    | nil =>
      obtain ⟨rfl, rfl⟩ := hl
      obtain ⟨rfl, rfl⟩ := hr
      refine ret_of_xc Tryz.func298 (by kernel_rfl) rfl Tryz.ntmps298 rfl rfl rfl ?_
      repeat' (first|refine Nx.h ?_|fail)
      refine dr [12] hs (k := ?_); intro hX w hs
      refine tk 0 hX (k := ?_)
      refine tk 1 hX (k := ?_)
      refine tk 2 hX (k := ?_)
      refine tk 3 hX (k := ?_)
      refine tk 4 hX (k := ?_)
      refine tk 5 hX (k := ?_)
      refine tk 6 hX (k := ?_)
      refine tk 7 hX (k := ?_)
      refine tk 8 hX (k := ?_)
      refine dt 9 hX (k := ?_)
      (with_reducible apply xs_call); exact rfl; exact rfl; exact one_ret x _
      rintro v w' ⟨h1, ho⟩; replace hs := hs.call0 ho; obtain ⟨ad1, cp1, rfl, _⟩ := id h1; obtain ⟨R1, hs, h1⟩ := (h1).read hs rfl
      repeat' (first|refine Nx.h ?_|fail)
      refine dn (k := ?_)
      refine tk 10 hX (k := ?_)
      refine tk 11 hX (k := ?_)
      refine dt 12 hX (k := ?_)
      repeat' (first|(refine st hs (k:=?_);intro w hs)|refine Nx.h ?_|fail)
      refine dn (k := ?_)
      refine en (k := ?_)
      repeat' (first|refine vs (k:=?_)|refine qRg ?_|refine Nx.h ?_|refine qCf ?_|fail)
      first | refine rt' (vs := []) (hr := resOk_nil) (hq := ?_) | refine rt (vs := []) (hr := resOk_nil) (hq := ?_)
      have hav := (h1 _ (fun e he => hs.ro e (by simp [he])))
      refine fin _ _ (hs.get At.head) (by simpa [RB.list] using hav) (hs.onlyF [b] (by simp [hT]) (by simp [D0]))
    | node rl rx rr rc =>
      obtain ⟨rfl, rfl⟩ := hl
      have hr0 := hr
      obtain ⟨rb, rav, rpl, rpr, rfl', rfr, rfl, rfl, hrb, hrav, hrl, hrr'⟩ := hr
      have hrt := head_ne hT hrb
      have hbrb : rb ≠ b := fun e => by subst e; exact hnr _ List.mem_cons_self List.mem_cons_self
      replace hs := hs.track hrb (by simp [hrt, hbrb])
      obtain ⟨adR, cpR, rfl, _⟩ := id hrav
      obtain ⟨RR, hs, hrav⟩ := (hrav).read hs rfl
      refine ret_of_xc Tryz.func298 (by kernel_rfl) rfl Tryz.ntmps298 rfl rfl rfl ?_
      repeat' (first|refine Nx.h ?_|fail)
      refine dr [12] hs (k := ?_); intro hX w hs
      refine tk 0 hX (k := ?_)
      refine tk 1 hX (k := ?_)
      refine tk 2 hX (k := ?_)
      refine tk 3 hX (k := ?_)
      refine tk 4 hX (k := ?_)
      refine tk 5 hX (k := ?_)
      refine tk 6 hX (k := ?_)
      refine tk 7 hX (k := ?_)
      refine tk 8 hX (k := ?_)
      refine dt 9 hX (k := ?_)
      (with_reducible apply xs_call); exact rfl; exact rfl; exact one_ret x _
      rintro v w' ⟨h1, ho⟩; replace hs := hs.call0 ho; obtain ⟨ad1, cp1, rfl, _⟩ := id h1; obtain ⟨R1, hs, h1⟩ := (h1).read hs rfl
      repeat' (first|refine Nx.h ?_|fail)
      refine dn (k := ?_)
      refine tk 10 hX (k := ?_)
      refine tk 11 hX (k := ?_)
      refine dt 12 hX (k := ?_)
      repeat' (first|(refine st hs (k:=?_);intro w hs)|refine Nx.h ?_|fail)
      refine dn (k := ?_)
      refine en (k := ?_)
      repeat' (first|refine vs (k:=?_)|refine qRg ?_|refine Nx.h ?_|refine qCt ?_|refine qCf ?_|fail)
      refine dr [19] hs (k := ?_); intro hX w hs
      refine tk 0 hX (k := ?_)
      refine tk 1 hX (k := ?_)
      refine tk 2 hX (k := ?_)
      refine tk 3 hX (k := ?_)
      refine tk 4 hX (k := ?_)
      refine tk 5 hX (k := ?_)
      refine tk 6 hX (k := ?_)
      refine tk 7 hX (k := ?_)
      refine tk 8 hX (k := ?_)
      refine tk 9 hX (k := ?_)
      refine tk 10 hX (k := ?_)
      refine tk 11 hX (k := ?_)
      refine tk 12 hX (k := ?_)
      refine tk 13 hX (k := ?_)
      refine tk 14 hX (k := ?_)
      refine tk 15 hX (k := ?_)
      refine dt 16 hX (k := ?_)
      (with_reducible apply xs_call); exact rfl; exact rfl; exact both_ret _ _ _ _ (by simp) (by simp [RB.list]) (by simp only [RB.list, List.length_append, List.length_cons, List.length_nil] at hlen ⊢; omega) _ (h1 _ (fun e he => hs.ro e (by simp [he]))) (hrav _ (fun e he => hs.ro e (by simp [he])))
      rintro v w' ⟨h3, ho⟩; replace hs := hs.call0 ho; obtain ⟨ad3, cp3, rfl, _⟩ := id h3; obtain ⟨R3, hs, h3⟩ := (h3).read hs rfl
      repeat' (first|refine Nx.h ?_|fail)
      refine dn (k := ?_)
      refine tk 17 hX (k := ?_)
      refine tk 18 hX (k := ?_)
      refine dt 19 hX (k := ?_)
      repeat' (first|(refine st hs (k:=?_);intro w hs)|refine Nx.h ?_|fail)
      refine dn (k := ?_)
      refine en (k := ?_)
      skip
      first | refine rt' (vs := []) (hr := resOk_nil) (hq := ?_) | refine rt (vs := []) (hr := resOk_nil) (hq := ?_)
      have hav := (h3 _ (fun e he => hs.ro e (by simp [he])))
      refine fin _ _ (hs.get (At.tail At.head)) (by simpa [RB.list] using hav) (hs.onlyF [b] (by simp [hT, hrb]) (by simp [D0]))
  | node ll lx lr lc =>
    cases r with
    | nil =>
      have hl0 := hl
      obtain ⟨lb, lav, lpl, lpr, lfl, lfr, rfl, rfl, hlb, hlav, hll, hlr'⟩ := hl
      have hlt := head_ne hT hlb
      have hblb : lb ≠ b := fun e => by subst e; exact hnl _ List.mem_cons_self List.mem_cons_self
      replace hs := hs.track hlb (by simp [hlt, hblb])
      obtain ⟨adL, cpL, rfl, _⟩ := id hlav
      obtain ⟨rfl, rfl⟩ := hr
      obtain ⟨RL, hs, hlav⟩ := (hlav).read hs rfl
      refine ret_of_xc Tryz.func298 (by kernel_rfl) rfl Tryz.ntmps298 rfl rfl rfl ?_
      repeat' (first|refine Nx.h ?_|fail)
      refine dr [12] hs (k := ?_); intro hX w hs
      refine tk 0 hX (k := ?_)
      refine tk 1 hX (k := ?_)
      refine tk 2 hX (k := ?_)
      refine tk 3 hX (k := ?_)
      refine tk 4 hX (k := ?_)
      refine tk 5 hX (k := ?_)
      refine tk 6 hX (k := ?_)
      refine tk 7 hX (k := ?_)
      refine tk 8 hX (k := ?_)
      refine dt 9 hX (k := ?_)
      (with_reducible apply xs_call); exact rfl; exact rfl; exact one_ret x _
      rintro v w' ⟨h1, ho⟩; replace hs := hs.call0 ho; obtain ⟨ad1, cp1, rfl, _⟩ := id h1; obtain ⟨R1, hs, h1⟩ := (h1).read hs rfl
      repeat' (first|refine Nx.h ?_|fail)
      refine dn (k := ?_)
      refine tk 10 hX (k := ?_)
      refine tk 11 hX (k := ?_)
      refine dt 12 hX (k := ?_)
      repeat' (first|(refine st hs (k:=?_);intro w hs)|refine Nx.h ?_|fail)
      refine dn (k := ?_)
      refine en (k := ?_)
      repeat' (first|refine vs (k:=?_)|refine qRg ?_|refine Nx.h ?_|refine qCt ?_|fail)
      refine dr [19] hs (k := ?_); intro hX w hs
      refine tk 0 hX (k := ?_)
      refine tk 1 hX (k := ?_)
      refine tk 2 hX (k := ?_)
      refine tk 3 hX (k := ?_)
      refine tk 4 hX (k := ?_)
      refine tk 5 hX (k := ?_)
      refine tk 6 hX (k := ?_)
      refine tk 7 hX (k := ?_)
      refine tk 8 hX (k := ?_)
      refine tk 9 hX (k := ?_)
      refine tk 10 hX (k := ?_)
      refine tk 11 hX (k := ?_)
      refine tk 12 hX (k := ?_)
      refine tk 13 hX (k := ?_)
      refine tk 14 hX (k := ?_)
      refine tk 15 hX (k := ?_)
      refine dt 16 hX (k := ?_)
      (with_reducible apply xs_call); exact rfl; exact rfl; exact both_ret _ _ _ _ (by simp [RB.list]) (by simp) (by simp only [RB.list, List.length_append, List.length_cons, List.length_nil] at hlen ⊢; omega) _ (hlav _ (fun e he => hs.ro e (by simp [he]))) (h1 _ (fun e he => hs.ro e (by simp [he])))
      rintro v w' ⟨h2, ho⟩; replace hs := hs.call0 ho; obtain ⟨ad2, cp2, rfl, _⟩ := id h2; obtain ⟨R2, hs, h2⟩ := (h2).read hs rfl
      repeat' (first|refine Nx.h ?_|fail)
      refine dn (k := ?_)
      refine tk 17 hX (k := ?_)
      refine tk 18 hX (k := ?_)
      refine dt 19 hX (k := ?_)
      repeat' (first|(refine st hs (k:=?_);intro w hs)|refine Nx.h ?_|fail)
      refine dn (k := ?_)
      refine en (k := ?_)
      repeat' (first|refine vs (k:=?_)|refine qRg ?_|refine Nx.h ?_|refine qCf ?_|fail)
      first | refine rt' (vs := []) (hr := resOk_nil) (hq := ?_) | refine rt (vs := []) (hr := resOk_nil) (hq := ?_)
      have hav := (h2 _ (fun e he => hs.ro e (by simp [he])))
      refine fin _ _ (hs.get (At.tail At.head)) (by simpa [RB.list] using hav) (hs.onlyF [b] (by simp [hT, hlb]) (by simp [D0]))
    | node rl rx rr rc =>
      have hl0 := hl
      obtain ⟨lb, lav, lpl, lpr, lfl, lfr, rfl, rfl, hlb, hlav, hll, hlr'⟩ := hl
      have hlt := head_ne hT hlb
      have hblb : lb ≠ b := fun e => by subst e; exact hnl _ List.mem_cons_self List.mem_cons_self
      replace hs := hs.track hlb (by simp [hlt, hblb])
      obtain ⟨adL, cpL, rfl, _⟩ := id hlav
      have hr0 := hr
      obtain ⟨rb, rav, rpl, rpr, rfl', rfr, rfl, rfl, hrb, hrav, hrl, hrr'⟩ := hr
      have hrt := head_ne hT hrb
      have hbrb : rb ≠ b := fun e => by subst e; exact hnr _ List.mem_cons_self List.mem_cons_self
      have hrlb : rb ≠ lb := fun e => by subst e; exact hlr _ List.mem_cons_self List.mem_cons_self
      replace hs := hs.track hrb (by simp [hrt, hbrb, hrlb])
      obtain ⟨adR, cpR, rfl, _⟩ := id hrav
      obtain ⟨RL, hs, hlav⟩ := (hlav).read hs rfl
      obtain ⟨RR, hs, hrav⟩ := (hrav).read hs rfl
      refine ret_of_xc Tryz.func298 (by kernel_rfl) rfl Tryz.ntmps298 rfl rfl rfl ?_
      repeat' (first|refine Nx.h ?_|fail)
      refine dr [12] hs (k := ?_); intro hX w hs
      refine tk 0 hX (k := ?_)
      refine tk 1 hX (k := ?_)
      refine tk 2 hX (k := ?_)
      refine tk 3 hX (k := ?_)
      refine tk 4 hX (k := ?_)
      refine tk 5 hX (k := ?_)
      refine tk 6 hX (k := ?_)
      refine tk 7 hX (k := ?_)
      refine tk 8 hX (k := ?_)
      refine dt 9 hX (k := ?_)
      (with_reducible apply xs_call); exact rfl; exact rfl; exact one_ret x _
      rintro v w' ⟨h1, ho⟩; replace hs := hs.call0 ho; obtain ⟨ad1, cp1, rfl, _⟩ := id h1; obtain ⟨R1, hs, h1⟩ := (h1).read hs rfl
      repeat' (first|refine Nx.h ?_|fail)
      refine dn (k := ?_)
      refine tk 10 hX (k := ?_)
      refine tk 11 hX (k := ?_)
      refine dt 12 hX (k := ?_)
      repeat' (first|(refine st hs (k:=?_);intro w hs)|refine Nx.h ?_|fail)
      refine dn (k := ?_)
      refine en (k := ?_)
      repeat' (first|refine vs (k:=?_)|refine qRg ?_|refine Nx.h ?_|refine qCt ?_|fail)
      refine dr [19] hs (k := ?_); intro hX w hs
      refine tk 0 hX (k := ?_)
      refine tk 1 hX (k := ?_)
      refine tk 2 hX (k := ?_)
      refine tk 3 hX (k := ?_)
      refine tk 4 hX (k := ?_)
      refine tk 5 hX (k := ?_)
      refine tk 6 hX (k := ?_)
      refine tk 7 hX (k := ?_)
      refine tk 8 hX (k := ?_)
      refine tk 9 hX (k := ?_)
      refine tk 10 hX (k := ?_)
      refine tk 11 hX (k := ?_)
      refine tk 12 hX (k := ?_)
      refine tk 13 hX (k := ?_)
      refine tk 14 hX (k := ?_)
      refine tk 15 hX (k := ?_)
      refine dt 16 hX (k := ?_)
      (with_reducible apply xs_call); exact rfl; exact rfl; exact both_ret _ _ _ _ (by simp [RB.list]) (by simp) (by simp only [RB.list, List.length_append, List.length_cons, List.length_nil] at hlen ⊢; omega) _ (hlav _ (fun e he => hs.ro e (by simp [he]))) (h1 _ (fun e he => hs.ro e (by simp [he])))
      rintro v w' ⟨h2, ho⟩; replace hs := hs.call0 ho; obtain ⟨ad2, cp2, rfl, _⟩ := id h2; obtain ⟨R2, hs, h2⟩ := (h2).read hs rfl
      repeat' (first|refine Nx.h ?_|fail)
      refine dn (k := ?_)
      refine tk 17 hX (k := ?_)
      refine tk 18 hX (k := ?_)
      refine dt 19 hX (k := ?_)
      repeat' (first|(refine st hs (k:=?_);intro w hs)|refine Nx.h ?_|fail)
      refine dn (k := ?_)
      refine en (k := ?_)
      repeat' (first|refine vs (k:=?_)|refine qRg ?_|refine Nx.h ?_|refine qCt ?_|fail)
      refine dr [19] hs (k := ?_); intro hX w hs
      refine tk 0 hX (k := ?_)
      refine tk 1 hX (k := ?_)
      refine tk 2 hX (k := ?_)
      refine tk 3 hX (k := ?_)
      refine tk 4 hX (k := ?_)
      refine tk 5 hX (k := ?_)
      refine tk 6 hX (k := ?_)
      refine tk 7 hX (k := ?_)
      refine tk 8 hX (k := ?_)
      refine tk 9 hX (k := ?_)
      refine tk 10 hX (k := ?_)
      refine tk 11 hX (k := ?_)
      refine tk 12 hX (k := ?_)
      refine tk 13 hX (k := ?_)
      refine tk 14 hX (k := ?_)
      refine tk 15 hX (k := ?_)
      refine dt 16 hX (k := ?_)
      (with_reducible apply xs_call); exact rfl; exact rfl; exact both_ret _ _ _ _ (by simp) (by simp [RB.list]) (by simp only [RB.list, List.length_append, List.length_cons, List.length_nil] at hlen ⊢; omega) _ (h2 _ (fun e he => hs.ro e (by simp [he]))) (hrav _ (fun e he => hs.ro e (by simp [he])))
      rintro v w' ⟨h3, ho⟩; replace hs := hs.call0 ho; obtain ⟨ad3, cp3, rfl, _⟩ := id h3; obtain ⟨R3, hs, h3⟩ := (h3).read hs rfl
      repeat' (first|refine Nx.h ?_|fail)
      refine dn (k := ?_)
      refine tk 17 hX (k := ?_)
      refine tk 18 hX (k := ?_)
      refine dt 19 hX (k := ?_)
      repeat' (first|(refine st hs (k:=?_);intro w hs)|refine Nx.h ?_|fail)
      refine dn (k := ?_)
      refine en (k := ?_)
      skip
      first | refine rt' (vs := []) (hr := resOk_nil) (hq := ?_) | refine rt (vs := []) (hr := resOk_nil) (hq := ?_)
      have hav := (h3 _ (fun e he => hs.ro e (by simp [he])))
      refine fin _ _ (hs.get (At.tail (At.tail At.head))) (by simpa [RB.list] using hav) (hs.onlyF [b] (by simp [hT, hlb, hrb]) (by simp [D0]))
end Go.Proofs.YtilajmcellffiaaGreatDoorX

namespace Go.Proofs.YtilajmcellffiaaGreatDoorX
open Go Go.RowKit
attribute [local irreducible] XS XC XA thenE blockE retE loopE loopS cutB cutN doneE SE
theorem perm_turn (b u : Nat) (A B C : List Nat) : (u :: ((b :: (A ++ B)) ++ C)).Perm (b :: (A ++ (u :: (B ++ C)))) := by
  have h1 : (u :: b :: (A ++ (B ++ C))).Perm (b :: u :: (A ++ (B ++ C))) := List.Perm.swap _ _ _
  have h2 : (b :: u :: (A ++ (B ++ C))).Perm (b :: (A ++ (u :: (B ++ C)))) := List.Perm.cons _ List.perm_middle.symm
  have := h1.trans h2
  simpa using this
theorem Nodes.lt {w : World} {F : List Nat} (h : Nodes w F) : ∀ k ∈ F, k < w.heap.size := fun k hk => by
  obtain ⟨cs, fz, h⟩ := h k hk
  exact lt_of_block h
def Turned (w0 : World) (fp : List Nat) (t' : RB Int) (v : Value) (w' : World) : Prop :=
  ∃ p' fp', v = .pointer p' ∧ TreeAt w' t' p' fp' ∧ fp'.Nodup ∧ (∀ k ∈ fp', k ∈ fp ∨ w0.heap.size ≤ k) ∧ Only fp w0 w'
theorem toLeft_ret (tb : Nat) (p0 : Option Addr) (n0 : Int) (l : RB Int) (x : Int) (rl : RB Int) (y : Int) (rr : RB Int) (c c2 : Bool) (p : Option Addr) (fp : List Nat) (w0 : World) (hT : w0.heap[tb]? = some (treeO p0 n0)) (h : StaleAt w0 l x (.node rl y rr c2) c p fp) (hnd : fp.Nodup) (hlen : (l.list ++ x :: (rl.list ++ y :: rr.list)).length ≤ 1000000) :
    Ret Tryz.prog 300 #[.pointer (some ⟨tb, 0, none⟩), .pointer p] w0 fun v w' => Turned w0 fp (.node (.node l x rl true) y rr c) v w' := by
  obtain ⟨b, av, pl, pr, fl, fr, rfl, rfl, hb, hl, u, avu, prl, prr, frl, frr, rfl, rfl, hu, _, hrl, hrr⟩ := h
  have hp := perm_turn b u fl frl frr
  have hnd' := hp.nodup_iff.2 hnd
  have hNb : Nodes w0 [u, b] := Nodes.cons hu (Nodes.cons hb (Nodes.nil w0))
  simp only [List.length_append, List.length_cons] at hlen
  obtain ⟨d1, d2, d3, d4, d5, d6, d7, d8⟩ : u ≠ b ∧ (∀ k ∈ fl, k ∉ [u, b]) ∧ (∀ k ∈ frl, k ∉ [u, b]) ∧ (∀ k ∈ frr, k ∉ [u, b]) ∧ (b :: (fl ++ frl)).Nodup ∧ u ∉ b :: (fl ++ frl) ∧ (∀ k ∈ frr, k ∉ b :: (fl ++ frl)) ∧ (u :: ((b :: (fl ++ frl)) ++ frr)).Nodup := by
    simp only [List.cons_append, List.append_assoc, List.nodup_cons, List.nodup_append, List.mem_append, List.mem_cons, List.not_mem_nil, or_false] at hnd' ⊢
    grind
  have hs := St.nil w0
  replace hs := hs.track hb (by simp)
  replace hs := hs.track hu (by simpa using d1)
  refine ret_of_xc Tryz.func300 (by kernel_rfl) rfl Tryz.ntmps300 rfl rfl rfl ?_
  repeat' (first|refine vs (k:=?_)|(refine st hs (k:=?_);intro w hs)|refine qRg ?_|refine Nx.h ?_|fail)
  have ho1 : Only [u, b] w0 _ := hs.onlyF [u, b] (by simp) (by simp [D0])
  have hbw := hs.get (At.tail At.head)
  have huw := hs.get At.head
  have hlw := hl.keep ho1 hNb d2
  have hrlw := hrl.keep ho1 hNb d3
  have hrrw := hrr.keep ho1 hNb d4
  have hTw := head_keep hT ho1 hNb
  clear hs
  (with_reducible apply xs_call); exact rfl; exact rfl; exact rbSum_ret tb p0 n0 l x rl true _ _ _ hTw ⟨b, av, pl, prl, fl, frl, rfl, rfl, hbw, hlw, hrlw⟩ d5 (by simp only [List.length_append, List.length_cons]; omega)
  rintro v w' ⟨hT1, ho2⟩
  have hN2 : Nodes _ (b :: (fl ++ frl)) := StaleAt.nodes ⟨b, av, pl, prl, fl, frl, rfl, rfl, hbw, hlw, hrlw⟩
  have hu2 := ho2.block huw d6
  have hrr2 := hrrw.keep ho2 hN2 d7
  have hT2 := head_keep hTw ho2 hN2
  have hs := St.nil w'
  repeat' (first|refine vs (k:=?_)|refine qRg ?_|refine Nx.h ?_|fail)
  (with_reducible apply xs_call); exact rfl; exact rfl; exact rbSum_ret tb p0 n0 (.node l x rl true) y rr c _ _ _ hT2 ⟨u, avu, _, prr, _, frr, rfl, rfl, hu2, hT1, hrr2⟩ d8 (by simp only [RB.list, List.length_append, List.length_cons]; omega)
  rintro v w'' ⟨hT3, ho3⟩
  have hs := St.nil w''
  repeat' (first|refine vs (k:=?_)|refine qRg ?_|refine Nx.h ?_|fail)
  first | refine rt (hq := ?_) | refine rt' (hq := ?_)
  have e : ∀ k, k ∈ u :: ((b :: (fl ++ frl)) ++ frr) → k ∈ b :: (fl ++ (u :: (frl ++ frr))) := fun k hk => hp.mem_iff.1 hk
  have o1 : Only (b :: (fl ++ (u :: (frl ++ frr)))) w0 _ := ho1.weaken (by simp)
  have o2 := o1.step ho2 (fun k hk => .inl (e k (List.mem_cons_of_mem _ (List.mem_append_left _ hk))))
  exact ⟨_, _, rfl, hT3, d8, fun k hk => .inl (e k hk), o2.step ho3 (fun k hk => .inl (e k hk))⟩
theorem toRight_ret (tb : Nat) (p0 : Option Addr) (n0 : Int) (ll : RB Int) (y : Int) (lr : RB Int) (x : Int) (r : RB Int) (c c2 : Bool) (p : Option Addr) (fp : List Nat) (w0 : World) (hT : w0.heap[tb]? = some (treeO p0 n0)) (h : StaleAt w0 (.node ll y lr c2) x r c p fp) (hnd : fp.Nodup) (hlen : (ll.list ++ y :: (lr.list ++ x :: r.list)).length ≤ 1000000) :
    Ret Tryz.prog 301 #[.pointer (some ⟨tb, 0, none⟩), .pointer p] w0 fun v w' => Turned w0 fp (.node ll y (.node lr x r true) c) v w' := by
  obtain ⟨b, av, pl, pr, fl, fr, rfl, rfl, hb, ⟨u, avu, pll, plr, fll, flr, rfl, rfl, hu, _, hll, hlr⟩, hr⟩ := h
  have hp := (perm_turn u b fll flr fr).symm
  have hnd' := hp.nodup_iff.2 hnd
  have hNb : Nodes w0 [u, b] := Nodes.cons hu (Nodes.cons hb (Nodes.nil w0))
  simp only [List.length_append, List.length_cons] at hlen
  obtain ⟨d1, d2, d3, d4, d5, d6, d7, d8⟩ : u ≠ b ∧ (∀ k ∈ fr, k ∉ [u, b]) ∧ (∀ k ∈ flr, k ∉ [u, b]) ∧ (∀ k ∈ fll, k ∉ [u, b]) ∧ (b :: (flr ++ fr)).Nodup ∧ u ∉ b :: (flr ++ fr) ∧ (∀ k ∈ fll, k ∉ b :: (flr ++ fr)) ∧ (u :: (fll ++ (b :: (flr ++ fr)))).Nodup := by
    simp only [List.cons_append, List.append_assoc, List.nodup_cons, List.nodup_append, List.mem_append, List.mem_cons, List.not_mem_nil, or_false] at hnd' ⊢
    grind
  have hs := St.nil w0
  replace hs := hs.track hb (by simp)
  replace hs := hs.track hu (by simpa using d1)
  refine ret_of_xc Tryz.func301 (by kernel_rfl) rfl Tryz.ntmps301 rfl rfl rfl ?_
  repeat' (first|refine vs (k:=?_)|(refine st hs (k:=?_);intro w hs)|refine qRg ?_|refine Nx.h ?_|fail)
  have ho1 : Only [u, b] w0 _ := hs.onlyF [u, b] (by simp) (by simp [D0])
  have hbw := hs.get (At.tail At.head)
  have huw := hs.get At.head
  have hrw := hr.keep ho1 hNb d2
  have hlrw := hlr.keep ho1 hNb d3
  have hllw := hll.keep ho1 hNb d4
  have hTw := head_keep hT ho1 hNb
  clear hs
  (with_reducible apply xs_call); exact rfl; exact rfl; exact rbSum_ret tb p0 n0 lr x r true _ _ _ hTw ⟨b, av, plr, pr, flr, fr, rfl, rfl, hbw, hlrw, hrw⟩ d5 (by simp only [List.length_append, List.length_cons]; omega)
  rintro v w' ⟨hT1, ho2⟩
  have hN2 : Nodes _ (b :: (flr ++ fr)) := StaleAt.nodes ⟨b, av, plr, pr, flr, fr, rfl, rfl, hbw, hlrw, hrw⟩
  have hu2 := ho2.block huw d6
  have hll2 := hllw.keep ho2 hN2 d7
  have hT2 := head_keep hTw ho2 hN2
  have hs := St.nil w'
  repeat' (first|refine vs (k:=?_)|refine qRg ?_|refine Nx.h ?_|fail)
  (with_reducible apply xs_call); exact rfl; exact rfl; exact rbSum_ret tb p0 n0 ll y (.node lr x r true) c _ _ _ hT2 ⟨u, avu, pll, _, fll, _, rfl, rfl, hu2, hll2, hT1⟩ d8 (by simp only [RB.list, List.length_append, List.length_cons]; omega)
  rintro v w'' ⟨hT3, ho3⟩
  have hs := St.nil w''
  repeat' (first|refine vs (k:=?_)|refine qRg ?_|refine Nx.h ?_|fail)
  first | refine rt (hq := ?_) | refine rt' (hq := ?_)
  have e : ∀ k, k ∈ u :: (fll ++ (b :: (flr ++ fr))) → k ∈ b :: ((u :: (fll ++ flr)) ++ fr) := fun k hk => hp.mem_iff.1 hk
  have o1 : Only (b :: ((u :: (fll ++ flr)) ++ fr)) w0 _ := ho1.weaken (by simp)
  have o2 := o1.step ho2 (fun k hk => .inl (e k (List.mem_cons_of_mem _ (List.mem_append_right _ hk))))
  exact ⟨_, _, rfl, hT3, d8, fun k hk => .inl (e k hk), o2.step ho3 (fun k hk => .inl (e k hk))⟩
theorem rbFlip_ret (a : RB Int) (x : Int) (b : RB Int) (c1 : Bool) (y : Int) (d : RB Int) (z : Int) (e : RB Int) (c2 c : Bool) (p : Option Addr) (fp : List Nat) (w0 : World) (h : TreeAt w0 (.node (.node a x b c1) y (.node d z e c2) c) p fp) (hnd : fp.Nodup) :
    Ret Tryz.prog 302 #[.pointer p] w0 fun v w' => TreeAt w' (.node (.node a x b !c1) y (.node d z e !c2) !c) p fp ∧ Only fp w0 w' := by
  obtain ⟨m, av, _, _, _, _, rfl, rfl, hm, hav, ⟨u, avu, pa, pb, fa, fb, rfl, rfl, hu, hau, ha, hb⟩, ⟨v, avv, pd, pe, fd, fe, rfl, rfl, hv, hav2, hd, he⟩⟩ := h
  have hNb : Nodes w0 [v, u, m] := Nodes.cons hv (Nodes.cons hu (Nodes.cons hm (Nodes.nil w0)))
  obtain ⟨d1, d2, d3, d4, d5, d6, d7⟩ : u ≠ m ∧ v ≠ m ∧ v ≠ u ∧ (∀ k ∈ fa, k ∉ [v, u, m]) ∧ (∀ k ∈ fb, k ∉ [v, u, m]) ∧ (∀ k ∈ fd, k ∉ [v, u, m]) ∧ (∀ k ∈ fe, k ∉ [v, u, m]) := by
    simp only [List.cons_append, List.append_assoc, List.nodup_cons, List.nodup_append, List.mem_append, List.mem_cons, List.not_mem_nil, or_false] at hnd ⊢
    grind
  have hs := St.nil w0
  replace hs := hs.track hm (by simp)
  replace hs := hs.track hu (by simpa using d1)
  replace hs := hs.track hv (by simp [d2, d3])
  refine ret_of_xc Tryz.func302 (by kernel_rfl) rfl Tryz.ntmps302 rfl rfl rfl ?_
  repeat' (first|refine vs (k:=?_)|(refine st hs (k:=?_);intro w hs)|refine qRg ?_|refine Nx.h ?_|fail)
  refine dr [14] hs (k := ?_); intro hX w hs
  refine tk 0 hX (k := ?_)
  refine tk 1 hX (k := ?_)
  refine tk 2 hX (k := ?_)
  refine tk 3 hX (k := ?_)
  refine tk 4 hX (k := ?_)
  refine tk 5 hX (k := ?_)
  refine tk 6 hX (k := ?_)
  refine tk 7 hX (k := ?_)
  refine tk 8 hX (k := ?_)
  refine tk 9 hX (k := ?_)
  refine tk 10 hX (k := ?_)
  refine tk 11 hX (k := ?_)
  refine tk 12 hX (k := ?_)
  refine tk 13 hX (k := ?_)
  refine dt 14 hX (k := ?_)
  repeat' (first|(refine st hs (k:=?_);intro w hs)|refine Nx.h ?_|fail)
  refine dn (k := ?_)
  refine en (k := ?_)
  repeat' (first|refine Nx.h ?_|fail)
  refine dr [14] hs (k := ?_); intro hX w hs
  refine tk 0 hX (k := ?_)
  refine tk 1 hX (k := ?_)
  refine tk 2 hX (k := ?_)
  refine tk 3 hX (k := ?_)
  refine tk 4 hX (k := ?_)
  refine tk 5 hX (k := ?_)
  refine tk 6 hX (k := ?_)
  refine tk 7 hX (k := ?_)
  refine tk 8 hX (k := ?_)
  refine tk 9 hX (k := ?_)
  refine tk 10 hX (k := ?_)
  refine tk 11 hX (k := ?_)
  refine tk 12 hX (k := ?_)
  refine tk 13 hX (k := ?_)
  refine dt 14 hX (k := ?_)
  repeat' (first|(refine st hs (k:=?_);intro w hs)|refine Nx.h ?_|fail)
  refine dn (k := ?_)
  refine en (k := ?_)
  skip
  first | refine rt' (vs := []) (hr := resOk_nil) (hq := ?_) | refine rt (vs := []) (hr := resOk_nil) (hq := ?_)
  have ho1 : Only [v, u, m] w0 _ := hs.onlyF [v, u, m] (by simp) (by simp [D0])
  refine ⟨⟨m, av, _, _, _, _, rfl, rfl, hs.get (At.tail (At.tail At.head)), hav.keep ho1 hNb, ⟨u, avu, pa, pb, fa, fb, rfl, rfl, hs.get (At.tail At.head), hau.keep ho1 hNb, ha.keep ho1 hNb d4, hb.keep ho1 hNb d5⟩, ⟨v, avv, pd, pe, fd, fe, rfl, rfl, hs.get At.head, hav2.keep ho1 hNb, hd.keep ho1 hNb d6, he.keep ho1 hNb d7⟩⟩, ho1.weaken (by simp)⟩
end Go.Proofs.YtilajmcellffiaaGreatDoorX

namespace Go.Proofs.YtilajmcellffiaaGreatDoorX
open Go Go.RowKit
attribute [local irreducible] XS XC XA thenE blockE retE loopE loopS cutB cutN doneE SE
structure Has (w0 : World) (tb : Nat) (p0 : Option Addr) (n0 : Int) (fp : List Nat) (t : RB Int) (p : Option Addr) (w : World) : Prop where
  tree : ∃ fp', TreeAt w t p fp' ∧ fp'.Nodup ∧ (∀ k ∈ fp', k ∈ fp ∨ w0.heap.size ≤ k) ∧ Only fp w0 w
  head : w.heap[tb]? = some (treeO p0 n0)
theorem Has.only {w0 w w' : World} {tb : Nat} {p0 : Option Addr} {n0 : Int} {fp : List Nat} {t : RB Int} {p : Option Addr} (h : Has w0 tb p0 n0 fp t p w) (ho : Only [] w w') : Has w0 tb p0 n0 fp t p w' := by
  obtain ⟨⟨fp', h1, h2, h3, h4⟩, h5⟩ := h
  exact ⟨⟨fp', h1.keep ho (Nodes.nil w) (fun k _ => by simp), h2, h3, h4.step ho (by simp)⟩, head_keep h5 ho (Nodes.nil w)⟩
theorem Has.next {w0 w w' : World} {tb : Nat} {p0 : Option Addr} {n0 : Int} {fp fp1 : List Nat} {t t' : RB Int} {p : Option Addr} {v : Value} (h1 : TreeAt w t p fp1) (h2 : ∀ k ∈ fp1, k ∈ fp ∨ w0.heap.size ≤ k) (h3 : Only fp w0 w) (h4 : w.heap[tb]? = some (treeO p0 n0)) (k : Turned w fp1 t' v w') :
    ∃ p', v = .pointer p' ∧ Has w0 tb p0 n0 fp t' p' w' := by
  obtain ⟨p', fp', rfl, k1, k2, k3, k4⟩ := k
  refine ⟨p', rfl, ⟨fp', k1, k2, fun i hi => ?_, h3.step k4 h2⟩, head_keep h4 k4 h1.nodes⟩
  have := h3.size
  rcases k3 i hi with h | h
  · exact h2 i h
  · exact .inr (by omega)
theorem mend1_node (l : RB Int) (x : Int) (r : RB Int) (c : Bool) : ∃ l' x' r' c', RB.mend1 (.node l x r c) = .node l' x' r' c' := by
  unfold RB.mend1
  cases r with
  | nil => exact ⟨_, _, _, _, rfl⟩
  | node rl y rr d =>
    cases d <;> cases h : l.red <;> simp only [RB.right_node, RB.left_node, RB.red_node, h, Bool.not_true, Bool.not_false, Bool.and_true, Bool.and_false, Bool.and_self, cond_true, cond_false, RB.toLeft] <;> exact ⟨_, _, _, _, rfl⟩
theorem mend2_node (l : RB Int) (x : Int) (r : RB Int) (c : Bool) : ∃ l' x' r' c', RB.mend2 (.node l x r c) = .node l' x' r' c' := by
  unfold RB.mend2
  cases l with
  | nil => exact ⟨_, _, _, _, rfl⟩
  | node rl y rr d =>
    cases d <;> cases h : rl.red <;> simp only [RB.right_node, RB.left_node, RB.red_node, h, Bool.not_true, Bool.not_false, Bool.and_true, Bool.and_false, Bool.and_self, cond_true, cond_false, RB.toRight] <;> exact ⟨_, _, _, _, rfl⟩
set_option maxHeartbeats 2000000 in
theorem mend_ret (tb : Nat) (p0 : Option Addr) (n0 : Int) (l : RB Int) (x : Int) (r : RB Int) (c : Bool) (p : Option Addr) (fp : List Nat) (w0 : World) (hT : w0.heap[tb]? = some (treeO p0 n0)) (h : StaleAt w0 l x r c p fp) (hnd : fp.Nodup) (hlen : (l.list ++ x :: r.list).length ≤ 1000000) :
    Ret Tryz.prog 295 #[.pointer (some ⟨tb, 0, none⟩), .pointer p] w0 fun v w' => Turned w0 fp (RB.mend (.node l x r c)) v w' := by
  have hs := St.nil w0
  refine ret_of_xc Tryz.func295 (by kernel_rfl) rfl Tryz.ntmps295 rfl rfl rfl ?_
  repeat' (first|refine vs (k:=?_)|refine qRg ?_|refine Nx.h ?_|fail)
  clear hs
  (with_reducible apply xs_call); exact rfl; exact rfl; exact rbSum_ret tb p0 n0 l x r c _ _ _ hT h hnd hlen
  rintro v w1 ⟨hT1, ho1⟩
  have hH : Has w0 tb p0 n0 fp (.node l x r c) p w1 := ⟨⟨fp, hT1, hnd, fun k hk => .inl hk, ho1⟩, head_keep hT ho1 h.nodes⟩
  clear hT1 ho1
  refine XS.nil ?_
  refine then_of ?_
  refine xc_seq ?_
  refine xc_seq ?_
  refine xc_cutN (fun _ : Unit => [(0, .pointer (some ⟨tb, 0, none⟩)), (1, .pointer p), (4, .pointer none), (20, .bool (r.red && !l.red))]) (fun _ w => Has w0 tb p0 n0 fp (.node l x r c) p w) ?_ ?_
  · obtain ⟨⟨fp1, ⟨b, av, pl, pr, fl, fr, rfl, rfl, hb, hav, hl, hr⟩, hnd1, hsub, ho⟩, hd⟩ := hH
    have hH : Has w0 tb p0 n0 fp (.node l x r c) (some ⟨b, 0, none⟩) w1 := ⟨⟨_, ⟨b, av, pl, pr, fl, fr, rfl, rfl, hb, hav, hl, hr⟩, hnd1, hsub, ho⟩, hd⟩
    have hs := (St.nil w1).track hb (by simp)
    repeat' (first|refine vs (k:=?_)|refine qRg ?_|fail)
    have ho2 : Only [] w1 _ := hs.onlyF [] (by simp [hb]) (by simp [D0])
    (with_reducible apply xs_call); exact rfl; exact rfl; exact isRed_ret r pr fr _ (hr.keep ho2 (Nodes.nil _) (by simp))
    rintro v w' ⟨rfl, ho⟩; replace hs := hs.call0 ho
    generalize hq : r.red = q
    cases q
    · repeat' (first|refine vs (k:=?_)|refine ps (k:=?_)|refine Nx.h ?_|fail)
      exact cutN_normal () (by (repeat (first | exact agree_nil | (apply agree_cons; exact rfl)))) (hH.only (hs.onlyF [] (by simp [hb]) (by simp [D0])))
    · repeat' (first|refine vs (k:=?_)|fail)
      have ho2 : Only [] w1 _ := hs.onlyF [] (by simp [hb]) (by simp [D0])
      (with_reducible apply xs_call); exact rfl; exact rfl; exact isRed_ret l pl fl _ (hl.keep ho2 (Nodes.nil _) (by simp))
      rintro v w' ⟨rfl, ho⟩; replace hs := hs.call0 ho
      generalize hq2 : l.red = q2
      repeat' (first|refine vs (k:=?_)|refine Nx.h ?_|fail)
      exact cutN_normal () (by (repeat (first | exact agree_nil | (apply agree_cons; exact rfl)))) (hH.only (hs.onlyF [] (by simp [hb]) (by simp [D0])))
  clear hH
  rintro _ env w hH
  refine xc_cutN (fun s : Option Addr => [(0, .pointer (some ⟨tb, 0, none⟩)), (1, .pointer s), (4, .pointer none)]) (fun s w => Has w0 tb p0 n0 fp (RB.mend1 (.node l x r c)) s w) ?_ ?_
  · generalize hq : (r.red && !l.red) = q
    cases q
    · repeat' (first|refine Nx.h ?_|refine qCf ?_|fail)
      refine cutN_normal p (by (repeat (first | exact agree_nil | (apply agree_cons; exact rfl)))) ?_
      unfold RB.mend1
      rw [RB.right_node, RB.left_node, hq]
      exact hH
    · obtain ⟨⟨fp1, h1, h2, h3, h4⟩, h5⟩ := hH
      simp only [Bool.and_eq_true, Bool.not_eq_true'] at hq
      obtain ⟨rl, y, rr, rfl⟩ := RB.red_true hq.1
      have hs := St.nil w
      repeat' (first|refine vs (k:=?_)|refine qRg ?_|refine qCt ?_|fail)
      (with_reducible apply xs_call); exact rfl; exact rfl; exact toLeft_ret tb p0 n0 l x rl y rr c true _ _ _ h5 h1.stale h2 hlen
      rintro v w' hv
      obtain ⟨p', rfl, hH⟩ := Has.next h1 h3 h4 h5 hv
      have hs := St.nil w'
      repeat' (first|refine vs (k:=?_)|refine Nx.h ?_|fail)
      refine cutN_normal p' (by (repeat (first | exact agree_nil | (apply agree_cons; exact rfl)))) ?_
      unfold RB.mend1
      rw [RB.right_node, RB.left_node, RB.red_node, hq.2]
      exact hH
  obtain ⟨l1, x1, r1, c1, e1⟩ := mend1_node l x r c
  have hlen1 : (l1.list ++ x1 :: r1.list).length ≤ 1000000 := by
    have h1 : (RB.mend1 (.node l x r c)).list = l.list ++ x :: r.list := by
      unfold RB.mend1
      cases (RB.red _ && _) <;> simp only [cond_true, cond_false, RB.list_toLeft, RB.list]
    rw [e1] at h1
    rw [← h1] at hlen
    exact hlen
  rintro p1 env w hH
  rw [e1] at hH
  refine xc_seq ?_
  refine xc_seq ?_
  refine xc_cutN (fun _ : Unit => [(0, .pointer (some ⟨tb, 0, none⟩)), (1, .pointer p1), (4, .pointer none), (38, .bool (l1.red && l1.left.red))]) (fun _ w => Has w0 tb p0 n0 fp (.node l1 x1 r1 c1) p1 w) ?_ ?_
  · obtain ⟨⟨fp1, ⟨b, av, pl, pr, fl, fr, rfl, rfl, hb, hav, hl, hr⟩, hnd1, hsub, ho⟩, hd⟩ := hH
    have hH : Has w0 tb p0 n0 fp (.node l1 x1 r1 c1) (some ⟨b, 0, none⟩) w := ⟨⟨_, ⟨b, av, pl, pr, fl, fr, rfl, rfl, hb, hav, hl, hr⟩, hnd1, hsub, ho⟩, hd⟩
    cases hq : l1.red
    · have hs := (St.nil w).track hb (by simp)
      repeat' (first|refine vs (k:=?_)|refine qRg ?_|fail)
      have ho2 : Only [] w _ := hs.onlyF [] (by simp [hb]) (by simp [D0])
      (with_reducible apply xs_call); exact rfl; exact rfl; exact isRed_ret l1 pl fl _ (hl.keep ho2 (Nodes.nil _) (by simp))
      rintro v w' ⟨rfl, ho⟩; replace hs := hs.call0 ho
      rw [hq]
      repeat' (first|refine vs (k:=?_)|refine ps (k:=?_)|refine Nx.h ?_|fail)
      exact cutN_normal () (by (repeat (first | exact agree_nil | (apply agree_cons; exact rfl)))) (hH.only (hs.onlyF [] (by simp [hb]) (by simp [D0])))
    · obtain ⟨ll, y, lr, rfl⟩ := RB.red_true hq
      have hl0 := hl
      obtain ⟨u, avu, pll, plr, fll, flr, rfl, rfl, hu, hau, hll, hlr⟩ := hl
      have hub : u ≠ b := fun e => by
        subst e
        simp at hnd1
      have hs := ((St.nil w).track hb (by simp)).track hu (by simpa using hub)
      repeat' (first|refine vs (k:=?_)|refine qRg ?_|fail)
      have ho2 : Only [] w _ := hs.onlyF [] (by simp [hb, hu]) (by simp [D0])
      (with_reducible apply xs_call); exact rfl; exact rfl; exact isRed_ret _ _ _ _ (hl0.keep ho2 (Nodes.nil _) (by simp))
      rintro v w' ⟨rfl, ho⟩; replace hs := hs.call0 ho
      rw [hq]
      repeat' (first|refine vs (k:=?_)|fail)
      have ho2 : Only [] w _ := hs.onlyF [] (by simp [hb, hu]) (by simp [D0])
      (with_reducible apply xs_call); exact rfl; exact rfl; exact isRed_ret _ _ _ _ (hll.keep ho2 (Nodes.nil _) (by simp))
      rintro v w' ⟨rfl, ho⟩; replace hs := hs.call0 ho
      rw [RB.left_node]
      generalize hq2 : ll.red = q2
      repeat' (first|refine vs (k:=?_)|refine Nx.h ?_|fail)
      exact cutN_normal () (by (repeat (first | exact agree_nil | (apply agree_cons; exact rfl)))) (hH.only (hs.onlyF [] (by simp [hb, hu]) (by simp [D0])))
  clear hH
  rintro _ env w hH
  refine xc_cutN (fun s : Option Addr => [(0, .pointer (some ⟨tb, 0, none⟩)), (1, .pointer s), (4, .pointer none)]) (fun s w => Has w0 tb p0 n0 fp (RB.mend2 (.node l1 x1 r1 c1)) s w) ?_ ?_
  · generalize hq : (l1.red && l1.left.red) = q
    cases q
    · repeat' (first|refine Nx.h ?_|refine qCf ?_|fail)
      refine cutN_normal p1 (by (repeat (first | exact agree_nil | (apply agree_cons; exact rfl)))) ?_
      unfold RB.mend2
      rw [RB.left_node, hq]
      exact hH
    · obtain ⟨⟨fp1, h1, h2, h3, h4⟩, h5⟩ := hH
      simp only [Bool.and_eq_true] at hq
      obtain ⟨ll, y, lr, rfl⟩ := RB.red_true hq.1
      have hs := St.nil w
      repeat' (first|refine vs (k:=?_)|refine qRg ?_|refine qCt ?_|fail)
      (with_reducible apply xs_call); exact rfl; exact rfl; exact toRight_ret tb p0 n0 ll y lr x1 r1 c1 true _ _ _ h5 h1.stale h2 (by simpa [RB.list] using hlen1)
      rintro v w' hv
      obtain ⟨p', rfl, hH⟩ := Has.next h1 h3 h4 h5 hv
      have hs := St.nil w'
      repeat' (first|refine vs (k:=?_)|refine Nx.h ?_|fail)
      refine cutN_normal p' (by (repeat (first | exact agree_nil | (apply agree_cons; exact rfl)))) ?_
      unfold RB.mend2
      rw [RB.left_node, RB.red_node, hq.2]
      exact hH
  obtain ⟨l2, x2, r2, c2, e2⟩ := mend2_node l1 x1 r1 c1
  rintro p2 env w hH
  rw [e2] at hH
  refine xc_seq ?_
  refine xc_seq ?_
  refine xc_cutN (fun _ : Unit => [(0, .pointer (some ⟨tb, 0, none⟩)), (1, .pointer p2), (4, .pointer none), (53, .bool (l2.red && r2.red))]) (fun _ w => Has w0 tb p0 n0 fp (.node l2 x2 r2 c2) p2 w) ?_ ?_
  · obtain ⟨⟨fp1, ⟨b, av, pl, pr, fl, fr, rfl, rfl, hb, hav, hl, hr⟩, hnd1, hsub, ho⟩, hd⟩ := hH
    have hH : Has w0 tb p0 n0 fp (.node l2 x2 r2 c2) (some ⟨b, 0, none⟩) w := ⟨⟨_, ⟨b, av, pl, pr, fl, fr, rfl, rfl, hb, hav, hl, hr⟩, hnd1, hsub, ho⟩, hd⟩
    have hs := (St.nil w).track hb (by simp)
    repeat' (first|refine vs (k:=?_)|refine qRg ?_|fail)
    have ho2 : Only [] w _ := hs.onlyF [] (by simp [hb]) (by simp [D0])
    (with_reducible apply xs_call); exact rfl; exact rfl; exact isRed_ret l2 pl fl _ (hl.keep ho2 (Nodes.nil _) (by simp))
    rintro v w' ⟨rfl, ho⟩; replace hs := hs.call0 ho
    generalize hq : l2.red = q
    cases q
    · repeat' (first|refine vs (k:=?_)|refine ps (k:=?_)|refine Nx.h ?_|fail)
      exact cutN_normal () (by (repeat (first | exact agree_nil | (apply agree_cons; exact rfl)))) (hH.only (hs.onlyF [] (by simp [hb]) (by simp [D0])))
    · repeat' (first|refine vs (k:=?_)|fail)
      have ho2 : Only [] w _ := hs.onlyF [] (by simp [hb]) (by simp [D0])
      (with_reducible apply xs_call); exact rfl; exact rfl; exact isRed_ret r2 pr fr _ (hr.keep ho2 (Nodes.nil _) (by simp))
      rintro v w' ⟨rfl, ho⟩; replace hs := hs.call0 ho
      generalize hq2 : r2.red = q2
      repeat' (first|refine vs (k:=?_)|refine Nx.h ?_|fail)
      exact cutN_normal () (by (repeat (first | exact agree_nil | (apply agree_cons; exact rfl)))) (hH.only (hs.onlyF [] (by simp [hb]) (by simp [D0])))
  clear hH
  rintro _ env w hH
  refine xc_cutN (fun _ : Unit => [(0, .pointer (some ⟨tb, 0, none⟩)), (1, .pointer p2), (4, .pointer none)]) (fun _ w => Has w0 tb p0 n0 fp (RB.mend3 (.node l2 x2 r2 c2)) p2 w) ?_ ?_
  · generalize hq : (l2.red && r2.red) = q
    cases q
    · repeat' (first|refine Nx.h ?_|refine qCf ?_|fail)
      refine cutN_normal () (by (repeat (first | exact agree_nil | (apply agree_cons; exact rfl)))) ?_
      unfold RB.mend3
      rw [RB.left_node, RB.right_node, hq]
      exact hH
    · obtain ⟨⟨fp1, h1, h2, h3, h4⟩, h5⟩ := hH
      simp only [Bool.and_eq_true] at hq
      obtain ⟨ll, y, lr, rfl⟩ := RB.red_true hq.1
      obtain ⟨rl, z, rr, rfl⟩ := RB.red_true hq.2
      have hs := St.nil w
      repeat' (first|refine vs (k:=?_)|refine qRg ?_|refine qCt ?_|fail)
      (with_reducible apply xs_call); exact rfl; exact rfl; exact rbFlip_ret ll y lr true x2 rl z rr true c2 p2 fp1 _ h1 h2
      rintro v w' ⟨k1, k2⟩
      have hs := St.nil w'
      repeat' (first|refine Nx.h ?_|fail)
      refine cutN_normal () (by (repeat (first | exact agree_nil | (apply agree_cons; exact rfl)))) ⟨⟨fp1, k1, h2, h3, h4.step k2 h3⟩, head_keep h5 k2 h1.nodes⟩
  rintro _ env w hH
  have e3 : RB.mend3 (.node l2 x2 r2 c2) = RB.mend (.node l x r c) := by rw [← e2, ← e1]; rfl
  rw [e3] at hH
  have hs := St.nil w
  obtain ⟨⟨fp1, h1, h2, h3, h4⟩, h5⟩ := hH
  repeat' (first|refine vs (k:=?_)|refine qRg ?_|refine Nx.h ?_|fail)
  first | refine rt (hq := ?_) | refine rt' (hq := ?_)
  exact ⟨_, fp1, rfl, h1, h2, h3, h4.step (hs.only0 rfl) (by simp)⟩
end Go.Proofs.YtilajmcellffiaaGreatDoorX

namespace Go.Proofs.YtilajmcellffiaaGreatDoorX
open Go Go.RowKit
attribute [local irreducible] XS XC XA thenE blockE retE loopE loopS cutB cutN doneE SE
theorem Turned.up {w0 w2 w3 : World} {fp fp2 : List Nat} {t : RB Int} {v : Value} (k : Turned w2 fp2 t v w3) (ho : Only fp w0 w2) (hs : ∀ k ∈ fp2, k ∈ fp ∨ w0.heap.size ≤ k) : Turned w0 fp t v w3 := by
  obtain ⟨p', fp', rfl, k1, k2, k3, k4⟩ := k
  refine ⟨p', fp', rfl, k1, k2, fun i hi => ?_, ho.step k4 hs⟩
  have := ho.size
  rcases k3 i hi with h | h
  · exact hs i h
  · exact .inr (by omega)
theorem graftL {w w' w2 : World} {b : Nat} {y y2 : Int} {av av2 : Value} {pl pr p' : Option Addr} {c c2 : Bool} {fl fr : List Nat} {r l' : RB Int} (hb : w.heap[b]? = some (nodeO y av pl pr c)) (hl : Nodes w fl) (hr : TreeAt w r pr fr) (hnd : (b :: (fl ++ fr)).Nodup)
    (k : Turned w fl l' (.pointer p') w') (ho : Only [b] w' w2) (hb2 : w2.heap[b]? = some (nodeO y2 av2 p' pr c2)) :
    ∃ fp2, StaleAt w2 l' y2 r c2 (some ⟨b, 0, none⟩) fp2 ∧ fp2.Nodup ∧ (∀ i ∈ fp2, i ∈ b :: (fl ++ fr) ∨ w.heap.size ≤ i) ∧ Only (b :: (fl ++ fr)) w w2 := by
  obtain ⟨p, fp', e, k1, k2, k3, k4⟩ := k
  obtain rfl : p' = p := by injection e
  have hbs := lt_of_block hb
  have hrs := hr.nodes.lt
  simp only [List.nodup_cons, List.nodup_append, List.mem_append] at hnd
  obtain ⟨d1, d2, d3, d4⟩ := hnd
  have e1 : b ∉ fp' := fun hm => by
    rcases k3 b hm with h | h
    · exact d1 (.inl h)
    · omega
  have e2 : ∀ i ∈ fr, i ∉ fl := fun i hi hm => d4 i hm i hi rfl
  have hb1 := k4.block hb (fun h => d1 (.inl h))
  have hN : Nodes w' [b] := Nodes.cons hb1 (Nodes.nil w')
  refine ⟨b :: (fp' ++ fr), ⟨b, av2, p', pr, fp', fr, rfl, rfl, hb2, k1.keep ho hN (fun i hi hm => ?_), (hr.keep k4 hl e2).keep ho hN (fun i hi hm => ?_)⟩, ?_, ?_, ?_⟩
  · obtain rfl := List.mem_singleton.1 hm; exact e1 hi
  · obtain rfl := List.mem_singleton.1 hm; exact d1 (.inr hi)
  · simp only [List.nodup_cons, List.nodup_append, List.mem_append]
    refine ⟨fun h => ?_, k2, d3, fun i hi j hj hij => ?_⟩
    · rcases h with h | h
      · exact e1 h
      · exact d1 (.inr h)
    · subst hij
      rcases k3 i hi with h | h
      · exact d4 i h i hj rfl
      · have := hrs i hj; omega
  · intro i hi
    rcases List.mem_cons.1 hi with rfl | hi
    · exact .inl List.mem_cons_self
    · rcases List.mem_append.1 hi with hi | hi
      · rcases k3 i hi with h | h
        · exact .inl (List.mem_cons_of_mem _ (List.mem_append_left _ h))
        · exact .inr h
      · exact .inl (List.mem_cons_of_mem _ (List.mem_append_right _ hi))
  · exact (k4.weaken (fun i hi => List.mem_cons_of_mem _ (List.mem_append_left _ hi))).step ho (fun i hi => .inl (by obtain rfl := List.mem_singleton.1 hi; exact List.mem_cons_self))
theorem graftR {w w' w2 : World} {b : Nat} {y y2 : Int} {av av2 : Value} {pl pr p' : Option Addr} {c c2 : Bool} {fl fr : List Nat} {l r' : RB Int} (hb : w.heap[b]? = some (nodeO y av pl pr c)) (hl : TreeAt w l pl fl) (hr : Nodes w fr) (hnd : (b :: (fl ++ fr)).Nodup)
    (k : Turned w fr r' (.pointer p') w') (ho : Only [b] w' w2) (hb2 : w2.heap[b]? = some (nodeO y2 av2 pl p' c2)) :
    ∃ fp2, StaleAt w2 l y2 r' c2 (some ⟨b, 0, none⟩) fp2 ∧ fp2.Nodup ∧ (∀ i ∈ fp2, i ∈ b :: (fl ++ fr) ∨ w.heap.size ≤ i) ∧ Only (b :: (fl ++ fr)) w w2 := by
  obtain ⟨p, fp', e, k1, k2, k3, k4⟩ := k
  obtain rfl : p' = p := by injection e
  have hbs := lt_of_block hb
  have hls := hl.nodes.lt
  simp only [List.nodup_cons, List.nodup_append, List.mem_append] at hnd
  obtain ⟨d1, d2, d3, d4⟩ := hnd
  have e1 : b ∉ fp' := fun hm => by
    rcases k3 b hm with h | h
    · exact d1 (.inr h)
    · omega
  have e2 : ∀ i ∈ fl, i ∉ fr := fun i hi hm => d4 i hi i hm rfl
  have hb1 := k4.block hb (fun h => d1 (.inr h))
  have hN : Nodes w' [b] := Nodes.cons hb1 (Nodes.nil w')
  refine ⟨b :: (fl ++ fp'), ⟨b, av2, pl, p', fl, fp', rfl, rfl, hb2, (hl.keep k4 hr e2).keep ho hN (fun i hi hm => ?_), k1.keep ho hN (fun i hi hm => ?_)⟩, ?_, ?_, ?_⟩
  · obtain rfl := List.mem_singleton.1 hm; exact d1 (.inl hi)
  · obtain rfl := List.mem_singleton.1 hm; exact e1 hi
  · simp only [List.nodup_cons, List.nodup_append, List.mem_append]
    refine ⟨fun h => ?_, d2, k2, fun i hi j hj hij => ?_⟩
    · rcases h with h | h
      · exact d1 (.inl h)
      · exact e1 h
    · subst hij
      rcases k3 i hj with h | h
      · exact d4 i hi i h rfl
      · have := hls i hi; omega
  · intro i hi
    rcases List.mem_cons.1 hi with rfl | hi
    · exact .inl List.mem_cons_self
    · rcases List.mem_append.1 hi with hi | hi
      · exact .inl (List.mem_cons_of_mem _ (List.mem_append_left _ hi))
      · rcases k3 i hi with h | h
        · exact .inl (List.mem_cons_of_mem _ (List.mem_append_right _ h))
        · exact .inr h
  · exact (k4.weaken (fun i hi => List.mem_cons_of_mem _ (List.mem_append_right _ hi))).step ho (fun i hi => .inl (by obtain rfl := List.mem_singleton.1 hi; exact List.mem_cons_self))
def ltI (a b : Int) : Bool := decide (a < b)
theorem len_ins (x : Int) : ∀ t : RB Int, (RB.ins ltI t x).list.length = t.list.length + 1
  | .nil => rfl
  | .node l y r c => by
    simp only [RB.ins]
    cases ltI x y
    · rw [cond_false, RB.list_mend]; simp only [RB.list, List.length_append, List.length_cons, len_ins x r]; omega
    · rw [cond_true, RB.list_mend]; simp only [RB.list, List.length_append, List.length_cons, len_ins x l]; omega
set_option maxHeartbeats 2000000 in
theorem insert_ret (tb : Nat) (p0 : Option Addr) (n0 : Int) (x : Int) : ∀ (t : RB Int) (p : Option Addr) (fp : List Nat) (w0 : World) (hT : w0.heap[tb]? = some (treeO p0 n0)) (h : TreeAt w0 t p fp) (hnd : fp.Nodup) (hlen : t.list.length + 1 ≤ 1000000),
    Ret Tryz.prog 288 #[.pointer (some ⟨tb, 0, none⟩), .pointer p, .int .i64 x] w0 fun v w' => Turned w0 fp (RB.ins ltI t x) v w'
  | .nil, p, fp, w0, hT, ⟨hp, hf⟩, hnd, hlen => by
    subst hp hf
    have hs := (St.nil w0).track hT (by simp)
    refine ret_of_xc Tryz.func288 (by kernel_rfl) rfl Tryz.ntmps288 rfl rfl rfl ?_
    repeat' (first|refine vs (k:=?_)|refine qRg ?_|refine Nx.h ?_|refine qCt ?_|fail)
    (with_reducible apply xs_call); exact rfl; exact rfl; exact one_ret x _
    rintro v w' ⟨h1, ho⟩; replace hs := hs.call0 ho; obtain ⟨ad1, cp1, rfl, _⟩ := id h1; obtain ⟨R1, hs, h1⟩ := (h1).read hs rfl
    refine vs (k := ?_)
    refine bx hs (k := ?_); intro b w hz hs
    repeat' (first|refine vs (k:=?_)|refine Nx.h ?_|fail)
    first | refine rt (hq := ?_) | refine rt' (hq := ?_)
    have hd := (h1 _ (fun e he => hs.ro e (by simp [he])))
    have ho : Only [] w0 _ := hs.onlyF [] (by simp [hT]) (by simp [D0])
    have hnew := hs.new (b, true) (by simp) rfl
    exact ⟨_, [b], rfl, ⟨b, _, none, none, [], [], rfl, rfl, hs.get At.head, hd, ⟨rfl, rfl⟩, ⟨rfl, rfl⟩⟩, by simp, fun k hk => .inr (by obtain rfl := List.mem_singleton.1 hk; exact hnew), ho⟩
  | .node l y r c, p, fp, w0, hT, ⟨b, av, pl, pr, fl, fr, hp, hf, hb, hav, hl, hr⟩, hnd, hlen => by
    subst hp hf
    have hbt := head_ne hT hb
    have hs := ((St.nil w0).track hT (by simp)).track hb (by simpa using hbt)
    simp only [RB.list, List.length_append, List.length_cons] at hlen
    refine ret_of_xc Tryz.func288 (by kernel_rfl) rfl Tryz.ntmps288 rfl rfl rfl ?_
    repeat' (first|refine vs (k:=?_)|refine qRg ?_|refine Nx.h ?_|refine qCf ?_|fail)
    refine dr [] hs (k := ?_); intro hX w hs
    refine tk 0 hX (k := ?_)
    refine tk 1 hX (k := ?_)
    refine tk 2 hX (k := ?_)
    refine tk 3 hX (k := ?_)
    refine tk 4 hX (k := ?_)
    refine tk 5 hX (k := ?_)
    refine tk 6 hX (k := ?_)
    refine tk 7 hX (k := ?_)
    refine tk 8 hX (k := ?_)
    refine dt 9 hX (k := ?_)
    (with_reducible apply xs_call); exact rfl; exact rfl; exact less_ret x y _
    rintro v w' ⟨rfl, ho⟩; replace hs := hs.call0 ho
    repeat' (first|refine Nx.h ?_|fail)
    refine dn (k := ?_)
    refine tk 10 hX (k := ?_)
    refine en (k := ?_)
    generalize hq : decide (x < y) = q
    cases q
    · have e : RB.ins ltI (.node l y r c) x = RB.mend (.node l y (RB.ins ltI r x) c) := by simp [RB.ins, ltI, hq]
      rw [e]
      repeat' (first|refine vs (k:=?_)|refine qRg ?_|refine Nx.h ?_|refine qCf ?_|fail)
      have ho1 : Only [] w0 _ := hs.onlyF [] (by simp [hT, hb]) (by simp [D0])
      have hTw := head_keep hT ho1 (Nodes.nil _)
      have hlw := hl.keep ho1 (Nodes.nil _) (by simp)
      have hrw := hr.keep ho1 (Nodes.nil _) (by simp)
      have hbw := hs.get At.head
      (with_reducible apply xs_call); exact rfl; exact rfl; exact insert_ret tb p0 n0 x r pr fr _ hTw hrw (by simp only [List.nodup_cons, List.nodup_append] at hnd; exact hnd.2.2.1) (by omega)
      rintro v w' hk
      obtain ⟨p', hv⟩ : ∃ p', v = .pointer p' := by obtain ⟨p', _, hv, _⟩ := hk; exact ⟨p', hv⟩
      subst hv
      obtain ⟨_, _, _, _, _, _, k4⟩ := id hk
      have hT1 := head_keep hTw k4 hrw.nodes
      have hb1 := k4.block hbw (fun h => by simp [h] at hnd)
      clear hs
      have hs := ((St.nil w').track hT1 (by simp)).track hb1 (by simpa using hbt)
      repeat' (first|refine vs (k:=?_)|(refine st hs (k:=?_);intro w hs)|refine qRg ?_|refine Nx.h ?_|fail)
      have ho3 : Only [b] w' _ := hs.onlyF [b] (by simp [hT1]) (by simp [D0])
      obtain ⟨fp2, s1, s2, s3, s4⟩ := graftR hbw hlw hrw.nodes hnd hk ho3 (hs.get At.head)
      (with_reducible apply xs_call); exact rfl; exact rfl; exact mend_ret tb p0 n0 _ y _ c _ _ _ (head_keep hT1 ho3 (Nodes.cons hb1 (Nodes.nil _))) s1 s2 (by simp only [List.length_append, List.length_cons, len_ins]; omega)
      rintro v w3 hm
      have hsz := ho1.size
      have hm2 := hm.up ((ho1.weaken (G := b :: (fl ++ fr)) (by simp)).step s4 (fun k hk => .inl hk)) (fun k hk => by rcases s3 k hk with h | h; exact .inl h; exact .inr (by omega))
      have hs := St.nil w3
      repeat' (first|refine vs (k:=?_)|refine Nx.h ?_|fail)
      first | refine rt (hq := ?_) | refine rt' (hq := ?_)
      exact hm2
    · have e : RB.ins ltI (.node l y r c) x = RB.mend (.node (RB.ins ltI l x) y r c) := by simp [RB.ins, ltI, hq]
      rw [e]
      repeat' (first|refine vs (k:=?_)|refine qRg ?_|refine Nx.h ?_|refine qCt ?_|fail)
      have ho1 : Only [] w0 _ := hs.onlyF [] (by simp [hT, hb]) (by simp [D0])
      have hTw := head_keep hT ho1 (Nodes.nil _)
      have hlw := hl.keep ho1 (Nodes.nil _) (by simp)
      have hrw := hr.keep ho1 (Nodes.nil _) (by simp)
      have hbw := hs.get At.head
      (with_reducible apply xs_call); exact rfl; exact rfl; exact insert_ret tb p0 n0 x l pl fl _ hTw hlw (by simp only [List.nodup_cons, List.nodup_append] at hnd; exact hnd.2.1) (by omega)
      rintro v w' hk
      obtain ⟨p', hv⟩ : ∃ p', v = .pointer p' := by obtain ⟨p', _, hv, _⟩ := hk; exact ⟨p', hv⟩
      subst hv
      obtain ⟨_, _, _, _, _, _, k4⟩ := id hk
      have hT1 := head_keep hTw k4 hlw.nodes
      have hb1 := k4.block hbw (fun h => by simp [h] at hnd)
      clear hs
      have hs := ((St.nil w').track hT1 (by simp)).track hb1 (by simpa using hbt)
      repeat' (first|refine vs (k:=?_)|(refine st hs (k:=?_);intro w hs)|refine qRg ?_|refine Nx.h ?_|fail)
      have ho3 : Only [b] w' _ := hs.onlyF [b] (by simp [hT1]) (by simp [D0])
      obtain ⟨fp2, s1, s2, s3, s4⟩ := graftL hbw hlw.nodes hrw hnd hk ho3 (hs.get At.head)
      (with_reducible apply xs_call); exact rfl; exact rfl; exact mend_ret tb p0 n0 _ y _ c _ _ _ (head_keep hT1 ho3 (Nodes.cons hb1 (Nodes.nil _))) s1 s2 (by simp only [List.length_append, List.length_cons, len_ins]; omega)
      rintro v w3 hm
      have hsz := ho1.size
      have hm2 := hm.up ((ho1.weaken (G := b :: (fl ++ fr)) (by simp)).step s4 (fun k hk => .inl hk)) (fun k hk => by rcases s3 k hk with h | h; exact .inl h; exact .inr (by omega))
      have hs := St.nil w3
      repeat' (first|refine vs (k:=?_)|refine Nx.h ?_|fail)
      first | refine rt (hq := ?_) | refine rt' (hq := ?_)
      exact hm2
end Go.Proofs.YtilajmcellffiaaGreatDoorX

namespace Go.Proofs.YtilajmcellffiaaGreatDoorX
open Go Go.RowKit
attribute [local irreducible] XS XC XA thenE blockE retE loopE loopS cutB cutN doneE SE
def RB.has {α : Type} (lt : α → α → Bool) (x : α) : RB α → Bool
  | .nil => false
  | .node l y r _ => bif lt x y then RB.has lt x l else bif lt y x then RB.has lt x r else true
theorem RB.has_iff {α : Type} {lt : α → α → Bool} {S : α → Prop} (ho : OrdOn lt S) {x : α} (hx : S x) : ∀ t : RB α, RB.Srt lt t.list → (∀ z ∈ t.list, S z) → (RB.has lt x t = true ↔ x ∈ t.list)
  | .nil, _, _ => by simp [RB.has, RB.list]
  | .node l y r c, hs, hS => by
    obtain ⟨h1, h2, h3, h4, h5⟩ := RB.srt_node hs
    simp only [RB.list, List.mem_append, List.mem_cons] at hS
    have hl := RB.has_iff ho hx l h1 fun z hz => hS z (.inl hz)
    have hr := RB.has_iff ho hx r h2 fun z hz => hS z (.inr (.inr hz))
    have hy := hS y (.inr (.inl rfl))
    simp only [RB.has, RB.list, List.mem_append, List.mem_cons]
    cases hxy : lt x y
    · cases hyx : lt y x
      · simp only [cond_false, true_iff]
        exact .inr (.inl (ho.tri x y hx hy hxy hyx))
      · simp only [cond_false, cond_true, hr]
        constructor
        · exact fun h => .inr (.inr h)
        · rintro (h | rfl | h)
          · have := RB.asym ho hx hy (h3 x h); rw [hyx] at this; cases this
          · rw [ho.irr _ hx] at hyx; cases hyx
          · exact h
    · simp only [cond_true, hl]
      constructor
      · exact .inl
      · rintro (h | rfl | h)
        · exact h
        · rw [ho.irr _ hx] at hxy; cases hxy
        · have := RB.asym ho hy hx (h4 x h); rw [hxy] at this; cases this
theorem ordI : OrdOn ltI (fun _ => True) where
  irr := fun a _ => by simp [ltI]
  tr := fun a b c _ _ _ h k => by simp only [ltI, decide_eq_true_eq] at *; omega
  tri := fun a b _ _ h k => by simp only [ltI, decide_eq_false_iff_not] at *; omega
theorem has_ret (tb : Nat) (p : Option Addr) (n : Int) (t : RB Int) (fp : List Nat) (x : Int) (w0 : World) (hT : w0.heap[tb]? = some (treeO p n)) (h : TreeAt w0 t p fp) :
    Ret Tryz.prog 287 #[.pointer (some ⟨tb, 0, none⟩), .int .i64 x] w0 fun v w' => v = .bool (RB.has ltI x t) ∧ Only [] w0 w' := by
  have hs := (St.nil w0).track hT (by simp)
  refine ret_of_xc Tryz.func287 (by kernel_rfl) rfl Tryz.ntmps287 rfl rfl rfl ?_
  repeat' (first|refine vs (k:=?_)|refine qRg ?_|refine Nx.h ?_|refine qCf ?_|fail)
  have ho1 : Only [] w0 _ := hs.onlyF [] (by simp [hT]) (by simp [D0])
  refine xc_cutB (fun _ : Unit => []) (fun _ w => RB.has ltI x t = false ∧ Only [] w0 w) ?_ ?_
  · refine xc_loopS (fun (s : RB Int × Option Addr) => [(0, .pointer (some ⟨tb, 0, none⟩)), (1, .int .i64 x), (5, .pointer s.2)])
      (fun s w => RB.has ltI x s.1 = RB.has ltI x t ∧ Only [] w0 w ∧ ∃ fp, TreeAt w0 s.1 s.2 fp)
      (fun s => s.1.list.length) (t, p) (by (repeat (first | exact agree_nil | (apply agree_cons; exact rfl)))) ⟨rfl, ho1, fp, h⟩ fun s env w ⟨h1, h2, fp2, h3⟩ => ?_
    clear hs
    obtain ⟨s, ps⟩ := s
    dsimp only at h1 h3 ⊢
    have hTw := h2.block hT (by simp)
    cases s with
    | nil =>
      obtain ⟨rfl, rfl⟩ := h3
      have hs := St.nil w
      repeat' (first|refine vs (k:=?_)|refine qRg ?_|refine Nx.h ?_|refine qCf ?_|fail)
      exact cutB_exit () (by (repeat (first | exact agree_nil | (apply agree_cons; exact rfl)))) ⟨h1.symm, h2.step (hs.only0 rfl) (by simp)⟩
    | node l y r c =>
      obtain ⟨b, av, pl, pr, fl, fr, rfl, rfl, hb, hav, hl, hr⟩ := h3
      have hbw := h2.block hb (by simp)
      have hbt := head_ne hT hb
      have hs := ((St.nil w).track hTw (by simp)).track hbw (by simpa using hbt)
      repeat' (first|refine vs (k:=?_)|refine qRg ?_|refine Nx.h ?_|refine qCt ?_|fail)
      refine dr [] hs (k := ?_); intro hX w hs
      refine tk 0 hX (k := ?_)
      refine tk 1 hX (k := ?_)
      refine tk 2 hX (k := ?_)
      refine tk 3 hX (k := ?_)
      refine tk 4 hX (k := ?_)
      refine tk 5 hX (k := ?_)
      refine tk 6 hX (k := ?_)
      refine tk 7 hX (k := ?_)
      refine tk 8 hX (k := ?_)
      refine dt 9 hX (k := ?_)
      (with_reducible apply xs_call); exact rfl; exact rfl; exact less_ret x y _
      rintro v w' ⟨rfl, ho⟩; replace hs := hs.call0 ho
      repeat' (first|refine Nx.h ?_|fail)
      refine dn (k := ?_)
      refine tk 10 hX (k := ?_)
      refine en (k := ?_)
      generalize hq : decide (x < y) = q
      simp only [RB.has, ltI, hq] at h1
      cases q
      · repeat' (first|refine Nx.h ?_|refine qCf ?_|fail)
        refine dr [] hs (k := ?_); intro hX w hs
        refine tk 0 hX (k := ?_)
        refine tk 1 hX (k := ?_)
        refine tk 2 hX (k := ?_)
        refine tk 3 hX (k := ?_)
        refine tk 4 hX (k := ?_)
        refine tk 5 hX (k := ?_)
        refine tk 6 hX (k := ?_)
        refine tk 7 hX (k := ?_)
        refine tk 8 hX (k := ?_)
        refine dt 9 hX (k := ?_)
        (with_reducible apply xs_call); exact rfl; exact rfl; exact less_ret y x _
        rintro v w' ⟨rfl, ho⟩; replace hs := hs.call0 ho
        repeat' (first|refine Nx.h ?_|fail)
        refine dn (k := ?_)
        refine tk 10 hX (k := ?_)
        refine en (k := ?_)
        generalize hq2 : decide (y < x) = q2
        simp only [hq2, cond_false] at h1
        cases q2
        · repeat' (first|refine vs (k:=?_)|refine qRg ?_|refine Nx.h ?_|refine qCf ?_|fail)
          first | refine rt (hq := ?_) | refine rt' (hq := ?_)
          exact ⟨by rw [← h1]; rfl, h2.step (hs.onlyF [] (by simp [hTw, hbw]) (by simp [D0])) (by simp)⟩
        · repeat' (first|refine vs (k:=?_)|refine qRg ?_|refine Nx.h ?_|refine qCt ?_|fail)
          exact loopS_next (r, pr) (by simp only [RB.list, List.length_append, List.length_cons]; omega) (by (repeat (first | exact agree_nil | (apply agree_cons; exact rfl)))) ⟨h1, h2.step (hs.onlyF [] (by simp [hTw, hbw]) (by simp [D0])) (by simp), _, hr⟩
      · repeat' (first|refine vs (k:=?_)|refine qRg ?_|refine Nx.h ?_|refine qCt ?_|fail)
        exact loopS_next (l, pl) (by simp only [RB.list, List.length_append, List.length_cons]; omega) (by (repeat (first | exact agree_nil | (apply agree_cons; exact rfl)))) ⟨h1, h2.step (hs.onlyF [] (by simp [hTw, hbw]) (by simp [D0])) (by simp), _, hl⟩
  · rintro _ env w ⟨h1, h2⟩
    clear hs
    have hs := St.nil w
    repeat' (first|refine vs (k:=?_)|refine qRg ?_|refine Nx.h ?_|fail)
    first | refine rt (hq := ?_) | refine rt' (hq := ?_)
    exact ⟨by rw [h1]; rfl, h2.step (hs.only0 rfl) (by simp)⟩
theorem mend3_node (l : RB Int) (x : Int) (r : RB Int) (c : Bool) : ∃ l' x' r' c', RB.mend3 (.node l x r c) = .node l' x' r' c' := by
  unfold RB.mend3
  cases l with
  | nil => exact ⟨_, _, _, _, rfl⟩
  | node a y b d =>
    cases r with
    | nil => cases d <;> exact ⟨_, _, _, _, rfl⟩
    | node u z v e => cases d <;> cases e <;> exact ⟨_, _, _, _, rfl⟩
theorem mend_node (l : RB Int) (x : Int) (r : RB Int) (c : Bool) : ∃ l' x' r' c', RB.mend (.node l x r c) = .node l' x' r' c' := by
  unfold RB.mend
  obtain ⟨l1, x1, r1, c1, e1⟩ := mend1_node l x r c
  obtain ⟨l2, x2, r2, c2, e2⟩ := mend2_node l1 x1 r1 c1
  rw [e1, e2]
  exact mend3_node l2 x2 r2 c2
theorem ins_node (x : Int) (t : RB Int) : ∃ l' x' r' c', RB.ins ltI t x = .node l' x' r' c' := by
  cases t with
  | nil => exact ⟨_, _, _, _, rfl⟩
  | node l y r c =>
    simp only [RB.ins]
    cases ltI x y
    · exact mend_node _ _ _ _
    · exact mend_node _ _ _ _
theorem TreeAt.keep' {w w' : World} {F : List Nat} (ho : Only F w w') (hF : ∀ b ∈ F, ∀ cs fz, w.heap[b]? ≠ some (.cells cs 3 fz)) : ∀ {t : RB Int} {p : Option Addr} {fp : List Nat}, TreeAt w t p fp → (∀ b ∈ fp, b ∉ F) → TreeAt w' t p fp
  | .nil, p, fp, h, _ => h
  | .node l x r c, p, fp, ⟨b, av, pl, pr, fl, fr, h1, h2, h3, h4, h5, h6⟩, hd => by
    subst h2
    refine ⟨b, av, pl, pr, fl, fr, h1, rfl, ho.block h3 (hd b List.mem_cons_self), ?_, TreeAt.keep' ho hF h5 fun k hk => hd k (List.mem_cons_of_mem _ (List.mem_append_left _ hk)),
      TreeAt.keep' ho hF h6 fun k hk => hd k (List.mem_cons_of_mem _ (List.mem_append_right _ hk))⟩
    obtain ⟨ad, cap, rfl, hdd⟩ := h4
    refine ⟨ad, cap, rfl, fun hn => ?_⟩
    obtain ⟨bb, off, cs, fz, g1, g2, g3, g4⟩ := hdd hn
    exact ⟨bb, off, cs, fz, g1, g2, ho.block g3 (fun hm => hF bb hm _ _ g3), g4⟩
theorem tree_keep2 {w w' : World} {b tb : Nat} {t : RB Int} {p p0 : Option Addr} {n0 : Int} {fp : List Nat} {cs : Array Value} {fz : Nat × Nat} (h : TreeAt w t p fp) (ho : Only [b, tb] w w') (hb : w.heap[b]? = some (.cells cs 324 fz)) (hT : w.heap[tb]? = some (treeO p0 n0)) (h1 : b ∉ fp) (h2 : tb ∉ fp) : TreeAt w' t p fp := by
  refine h.keep' ho (fun k hk cs fz e => ?_) (fun k hk hm => ?_)
  · simp only [List.mem_cons, List.not_mem_nil, or_false] at hk
    rcases hk with rfl | rfl
    · rw [hb] at e; cases e
    · rw [hT] at e; cases e
  · simp only [List.mem_cons, List.not_mem_nil, or_false] at hm
    rcases hm with rfl | rfl
    · exact h1 hk
    · exact h2 hk
def Obj6 (w : World) (tb : Nat) (t : RB Int) (F : List Nat) : Prop := ∃ p fp, F = tb :: fp ∧ w.heap[tb]? = some (treeO p t.list.length) ∧ TreeAt w t p fp ∧ fp.Nodup
def RB.insert (t : RB Int) (x : Int) : RB Int := bif RB.has ltI x t then t else RB.blacken (RB.ins ltI t x)
set_option maxHeartbeats 1000000 in
theorem rbInsert_ret (tb : Nat) (t : RB Int) (F : List Nat) (x : Int) (w0 : World) (h : Obj6 w0 tb t F) (hlen : t.list.length + 1 ≤ 1000000) :
    Ret Tryz.prog 275 #[.pointer (some ⟨tb, 0, none⟩), .int .i64 x] w0 fun v w' => v = .bool (!RB.has ltI x t) ∧ ∃ F', Obj6 w' tb (RB.insert t x) F' ∧ (∀ k ∈ F', k ∈ F ∨ w0.heap.size ≤ k) ∧ Only F w0 w' := by
  obtain ⟨p, fp, rfl, hT, ht, hnd⟩ := h
  have hs := (St.nil w0).track hT (by simp)
  refine ret_of_xc Tryz.func275 (by kernel_rfl) rfl Tryz.ntmps275 rfl rfl rfl ?_
  repeat' (first|refine vs (k:=?_)|refine qRg ?_|refine Nx.h ?_|fail)
  have ho1 : Only [] w0 _ := hs.onlyF [] (by simp [hT]) (by simp [D0])
  (with_reducible apply xs_call); exact rfl; exact rfl; exact has_ret tb p _ t fp x _ (hs.get At.head) (ht.keep ho1 (Nodes.nil _) (by simp))
  rintro v w' ⟨rfl, ho⟩; replace hs := hs.call0 ho
  unfold RB.insert
  generalize hq : RB.has ltI x t = q
  cases q
  · repeat' (first|refine vs (k:=?_)|refine qRg ?_|refine Nx.h ?_|refine qCf ?_|fail)
    have ho1 : Only [] w0 _ := hs.onlyF [] (by simp [hT]) (by simp [D0])
    have hTw := hs.get At.head
    (with_reducible apply xs_call); exact rfl; exact rfl; exact insert_ret tb p _ x t p fp _ hTw (ht.keep ho1 (Nodes.nil _) (by simp)) hnd hlen
    rintro v w1 ⟨p', fp', rfl, k1, k2, k3, k4⟩
    have hT1 := head_keep hTw k4 (ht.keep ho1 (Nodes.nil _) (by simp)).nodes
    obtain ⟨l', y, r', c, e⟩ := ins_node x t
    have hl' := len_ins x t
    rw [e] at k1 hl' ⊢
    obtain ⟨b, av, pl, pr, fl, fr, rfl, rfl, hb, hav, hl, hr⟩ := k1
    have hbt := head_ne hT1 hb
    clear hs
    have hs := ((St.nil w1).track hT1 (by simp)).track hb (by simpa using hbt)
    repeat' (first|refine vs (k:=?_)|(refine st hs (k:=?_);intro w hs)|refine qRg ?_|refine Nx.h ?_|fail)
    have en : IntKind.i64.wrap ((t.list.length : Nat) + 1) = ((l'.list ++ y :: r'.list).length : Nat) := by
      have h1 : (l'.list ++ y :: r'.list).length = t.list.length + 1 := hl'
      rw [h1]
      exact i64_small (by omega) (by omega)
    rw [en] at hs
    first | refine rt (hq := ?_) | refine rt' (hq := ?_)
    have ho3 : Only [b, tb] w1 _ := hs.onlyF [b, tb] (by simp) (by simp [D0])
    have hsz := ho1.size
    have hbn : b ∉ fl ∧ b ∉ fr := by
      simp only [List.nodup_cons, List.mem_append, not_or] at k2
      exact k2.1
    have htn : tb ∉ fl ∧ tb ∉ fr := ⟨(fun h => by obtain ⟨_, _, h⟩ := hl.nodes tb h; rw [hT1] at h; cases h), (fun h => by obtain ⟨_, _, h⟩ := hr.nodes tb h; rw [hT1] at h; cases h)⟩
    have h2 := hs.get At.head
    have h3 := hs.get (At.tail At.head)
    have o1 : Only (tb :: fp) w0 w1 := (ho1.weaken (by simp)).step k4 (fun k hk => .inl (List.mem_cons_of_mem _ hk))
    refine ⟨rfl, tb :: (b :: (fl ++ fr)), ⟨_, _, rfl, h3, ⟨b, av, pl, pr, fl, fr, rfl, rfl, h2, ?_, ?_, ?_⟩, k2⟩, ?_, ?_⟩
    · obtain ⟨ad, cap, rfl, hd⟩ := hav
      refine ⟨ad, cap, rfl, fun hn => ?_⟩
      obtain ⟨bb, off, cs, fz, g1, g2, g3, g4⟩ := hd hn
      refine ⟨bb, off, cs, fz, g1, g2, ho3.block g3 (fun hm => ?_), g4⟩
      simp only [List.mem_cons, List.not_mem_nil, or_false] at hm
      rcases hm with rfl | rfl
      · rw [hb] at g3; cases g3
      · rw [hT1] at g3; cases g3
    · exact tree_keep2 hl ho3 hb hT1 hbn.1 htn.1
    · exact tree_keep2 hr ho3 hb hT1 hbn.2 htn.2
    · intro k hk
      rcases List.mem_cons.1 hk with rfl | hk
      · exact .inl List.mem_cons_self
      · rcases k3 k hk with h | h
        · exact .inl (List.mem_cons_of_mem _ h)
        · exact .inr (by omega)
    · refine o1.step ho3 (fun k hk => ?_)
      simp only [List.mem_cons, List.not_mem_nil, or_false] at hk
      rcases hk with rfl | rfl
      · rcases k3 k List.mem_cons_self with h | h
        · exact .inl (List.mem_cons_of_mem _ h)
        · exact .inr (by omega)
      · exact .inl List.mem_cons_self
  · repeat' (first|refine vs (k:=?_)|refine qRg ?_|refine Nx.h ?_|refine qCt ?_|fail)
    first | refine rt (hq := ?_) | refine rt' (hq := ?_)
    have ho1 : Only [] w0 _ := hs.onlyF [] (by simp [hT]) (by simp [D0])
    exact ⟨rfl, _, ⟨p, fp, rfl, hs.get At.head, ht.keep ho1 (Nodes.nil _) (by simp), hnd⟩, fun k hk => .inl hk, ho1.weaken (by simp)⟩
end Go.Proofs.YtilajmcellffiaaGreatDoorX

namespace Go.Proofs.YtilajmcellffiaaGreatDoorX
open Go Go.RowKit
def ShapeAt (w : World) : RB Int → Option Addr → Prop
  | .nil, p => p = none
  | .node l x r c, p => ∃ b av pl pr, p = some ⟨b, 0, none⟩ ∧ w.heap[b]? = some (nodeO x av pl pr c) ∧ ShapeAt w l pl ∧ ShapeAt w r pr
theorem TreeAt.shape {w : World} : ∀ {t : RB Int} {p : Option Addr} {fp : List Nat}, TreeAt w t p fp → ShapeAt w t p
  | .nil, _, _, ⟨h, _⟩ => h
  | .node l x r c, _, _, ⟨b, av, pl, pr, fl, fr, h1, h2, h3, h4, h5, h6⟩ => ⟨b, av, pl, pr, h1, h3, h5.shape, h6.shape⟩
def NoNode (w : World) (F : List Nat) : Prop := ∀ b ∈ F, ∀ cs fz, w.heap[b]? ≠ some (.cells cs 324 fz)
theorem ShapeAt.keep {w w' : World} {F : List Nat} (ho : Only F w w') (hF : NoNode w F) : ∀ {t : RB Int} {p : Option Addr}, ShapeAt w t p → ShapeAt w' t p
  | .nil, _, h => h
  | .node l x r c, _, ⟨b, av, pl, pr, h1, h3, h5, h6⟩ => ⟨b, av, pl, pr, h1, ho.block h3 (fun hm => hF b hm _ _ h3), ShapeAt.keep ho hF h5, ShapeAt.keep ho hF h6⟩
theorem SlV.noNode {w : World} {v : Value} {n : Nat} {xs : List Value} {G : List Nat} (h : SlV w 3 1 v n xs G) : NoNode w G := by
  rcases h with ⟨_, _, _, rfl⟩ | ⟨g, cap, cur, _, rfl, _, _, _, _, hg⟩
  · intro b hb; cases hb
  · intro b hb cs fz e
    obtain rfl := List.mem_singleton.1 hb
    rw [hg] at e; cases e
theorem SlV.dat {w : World} {v : Value} {xs : List Int} {G : List Nat} (h : SlV w 3 1 v xs.length (ints xs) G) : DAt w v xs := by
  rcases h with ⟨rfl, h2, h3, h4⟩ | ⟨g, cap, cur, rfl, rfl, h3, h4, h5, h6, hg⟩
  · obtain rfl := List.length_eq_zero_iff.1 h2
    exact ⟨none, 0, rfl, fun h => absurd rfl h⟩
  · refine ⟨_, cap, rfl, fun _ => ⟨g, 0, cur, (0, 0), rfl, h3, hg, fun i d hi => ?_⟩⟩
    have h7 : (ints xs)[i]? = some (.int .i64 d) := by simp [ints, hi]
    rw [← h6, List.getElem?_take] at h7
    rw [Nat.zero_add]
    split at h7
    · exact h7
    · cases h7
end Go.Proofs.YtilajmcellffiaaGreatDoorX
