/- Red-black trees in the heap: what a tree looks like there, and what leaves it alone. -/
import Derived.Test.YtjooegonmdmajaaW
import Derived.Test.YtjooegonmdmajaaK2
import Derived.Test.YtjooegonmdmajaaBig2
import Derived.Test.YtjooegonmdmajaaRbD
set_option linter.unusedVariables false
set_option linter.unusedSimpArgs false
namespace Go.Proofs.YtjooegonmdmajaaX
open Go Go.RowKit
/-- A node. -/
abbrev nodeO (x : Int) (av : Value) (pl pr : Option Addr) (c : Bool) : Obj := .cells #[.int .i64 x, av, .pointer pl, .pointer pr, .bool c] 84 (0, 0)
/-- A tree's head. -/
abbrev treeO (p : Option Addr) (n : Int) : Obj := .cells #[.pointer p, .int .i64 n, .func (.func 60) #[] #[], .func (.func 61) #[] #[], .func (.func 62) #[] #[]] 82 (0, 0)
def TreeAt (w : World) : RB Int → Option Addr → List Nat → Prop
  | .nil, p, fp => p = none ∧ fp = []
  | .node l x r c, p, fp => ∃ b av pl pr fl fr, p = some ⟨b, 0, none⟩ ∧ fp = b :: (fl ++ fr) ∧ w.heap[b]? = some (nodeO x av pl pr c) ∧ DAt w av (l.list ++ x :: r.list) ∧ TreeAt w l pl fl ∧ TreeAt w r pr fr
/-- A node whose count is old. -/
def StaleAt (w : World) (l : RB Int) (x : Int) (r : RB Int) (c : Bool) (p : Option Addr) (fp : List Nat) : Prop :=
  ∃ b av pl pr fl fr, p = some ⟨b, 0, none⟩ ∧ fp = b :: (fl ++ fr) ∧ w.heap[b]? = some (nodeO x av pl pr c) ∧ TreeAt w l pl fl ∧ TreeAt w r pr fr
theorem TreeAt.stale {w : World} {l : RB Int} {x : Int} {r : RB Int} {c : Bool} {p : Option Addr} {fp : List Nat} (h : TreeAt w (.node l x r c) p fp) : StaleAt w l x r c p fp := by
  obtain ⟨b, av, pl, pr, fl, fr, h1, h2, h3, h4, h5, h6⟩ := h
  exact ⟨b, av, pl, pr, fl, fr, h1, h2, h3, h5, h6⟩
/-- These blocks are nodes. -/
def Nodes (w : World) (F : List Nat) : Prop := ∀ b ∈ F, ∃ cs fz, w.heap[b]? = some (.cells cs 84 fz)
theorem Nodes.nil (w : World) : Nodes w [] := fun b h => by cases h
theorem Nodes.append {w : World} {F G : List Nat} (h : Nodes w F) (k : Nodes w G) : Nodes w (F ++ G) := fun b hb => by
  rcases List.mem_append.1 hb with hb | hb
  · exact h b hb
  · exact k b hb
theorem Nodes.sub {w : World} {F G : List Nat} (h : Nodes w F) (k : ∀ b ∈ G, b ∈ F) : Nodes w G := fun b hb => h b (k b hb)
theorem Nodes.cons {w : World} {F : List Nat} {b : Nat} {cs : Array Value} {fz : Nat × Nat} (h : w.heap[b]? = some (.cells cs 84 fz)) (k : Nodes w F) : Nodes w (b :: F) := fun b' hb => by
  rcases List.mem_cons.1 hb with rfl | hb
  · exact ⟨_, _, h⟩
  · exact k b' hb
theorem TreeAt.nodes {w : World} : ∀ {t : RB Int} {p : Option Addr} {fp : List Nat}, TreeAt w t p fp → Nodes w fp
  | .nil, p, fp, ⟨_, h⟩ => by subst h; exact Nodes.nil w
  | .node l x r c, p, fp, ⟨b, av, pl, pr, fl, fr, h1, h2, h3, h4, h5, h6⟩ => by
    subst h2
    exact .cons h3 (h5.nodes.append h6.nodes)
theorem StaleAt.nodes {w : World} {l : RB Int} {x : Int} {r : RB Int} {c : Bool} {p : Option Addr} {fp : List Nat} (h : StaleAt w l x r c p fp) : Nodes w fp := by
  obtain ⟨b, av, pl, pr, fl, fr, h1, h2, h3, h5, h6⟩ := h
  subst h2
  exact .cons h3 (h5.nodes.append h6.nodes)
theorem DAt.keep {w w' : World} {v : Value} {xs : List Int} {F : List Nat} (h : DAt w v xs) (ho : Only F w w') (hF : Nodes w F) : DAt w' v xs := by
  obtain ⟨ad, cap, rfl, h⟩ := h
  refine ⟨ad, cap, rfl, fun hn => ?_⟩
  obtain ⟨b, off, cs, fz, h1, h2, h3, h4⟩ := h hn
  refine ⟨b, off, cs, fz, h1, h2, ho.block h3 fun hb => ?_, h4⟩
  obtain ⟨cs', fz', h5⟩ := hF b hb
  rw [h3] at h5
  cases h5
theorem TreeAt.keep {w w' : World} {F : List Nat} (ho : Only F w w') (hF : Nodes w F) : ∀ {t : RB Int} {p : Option Addr} {fp : List Nat}, TreeAt w t p fp → (∀ b ∈ fp, b ∉ F) → TreeAt w' t p fp
  | .nil, p, fp, h, _ => h
  | .node l x r c, p, fp, ⟨b, av, pl, pr, fl, fr, h1, h2, h3, h4, h5, h6⟩, hd => by
    subst h2
    exact ⟨b, av, pl, pr, fl, fr, h1, rfl, ho.block h3 (hd b List.mem_cons_self), h4.keep ho hF, TreeAt.keep ho hF h5 fun k hk => hd k (List.mem_cons_of_mem _ (List.mem_append_left _ hk)),
      TreeAt.keep ho hF h6 fun k hk => hd k (List.mem_cons_of_mem _ (List.mem_append_right _ hk))⟩
/-- A tree's head stays. -/
theorem head_keep {w w' : World} {F : List Nat} {tb : Nat} {p : Option Addr} {n : Int} (h : w.heap[tb]? = some (treeO p n)) (ho : Only F w w') (hF : Nodes w F) : w'.heap[tb]? = some (treeO p n) :=
  ho.block h fun hb => by
    obtain ⟨cs', fz', h5⟩ := hF tb hb
    rw [h] at h5
    cases h5
/-- What has turned: the entries that hold something else. -/
theorem St.onlyF {wb w : World} {D : Ctx} {H : List Ent} (hs : St wb D H w) (F : List Nat) (hF : ∀ e ∈ H, e.2.2 = true ∨ e.1 ∈ F ∨ wb.heap[e.1]? = some e.2.1) (hD : ∀ k ∈ D.dirty, k ∈ F) : Only F wb w :=
  ⟨hs.os, hs.tape, hs.output, hs.size, fun k hk hn => by
    by_cases h1 : k ∈ H.map (·.1)
    · obtain ⟨e, he, rfl⟩ := List.mem_map.1 h1
      rcases hF e he with h | h | h
      · exact absurd hk (Nat.not_lt.2 (hs.new (e.1, e.2.2) (List.mem_map.2 ⟨e, he, rfl⟩) h))
      · exact absurd h hn
      · rw [hs.at_ e he, h]
    · exact hs.frame k hk (fun h => hn (hD k h)) h1⟩
/-- The blocks of a tree that came back. -/
def Sub (w0 : World) (fp fp' : List Nat) : Prop := fp'.Nodup ∧ ∀ k ∈ fp', k ∈ fp ∨ w0.heap.size ≤ k
end Go.Proofs.YtjooegonmdmajaaX
