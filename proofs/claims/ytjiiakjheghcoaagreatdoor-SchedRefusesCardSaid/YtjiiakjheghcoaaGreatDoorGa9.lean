/- A part of the proof: what its functions compute. -/
import Derived.Test.YtjiiakjheghcoaaGreatDoorGa8
set_option linter.unusedVariables false
set_option linter.unusedSimpArgs false
set_option maxRecDepth 100000
set_option maxHeartbeats 64000000
set_option linter.unusedSectionVars false
namespace Go.Proofs.Q0
open Go Go.RowKit
theorem tick_bounds {s:Ss} {c:Cs} (h:BK s c.A) (ns:Int):(Ao c ns).2.2.p.length < 2000000000000∧(Ao c ns).2.2.g.length≤32:=by
 unfold Ao
 split
 ·rename_i hc
  have h1:=SW (ns.toNat+1) ns c .none om hc.2
  have h2:=(tick_gone (ns.toNat+1) ns c .none ⟨s,h⟩).1
  have h3:=h.le
  have e1:Rp.none.p.length=0:=rfl
  have e2:Rp.none.g.length=0:=rfl
  rw [e1] at h1
  rw [e2] at h2
  constructor <;> omega
 ·exact ⟨(by show (0:Nat) < 2000000000000;omega),(by show (0:Nat)≤32;omega)⟩
theorem Bb.Zb {w:World} {cb:Nat} {c:Cs} {F:List Nat} (h:Bb w cb c F):∃ s,BK s c.A:=by
 obtain ⟨sb,Fs,_,_,hS,_⟩:=h
 exact hS.rep
theorem eV (cb:Nat) (c:Cs) (F:List Nat) (ns:Int) (w0:World) (h:Bb w0 cb c F) (D3:BV ns) :
 AM Tryz.prog 59 #[.pointer (some ⟨cb,0,none⟩),.int .u64 ns] w0 fun v w'=>∃ rv,v = .tuple #[rv,.int .i64 (Ao c ns).1]∧HF w0 cb F rv (Ao c ns).1 c (Ao c ns).2.1 (Ao c ns).2.2 w':=by
 obtain ⟨s,hs⟩:=h.Zb
 obtain ⟨h1,h2⟩:=tick_bounds hs ns
 exact VY cb c F ns w0 h D3 h1 om
theorem Ca.mem {w:World} {sb:Nat} {A:As} {F:List Nat} (h:Ca w sb A F):sb∈F:=by
 obtain ⟨s,⟨qb,mb,Fq,rfl,_⟩,_⟩:=h
 simp
end Go.Proofs.Q0
namespace Go.Proofs.Q0
open Go Go.RowKit
attribute [local irreducible] XS XC XA AX AO A6 AZ AY A7 Ab AV SE
theorem kN (cb:Nat) (c:Cs) (F:List Nat) (w0:World) (h:Bb w0 cb c F):AM Tryz.prog 18 #[.pointer (some ⟨cb,0,none⟩)] w0 fun v w'=>v = .int .i64 c.run∧AA [] w0 w':=by
 obtain ⟨sb,Fs,rfl,h1,hS,h3,h4⟩:=h
 have hs:=(St.nil w0).AE h1
 refine AQ Tryz.func18 Tryz.ntmps18 (k:=?_)
 refine Jd ?_
 refine AF ?_
 exact ⟨rfl,hs.AB [] (by simp [h1]) (by simp [D0])⟩
theorem Nz (cb:Nat) (c:Cs) (F:List Nat) (w0:World) (h:Bb w0 cb c F):AM Tryz.prog 19 #[.pointer (some ⟨cb,0,none⟩)] w0 fun v w'=>v=wv c.carr∧AA [] w0 w':=by
 obtain ⟨sb,Fs,rfl,h1,hS,h3,h4⟩:=h
 have hs:=(St.nil w0).AE h1
 refine AQ Tryz.func19 Tryz.ntmps19 (k:=?_)
 repeat' (first|refine Sd ?_|(refine AU hs (k:=?_);intro w hs)|(refine al hs (k:=?_);intro b w hz hs)|fail)
 refine AF ?_
 exact ⟨rfl,hs.AB [] (by simp [h1]) (by simp [D0])⟩
theorem Bb.mem {w:World} {cb:Nat} {c:Cs} {F:List Nat} (h:Bb w cb c F):cb∈F:=by obtain ⟨_,_,rfl,_⟩:=h;simp
theorem Bb.E4 {w:World} {cb:Nat} {c:Cs} {F:List Nat} (h:Bb w cb c F):∃ sb qb mb Fs,F=cb :: Fs∧w.heap[cb]?=some (Ep sb c.run c.carr)∧w.heap[sb]?=some (Uz qb mb)∧Ca w sb c.A Fs∧KW w qb c.A∧sb∈Fs:=by
 obtain ⟨sb,Fs,rfl,h1,hS,h3,h4⟩:=h
 obtain ⟨qb,mb,g1,gQ⟩:=hS.E4
 exact ⟨sb,qb,mb,Fs,rfl,h1,g1,hS,gQ,hS.mem⟩
end Go.Proofs.Q0
namespace Go.Proofs.Q0
open Go Go.RowKit
structure Ce where
 cb:Nat
 c:Cs
 F:List Nat
def ptrs (L:List Ce):List Value:=L.map fun x => .pointer (some ⟨x.cb,0,none⟩)
def EE (L:List Ce):List Nat:=(L.map Ce.F).flatten
theorem Di {L:List Ce} {k:Nat}:k∈EE L↔∃ x∈L,k∈x.F:=by
 unfold EE
 simp only [List.mem_flatten,List.mem_map]
 constructor
 ·rintro ⟨_,⟨x,hx,rfl⟩,hk⟩;exact ⟨x,hx,hk⟩
 ·rintro ⟨x,hx,hk⟩;exact ⟨_,⟨x,hx,rfl⟩,hk⟩
abbrev Sl:Nat:=55
structure CR (w:World) (v:Value) (l:List Cs) (L:List Ce) (G:List Nat):Prop where
 a:BS w Sl 1 v L.length (ptrs L) G
 l:L.map Ce.c=l
 c:∀ x∈L,Bb w x.cb x.c x.F
 d:∀ (i j:Nat) x y,L[i]?=some x→L[j]?=some y→i≠j→∀ k∈x.F,k∉y.F
theorem CR.Ae {w w':World} {v:Value} {l:List Cs} {L:List Ce} {G F:List Nat} (h:CR w v l L G) (ho:AA F w w') (hd:∀ k∈G ++ EE L,k∉F):CR w' v l L G :=
 ⟨h.a.keep ho fun k hk=>hd k (List.mem_append_left _ hk),h.l,fun x hx=>(h.c x hx).Ae ho fun k hk=>hd k (List.mem_append_right _ (Di.2 ⟨x,hx,hk⟩)),h.d⟩
abbrev Sr (tb:Nat) (c:Cf) (v:Value):Obj := .cells #[.pointer (some ⟨tb,0,none⟩),.int .i64 c.cores,.int .i64 c.tasks,.int .u64 c.tick,.int .u64 c.slice,.int .u64 c.origin,v] 48 (0,0)
structure FX (w:World) (sb tb rb:Nat) (v:Value) (s:Sy) (L:List Ce) (G:List Nat):Prop where
 o:w.heap[sb]?=some (Sr tb s.cf v)
 t:DL w tb rb s.t
 c:CR w v s.k L G
 ok:EG s
def CM (w:World) (sb:Nat) (s:Sy) (F:List Nat):Prop:=∃ tb rb v L G,F=sb :: tb :: rb :: (G ++ EE L)∧FX w sb tb rb v s L G
def yC:Obj→Bool
 | .cells cs ty f=>oT (.cells cs ty f) && !(Nat.beq ty 48) && !(Nat.beq ty 97) && !(Nat.beq ty 51) && !(Nat.beq ty Sl)
 | _=>false
theorem nbeq {a b:Nat} (h:(!(Nat.beq a b))=true):a≠b:=fun e=>by subst e;simp at h
theorem DL.wJ {w:World} {tb rb:Nat} {l:List Tk} (h:DL w tb rb l) {b:Nat} {cs:Array Value} {ty:Nat} {fz:Nat × Nat} (hb:w.heap[b]?=some (.cells cs ty fz)) (h1:ty≠97) (h2:ty≠51):b≠tb∧b≠rb:=by
 obtain ⟨cap,rest,a1,a2,_⟩:=h
 exact ⟨A0 hb a1 h1,A0 hb a2 h2⟩
theorem CM.not {w:World} {sb:Nat} {s:Sy} {F:List Nat} (h:CM w sb s F) {b:Nat} {cs:Array Value} {ty:Nat} {fz:Nat × Nat} (hb:w.heap[b]?=some (.cells cs ty fz)) (ho:yC (.cells cs ty fz)=true):b∉F:=fun hm=>by
 obtain ⟨tb,rb,v,L,G,rfl,h⟩:=h
 simp only [yC,Bool.and_eq_true] at ho
 obtain ⟨⟨⟨⟨o1,o2⟩,o3⟩,o4⟩,o5⟩:=ho
 have n2:=nbeq o2
 have n3:=nbeq o3
 have n4:=nbeq o4
 have n5:=nbeq o5
 obtain ⟨n6,n7⟩:=h.t.wJ hb n3 n4
 rcases List.mem_cons.1 hm with rfl | hm
 ·exact A0 hb h.o n2 rfl
 rcases List.mem_cons.1 hm with rfl | hm
 ·exact n6 rfl
 rcases List.mem_cons.1 hm with rfl | hm
 ·exact n7 rfl
 rcases List.mem_append.1 hm with hm | hm
 ·exact BM h.c.a hb n5 hm
 ·obtain ⟨x,hx,hk⟩:=Di.1 hm
  exact (h.c.c x hx).not hb o1 hk
theorem CM.Ae {w w':World} {sb:Nat} {s:Sy} {F G:List Nat} (h:CM w sb s F) (ho:AA G w w') (hd:∀ k∈F,k∉G):CM w' sb s F:=by
 obtain ⟨tb,rb,v,L,G',rfl,h⟩:=h
 exact ⟨tb,rb,v,L,G',rfl,ho.block h.o (hd _ (by simp)),h.t.keep ho (hd _ (by simp)) (hd _ (by simp)),h.c.Ae ho (fun k hk=>hd k (by simp only [List.mem_cons];exact .inr (.inr (.inr hk)))),h.ok⟩
theorem CM.only {w w':World} {sb:Nat} {s:Sy} {F:List Nat} (h:CM w sb s F) (ho:AA [] w w'):CM w' sb s F:=h.Ae ho (by simp)
theorem DL.RN {w:World} {tb rb:Nat} {l:List Tk} (h:DL w tb rb l):tb < w.heap.size∧rb < w.heap.size:=by
 obtain ⟨cap,rest,a1,a2,_⟩:=h
 exact ⟨lt_of_block a1,lt_of_block a2⟩
theorem CM.lt {w:World} {sb:Nat} {s:Sy} {F:List Nat} (h:CM w sb s F):∀ k∈F,k < w.heap.size:=fun k hm=>by
 obtain ⟨tb,rb,v,L,G,rfl,h⟩:=h
 rcases List.mem_cons.1 hm with rfl | hm
 ·exact lt_of_block h.o
 rcases List.mem_cons.1 hm with rfl | hm
 ·exact h.t.RN.1
 rcases List.mem_cons.1 hm with rfl | hm
 ·exact h.t.RN.2
 rcases List.mem_append.1 hm with hm | hm
 ·exact h.c.a.lt k hm
 ·obtain ⟨x,hx,hk⟩:=Di.1 hm
  exact (h.c.c x hx).lt k hk
theorem CM.mem {w:World} {sb:Nat} {s:Sy} {F:List Nat} (h:CM w sb s F):sb∈F:=by obtain ⟨tb,rb,v,L,G,rfl,h⟩:=h;simp
theorem CM.ok {w:World} {sb:Nat} {s:Sy} {F:List Nat} (h:CM w sb s F):EG s:=by obtain ⟨tb,rb,v,L,G,rfl,h⟩:=h;exact h.ok
theorem lD (L:List Ce) (i:Nat) {x y:Ce} (hx:L[i]?=some x) (e:y.cb=x.cb):ptrs (L.set i y)=ptrs L:=by
 unfold ptrs
 rw [List.map_set,e]
 apply List.ext_getElem?
 intro j
 rw [List.getElem?_set]
 split
 ·rename_i h
  subst h
  rw [List.getElem?_map,hx,List.length_map]
  split
  ·rfl
  ·rename_i h;rw [List.getElem?_eq_none om] at hx;cases hx
 ·rfl
theorem CR.put {w w':World} {v:Value} {l:List Cs} {L:List Ce} {G:List Nat} (h:CR w v l L G) {i:Nat} {x:Ce} (hx:L[i]?=some x) {c':Cs} {F':List Nat} (hc:Bb w' x.cb c' F') (hF:∀ k∈F',k∈x.F∨w.heap.size≤k) (ho:AA [x.cb] w w') :
 CR w' v (l.set i c') (L.set i ⟨x.cb,c',F'⟩) G∧∀ k∈G ++ EE (L.set i ⟨x.cb,c',F'⟩),k∈G ++ EE L∨w.heap.size≤k:=by
 have hxm:=List.mem_of_getElem? hx
 have hC:=h.c x hxm
 obtain ⟨_,_,_,_,_,hcb,_⟩:=hC.E4
 have hmem:∀ y∈L.set i ⟨x.cb,c',F'⟩,y=⟨x.cb,c',F'⟩∨∃ j:Nat,j≠i∧L[j]?=some y:=fun y hy=>by
  obtain ⟨j,hj⟩:=List.getElem?_of_mem hy
  rw [List.getElem?_set] at hj
  split at hj
  ·split at hj
   ·exact .inl (Option.some.inj hj).symm
   ·cases hj
  ·rename_i hne;exact .inr ⟨j,fun e=>hne e.symm,hj⟩
 have key:∀ (j:Nat) (y:Ce),j≠i→L[j]?=some y→∀ k∈F',k∉y.F:=fun j y hne hy k hk hm=>by
  rcases hF k hk with q | q
  ·exact h.d i j x y hx hy (Ne.symm hne) k q hm
  ·have:=(h.c y (List.mem_of_getElem? hy)).lt k hm;omega
 refine ⟨⟨?_,?_,?_,?_⟩,?_⟩
 ·rw [List.length_set,lD L i (y:=⟨x.cb,c',F'⟩) hx rfl]
  exact h.a.keep ho fun k hk hm=>by obtain rfl:=List.mem_singleton.1 hm;exact BM h.a hcb (by decide) hk
 ·rw [List.map_set,h.l]
 ·intro y hy
  rcases hmem y hy with rfl | ⟨j,hj,hy⟩
  ·exact hc
  ·exact (h.c y (List.mem_of_getElem? hy)).Ae ho fun k hk hm=>by
    obtain rfl:=List.mem_singleton.1 hm
    exact h.d j i y x hy hx hj _ hk hC.mem
 ·intro a b y z hy hz hne k hk
  rw [List.getElem?_set] at hy hz
  split at hy
  ·rename_i ea
   split at hy
   ·cases hy
    rw [if_neg (fun e=>hne (ea.symm.trans e))] at hz
    exact key b z (fun e=>hne (ea.symm.trans e.symm)) hz k hk
   ·cases hy
  ·rename_i ea
   split at hz
   ·rename_i eb
    split at hz
    ·cases hz
     exact fun hm=>key a y (fun e=>ea e.symm) hy k hm hk
    ·cases hz
   ·exact h.d a b y z hy hz hne k hk
 ·intro k hk
  rcases List.mem_append.1 hk with hk | hk
  ·exact .inl (List.mem_append_left _ hk)
  ·obtain ⟨y,hy,hky⟩:=Di.1 hk
   rcases hmem y hy with rfl | ⟨j,_,hy⟩
   ·rcases hF k hky with q | q
    ·exact .inl (List.mem_append_right _ (Di.2 ⟨x,hxm,q⟩))
    ·exact .inr q
   ·exact .inl (List.mem_append_right _ (Di.2 ⟨y,List.mem_of_getElem? hy,hky⟩))
theorem CR.len {w:World} {v:Value} {l:List Cs} {L:List Ce} {G:List Nat} (h:CR w v l L G):L.length=l.length:=by rw [← h.l,List.length_map]
theorem CR.at {w:World} {v:Value} {l:List Cs} {L:List Ce} {G:List Nat} (h:CR w v l L G) {i:Nat} (hi:i < l.length):∃ x,L[i]?=some x∧Bb w x.cb x.c x.F∧x.c=l.getD i (ER 0):=by
 have hl:=h.len
 have hi':i < L.length:=by omega
 have hl2:=h.l
 refine ⟨L[i],List.getElem?_eq_getElem hi',h.c _ (List.getElem_mem hi'),?_⟩
 subst hl2
 rw [List.getD_eq_getElem?_getD,List.getElem?_map,List.getElem?_eq_getElem hi'];rfl
theorem CR.ptr {w:World} {v:Value} {l:List Cs} {L:List Ce} {G:List Nat} (h:CR w v l L G) {i:Nat} {x:Ce} (hx:L[i]?=some x):∃ g cap cur,v = .slice (some ⟨g,0,none⟩) L.length cap∧w.heap[g]?=some (.cells (cur:List Value).toArray Sl (0,0))∧cur[i]?=some (.pointer (some ⟨x.cb,0,none⟩)):=by
 rcases h.a with ⟨_,h0,_⟩ | ⟨g,cap,cur,e,_,_,_,_,ht,hg⟩
 ·rw [List.eq_nil_of_length_eq_zero h0] at hx;cases hx
 ·refine ⟨g,cap,cur,e,hg,?_⟩
  have h1:(ptrs L)[i]?=some (.pointer (some ⟨x.cb,0,none⟩)):=by unfold ptrs;rw [List.getElem?_map,hx];rfl
  rw [← ht,List.getElem?_take] at h1
  split at h1
  ·exact h1
  ·cases h1
theorem CM.put {w w':World} {sb tb rb:Nat} {v:Value} {s:Sy} {L:List Ce} {G:List Nat} (h:FX w sb tb rb v s L G) {k:Int} {x:Ce} (hx:L[k.toNat]?=some x) {c':Cs} {F':List Nat} (hc:Bb w' x.cb c' F') (hF:∀ k∈F',k∈x.F∨w.heap.size≤k) (ho:AA [x.cb] w w') :
 ∃ L',FX w' sb tb rb v (B7 s k c') L' G∧(∀ q∈sb :: tb :: rb :: (G ++ EE L'),q∈sb :: tb :: rb :: (G ++ EE L)∨w.heap.size≤q):=by
 obtain ⟨h1,h2⟩:=h.c.put hx hc hF ho
 obtain ⟨_,_,_,_,_,hcb,_⟩:=(h.c.c x (List.mem_of_getElem? hx)).E4
 have n1:x.cb≠sb:=A0 hcb h.o (by decide)
 obtain ⟨n2,n3⟩:=h.t.wJ hcb (by decide) (by decide)
 refine ⟨_,⟨ho.block h.o (by simpa using Ne.symm n1),h.t.keep ho (by simpa using Ne.symm n2) (by simpa using Ne.symm n3),h1,h.ok.T5 k c'⟩,fun q hq=>?_⟩
 rcases List.mem_cons.1 hq with rfl | hq
 ·exact .inl (by simp)
 rcases List.mem_cons.1 hq with rfl | hq
 ·exact .inl (by simp)
 rcases List.mem_cons.1 hq with rfl | hq
 ·exact .inl (by simp)
 rcases h2 q hq with k | k
 ·exact .inl (by simp only [List.mem_cons];exact .inr (.inr (.inr k)))
 ·exact .inr k
theorem FX.rows {w w':World} {sb tb rb:Nat} {v:Value} {s:Sy} {L:List Ce} {G:List Nat} (h:FX w sb tb rb v s L G) {t:List Tk} (ht:DL w' tb rb t) (ho:AA [rb] w w') (hok:EG { s with t:=t }):FX w' sb tb rb v { s with t:=t } L G:=by
 obtain ⟨cap,rest,a1,a2,_⟩:=h.t
 have n1:rb≠sb:=A0 a2 h.o (by decide)
 refine ⟨ho.block h.o (by simpa using Ne.symm n1),ht,h.c.Ae ho fun k hk hm=>?_,hok⟩
 obtain rfl:=List.mem_singleton.1 hm
 rcases List.mem_append.1 hk with hk | hk
 ·exact BM h.c.a a2 (by decide) hk
 ·obtain ⟨x,hx,hkx⟩:=Di.1 hk
  exact (h.c.c x hx).not a2 rfl hkx
abbrev jC (sb:Nat) (ve:Value):Obj := .cells #[.pointer (some ⟨sb,0,none⟩),ve] 123 (0,0)
abbrev ZH (w:World) (v:Value) (l:List Ev) (G:List Nat):Prop:=BS w 41 5 v l.length (Md l) G
def D5 (w:World) (hb:Nat) (s:Ch) (F:List Nat):Prop:=∃ sb Fs ve Ge,F=hb :: (Fs ++ Ge)∧w.heap[hb]?=some (jC sb ve)∧CM w sb s.s Fs∧ZH w ve s.ev Ge
def o7:Obj→Bool
 | .cells cs ty f=>yC (.cells cs ty f) && !(Nat.beq ty 123) && !(Nat.beq ty 41)
 | _=>false
theorem D5.not {w:World} {hb:Nat} {s:Ch} {F:List Nat} (h:D5 w hb s F) {b:Nat} {cs:Array Value} {ty:Nat} {fz:Nat × Nat} (h1:w.heap[b]?=some (.cells cs ty fz)) (ho:o7 (.cells cs ty fz)=true):b∉F:=fun hm=>by
 obtain ⟨sb,Fs,ve,Ge,rfl,k1,k2,k3⟩:=h
 simp only [o7,Bool.and_eq_true] at ho
 rcases List.mem_cons.1 hm with rfl | hm
 ·exact A0 h1 k1 (nbeq ho.1.2) rfl
 rcases List.mem_append.1 hm with hm | hm
 ·exact k2.not h1 ho.1.1 hm
 ·exact BM k3 h1 (nbeq ho.2) hm
theorem D5.Ae {w w':World} {hb:Nat} {s:Ch} {F G:List Nat} (h:D5 w hb s F) (ho:AA G w w') (hd:∀ k∈F,k∉G):D5 w' hb s F:=by
 obtain ⟨sb,Fs,ve,Ge,rfl,k1,k2,k3⟩:=h
 exact ⟨sb,Fs,ve,Ge,rfl,ho.block k1 (hd _ (by simp)),k2.Ae ho fun k hk=>hd k (by simp [hk]),k3.keep ho fun k hk=>hd k (by simp [hk])⟩
theorem D5.only {w w':World} {hb:Nat} {s:Ch} {F:List Nat} (h:D5 w hb s F) (ho:AA [] w w'):D5 w' hb s F:=h.Ae ho (by simp)
theorem D5.lt {w:World} {hb:Nat} {s:Ch} {F:List Nat} (h:D5 w hb s F):∀ k∈F,k < w.heap.size:=fun k hm=>by
 obtain ⟨sb,Fs,ve,Ge,rfl,k1,k2,k3⟩:=h
 rcases List.mem_cons.1 hm with rfl | hm
 ·exact lt_of_block k1
 rcases List.mem_append.1 hm with hm | hm
 ·exact k2.lt k hm
 ·exact k3.lt k hm
def oG (w0:World) (hb:Nat) (s:Ch) (F:List Nat) (w':World):Prop:=∃ F',D5 w' hb s F'∧(∀ k∈F',k∈F∨w0.heap.size≤k)∧AA F w0 w'
def Cd (r:Rp):Prop:=∀ g∈r.g,A9 g.lag∧In64 g.id
theorem Cd.none:Cd .none:=fun g hg=>by cases hg
theorem WS {c:Cs} (h:Bx c):∀ g∈DZ c,A9 g.lag∧In64 g.id:=fun g hg=>by
 obtain ⟨s,hs⟩:=h
 obtain ⟨_,_,h3,_⟩:=hs.Mf.gone g hg
 obtain ⟨a,_,ha⟩:=List.mem_map.1 h3
 exact ⟨TO hs g hg,by rw [← ha];exact a.2.1.2.1⟩
theorem UT {c:Cs} (h:Bx c):(DZ c).length≤32:=by
 obtain ⟨s,hs⟩:=h
 have h1:(DZ c).length≤c.A.l.length:=Mu _ _
 have:=hs.le
 omega
theorem Cd.try {e:Int} {c1:Cs} {r1:Rp} (h:Cd r1) (hc:Bx c1):Cd (BR e c1 r1):=by
 unfold BR
 split
 ·intro g hg
  rcases List.mem_append.1 hg with k | k
  ·exact h g k
  ·exact WS hc g k
 ·exact Cd.none
theorem HO {e:Int} {c1:Cs} {r1:Rp} (hc:Bx c1):(BR e c1 r1).g.length≤r1.g.length+32∧(BR e c1 r1).p.length≤r1.p.length:=by
 unfold BR
 split
 ·have:=UT hc
  exact ⟨by rw [List.length_append];omega,Nat.le_refl _⟩
 ·exact ⟨Nat.zero_le _,Nat.zero_le _⟩
theorem Qf {c:Cs} (h:Bx c) (m:Int):Bx (Dh c m):=by obtain ⟨s,hs⟩:=h;exact PE hs m
theorem O4:∀ (k:Nat) (left:Int) (c:Cs) (r:Rp),Bx c→Cd r→Cd (DY k left c r).2.2
 | 0,_,_,_,_,h=>h
 | k+1,left,c,r,hc,h=>by
   unfold DY
   split
   ·split
    ·refine O4 k _ _ _ (Kw (Qf hc left)) fun g hg=>?_
     rcases List.mem_append.1 hg with q | q
     ·exact h g q
     ·exact WS (Qf hc left) g q
    ·exact h
   ·exact h
theorem Xl {c:Cs} (h:Bx c) (ns:Int):Cd (Ao c ns).2.2:=by
 unfold Ao
 split
 ·exact O4 _ _ _ _ h Cd.none
 ·exact Cd.none
theorem ok_leave {s:Ch} (h:EG s.s) (x:Tk):EG (B0 s x).2.s∧(B0 s x).2.s.cf=s.s.cf:=by
 obtain ⟨h1,h2,_⟩:=ok_absorb (s:=⟨B7 s.s x.core (Cb (AT s.s x.core) (Ax (AT s.s x.core) x.id).1 (Ax (AT s.s x.core) x.id).2),s.ev⟩) (h.T5 x.core _) x.core (BR (Ax (AT s.s x.core) x.id).1 (Ax (AT s.s x.core) x.id).2 .none)
 exact ⟨h1,h2⟩
theorem CN.st {n:Int} {x:Tk} (h:CN n x) (hx:x.st≠0) {z:Int} (hz:0≤z∧z < 256):CN n { x with st:=z }:=⟨h.1,hz,h.2.2.1,h.2.2.2.1,h.2.2.2.2.1,h.2.2.2.2.2.1,fun _=>h.2.2.2.2.2.2 hx⟩
theorem CN.core {n:Int} {x:Tk} (h:CN n x) (hx:x.st≠0):0≤x.core∧x.core < n:=h.2.2.2.2.2.2 hx
def Ho (s:Sy):Prop:=∀ c∈s.k,Bx c
theorem Ho.at {s:Sy} (h:Ho s) (k:Int):Bx (AT s k):=by
 unfold AT
 rw [List.getD_eq_getElem?_getD]
 cases e:s.k[k.toNat]? with
 | none=>exact ⟨_,BK.new 0⟩
 | some c=>exact h c (List.mem_of_getElem? e)
end Go.Proofs.Q0
namespace Go.Proofs.Q0
open Go Go.RowKit
attribute [local irreducible] XS XC XA AX AO A6 AZ AY A7 Ab AV SE
theorem HF.form {w1 w2:World} {cb:Nat} {F:List Nat} {rv:Value} {e:Int} {c c1:Cs} {r1:Rp} (T:HF w1 cb F rv e c c1 r1 w2):∃ ag cg ap cp,rv = .agg #[.slice ag (BR e c1 r1).g.length cg,.slice ap (BR e c1 r1).p.length cp]:=by
 obtain ⟨⟨vg,vp,Gg,Gp,rfl,p1,p2⟩,_,_⟩:=T
 obtain ⟨ag,cg,rfl⟩:=BO p1
 obtain ⟨ap,cp,rfl⟩:=BO p2
 exact ⟨ag,cg,ap,cp,rfl⟩
theorem Iz (x:Tk) (w0:World):AM Tryz.prog 47 #[KT x] w0 fun v w'=>v = .bool (BP x)∧AA [] w0 w':=by
 have hs:=St.nil w0
 refine AQ Tryz.func47 Tryz.ntmps47 (k:=?_)
 repeat' (first|refine Sf ?_|(refine bx hs (k:=?_);intro b w hz hs)|((with_reducible apply BI);exact rfl;exact rfl;intro c hc;(fail_if_success have:true=c:=hc);(fail_if_success have:false=c:=hc);cases c)|fail)
 all_goals (refine AF ?_)
 all_goals refine ⟨?_,hs.AD rfl⟩
 all_goals clear hs
 all_goals first
  | (have h1:(x.st == 1)=false:=hc;unfold BP;rw [h1];rfl)
  | (have h1:(x.st == 1)=true:=hc;unfold BP;rw [h1];rfl)
theorem EG.at {s:Sy} (h:EG s) {x:Tk} (hx:CN s.cf.cores x) (hn:x.st≠0):∃ n:Nat,x.core=n∧n < s.k.length:=by
 have h1:=hx.core hn
 have h2:=h.len
 exact ⟨x.core.toNat,by omega,by omega⟩
theorem UA (sb:Nat) (s:Sy) (F:List Nat) (k:Int) (w0:World) (h:CM w0 sb s F) (hk:In64 k):AM Tryz.prog 15 #[.pointer (some ⟨sb,0,none⟩),.int .i64 k] w0 fun v w' =>
 ((CP s.cf k≠0∧v = .tuple #[.pointer none,.int .i64 (CP s.cf k)])∨(CP s.cf k=0∧∃ cb F',v = .tuple #[.pointer (some ⟨cb,0,none⟩),.int .i64 0]∧Bb w' cb (AT s k) F'∧∀ i∈F',w0.heap.size≤i))∧AA [] w0 w':=by
 obtain ⟨tb,rb,vc,L,G,rfl,hO⟩:=h
 have h1:=hO.o
 have hs:=(St.nil w0).AE h1
 refine AQ Tryz.func15 Tryz.ntmps15 (k:=?_)
 refine Jd ?_
 refine cl (h:=by exact KP s.cf k _) (k:=?_)
 by_cases e0:CP s.cf k=0
 ·have hk0:0≤k∧k < s.cf.cores:=by
   unfold CP at e0
   split at e0
   ·cases e0
   ·omega
  have hlen:=hO.ok.len
  obtain ⟨n,rfl⟩:∃ n:Nat,k=n:=⟨k.toNat,by omega⟩
  obtain ⟨x,hx,hC,hce⟩:=hO.c.at (i:=n) om
  obtain ⟨g,cap,cur,rfl,hg,FH⟩:=hO.c.ptr hx
  have hL:=hO.c.len
  have ec:AT s n=x.c:=hce.symm
  rw [e0,ec]
  rintro v w1 ⟨rfl,ho⟩;replace hs:=hs.AL ho
  have hoz:=hs.AB [] (by simp [h1]) (by simp [D0])
  replace hs:=hs.AE (hoz.block hg (by simp))
  refine Jd ?_
  refine ix (h0:=(by omega)) (h1:=(by omega)) (k:=?_)
  refine lb (hc:=(by simpa using FH)) (k:=?_)
  have hz:=(hs.AB [] (by simp [h1,hg]) (by simp [D0])).size
  refine cl (h:=by exact Ms x.cb x.c x.F _ (hC.only (hs.AB [] (by simp [h1,hg]) (by simp [D0])))) (k:=?_)
  rintro v w2 ⟨⟨cb,F',rfl,hC',CV⟩,AN⟩;replace hs:=hs.AL AN
  refine Jc ?_
  refine AF ?_
  have Yl:AA [] w2 _:=(St.nil w2).AD rfl
  exact ⟨.inr ⟨rfl,cb,F',rfl,hC',fun i hi=>by have:=CV i hi;omega⟩,hs.AB [] (by simp [h1,hg]) (by simp [D0])⟩
 ·generalize CP s.cf k=e at *
  rintro v w' ⟨rfl,ho⟩;replace hs:=hs.AL ho;repeat' (first|refine Sa ?_|refine xc_cond rfl (fun hc=>?_) fun hc=>?_|fail)
  ·refine AF ?_
   exact ⟨.inl ⟨e0,rfl⟩,hs.AB [] (by simp [h1]) (by simp [D0])⟩
  ·exact absurd (by simpa using hc) e0
theorem Zz (l:List Int) (x:Int):ints (l ++ [x])=ints l ++ [.int .i64 x]:=by simp [ints]
theorem NU (sb:Nat) (s:Sy) (F:List Nat) (w0:World) (h:CM w0 sb s F):AM Tryz.prog 10 #[.pointer (some ⟨sb,0,none⟩)] w0 fun v w'=>(∃ G,BS w' 3 1 v (s.k.map Cs.run).length (ints (s.k.map Cs.run)) G∧∀ k∈G,w0.heap.size≤k)∧AA [] w0 w':=by
 obtain ⟨tb,rb,vc,L,G,rfl,hO⟩:=h
 have h1:=hO.o
 have hs:=(St.nil w0).AE h1
 have hlen:=hO.ok.len
 have hlo:=hO.ok.lo
 have hhi:=hO.ok.hi
 have hL:=hO.c.len
 have h0:0 < s.k.length:=by omega
 obtain ⟨x0,hx0,_,_⟩:=hO.c.at h0
 obtain ⟨g,cap,cur,rfl,hg,_⟩:=hO.c.ptr hx0
 refine AQ Tryz.func10 Tryz.ntmps10 (k:=?_)
 refine Jd ?_
 have Ay:=hs.AB [] (by simp [h1]) (by simp [D0])
 have FH:∀ (i:Nat) (x:Ce),L[i]?=some x→cur[i]?=some (.pointer (some ⟨x.cb,0,none⟩)):=fun i x hx=>by
  obtain ⟨g',cap',cur',e,hg',MT⟩:=hO.c.ptr hx
  cases e
  rw [hg] at hg'
  simp only [Option.some.injEq,Obj.cells.injEq] at hg'
  have:=congrArg Array.toList hg'.1
  simp only at this
  rw [this];exact MT
 refine BH (fun (v3:Value)=>[(3,v3)]) (fun v3 w=>AA [] w0 w∧∃ G,BS w 3 1 v3 (s.k.map Cs.run).length (ints (s.k.map Cs.run)) G∧∀ k∈G,w0.heap.size≤k) ?_ ?_
 ·refine BF (fun (x:Nat × Value)=>[(3,x.2),(11,.slice (some ⟨g,0,none⟩) L.length cap),(12,.int .i64 (L.length:Nat)),(13,.int .i64 (x.1:Nat))])
   (fun x w=>x.1≤L.length∧AA [] w0 w∧∃ G,BS w 3 1 x.2 ((s.k.take x.1).map Cs.run).length (ints ((s.k.take x.1).map Cs.run)) G∧∀ k∈G,w0.heap.size≤k) (fun x=>L.length - x.1) (0,.slice none 0 0) Aa ⟨Nat.zero_le _,Ay,[],.inl ⟨rfl,rfl,rfl,rfl⟩,by simp⟩ fun x env wl ⟨hi,BL,hT⟩=>?_
  obtain ⟨i,v5⟩:=x
  simp only at hi hT
  obtain ⟨G3,hG,DM⟩:=hT
  clear hs
  have hs:=(St.nil wl).AE (BL.block hg (by simp))
  repeat' (first|refine Sa ?_|refine Av rfl (fun hc=>?_) fun hc=>?_|fail)
  ·have hlt:i < L.length:=by omega
   have QU:i < s.k.length:=by omega
   obtain ⟨x,hx,hC,hce⟩:=hO.c.at QU
   have ei:=DH (m:=L.length) hlt om
   have et:(s.k.take (i+1)).map Cs.run=(s.k.take i).map Cs.run ++ [x.c.run]:=by
    rw [CS QU,List.map_append]
    congr 1
    rw [hce,List.getD_eq_getElem?_getD,List.getElem?_eq_getElem QU];rfl
   have hle:((s.k.take i).map Cs.run).length≤8:=by rw [List.length_map,List.length_take];omega
   generalize (s.k.take i).map Cs.run=A at *
   refine ix (h0:=(by omega)) (h1:=(by omega)) (k:=?_)
   refine lb (hc:=(by simpa using FH i x hx)) (k:=?_)
   refine Ja ?_
   have hb0:=BL.block hg (by simp)
   have Aw:=hs.AB [] (by simp [hb0]) (by simp [D0])
   refine AW hs (h:=by exact kN x.cb x.c x.F _ (hC.only (BL.trans Aw))) (k:=?_);intro w' ho hs;repeat' (first|(refine bs hs (k:=?_);intro b w hz hs)|fail)
   have Dj:=hs.get (At.head)
   have AN:=hs.AB [] (by simp [hb0]) (by simp [D0])
   refine CE AI rfl rfl rfl rfl rfl rfl rfl (by decide) (lit_cells (news:=[.int .i64 x.c.run]) Dj) (by simp [Value.oneCell']) (hG.keep AN (by simp)) om om ?_
   intro MV w4 ⟨G',IE,IP⟩ Al
   have OB:=AN.size
   have Nu:=BL.size
   clear hs
   have hs:=St.nil w4
   refine Ja ?_
   refine A2 (i+1,MV) (by show L.length - (i+1) < L.length - i;omega) (by (repeat (first | exact Ac | (apply A5;first | exact rfl | exact congrArg (Value.int .i64) ei)))) ⟨by show i+1≤_;omega,((BL.trans AN).news DM Al).trans (hs.AD rfl),G',?_,?_⟩
   ·simp only [et]
    rw [List.length_append,Zz]
    exact IE.keep (hs.AD rfl) (by simp)
   ·intro k hk
    rcases IP k hk with h | h
    ·exact DM k h
    ·omega
  ·have e:i=s.k.length:=by omega
   subst e
   rw [List.take_length] at hG
   exact Am v5 Aa ⟨BL,G3,hG,DM⟩
 ·rintro v5 env w ⟨BL,G3,hG,DM⟩
  clear hs
  have hs:=St.nil w
  refine Ja ?_
  refine AF ?_
  have AS:=hs.AD rfl
  exact ⟨⟨G3,hG.keep AS (by simp),DM⟩,BL.trans AS⟩
section
variable {QE : Exit → Env → World → Prop} {n : Nat} {env : Env} {w wb : World} {D : Ctx} {H : List Bp}
theorem drT (E:List Nat) {e:Bp} {id:Nat} {ops:Array Oper} (hs:St wb D (e :: H) w) (hX:XH ops E QE n:=by exact ⟨by kernel_rfl,by kernel_rfl,by kernel_rfl,by (repeat (first | (with_reducible exact P4) | (with_reducible apply Mr) | (with_reducible apply Lh) | (with_reducible apply NN) | (with_reducible apply MD) | (with_reducible apply NB) | (with_reducible apply NJ)))⟩)
 (k:XH ops E QE n→∀ w',St wb D (e :: H) w'→XA Tryz.prog ops E H QE n ops.size (Array.replicate ops.size false) env w'):XC Tryz.prog QE n (.region id ops true) env w:=p8 E H hs hX k
end
structure CU (w:World) (hb sb tb rb:Nat) (v ve:Value) (S:Ch) (L:List Ce) (G Ge:List Nat):Prop where
 h:w.heap[hb]?=some (jC sb ve)
 s:FX w sb tb rb v S.s L G
 e:ZH w ve S.ev Ge
def CA (hb sb tb rb:Nat) (L:List Ce) (G Ge:List Nat):List Nat:=hb :: ((sb :: tb :: rb :: (G ++ EE L)) ++ Ge)
theorem D5.E4 {w:World} {hb:Nat} {s:Ch} {F:List Nat} (h:D5 w hb s F):∃ sb tb rb v ve L G Ge,F=CA hb sb tb rb L G Ge∧CU w hb sb tb rb v ve s L G Ge:=by
 obtain ⟨sb,Fs,ve,Ge,rfl,h1,⟨tb,rb,v,L,G,rfl,h2⟩,h3⟩:=h
 exact ⟨sb,tb,rb,v,ve,L,G,Ge,rfl,h1,h2,h3⟩
theorem CU.at {w:World} {hb sb tb rb:Nat} {v ve:Value} {s:Ch} {L:List Ce} {G Ge:List Nat} (h:CU w hb sb tb rb v ve s L G Ge):D5 w hb s (CA hb sb tb rb L G Ge):=⟨sb,_,ve,Ge,rfl,h.h,⟨tb,rb,v,L,G,rfl,h.s⟩,h.e⟩
theorem FX.at {w:World} {sb tb rb:Nat} {v:Value} {s:Sy} {L:List Ce} {G:List Nat} (h:FX w sb tb rb v s L G):CM w sb s (sb :: tb :: rb :: (G ++ EE L)):=⟨tb,rb,v,L,G,rfl,h⟩
theorem FX.Ae {w w':World} {sb tb rb:Nat} {v:Value} {s:Sy} {L:List Ce} {G F:List Nat} (h:FX w sb tb rb v s L G) (ho:AA F w w') (hd:∀ k∈sb :: tb :: rb :: (G ++ EE L),k∉F):FX w' sb tb rb v s L G :=
 ⟨ho.block h.o (hd _ (by simp)),h.t.keep ho (hd _ (by simp)) (hd _ (by simp)),h.c.Ae ho (fun k hk=>hd k (by simp only [List.mem_cons];exact .inr (.inr (.inr hk)))),h.ok⟩
theorem FX.only {w w':World} {sb tb rb:Nat} {v:Value} {s:Sy} {L:List Ce} {G:List Nat} (h:FX w sb tb rb v s L G) (ho:AA [] w w'):FX w' sb tb rb v s L G:=h.Ae ho (by simp)
theorem CU.only {w w':World} {hb sb tb rb:Nat} {v ve:Value} {s:Ch} {L:List Ce} {G Ge:List Nat} (h:CU w hb sb tb rb v ve s L G Ge) (ho:AA [] w w'):CU w' hb sb tb rb v ve s L G Ge :=
 ⟨ho.block h.h (by simp),h.s.only ho,h.e.keep ho (by simp)⟩
theorem CU.tell {w w1 w2:World} {hb sb tb rb:Nat} {v ve Y0:Value} {s:Ch} {L:List Ce} {G Ge XP:List Nat} (h:CU w hb sb tb rb v ve s L G Ge) {x:Ev} (ho:AA Ge w w1) (ha:BS w1 41 5 Y0 (s.ev.length+1) (Md s.ev ++ x.cells) XP) (hG:∀ k∈XP,k∈Ge∨w.heap.size≤k) (AN:AA [hb] w1 w2) (hh:w2.heap[hb]?=some (jC sb Y0)) :
 CU w2 hb sb tb rb v Y0 ⟨s.s,s.ev ++ [x]⟩ L G XP:=by
 have hS:=h.s.at
 have d1:∀ k∈sb :: tb :: rb :: (G ++ EE L),k∉Ge:=fun k hk hm=>by
  obtain ⟨cs,hc⟩:=Kz h.e k hm
  exact hS.not hc rfl hk
 have n1:hb∉Ge:=fun hm=>BM h.e h.h (by decide) hm
 have h1:=ho.block h.h n1
 have s1:=h.s.Ae ho d1
 refine ⟨hh,s1.Ae AN fun k hk hm=>?_,?_⟩
 ·obtain rfl:=List.mem_singleton.1 hm
  exact s1.at.not h1 rfl hk
 ·unfold ZH
  rw [List.length_append,Xc]
  exact ha.keep AN fun k hk hm=>by obtain rfl:=List.mem_singleton.1 hm;exact BM ha h1 (by decide) hk
theorem WK (s:Ch) (k:Int) (l:List Gn) {i:Nat} (h:i < l.length):(l.take (i+1)).foldl (DS k) s=DS k ((l.take i).foldl (DS k) s) l[i]:=by rw [CS h,List.foldl_append];rfl
theorem gA (s:Ch) (k:Int) (l:List Pr) {i:Nat} (h:i < l.length):(l.take (i+1)).foldl (Gz k) s=Gz k ((l.take i).foldl (Gz k) s) l[i]:=by rw [CS h,List.foldl_append];rfl
theorem VO (k:Int) (l:List Pr) (s:Ch):(l.foldl (Gz k) s).ev.length=s.ev.length+l.length:=by rw [(OT k l s).2,List.length_append,List.length_map]
theorem nD (k:Int) (l:List Gn) (s:Ch):(l.foldl (DS k) s).ev.length=s.ev.length+l.length:=by rw [TY,List.length_append,List.length_map]
theorem Pv (hb sb tb rb:Nat) (v ve:Value) (s:Ch) (L:List Ce) (G Ge:List Nat) (k:Int) (rv:Value) (r:Rp) (w0:World) (hO:CU w0 hb sb tb rb v ve s L G Ge) (hr:MP w0 rv r) (hg:Cd r) (hl:s.ev.length+r.p.length+r.g.length≤4000000000000) :
 AM Tryz.prog 60 #[.pointer (some ⟨hb,0,none⟩),.int .i64 k,rv] w0 fun _ w'=>∃ Y0 XP,CU w' hb sb tb rb v Y0 (BQ s k r) L G XP∧(∀ i∈XP,i∈Ge∨w0.heap.size≤i)∧AA (CA hb sb tb rb L G Ge) w0 w':=by
 have dY:=hO.at
 obtain ⟨vg,vp,Gg,Gp,rfl,pg,pp⟩:=hr
 have qD:C1 w0 170 13 vg (r.g.map Gn.cells):=BS.ls pg rfl (by simp) (fun x hx=>by obtain ⟨g,_,rfl⟩:=List.mem_map.1 hx;rfl)
 have qQ:C1 w0 168 3 vp (r.p.map Pr.cells):=BS.ls pp rfl (by simp) (fun x hx=>by obtain ⟨g,_,rfl⟩:=List.mem_map.1 hx;rfl)
 obtain ⟨ag,cg,rfl,qD⟩:=qD
 obtain ⟨ap,cp,rfl,qQ⟩:=qQ
 rw [List.length_map] at pg qD
 rw [List.length_map] at pp qQ
 rw [List.length_map,List.length_map]
 have hh:=hO.h
 have V5:=dY.lt
 have hs:=(St.nil w0).AE hh
 refine AQ Tryz.func60 Tryz.ntmps60 (k:=?_)
 refine Ag ?_
 refine Aq ?_
 refine bx hs (k:=?_);clear hs;intro b5 w1 JO hs
 refine Ja ?_
 have g5:=hs.new (b5,true) (by simp) rfl
 simp only at g5
 have Ay:=hs.AB [] (by simp [hh]) (by simp [D0])
 have k5:=hs.get (b:=b5) (by repeat (first | exact At.head | (with_reducible apply At.tail)))
 have zA:=Ay.size
 refine BH (fun (_:Value × List Nat)=>[(0,.pointer (some ⟨hb,0,none⟩)),(1,.int .i64 k),(5,.pointer (some ⟨b5,0,none⟩))]) (fun y w=>w.heap[b5]?=some (K2 (.slice ag r.g.length cg) (.slice ap r.p.length cp))∧CU w hb sb tb rb v y.1 (r.p.foldl (Gz k) s) L G y.2∧(∀ i∈y.2,i∈Ge∨w0.heap.size≤i)∧AA (CA hb sb tb rb L G Ge) w0 w) ?_ ?_
 ·refine BF (fun (x:Nat × Value × List Nat)=>[(0,.pointer (some ⟨hb,0,none⟩)),(1,.int .i64 k),(5,.pointer (some ⟨b5,0,none⟩)),(13,.slice ap r.p.length cp),(14,.int .i64 (r.p.length:Nat)),(15,.int .i64 (x.1:Nat))])
   (fun x w=>x.1≤r.p.length∧w.heap[b5]?=some (K2 (.slice ag r.g.length cg) (.slice ap r.p.length cp))∧CU w hb sb tb rb v x.2.1 ((r.p.take x.1).foldl (Gz k) s) L G x.2.2∧(∀ i∈x.2.2,i∈Ge∨w0.heap.size≤i)∧AA (CA hb sb tb rb L G Ge) w0 w) (fun x=>r.p.length - x.1) (0,ve,Ge) Aa ⟨Nat.zero_le _,k5,hO.only Ay,fun i hi => .inl hi,Ay.weaken (by simp)⟩ fun x env wl ⟨hi,hB,hC,LV,ho⟩=>?_
  obtain ⟨i,v5,G5⟩:=x
  simp only at hi hC LV
  clear hs
  have hs:=((St.nil wl).AE hB).AE hC.h
  repeat' (first|refine Sa ?_|refine Av rfl (fun hc=>?_) fun hc=>?_|fail)
  ·have hlt:i < r.p.length:=by omega
   obtain ⟨b,off,cs,fz,rfl,_,CD,hcs⟩:=qQ (fun h=>by have:=congrArg List.length h;rw [List.length_map,List.length_nil] at this;omega)
   have hpk:=hcs i (Pr.cells r.p[i]) (by rw [List.getElem?_map,List.getElem?_eq_getElem hlt];rfl)
   have ei:=DH (m:=r.p.length) hlt om
   have et:=gA s k r.p hlt
   have KI:=VO k (r.p.take i) s
   rw [List.length_take] at KI
   have JW:=ho.block CD (dY.not CD rfl)
   generalize r.p[i]=q at *
   generalize (r.p.take i).foldl (Gz k) s=S at *
   refine ix (h0:=(by omega)) (h1:=(by omega)) (k:=?_)
   refine JQ (vs:=q.cells) JW hpk (k:=?_)
   refine al hs (k:=?_);clear hs;intro b7 w7 Y7 hs
   refine AU hs (k:=?_);clear hs;intro w8 hs
   refine Jb ?_
   have Da:=hs.AB [] (by simp [hB,hC.h]) (by simp [D0])
   have k7:=hs.get (b:=b7) (by repeat (first | exact At.head | (with_reducible apply At.tail)))
   have uK:=hC.only Da
   have hB8:=Da.block hB (by simp)
   have g7:=hs.new (b7,true) (by simp) rfl
   simp only at g7
   clear hs
   have hs:=((St.nil _).AE k7).AE uK.h
   refine dr [17] hs (k:=?_);intro hX w hs
   refine tks 0 13 ?_
   refine dt 13 hX (k:=?_)
   refine bs hs (k:=?_);clear hs;intro b9 w9 hz9 hs
   refine XS.nil ?_
   refine dn (k:=?_)
   refine dt 14 hX (k:=?_)
   have mS:=hs.AB [] (by simp [k7,uK.h]) (by simp [D0])
   have LZ:=Da.trans mS
   have Wk:=uK.only mS
   have hB9:=mS.block hB8 (by simp)
   have z9:=LZ.size
   have z0:=ho.size
   refine CE AI rfl rfl rfl rfl rfl rfl rfl (by decide) (lit_cells (news:=Ev.cells (Tw k q)) (hs.get At.head)) (by simp [Value.oneCell']) Wk.e om om ?_
   intro v10 Wa ⟨G10,tZ,oU⟩ JL
   obtain ⟨a10,aAv,rfl⟩:=BO tZ
   have c1:=JL.block Wk.h (fun hm=>BM Wk.e Wk.h (by decide) hm)
   have k7':=JL.block (hs.get (b:=b7) (by repeat (first | exact At.head | (with_reducible apply At.tail)))) (fun hm=>BM Wk.e (hs.get (b:=b7) (by repeat (first | exact At.head | (with_reducible apply At.tail)))) (by decide) hm)
   have b5':=JL.block hB9 (fun hm=>BM Wk.e hB9 (by decide) hm)
   clear hs
   have hs:=((St.nil Wa).AE k7').AE c1
   refine XS.nil ?_
   refine dn (k:=?_)
   refine tks 15 2 ?_
   refine dt 17 hX (k:=?_)
   refine st hs (k:=?_);clear hs;intro pS hs
   refine XS.nil ?_
   refine dn (k:=?_)
   refine en (k:=?_)
   refine Ja ?_
   have Bd:AA [hb] Wa _:=hs.AB [hb] (by simp [k7']) (by simp [D0])
   have aA9:=Bd.block b5' (by simpa using A0 b5' c1 (by decide))
   have hT:=Wk.tell (x:=Tw k q) JL tZ oU Bd (hs.get (b:=hb) (by repeat (first | exact At.head | (with_reducible apply At.tail))))
   refine A2 (i+1,.slice a10 (S.ev.length+1) aAv,G10) (by show r.p.length - (i+1) < r.p.length - i;omega) (by (repeat (first | exact Ac | (apply A5;first | exact rfl | exact congrArg (Value.int .i64) ei)))) ⟨by show i+1≤_;omega,aA9,?_,fun j hj=>?_,((ho.step LZ (by simp)).step JL (fun j hj=>?_)).step Bd (fun j hj => .inl (by obtain rfl:=List.mem_singleton.1 hj;simp [CA]))⟩
   ·show CU _ hb sb tb rb v _ ((r.p.take (i+1)).foldl (Gz k) s) L G G10
    rw [et]
    exact hT
   ·rcases oU j hj with q | q
    ·exact LV j q
    ·exact .inr om
   ·rcases LV j hj with q | q
    ·exact .inl (by simp [CA,q])
    ·exact .inr q
  ·have e:i=r.p.length:=by omega
   subst e
   rw [List.take_length] at hC
   exact Am (v5,G5) Aa ⟨hB,hC,LV,ho⟩
 ·rintro ⟨v5,G5⟩ env w2 ⟨hB,hC,LV,ho⟩
  simp only at hC LV
  have aBq:=VO k r.p s
  have eA:BQ s k r=r.g.foldl (DS k) (r.p.foldl (Gz k) s):=rfl
  generalize r.p.foldl (Gz k) s=S0 at *
  clear hs
  have hs:=(St.nil w2).AE hB
  refine Ja ?_
  have Aj:=hs.AB [] (by simp [hB]) (by simp [D0])
  refine BH (fun (_:Value × List Nat)=>[]) (fun y w=>CU w hb sb tb rb v y.1 (r.g.foldl (DS k) S0) L G y.2∧(∀ i∈y.2,i∈Ge∨w0.heap.size≤i)∧AA (CA hb sb tb rb L G Ge) w0 w) ?_ ?_
  ·refine BF (fun (x:Nat × Value × List Nat)=>[(0,.pointer (some ⟨hb,0,none⟩)),(1,.int .i64 k),(38,.slice ag r.g.length cg),(39,.int .i64 (r.g.length:Nat)),(40,.int .i64 (x.1:Nat))])
    (fun x w=>x.1≤r.g.length∧CU w hb sb tb rb v x.2.1 ((r.g.take x.1).foldl (DS k) S0) L G x.2.2∧(∀ i∈x.2.2,i∈Ge∨w0.heap.size≤i)∧AA (CA hb sb tb rb L G Ge) w0 w) (fun x=>r.g.length - x.1) (0,v5,G5) Aa ⟨Nat.zero_le _,hC.only Aj,LV,ho.step Aj (by simp)⟩ fun x env wl ⟨hi,hC,LV,pU⟩=>?_
   obtain ⟨i,v5,G5⟩:=x
   simp only at hi hC LV
   clear hs
   have hs:=((St.nil wl).AE hC.s.o).AE hC.h
   repeat' (first|refine Sa ?_|refine Av rfl (fun hc=>?_) fun hc=>?_|fail)
   ·have hlt:i < r.g.length:=by omega
    obtain ⟨b,off,cs,fz,rfl,_,CD,hcs⟩:=qD (fun h=>by have:=congrArg List.length h;rw [List.length_map,List.length_nil] at this;omega)
    have hpk:=hcs i (Gn.cells r.g[i]) (by rw [List.getElem?_map,List.getElem?_eq_getElem hlt];rfl)
    have ei:=DH (m:=r.g.length) hlt om
    have et:=WK S0 k r.g hlt
    have KI:=nD k (r.g.take i) S0
    rw [List.length_take] at KI
    have JW:=pU.block CD (dY.not CD rfl)
    have Yn:=hg r.g[i] (List.getElem_mem hlt)
    generalize r.g[i]=q at *
    generalize (r.g.take i).foldl (DS k) S0=S at *
    refine ix (h0:=(by omega)) (h1:=(by omega)) (k:=?_)
    refine JQ (vs:=q.cells) JW hpk (k:=?_)
    refine al hs (k:=?_);clear hs;intro b9 w9 hz9 hs
    refine AU hs (k:=?_);clear hs;intro Wa hs
    refine Jb ?_
    refine dr [] hs (k:=?_);intro hX w hs
    refine tks 0 9 ?_
    refine GY 13 10 hs (k:=?_);intro f X w hp;have hs:=hp.st
    apply BG 9 13 (f:=f) (X:=X) hX hp;exact rfl;exact rfl;(apply AR AI;exact rfl);kernel_rfl;kernel_rfl;kernel_rfl;kernel_rfl;(intro X Y;(repeat (first | exact A4 | refine A3 ?_ (by exact rfl))));(intro w' hs;first|exact AH hs.hold|exact AH hs.hold.tail|exact A8 rfl);intro f X w hp;have hs:=hp.st
    have JL:=hs.AB [] (by simp [hC.s.o,hC.h]) (by simp [D0])
    refine cl (h:=by exact Td tb rb S.s.t q.id _ (hC.s.t.only JL) Yn.2) (k:=?_)
    have hx:=ok_task hC.s.ok.row q.id
    have eG:D7 S.s q={ Bi S.s.t q.id with st:=3,lag:=Fu S.s.cf q.lag (Bi S.s.t q.id).slice }:=rfl
    generalize Bi S.s.t q.id=x at *
    rintro v w' ⟨rfl,ho⟩;replace hp:=hp.only ho;replace hs:=hp.st;refine Jb ?_
    refine dn (k:=?_)
    refine tk 10 hX (hc:=by cases f <;> kernel_rfl) (k:=?_)
    refine tk 11 hX (hc:=by cases f <;> kernel_rfl) (k:=?_)
    refine tk 12 hX (hc:=by cases f <;> kernel_rfl) (k:=?_)
    apply B9 13 (f:=f) (X:=X) hX hp;exact rfl;(apply AR AI;exact rfl);kernel_rfl;kernel_rfl;(intro X Y;(repeat (first | exact A4 | refine A3 ?_ (by exact rfl))));(intro w' hs;first|exact AH hs.hold|exact AH hs.hold.tail|exact A8 rfl);intro b w hI hs
    refine dt 14 hX (k:=?_)
    repeat' (first|refine Nx.h ?_|(refine AU hs (k:=?_);intro w hs)|fail)
    refine dn (k:=?_)
    refine tk 15 hX (k:=?_)
    refine en (k:=?_)
    refine Jb ?_
    refine drT [] hs (k:=?_);intro hX w hs
    refine tks 0 10 ?_
    refine dt 10 hX (k:=?_)
    refine Jc ?_
    refine dn (k:=?_)
    refine tk 12 hX (k:=?_)
    refine dt 11 hX (k:=?_)
    refine AW hs (h:=by exact Qe S.s.cf q.lag x.slice hC.s.ok.cf Yn.1 hx.2.2.2.2.1 _) (k:=?_);intro w' ho hs;refine Jb ?_
    refine dn (k:=?_)
    refine dt 13 hX (k:=?_)
    repeat' (first|refine Nx.h ?_|(refine st hs (k:=?_);intro w hs)|fail)
    refine dn (k:=?_)
    refine tk 14 hX (k:=?_)
    refine dt 15 hX (k:=?_)
    repeat' (first|refine Nx.h ?_|(refine st hs (k:=?_);intro w hs)|fail)
    refine dn (k:=?_)
    refine en (k:=?_)
    refine Jb ?_
    refine dr [] hs (k:=?_);intro hX w hs
    refine tks 0 8 ?_
    refine dt 8 hX (k:=?_)
    have Gx:=hs.AB [] (by simp [hC.s.o,hC.h]) (by simp [D0])
    have eS:KT (D7 S.s q) = .agg #[.int .i64 x.id,.int .u8 3,.int .i64 x.core,.int .u32 x.w,.int .u64 x.slice,.int .i64 (Fu S.s.cf q.lag x.slice)]:=by rw [eG];rfl
    rw [← eS]
    have hok:CN S.s.cf.cores (D7 S.s q):=CN.qK hC.s.ok q
    refine cl (h:=by exact FQ tb rb S.s.t (D7 S.s q) _ (hC.s.t.only Gx) hok.1) (k:=?_)
    rintro v12 w12 ⟨rfl,FN,Bq⟩
    obtain ⟨cap,rest,t1,t2,_⟩:=(hC.s.t.only Gx)
    have kh:=Bq.block (hs.get (b:=hb) (o:=jC sb v5) (by repeat (first | exact At.head | (with_reducible apply At.tail)))) (by simpa using A0 (hs.get (b:=hb) (o:=jC sb v5) (by repeat (first | exact At.head | (with_reducible apply At.tail)))) t2 (by decide))
    have k9:=Bq.block (hs.get (b:=b9) (by repeat (first | exact At.head | (with_reducible apply At.tail)))) (by simpa using A0 (hs.get (b:=b9) (by repeat (first | exact At.head | (with_reducible apply At.tail)))) t2 (by decide))
    have xZ:FX w12 sb tb rb v (Bv S.s (D7 S.s q)) L G:=(hC.s.only Gx).rows FN Bq (hC.s.ok.CK hok)
    have aA3:ZH w12 v5 S.ev G5:=(hC.e.keep Gx (by simp)).keep Bq (fun j hj hm=>by obtain rfl:=List.mem_singleton.1 hm;exact BM (hC.e.keep Gx (by simp)) t2 (by decide) hj)
    have bR:CU w12 hb sb tb rb v v5 ⟨Bv S.s (D7 S.s q),S.ev⟩ L G G5:=⟨kh,xZ,aA3⟩
    have gb:=hs.new (b,true) (by simp) rfl
    have ZA:=hC.s.t.RN.2
    simp only at gb
    have pF:=Bq.block (hs.get (b:=b) (by repeat (first | exact At.head | (with_reducible apply At.tail)))) (by simp;omega)
    have ks:=xZ.o
    clear hs
    have hs:=((((St.nil w12).AE ks).AE kh).AE k9).AE pF
    refine XS.nil ?_
    refine dn (k:=?_)
    refine en (k:=?_)
    refine Jb ?_
    have Z8:=hs.AB [] (by simp [ks,kh,k9,pF]) (by simp [D0])
    replace bR:=bR.only Z8
    replace Bq:=Bq.step Z8 (by simp)
    replace k9:=Z8.block k9 (by simp)
    replace kh:=bR.h
    clear hs
    have hs:=((St.nil _).AE k9).AE kh
    refine dr [13] hs (k:=?_);intro hX w hs
    refine tks 0 9 ?_
    refine dt 9 hX (k:=?_)
    refine bs hs (k:=?_);clear hs;intro b13 JU aBs hs
    refine XS.nil ?_
    refine dn (k:=?_)
    refine dt 10 hX (k:=?_)
    have LP:=hs.AB [] (by simp [k9,kh]) (by simp [D0])
    have Sp:=bR.only LP
    have z13:=LP.size
    have z12:=Bq.size
    have z11:=Gx.size
    have z0:=pU.size
    refine CE AI rfl rfl rfl rfl rfl rfl rfl (by decide) (lit_cells (news:=Ev.cells ⟨k,q.id,0,false,true⟩) (hs.get At.head)) (by simp [Value.oneCell']) Sp.e (by show (S.ev.length+1)*32≤_;omega) (by show S.ev.length+1≤_;omega) ?_
    intro v14 w14 ⟨G14,uS,qW⟩ MN
    obtain ⟨a14,aBF,rfl⟩:=BO uS
    have c1:=MN.block Sp.h (fun hm=>BM Sp.e Sp.h (by decide) hm)
    have k9':=MN.block (hs.get (b:=b9) (by repeat (first | exact At.head | (with_reducible apply At.tail)))) (fun hm=>BM Sp.e (hs.get (b:=b9) (by repeat (first | exact At.head | (with_reducible apply At.tail)))) (by decide) hm)
    clear hs
    have hs:=((St.nil w14).AE k9').AE c1
    refine XS.nil ?_
    refine dn (k:=?_)
    refine tks 11 2 ?_
    refine dt 13 hX (k:=?_)
    refine st hs (k:=?_);clear hs;intro w15 hs
    refine XS.nil ?_
    refine dn (k:=?_)
    refine en (k:=?_)
    refine Ja ?_
    have Bd:AA [hb] w14 _:=hs.AB [hb] (by simp [k9']) (by simp [D0])
    have hT:=Sp.tell (x:=⟨k,q.id,0,false,true⟩) MN uS qW Bd (hs.get (b:=hb) (by repeat (first | exact At.head | (with_reducible apply At.tail))))
    refine A2 (i+1,.slice a14 (S.ev.length+1) aBF,G14) (by show r.g.length - (i+1) < r.g.length - i;omega) (by (repeat (first | exact Ac | (apply A5;first | exact rfl | exact congrArg (Value.int .i64) ei)))) ⟨by show i+1≤_;omega,?_,fun j hj=>?_,((((pU.step Gx (by simp)).step Bq (fun j hj => .inl (by obtain rfl:=List.mem_singleton.1 hj;simp [CA]))).step LP (by simp)).step MN (fun j hj=>?_)).step Bd (fun j hj => .inl (by obtain rfl:=List.mem_singleton.1 hj;simp [CA]))⟩
    ·show CU _ hb sb tb rb v _ ((r.g.take (i+1)).foldl (DS k) S0) L G G14
     rw [et]
     exact hT
    ·rcases qW j hj with q | q
     ·exact LV j q
     ·exact .inr om
    ·rcases LV j hj with q | q
     ·exact .inl (by simp [CA,q])
     ·exact .inr q
   ·have e:i=r.g.length:=by omega
    subst e
    rw [List.take_length] at hC
    exact Am (v5,G5) Aa ⟨hC,LV,pU⟩
  ·rintro ⟨v6,G6⟩ env w3 ⟨hC,LV,ho⟩
   simp only at hC LV
   clear hs
   have hs:=St.nil w3
   skip
   refine Iu ?_
   have AN:=hs.AD rfl
   exact ⟨_,_,by rw [eA];exact hC.only AN,LV,ho.step AN (by simp)⟩
theorem Fw (hb:Nat) (s:Ch) (F:List Nat) (k:Int) (rv:Value) (r:Rp) (w0:World) (h:D5 w0 hb s F) (hr:MP w0 rv r) (hg:Cd r) (hl:s.ev.length+r.p.length+r.g.length≤4000000000000) :
 AM Tryz.prog 60 #[.pointer (some ⟨hb,0,none⟩),.int .i64 k,rv] w0 fun v w'=>oG w0 hb (BQ s k r) F w':=by
 obtain ⟨sb,tb,rb,v,ve,L,G,Ge,rfl,hO⟩:=h.E4
 refine (Pv hb sb tb rb v ve s L G Ge k rv r w0 hO hr hg hl).mono fun v' w' ⟨Y0,XP,h1,h2,h3⟩=>⟨_,h1.at,fun j hj=>?_,h3⟩
 simp only [CA,List.mem_cons,List.mem_append] at hj ⊢
 rcases hj with hj | hj | hj
 ·exact .inl (.inl hj)
 ·exact .inl (.inr (.inl hj))
 ·rcases h2 j hj with q | q
  ·exact .inl (.inr (.inr q))
  ·exact .inr q
end Go.Proofs.Q0
namespace Go.Proofs.Q0
open Go Go.RowKit
section
variable {ops : Array Oper} {QE : Exit → Env → World → Prop} {n : Nat} {rest : List Oper} {env : Env} {w wb : World} {D : Ctx} {H : List Bp} {d : Option Nat} {ty : Nat} {pos : String} {Ar : Array Edge} {g : Option (Nat × Bool)}
def JG (H:List Bp):List Bp:=H.map fun e=>(e.1,e.2.1,false)
theorem St.lT (hs:St w D0 H w) {b:Nat} {o:Obj} {w':World} (h:St w D0 ((b,o,true) :: H) w'):AA [] w w' :=
 h.AB [] (fun e he=>by
  rcases List.mem_cons.1 he with rfl | he
  ·exact .inl rfl
  ·exact .inr (.inr (hs.hold e he))) (by simp [D0])
theorem St.new1 {b:Nat} {o:Obj} {w':World} (h:St w D0 ((b,o,true) :: H) w'):w.heap.size≤b:=h.new (b,true) (by simp) rfl
theorem St.new2 {b:Nat} {o:Obj} {w':World} (h:St w D0 ((b,o,true) :: H) w') (hf:JG H=H):St w' D0 ((b,o,false) :: H) w':=by
 have h1:=h.Eh
 rw [List.map_cons] at h1
 unfold JG at hf
 rw [hf] at h1
 exact h1
theorem St.EX (h:St wb D H w) {b:Nat} {cs:Array Value} {ty:Nat} {fz:Nat × Nat} (hb:w.heap[b]?=some (.cells cs ty fz)) (hn:(H.all fun e=>T3 ty e.2.1)=true:=by rfl):b∉H.map (·.1):=fun hm=>by
 obtain ⟨e,he,rfl⟩:=List.mem_map.1 hm
 have h1:=List.all_eq_true.1 hn e he
 have h2:=h.at_ e he
 rw [hb] at h2
 rw [← Option.some.inj h2] at h1
 simp [T3] at h1
theorem St.Df (hs:St w D0 H w) {F:List Nat} {w':World} (ho:AA F w w') (hF:∀ k∈F,k∉H.map (·.1)) (hf:JG H=H:=by rfl):St w' D0 H w':=by
 have h1:=(hs.call ho hF (by simp [D0])).Eh
 unfold JG at hf
 rw [hf] at h1
 exact h1
theorem St.JD (hs:St w D0 H w) {w':World} (ho:AA [] w w') (hf:JG H=H:=by rfl):St w' D0 H w':=hs.Df ho (by simp) hf
theorem FA {t:Nat} {cs:List Value} (hs:St w D0 H w) (ht:look t Gv.zs=some cs:=by exact rfl) (hf:JG H=H:=by rfl) (hw:BC ops env g=true:=by exact rfl)
 (k:∀ b w',AA [] w w'→w.heap.size≤b→St w' D0 ((b,.cells cs.toArray t,false) :: H) w'→XS Tryz.prog ops QE n rest (Bt env d (.pointer (some ⟨b,0,none⟩))) w'):XS Tryz.prog ops QE n (⟨d,.alloc t,ty,pos,Ar,g⟩ :: rest) env w :=
 xs_alloc AI ht hw hs fun b w' _ h=>k b w' (hs.lT h) h.new1 (h.new2 hf)
theorem Gl {t:Nat} {x:Operand} {cs:List Value} (hs:St w D0 H w) (hf:JG H=H:=by rfl) (hw:BC ops env g=true:=by exact rfl) (hx:(ev env x).cells=cs.toArray:=by exact rfl)
 (k:∀ b w',AA [] w w'→w.heap.size≤b→St w' D0 ((b,.cells cs.toArray t,false) :: H) w'→XS Tryz.prog ops QE n rest (Bt env d (.pointer (some ⟨b,0,none⟩))) w'):XS Tryz.prog ops QE n (⟨d,.box t x,ty,pos,Ar,g⟩ :: rest) env w :=
 xs_box hw hx hs fun b w' _ h=>k b w' (hs.lT h) h.new1 (h.new2 hf)
theorem bs1 {t e size bytes len:Nat} {parts:Array (Nat × Operand)} {zs cs:List Value} (hs:St w D0 H w) (hf:JG H=H:=by rfl) (hw:BC ops env g=true:=by exact rfl) (Cy:look t Gv.sls=some (e,size,bytes):=by exact rfl) (hz:look e Gv.zs=some zs:=by exact rfl) (hzl:Nat.beq zs.length size=true:=by exact rfl) (OP:Nat.ble (len*size) 16777216=true:=by exact rfl) (hps:Nat.beq (len*size) 0=false:=by exact rfl)
 (hb:CW env (Mz len size) (QN zs (len*size)) parts.toList cs:=by (repeat (first | exact CW.nil | (apply CW.one;exact rfl;(conv=>lhs;whnf);exact rfl;(repeat (first | exact Ai.nil | apply Ai.skip | apply Ai.cons))) | (apply CW.agg;exact rfl;exact rfl;exact rfl;(repeat (first | exact Ai.nil | apply Ai.skip | apply Ai.cons))))))
 (k:∀ b w',AA [] w w'→w.heap.size≤b→St w' D0 ((b,.cells cs.toArray e,false) :: H) w'→XS Tryz.prog ops QE n rest (Bt env d (.slice (some ⟨b,0,none⟩) len len)) w'):XS Tryz.prog ops QE n (⟨d,.buildSlice t len parts,ty,pos,Ar,g⟩ :: rest) env w :=
 IJ AI hw Cy hz hzl OP hps hb hs fun b w' _ h=>k b w' (hs.lT h) h.new1 (h.new2 hf)
theorem St.vH (hs:St w D0 H w) {H':List Bp} {b:Nat} {w':World} (h:St w D0 H' w') (hb:∀ e∈H',e.1=b∨e∈H) (hf:JG H'=H'):AA [b] w w'∧St w' D0 H' w':=by
 refine ⟨h.AB [b] (fun e he=>?_) (by simp [D0]),?_⟩
 ·rcases hb e he with q | q
  ·exact .inr (.inl (by simp [q]))
  ·exact .inr (.inr (hs.hold e q))
 ·have h1:=h.Eh
  unfold JG at hf
  rw [hf] at h1
  exact h1
theorem At.others {b:Nat} {o:Obj} {nw:Bool} {f:Obj→List Bp} (h:At H b o nw f) (o':Obj):∀ e∈f o',e.1=b∨e∈H:=by
 induction h with
 | head =>
   intro e he
   rcases List.mem_cons.1 he with rfl | he
   ·exact .inl rfl
   ·exact .inr (List.mem_cons_of_mem _ he)
 | tail _ ih =>
   intro e he
   rcases List.mem_cons.1 he with rfl | he
   ·exact .inr List.mem_cons_self
   ·rcases ih e he with q | q
    ·exact .inl q
    ·exact .inr (List.mem_cons_of_mem _ q)
theorem cP {t b off:Nat} {x y:Operand} {cs cs':List Value} {E:TypeId} {nw:Bool} {f:Obj→List Bp} {v:Value} (hs:St w D0 H w) (ht:look t Gv.tks=some (false,1):=by exact rfl) (hw:BC ops env g=true:=by exact rfl)
 (hp:ev env x = .pointer (some ⟨b,off,none⟩):=by exact rfl) (hv:ev env y=v:=by (conv=>lhs;whnf)) (h1:v.oneCell'=true:=by exact rfl) (hA:At H b (.cells cs.toArray E (0,0)) nw f:=by (repeat (first | exact At.head | (with_reducible apply At.tail)))) (hc:Ai cs off [v] cs':=by (repeat (first | exact Ai.nil | apply Ai.skip | apply Ai.cons))) (hf:JG (f (.cells cs'.toArray E (0,0)))=f (.cells cs'.toArray E (0,0)):=by rfl)
 (k:∀ w',AA [b] w w'→St w' D0 (f (.cells cs'.toArray E (0,0))) w'→XS Tryz.prog ops QE n rest (Bt env d undef) w'):XS Tryz.prog ops QE n (⟨d,.store t x y,ty,pos,Ar,g⟩ :: rest) env w :=
 xs_store AI ht hw hp hv h1 hs hA hc fun w' h=>(fun q=>k w' q.1 q.2) (hs.vH h (hA.others _) hf)
theorem DQ {t b off m:Nat} {x y:Operand} {cs vs cs':List Value} {E:TypeId} {nw:Bool} {f:Obj→List Bp} (hs:St w D0 H w) (ht:look t Gv.tks=some (true,m):=by exact rfl) (hw:BC ops env g=true:=by exact rfl)
 (hp:ev env x = .pointer (some ⟨b,off,none⟩):=by exact rfl) (hv:ev env y = .agg vs.toArray:=by exact rfl) (hm:Nat.beq vs.length m=true:=by exact rfl) (h1:vs.all Value.oneCell'=true:=by exact rfl) (hA:At H b (.cells cs.toArray E (0,0)) nw f:=by (repeat (first | exact At.head | (with_reducible apply At.tail)))) (hc:Ai cs off vs cs':=by (repeat (first | exact Ai.nil | apply Ai.skip | apply Ai.cons))) (hf:JG (f (.cells cs'.toArray E (0,0)))=f (.cells cs'.toArray E (0,0)):=by rfl)
 (k:∀ w',AA [b] w w'→St w' D0 (f (.cells cs'.toArray E (0,0))) w'→XS Tryz.prog ops QE n rest (Bt env d undef) w'):XS Tryz.prog ops QE n (⟨d,.store t x y,ty,pos,Ar,g⟩ :: rest) env w :=
 Tr AI ht hw hp hv hm h1 hs hA hc fun w' h=>(fun q=>k w' q.1 q.2) (hs.vH h (hA.others _) hf)
theorem IG (E:List Nat) {id:Nat} {ops:Array Oper} (hs:St w D0 H w) (hX:XH ops E QE n:=by exact ⟨by kernel_rfl,by kernel_rfl,by kernel_rfl,by (repeat (first | (with_reducible exact P4) | (with_reducible apply Mr) | (with_reducible apply Lh) | (with_reducible apply NN) | (with_reducible apply MD) | (with_reducible apply NB) | (with_reducible apply NJ)))⟩) (hf:JG H=H:=by rfl)
 (k:XH ops E QE n→∀ w',AA [] w w'→St w' D0 H w'→XA Tryz.prog ops E H QE n ops.size (Array.replicate ops.size false) env w'):XC Tryz.prog QE n (.region id ops true) env w :=
 dr E hs hX fun hX w' h=>k hX w' (h.AB [] (fun e he => .inr (.inr (hs.hold e he))) (by simp [D0])) (by
  have h1:=h.Eh
  unfold JG at hf
  rw [hf] at h1
  exact h1)
end
end Go.Proofs.Q0
namespace Go.Proofs.Q0
namespace FL
structure F1 where
 w:Rat
 x:Rat
 e:Rat
def lag (V:Rat) (k:F1):Rat:=k.w*V - k.x
end FL
end Go.Proofs.Q0
namespace Go.Proofs.Q0
open IB (IT)
open FL
theorem Tt {c:Cs} {m:Int} {a:RT} (hg:DJ c.A.l c.run=a.1) (m0:0≤m) (he:FP c m=0):(D6 c m).1.i.id=a.1.i.id∧MJ a.1.i.p (BX c m*1048576)=some (D6 c m).1.i.p∧1≤BX c m∧BX c m≤a.1.left∧((D6 c m).1.left=a.1.left - BX c m∨a.1.left - BX c m=0):=by
 cases e:GI c m with
 | none =>
   have:FP c m=2:=by unfold FP D6;rw [e];exact (put_zero _).1
   omega
 | some u =>
   have hu:=TS m0 e
   have hk:=(S9 e).1
   have hy:D6 c m=C4 u.1:=by unfold D6;rw [e]
   have hy1:(D6 c m).1=u.1:=by rw [hy];exact Jr hu
   rw [hy1]
   rw [hg] at hk
   unfold GI DC at e
   rw [hg] at e
   split at e
   ·rename_i hc
    cases em:MJ a.1.i.p (BX c m*1048576) with
    | none=>rw [em] at e;cases e
    | some p =>
      rw [em] at e
      have e:(CK (Cv a.1 p (BX c m))).map (fun u=>(u,decide (a.1.left - BX c m=0)))=some u:=e
      cases es:CK (Cv a.1 p (BX c m)) with
      | none=>rw [es] at e;cases e
      | some y =>
        rw [es] at e
        cases e
        have hn:0≤BX c m:=by
         unfold BX EC
         have:=Rg hc.1
         rw [hg]
         split <;> omega
        unfold CK at es
        cases k2:(Dv (Cv a.1 p (BX c m))).right with
        | false=>rw [k2] at es;cases es
        | true =>
          rw [k2] at es
          cases es
          have q1:(Dv (Cv a.1 p (BX c m))).i.p=p:=by
           unfold Dv
           cases EP (Cv a.1 p (BX c m)).left <;> rfl
          have q2:(Dv (Cv a.1 p (BX c m))).left=bif decide (a.1.left - BX c m=0) then a.1.slice else a.1.left - BX c m:=by
           unfold Dv
           cases EP (Cv a.1 p (BX c m)).left <;> rfl
          refine ⟨hk,congrArg some q1.symm,by omega,hc.2.2,?_⟩
          show (Dv (Cv a.1 p (BX c m))).left=_∨_
          rw [q2]
          by_cases z:a.1.left - BX c m=0
          ·exact .inr z
          ·rw [decide_eq_false z]
           exact .inl rfl
   ·cases e
end Go.Proofs.Q0
namespace Go.Proofs.Q0
open Go Go.RowKit
theorem UD {s:Ss} {c:Cs} (h:BK s c.A):∀ x∈(Dc c).A.l,x∈c.A.l:=h.Mf.sub
theorem Vu {c:Cs} {m:Int} {a:RT} (hg:DJ c.A.l c.run=a.1) (m0:0≤m) (he:FP c m=0):(D6 c m).1.slice=a.1.slice∧(D6 c m).1.left=(if a.1.left - BX c m=0 then a.1.slice else a.1.left - BX c m)∧(MI c m).done=decide (a.1.left - BX c m=0):=by
 cases e:GI c m with
 | none =>
   have:FP c m=2:=by unfold FP D6;rw [e];exact (put_zero _).1
   omega
 | some u =>
   have hu:=TS m0 e
   have hy:D6 c m=C4 u.1:=by unfold D6;rw [e]
   have hy1:(D6 c m).1=u.1:=by rw [hy];exact Jr hu
   have hp:(MI c m).done=u.2:=by unfold MI;rw [e]
   rw [hy1,hp]
   unfold GI DC at e
   rw [hg] at e
   split at e
   ·rename_i hc
    cases em:MJ a.1.i.p (BX c m*1048576) with
    | none=>rw [em] at e;cases e
    | some p =>
      rw [em] at e
      have e:(CK (Cv a.1 p (BX c m))).map (fun u=>(u,decide (a.1.left - BX c m=0)))=some u:=e
      cases es:CK (Cv a.1 p (BX c m)) with
      | none=>rw [es] at e;cases e
      | some y =>
        rw [es] at e
        cases e
        unfold CK at es
        cases k2:(Dv (Cv a.1 p (BX c m))).right with
        | false=>rw [k2] at es;cases es
        | true =>
          rw [k2] at es
          cases es
          have q1:(Dv (Cv a.1 p (BX c m))).slice=a.1.slice:=by
           unfold Dv
           cases EP (Cv a.1 p (BX c m)).left <;> rfl
          have q2:(Dv (Cv a.1 p (BX c m))).left=bif decide (a.1.left - BX c m=0) then a.1.slice else a.1.left - BX c m:=by
           unfold Dv
           cases EP (Cv a.1 p (BX c m)).left <;> rfl
          refine ⟨q1,?_,rfl⟩
          show (Dv (Cv a.1 p (BX c m))).left=_
          rw [q2]
          by_cases z:a.1.left - BX c m=0
          ·rw [decide_eq_true z,if_pos z];rfl
          ·rw [decide_eq_false z,if_neg z];rfl
   ·cases e
theorem Fh {l:List Tk} {z:Tk}:z∈Ap l↔z.st≠0∧∃ i:Nat,l[i]?=some z:=by
 unfold Ap
 rw [List.mem_filter,List.mem_iff_getElem?]
 constructor
 ·rintro ⟨h1,h2⟩;exact ⟨by simpa using h2,h1⟩
 ·rintro ⟨h1,h2⟩;exact ⟨h2,by simpa using h1⟩
theorem OE {t:List Tk} (h:BY 0 t) {y:Tk} {i:Nat} (hi:i < t.length) (hid:y.id=(i:Int)+1) (z:Tk):z∈Ap (t.set i y)↔(z=y∧y.st≠0)∨(z∈Ap t∧z.id≠y.id):=by
 rw [Fh,Fh]
 constructor
 ·rintro ⟨h1,j,hj⟩
  rw [List.getElem?_set] at hj
  split at hj
  ·cases hj;exact .inl ⟨rfl,h1⟩
  ·rename_i hne
   have:=(h.get hj h1).1
   exact .inr ⟨⟨h1,j,hj⟩,fun e=>hne om⟩
 ·rintro (⟨rfl,h1⟩ | ⟨⟨h1,j,hj⟩,h2⟩)
  ·exact ⟨h1,i,by rw [List.getElem?_set,if_pos rfl,if_pos hi]⟩
  ·have:=(h.get hj h1).1
   exact ⟨h1,j,by rw [List.getElem?_set,if_neg (fun e=>h2 om)];exact hj⟩
theorem I9 {t:List Tk} (h:BY 0 t) {x y:Tk} (hx:x∈Ap t) (hid:y.id=x.id) (hy:BZ y=true) (z:Tk):z∈Ap (Ei t y)↔z=y∨(z∈Ap t∧z.id≠y.id):=by
 obtain ⟨i,h1,h2,_⟩:=HK h hx
 obtain ⟨h3,h4⟩:=IS h1
 have e:Ei t y=t.set i y:=by unfold Ei;rw [hy,hid,h1];rfl
 rw [e,OE h h3 (by rw [hid];exact h4) z]
 have:=VR hy
 constructor
 ·rintro (⟨h,_⟩ | h)
  ·exact .inl h
  ·exact .inr h
 ·rintro (h | h)
  ·exact .inl ⟨h,this⟩
  ·exact .inr h
theorem Z1 {t:List Tk} (h:BY 0 t) {x:Tk} (hx:x∈Ap t) (z:Tk):z∈Ap (FG t x.id)↔z∈Ap t∧z.id≠x.id:=by
 obtain ⟨i,h1,h2,_⟩:=HK h hx
 obtain ⟨h3,h4⟩:=IS h1
 have e:FG t x.id=t.set i .zero:=by unfold FG;rw [h1]
 rw [e,Fh,Fh]
 constructor
 ·rintro ⟨k1,j,hj⟩
  rw [List.getElem?_set] at hj
  split at hj
  ·cases hj;exact absurd rfl k1
  ·rename_i hne
   have:=(h.get hj k1).1
   exact ⟨⟨k1,j,hj⟩,fun e=>hne om⟩
 ·rintro ⟨⟨k1,j,hj⟩,k2⟩
  have:=(h.get hj k1).1
  exact ⟨k1,j,by rw [List.getElem?_set,if_neg (fun e=>k2 om)];exact hj⟩
theorem XT:∀ {l:List Tk} {i:Nat},D2 l=some i→∃ x,l[i]?=some x∧x.st=0
 | [],i,h=>by cases h
 | y :: l,i,h=>by
   unfold D2 at h
   split at h
   ·rename_i k;cases h;exact ⟨y,rfl,k⟩
   ·cases e:D2 l with
    | none=>rw [e] at h;cases h
    | some j =>
      rw [e] at h
      cases h
      obtain ⟨x,h1,h2⟩:=XT e
      exact ⟨x,by rw [List.getElem?_cons_succ];exact h1,h2⟩
theorem U2 {t:List Tk} (h:BY 0 t) {y:Tk} (he:En t y=0) (z:Tk):(z∈Ap (D4 t y)↔z={ y with id:=Ea t y }∨z∈Ap t)∧(∀ u∈Ap t,u.id≠Ea t y)∧1≤Ea t y∧Ea t y≤t.length:=by
 unfold En at he
 unfold D4 Ea
 cases hr:BZ y with
 | false=>rw [hr] at he;cases he
 | true =>
   rw [hr] at he
   cases e:D2 t with
   | none=>rw [e] at he;cases he
   | some i =>
     obtain ⟨x,h1,h2⟩:=XT e
     have hi:=Ky e
     have hno:∀ u∈Ap t,u.id≠(i:Int)+1:=fun u hu k=>by
      obtain ⟨k1,j,hj⟩:=Fy hu
      have:=(h.get hj k1).1
      have:j=i:=by omega
      subst this
      rw [h1] at hj;cases hj;exact k1 h2
     have hy:=VR hr
     refine ⟨?_,hno,by show (1:Int)≤(i:Int)+1;omega,by show (i:Int)+1≤_;omega⟩
     show z∈Ap (t.set i { y with id:=(i:Int)+1 })↔z={ y with id:=(i:Int)+1 }∨z∈Ap t
     rw [OE h hi rfl z]
     constructor
     ·rintro (⟨h,_⟩ | h)
      ·exact .inl h
      ·exact .inr h.1
     ·rintro (h | h)
      ·exact .inl ⟨h,hy⟩
      ·exact .inr ⟨h,hno z h⟩
theorem J7 {t:List Tk} (h:BY 0 t) {x y:Tk} (hx:x∈Ap t) (hy:y∈Ap t) (e:x.id=y.id):x=y:=by
 obtain ⟨_,_,_,h1⟩:=HK h hx
 obtain ⟨_,_,_,h2⟩:=HK h hy
 rw [← h1,← h2,e]
theorem live_right {t:List Tk} (h:BY 0 t) {x:Tk} (hx:x∈Ap t):BZ x=true:=by
 obtain ⟨k1,j,hj⟩:=Fy hx
 exact (h.get hj k1).2
def Qo (k:Int) (x:Tk) (a:RT):Prop:=x.id=BA a∧x.core=k∧x.st=(if a.1.asleep=true then 2 else 1)∧x.w=a.1.i.p.w∧x.slice=a.1.slice
structure DU (t:List Tk) (k:Int) (l:List RT) (G E:List Int):Prop where
 fwd:∀ a∈l,∃ x∈Ap t,Qo k x a
 bwd:∀ x∈Ap t,BP x=true→x.core=k→x.id∉E→(∃ a∈l,BA a=x.id)∨x.id∈G
 gone:∀ i∈G,(∀ a∈l,BA a≠i)∧∃ x∈Ap t,x.id=i∧x.core=k
theorem RE {x:Tk}:BP x=true↔x.st=1∨x.st=2:=by unfold BP;rw [Bool.or_eq_true];simp
theorem Qo.comp {k:Int} {x:Tk} {a:RT} (h:Qo k x a):BP x=true:=by
 rw [RE,h.2.2.1]
 split
 ·exact .inr rfl
 ·exact .inl rfl
theorem DU.other {t:List Tk} {k k':Int} {l:List RT} {G E:List Int} (h:DU t k' l G E) (hI:BY 0 t) {x y:Tk} (hx:x∈Ap t) (hid:y.id=x.id) (hy:BZ y=true) (qL:x.core≠k'∨(BP x=false∧x.id∉G)) (hyk:y.core≠k'∨BP y=false):DU (Ei t y) k' l G E:=by
 have L:=I9 hI hx hid hy
 refine ⟨fun a ha=>?_,fun z hz hc hk he=>?_,fun i hi=>⟨(h.gone i hi).1,?_⟩⟩
 ·obtain ⟨u,hu,ht⟩:=h.fwd a ha
  refine ⟨u,(L u).2 (.inr ⟨hu,fun e=>?_⟩),ht⟩
  have:=J7 hI hu hx (by rw [e,hid])
  subst this
  rcases qL with q | ⟨q,_⟩
  ·exact q ht.2.1
  ·rw [ht.comp] at q;cases q
 ·rcases (L z).1 hz with rfl | ⟨hz,_⟩
  ·rcases hyk with q | q
   ·exact absurd hk q
   ·rw [hc] at q;cases q
  ·exact h.bwd z hz hc hk he
 ·obtain ⟨u,hu,h1,h2⟩:=(h.gone i hi).2
  refine ⟨u,(L u).2 (.inr ⟨hu,fun e=>?_⟩),h1,h2⟩
  have:=J7 hI hu hx (by rw [e,hid])
  subst this
  rcases qL with q | ⟨_,q⟩
  ·exact q h2
  ·exact q (h1 ▸ hi)
theorem DU.enter {t:List Tk} {k:Int} {l:List RT} {i:Int} {G E:List Int} (h:DU t k l (i :: G) E) (hI:BY 0 t) {x y:Tk} (hx:x∈Ap t) (hi:x.id=i) (hid:y.id=x.id) (hc:y.core=x.core) (hs:y.st=3):DU (Ei t y) k l G E:=by
 have hy:BZ y=true:=by unfold BZ;rw [hs];rfl
 have L:=I9 hI hx hid hy
 obtain ⟨g1,u,hu,g2,g3⟩:=h.gone i List.mem_cons_self
 obtain rfl:=J7 hI hu hx (g2.trans hi.symm)
 refine ⟨fun a ha=>?_,fun z hz Pe hk he=>?_,fun j hj=>⟨(h.gone j (List.mem_cons_of_mem _ hj)).1,?_⟩⟩
 ·obtain ⟨v,hv,ht⟩:=h.fwd a ha
  exact ⟨v,(L v).2 (.inr ⟨hv,fun e=>g1 a ha (by rw [← ht.1,e,hid,g2])⟩),ht⟩
 ·rcases (L z).1 hz with rfl | ⟨hz,hn⟩
  ·rw [RE,hs] at Pe;omega
  ·rcases h.bwd z hz Pe hk he with q | q
   ·exact .inl q
   ·rcases List.mem_cons.1 q with q | q
    ·exact absurd (by rw [q,hid,g2]) hn
    ·exact .inr q
 ·obtain ⟨v,hv,h1,h2⟩:=(h.gone j (List.mem_cons_of_mem _ hj)).2
  by_cases e:v.id=y.id
  ·exact ⟨y,(L y).2 (.inl rfl),by rw [← e];exact h1,by rw [hc];exact g3⟩
  ·exact ⟨v,(L v).2 (.inr ⟨hv,e⟩),h1,h2⟩
theorem UO (k:Int):∀ (G:List Gn) (s:Ch) (l:List RT) (E:List Int),BY 0 s.s.t→DU s.s.t k l (G.map Gn.id) E →
 BY 0 (G.foldl (DS k) s).s.t∧DU (G.foldl (DS k) s).s.t k l [] E ∧
 (∀ k' l' E',k'≠k→DU s.s.t k' l' [] E'→DU (G.foldl (DS k) s).s.t k' l' [] E') ∧
 (∀ z,z.id∉G.map Gn.id→(z∈Ap (G.foldl (DS k) s).s.t↔z∈Ap s.s.t)) ∧
 (∀ z∈Ap (G.foldl (DS k) s).s.t,∃ u∈Ap s.s.t,u.id=z.id∧u.core=z.core∧u.w=z.w∧u.slice=z.slice) ∧
 (∀ z∈Ap (G.foldl (DS k) s).s.t,z.id∈G.map Gn.id→z.st=3)
 | [],s,l,E,hI,h=>⟨hI,h,fun _ _ _ _ h=>h,fun _ _=>Iff.rfl,fun z hz=>⟨z,hz,rfl,rfl,rfl,rfl⟩,fun z _ hm=>by cases hm⟩
 | g :: G,s,l,E,hI,h=>by
   obtain ⟨_,x,hx,h1,h2⟩:=h.gone g.id (by simp)
   obtain ⟨i,f1,f2,f3⟩:=HK hI hx
   rw [h1] at f3
   have hid:(D7 s.s g).id=x.id:=by show (Bi s.s.t g.id).id=_;rw [f3]
   have JS:(D7 s.s g).core=x.core:=by show (Bi s.s.t g.id).core=_;rw [f3]
   have hw:(D7 s.s g).w=x.w:=by show (Bi s.s.t g.id).w=_;rw [f3]
   have Cy:(D7 s.s g).slice=x.slice:=by show (Bi s.s.t g.id).slice=_;rw [f3]
   have hst:(D7 s.s g).st=3:=rfl
   have hr:BZ (D7 s.s g)=true:=rfl
   have L:=I9 hI hx hid hr
   have jJ:BY 0 (DS k s g).s.t:=hI.sets (D7 s.s g)
   obtain ⟨a1,a2,a3,a4,a5,a6⟩:=UO k G (DS k s g) l E jJ (h.enter hI hx h1 hid JS hst)
   refine ⟨a1,a2,fun k' l' E' hk ht=>a3 k' l' E' hk (ht.other (k:=k) hI hx hid hr (.inl (by rw [h2];exact Ne.symm hk)) (.inr (by unfold BP;rw [hst];rfl))),fun z hz=>?_,fun z hz=>?_,fun z hz hm=>?_⟩
   ·simp only [List.map_cons,List.mem_cons,not_or] at hz
    refine (a4 z hz.2).trans ((L z).trans ⟨?_,fun k => .inr ⟨k,by rw [hid,h1];exact hz.1⟩⟩)
    rintro (rfl | k)
    ·exact absurd (by rw [hid,h1]) hz.1
    ·exact k.1
   ·obtain ⟨u,hu,e1,e2,e3,e4⟩:=a5 z hz
    rcases (L u).1 hu with rfl | ⟨k,_⟩
    ·exact ⟨x,hx,by rw [← e1,hid],by rw [← e2,JS],by rw [← e3,hw],by rw [← e4,Cy]⟩
    ·exact ⟨u,k,e1,e2,e3,e4⟩
   ·by_cases q:z.id∈G.map Gn.id
    ·exact a6 z hz q
    ·have RM:=(a4 z q).1 hz
     rcases (L z).1 RM with rfl | ⟨_,k2⟩
     ·exact hst
     ·simp only [List.map_cons,List.mem_cons] at hm
      rcases hm with hm | hm
      ·exact absurd (by rw [hm,hid,h1]) k2
      ·exact absurd hm q
theorem NX (s:Ch) (k:Int) (r:Rp):(BQ s k r).s=(r.g.foldl (DS k) ⟨s.s,s.ev ++ r.p.map (Tw k)⟩).s:=by
 unfold BQ
 obtain ⟨e1,e2⟩:=OT k r.p s
 rw [show r.p.foldl (Gz k) s=⟨s.s,s.ev ++ r.p.map (Tw k)⟩ by rw [← e1,← e2]]
theorem LI {r x:RT} {l:List RT} (ho:Cp (CH r l)) (hx:x∈CH r l):x=r∨(x∈l∧BA x≠BA r):=by
 have h:=Ct ho hx
 rw [KS] at h
 split at h
 ·cases h;exact .inl rfl
 ·rename_i hn;exact .inr ⟨(Bz h).1,hn⟩
theorem TI (r:RT) (l:List RT):r∈CH r l:=(Bz (by rw [KS,if_pos rfl])).1
theorem TU {r x:RT} {l:List RT} (ho:Cp l) (hx:x∈l) (hn:BA x≠BA r):x∈CH r l:=(Bz (by rw [KS,if_neg hn];exact Ct ho hx)).1
theorem Pm:∀ {n:Nat} {s:Ss} {A:As},BK s A→A.l.length≤n→∀ a∈A.l,a∈(Co n A).2.l∨BA a∈(Co n A).1.map Gn.id
 | 0,s,A,h,hn,a,ha=>by rw [List.eq_nil_of_length_eq_zero (Nat.le_zero.1 hn)] at ha;cases ha
 | n+1,s,A,h,hn,a,ha=>by
   unfold Co
   cases e:A.l.find? (GB A) with
   | none=>exact .inl ha
   | some b =>
     have hb:=List.mem_of_find?_eq_some e
     have hf:=Ct h.o hb
     have hx:=oI hf
     have hl:=(del_perm h.o hf).length_eq
     simp only [List.length_cons] at hl
     by_cases k:BA a=BA b
     ·exact .inr (by show BA a∈BA b :: _;rw [k];exact List.mem_cons_self)
     ·rcases Pm (n:=n) (h.exit hf).2.2 (by rw [hx];omega) a (by rw [hx];exact List.mem_filter.2 ⟨ha,by simpa using k⟩) with q | q
      ·exact .inl q
      ·exact .inr (List.mem_cons_of_mem _ q)
theorem S2 {t:List Tk} {k:Int} {c1:Cs} {G E:List Int} (hR:Bx c1) (h:DU t k c1.A.l G E):DU t k (Dc c1).A.l (G ++ (DZ c1).map Gn.id) E:=by
 obtain ⟨s,hs⟩:=hR
 have hF:=hs.Mf
 have hc:=Pm hs (Nat.le_refl _)
 refine ⟨fun a ha=>h.fwd a (hF.sub a ha),fun x hx YW hk he=>?_,fun i hi=>?_⟩
 ·rcases h.bwd x hx YW hk he with ⟨a,ha,e⟩ | q
  ·rcases hc a ha with q | q
   ·exact .inl ⟨a,q,e⟩
   ·exact .inr (List.mem_append_right _ (by rw [← e];exact q))
  ·exact .inr (List.mem_append_left _ q)
 ·rcases List.mem_append.1 hi with q | q
  ·exact ⟨fun a ha=>(h.gone i q).1 a (hF.sub a ha),(h.gone i q).2⟩
  ·obtain ⟨g,hg,rfl⟩:=List.mem_map.1 q
   obtain ⟨_,_,h3,h4⟩:=hF.gone g hg
   obtain ⟨a,ha,e⟩:=List.mem_map.1 h3
   obtain ⟨x,hx,ht⟩:=h.fwd a ha
   exact ⟨h4,x,hx,by rw [ht.1,e],ht.2.1⟩
theorem dU {t:List Tk} {k:Int} {l:List RT} {G E:List Int} (h:DU t k l G E) {a r:RT} (hl:Cp l) (ho:Cp (CH r l)) (ha:a∈l) (hi:BA r=BA a) (h1:r.1.asleep=a.1.asleep) (h2:r.1.i.p.w=a.1.i.p.w) (h3:r.1.slice=a.1.slice):DU t k (CH r l) G E:=by
 refine ⟨fun b hb=>?_,fun x hx hc hk he=>?_,fun i hi'=>⟨fun b hb e=>?_,(h.gone i hi').2⟩⟩
 ·rcases LI ho hb with rfl | ⟨hb,_⟩
  ·obtain ⟨x,hx,ht⟩:=h.fwd a ha
   exact ⟨x,hx,by rw [hi];exact ht.1,ht.2.1,by rw [h1];exact ht.2.2.1,by rw [h2];exact ht.2.2.2.1,by rw [h3];exact ht.2.2.2.2⟩
  ·exact h.fwd b hb
 ·rcases h.bwd x hx hc hk he with ⟨b,hb,e⟩ | q
  ·by_cases n:BA b=BA r
   ·exact .inl ⟨r,TI r l,by rw [← n,e]⟩
   ·exact .inl ⟨b,TU hl hb n,e⟩
  ·exact .inr q
 ·rcases LI ho hb with rfl | ⟨hb,_⟩
  ·exact (h.gone i hi').1 a ha (by rw [← hi,e])
  ·exact (h.gone i hi').1 b hb e
theorem mY {t:List Tk} {k:Int} {l:List RT} {G E:List Int} (h:DU t k l G E) (hI:BY 0 t) {a r:RT} {y:Tk} (hl:Cp l) (ho:Cp (CH r l)) (ha:a∈l) (hi:BA r=BA a) (hy:Qo k y r) (hr:BZ y=true):DU (Ei t y) k (CH r l) G E:=by
 obtain ⟨x,hx,ht⟩:=h.fwd a ha
 have hid:y.id=x.id:=by rw [hy.1,hi,ht.1]
 have L:=I9 hI hx hid hr
 refine ⟨fun b hb=>?_,fun z hz hc hk he=>?_,fun i hi'=>⟨fun b hb e=>?_,?_⟩⟩
 ·rcases LI ho hb with rfl | ⟨hb,hn⟩
  ·exact ⟨y,(L y).2 (.inl rfl),hy⟩
  ·obtain ⟨u,hu,Gm⟩:=h.fwd b hb
   exact ⟨u,(L u).2 (.inr ⟨hu,fun e=>hn (by rw [← Gm.1,e,hy.1])⟩),Gm⟩
 ·rcases (L z).1 hz with rfl | ⟨hz,hn⟩
  ·exact .inl ⟨r,TI r l,hy.1.symm⟩
  ·rcases h.bwd z hz hc hk he with ⟨b,hb,e⟩ | q
   ·exact .inl ⟨b,TU hl hb (fun n=>hn (by rw [← e,n,hy.1])),e⟩
   ·exact .inr q
 ·rcases LI ho hb with rfl | ⟨hb,_⟩
  ·exact (h.gone i hi').1 a ha (by rw [← hi,e])
  ·exact (h.gone i hi').1 b hb e
 ·obtain ⟨v,hv,h1,h2⟩:=(h.gone i hi').2
  exact ⟨v,(L v).2 (.inr ⟨hv,fun e=>(h.gone i hi').1 a ha (by rw [← ht.1,← hid,← e,h1])⟩),h1,h2⟩
theorem WG {t:List Tk} {k:Int} {l:List RT} {G:List Int} {id:Int} (h:DU t k l G []):DU t k (Dg id l) G [id]:=by
 refine ⟨fun b hb=>h.fwd b (del_sub b hb).1,fun z hz hc hk he=>?_,fun i hi=>⟨fun b hb=>(h.gone i hi).1 b (del_sub b hb).1,(h.gone i hi).2⟩⟩
 rcases h.bwd z hz hc hk (by simp) with ⟨b,hb,e⟩ | q
 ·exact .inl ⟨b,List.mem_filter.2 ⟨hb,by simp only [decide_eq_true_eq];rw [e];simpa using he⟩,e⟩
 ·exact .inr q
theorem dW {t:List Tk} {k:Int} {l:List RT} {r:RT} {y:Tk} (h:DU t k l [] [BA r]) (hl:Cp l) (ho:Cp (CH r l)) (hn:Ah l (BA r)=none) (hy:y∈Ap t) (ht:Qo k y r):DU t k (CH r l) [] []:=by
 refine ⟨fun b hb=>?_,fun z hz hc hk _=>?_,fun i hi=>by cases hi⟩
 ·rcases LI ho hb with rfl | ⟨hb,_⟩
  ·exact ⟨y,hy,ht⟩
  ·exact h.fwd b hb
 ·by_cases e:z.id=BA r
  ·exact .inl ⟨r,TI r l,e.symm⟩
  ·rcases h.bwd z hz hc hk (by simpa using e) with ⟨b,hb,q⟩ | q
   ·exact .inl ⟨b,TU hl hb (by rw [q];exact e),q⟩
   ·cases q
theorem cW {t:List Tk} {k:Int} {c:Cs} {m:Int} {G:List Int} (hR:Bx c) (hI:K1 c) (hr:c.run≠0) (m0:0≤m) (he:FP c m=0) (h:DU t k c.A.l G []):DU t k (Dh c m).A.l G []:=by
 obtain ⟨s,hs⟩:=hR
 rcases hI with ⟨h1,_⟩ | ⟨a,ha,xJ,hpos,vL,_⟩
 ·exact absurd h1 hr
 have hg:DJ c.A.l c.run=a.1:=by unfold DJ;rw [xJ,Ct hs.o ha]
 obtain ⟨s1,hs1⟩:=PE hs m
 obtain ⟨p1,p2,_⟩:=Tt hg m0 he
 obtain ⟨f1,_,_⟩:=Vu hg m0 he
 have el:(Dh c m).A.l=CH (D6 c m) c.A.l:=Ul he
 have Cy:(D6 c m).1.asleep=a.1.asleep:=by
  cases e:GI c m with
  | none =>
    have:FP c m=2:=by unfold FP D6;rw [e];exact (put_zero _).1
    omega
  | some u =>
    have hy:D6 c m=C4 u.1:=by unfold D6;rw [e]
    rw [hy,Jr (TS m0 e),(S9 e).2,hg]
 rw [el]
 have ho:=hs1.o
 rw [el] at ho
 exact dU h hs.o ho ha p1 Cy (at_some p2).2.1 f1
theorem U1 {t:List Tk} {k:Int}:∀ (n:Nat) (left:Int) (c:Cs) (r:Rp),Bx c→K1 c→0≤left→left≤1099511627776→DU t k c.A.l (r.g.map Gn.id) [] →
 DU t k (DY n left c r).2.1.A.l ((DY n left c r).2.2.g.map Gn.id) []∧Bx (DY n left c r).2.1
 | 0,left,c,r,hR,_,_,_,h=>⟨h,hR⟩
 | n+1,left,c,r,hR,hI,l0,l1,h=>by
   unfold DY
   split
   ·rename_i hc
    split
    ·rename_i he
     have hst:=NH (c:=c) (most:=left) ⟨l0,by omega⟩ he
     have h1:=cW hR hI hc.2 l0 he h
     have Ib:=Qf hR left
     obtain ⟨s1,hs1⟩:=Ib
     have h2:=S2 ⟨s1,hs1⟩ h1
     refine U1 n _ _ _ (Kw ⟨s1,hs1⟩) (inv_set hs1) om om ?_
     show DU t k _ ((r.g ++ DZ (Dh c left)).map Gn.id) []
     rw [List.map_append]
     exact h2
    ·exact ⟨h,hR⟩
   ·exact ⟨h,hR⟩
theorem aK {t:List Tk} {k:Int} {c:Cs} {ns:Int} (hR:Bx c) (hI:K1 c) (h:DU t k c.A.l [] []):DU t k (Ao c ns).2.1.A.l ((Ao c ns).2.2.g.map Gn.id) []∧Bx (Ao c ns).2.1:=by
 unfold Ao
 split
 ·rename_i hc;exact U1 _ ns c .none hR hI om hc.2 h
 ·exact ⟨h,hR⟩
structure JZ (s:Sy) (E:Int→List Int):Prop where
 ok:EG s
 ids:BY 0 s.t
 rep:Ho s
 inv:∀ c∈s.k,K1 c
 tie:∀ k:Nat,k < s.k.length→DU s.t k (AT s k).A.l [] (E k)
abbrev Cu (s:Sy):Prop:=JZ s fun _=>[]
theorem Nh {s:Sy} {k:Nat} (hk:k < s.k.length) (c:Cs) (k':Nat):AT (B7 s k c) k'=if k'=k then c else AT s k':=by
 unfold AT B7
 show (s.k.set k c).getD k' (ER 0)=if k'=k then c else s.k.getD k' (ER 0)
 rw [List.getD_eq_getElem?_getD,List.getD_eq_getElem?_getD,List.getElem?_set]
 by_cases e:k=k'
 ·subst e;rw [if_pos rfl,if_pos rfl,if_pos hk];rfl
 ·rw [if_neg e,if_neg (Ne.symm e)]
theorem OJ {s:Sy} {k:Nat} (hk:k < s.k.length):AT s k∈s.k:=by
 show s.k.getD k (ER 0)∈s.k
 rw [List.getD_eq_getElem?_getD,List.getElem?_eq_getElem hk]
 exact List.getElem_mem hk
theorem MK (s:Ch) (k:Int) (r:Rp) (h:EG s.s) (j:Int):AT (BQ s k r).s j=AT s.s j:=by
 unfold AT
 rw [(ok_absorb h k r).2.2]
theorem inv_do {s:Sy} {t1:List Tk} {E:Int→List Int} {k:Nat} (hk:k < s.k.length) (hok:EG { s with t:=t1 }) (aAP:BY 0 t1) (OH:Ho s) (hinv:∀ c∈s.k,K1 c)
 (hoth:∀ k':Nat,k' < s.k.length→k'≠k→DU t1 k' (AT s k').A.l [] (E k')) {c1:Cs} {r1:Rp} (hc1:Bx c1) (h:DU t1 k c1.A.l (r1.g.map Gn.id) (E k)) (ev:List Ev) (e:Int) (he:e=0) :
 JZ (BQ ⟨B7 { s with t:=t1 } k (Cb (AT s k) e c1),ev⟩ k (BR e c1 r1)).s E ∧
  (∀ z,z.id∉(BR e c1 r1).g.map Gn.id→(z∈Ap (BQ ⟨B7 { s with t:=t1 } k (Cb (AT s k) e c1),ev⟩ k (BR e c1 r1)).s.t↔z∈Ap t1)) ∧
  (∀ z∈Ap (BQ ⟨B7 { s with t:=t1 } k (Cb (AT s k) e c1),ev⟩ k (BR e c1 r1)).s.t,∃ u∈Ap t1,u.id=z.id∧u.core=z.core∧u.w=z.w∧u.slice=z.slice) ∧
  (∀ z∈Ap (BQ ⟨B7 { s with t:=t1 } k (Cb (AT s k) e c1),ev⟩ k (BR e c1 r1)).s.t,z.id∈(BR e c1 r1).g.map Gn.id→z.st=3):=by
 subst he
 have h2:=S2 hc1 h
 have eC:Cb (AT s k) 0 c1=Dc c1:=if_pos rfl
 have eR:BR 0 c1 r1=⟨r1.g ++ DZ c1,r1.p⟩:=if_pos rfl
 rw [eC,eR]
 rw [← List.map_append] at h2
 have uR:EG (B7 { s with t:=t1 } k (Dc c1)):=hok.T5 k _
 obtain ⟨o1,o2,o3⟩:=ok_absorb (s:=⟨B7 { s with t:=t1 } k (Dc c1),ev⟩) uR k ⟨r1.g ++ DZ c1,r1.p⟩
 have JS:=MK ⟨B7 { s with t:=t1 } k (Dc c1),ev⟩ k ⟨r1.g ++ DZ c1,r1.p⟩ uR
 have et:=NX ⟨B7 { s with t:=t1 } k (Dc c1),ev⟩ k ⟨r1.g ++ DZ c1,r1.p⟩
 obtain ⟨a1,a2,a3,a4,a5,a6⟩:=UO k (r1.g ++ DZ c1) ⟨B7 { s with t:=t1 } k (Dc c1),ev ++ r1.p.map (Tw k)⟩ (Dc c1).A.l (E k) aAP h2
 rw [← et] at a1 a2 a3 a4 a5 a6
 refine ⟨⟨o1,a1,fun c hc=>?_,fun c hc=>?_,fun k' hk'=>?_⟩,a4,a5,a6⟩
 ·rw [o3] at hc
  rcases List.mem_or_eq_of_mem_set hc with q | rfl
  ·exact OH c q
  ·exact Kw hc1
 ·rw [o3] at hc
  rcases List.mem_or_eq_of_mem_set hc with q | rfl
  ·exact hinv c q
  ·obtain ⟨s',hs'⟩:=hc1;exact inv_set hs'
 ·rw [o3] at hk'
  have hk2:k' < s.k.length:=by
   have:k' < (s.k.set k (Dc c1)).length:=hk'
   rwa [List.length_set] at this
  rw [JS,Nh (s:={ s with t:=t1 }) hk]
  by_cases q:k'=k
  ·subst q;rw [if_pos rfl];exact a2
  ·rw [if_neg q]
   exact a3 k' _ _ om (hoth k' hk2 q)
theorem zV {m:Mn} {c q lag:Int} {p:Pt} (h:HE m c q lag=some p):p.w=q:=by
 unfold HE at h
 split at h
 ·split at h
  ·cases h;rfl
  ·split at h
   ·exact (at_some h).2.1
   ·cases h
 ·cases h
theorem aAH {m:Mn} {p p':Pt} {q:Int} (h:GJ m p q=some p'):p'.w=q:=by
 unfold GJ at h
 split at h
 ·exact (at_some h).2.1
 ·cases h
theorem RC {r u:Rq} (h:CK r=some u):u.i.id=r.i.id∧u.asleep=r.asleep∧u.i.p=r.i.p∧u.slice=r.slice∧u.left=r.left:=by
 unfold CK at h
 cases k:(Dv r).right with
 | false=>rw [k] at h;cases h
 | true =>
   rw [k] at h
   cases h
   unfold Dv
   cases EP r.left <;> exact ⟨rfl,rfl,rfl,rfl,rfl⟩
theorem Ty {r:Rq} (h:¬ r.In):(C4 r).1.right=false:=by
 have e:C4 r=⟨.zero,by decide⟩:=dif_neg h
 rw [e];rfl
theorem Qb {r:Rq} {e:Int} (h:r.right=false):Fx r e=2:=by unfold Fx;rw [h];rfl
theorem sO {c:Cs} {id q ns lag:Int} (h:(Bj c id q ns lag).1=0):∃ r:RT,(Bj c id q ns lag).2.A.l=CH r c.A.l∧BA r=id∧r.1.i.p.w=q∧r.1.slice=ns∧r.1.left=ns∧r.1.asleep=false∧Ah c.A.l id=none∧(Bj c id q ns lag).2.A=GV c.A r∧FJ c.A r=0∧LD c.A q lag=some r.1.i.p:=by
 have h0:=h
 unfold Bj at h
 split at h
 ·cases h
 ·rename_i c1
  split at h
  ·cases h
  ·rename_i c2
   split at h
   ·cases h
   ·rename_i c3
    cases e:Hr c id q ns lag with
    | none=>rw [e] at h;cases h
    | some r =>
      rw [e] at h
      have h:(if FJ c.A r=0 then ((0:Int),(⟨GV c.A r,c.run,ET c.carr (CX (GV c.A r) id)⟩:Cs)) else (FJ c.A r,c)).1=0:=h
      by_cases k:FJ c.A r=0
      ·have eJ:Bj c id q ns lag=(0,⟨GV c.A r,c.run,ET c.carr (CX (GV c.A r) id)⟩):=by
        unfold Bj
        rw [if_neg c1,if_neg c2,if_neg c3,e]
        exact if_pos k
       rw [eJ]
       have el:(GV c.A r).l=CH r c.A.l:=by unfold GV;rw [if_pos k]
       have Va:Ah c.A.l id=none:=by
        cases z:Ah c.A.l id with
        | none=>rfl
        | some _=>rw [z] at c2;exact absurd rfl c2
       unfold Hr at e
       cases e1:LD c.A q lag with
       | none=>rw [e1] at e;cases e
       | some p =>
         rw [e1] at e
         have e:(newR p id ns).map C4=some r:=e
         cases e2:newR p id ns with
         | none=>rw [e2] at e;cases e
         | some u =>
           rw [e2] at e
           have e:some (C4 u)=some r:=e
           cases e
           obtain ⟨a1,a2,a3,a4,a5⟩:=RC e2
           by_cases hin:u.In
           ·have eu:=Jr hin
            refine ⟨C4 u,el,?_,?_,?_,?_,?_,Va,rfl,k,?_⟩
            ·unfold BA;rw [eu];exact a1
            ·rw [eu,a3];exact zV e1
            ·rw [eu];exact a4
            ·rw [eu];exact a5
            ·rw [eu];exact a2
            ·rw [eu,a3]
           ·unfold FJ at k
            rw [Qb (Ty hin)] at k
            cases k
      ·rw [if_neg k] at h;exact absurd h k
theorem leave_ok {c:Cs} {id:Int} (h:(Ax c id).1=0):(Ax c id).2.A.l=Dg id c.A.l∧∃ a,Ah c.A.l id=some a:=by
 unfold Ax at h ⊢
 by_cases k:(Ah c.A.l id).isSome
 ·rw [if_pos k]
  cases e:Ah c.A.l id with
  | none=>rw [e] at k;cases k
  | some a =>
    refine ⟨?_,a,rfl⟩
    show (Fk c.A id).l=_
    unfold Fk
    rw [e];rfl
 ·rw [if_neg k] at h;cases h
theorem lP {c:Cs} {id:Int} (h:(Bg c id).1=0):∃ a,Ah c.A.l id=some a∧a.1.asleep=false∧(((By c id).1=false∧Dk c.A id < 0∧(Bg c id).2.A.l=CH (HR a true) c.A.l)∨((By c id).1=true∧¬ Dk c.A id < 0∧(By c id).2=CX c.A id∧(Bg c id).2.A.l=Dg id c.A.l)):=by
 have hl:=leave_ok (c:=c) (id:=id)
 unfold Bg at h ⊢
 unfold By
 cases e:Ah c.A.l id with
 | none=>rw [e] at h;cases h
 | some a =>
   rw [e] at h
   have h:(if a.1.asleep=true then ((6:Int),c) else if Dk c.A id < 0 then (0,⟨GU c.A id true,c.run,c.carr⟩) else Ax c id).1=0:=h
   show ∃ a',some a=some a'∧a'.1.asleep=false∧(((if a.1.asleep=true then (false,(0:Int)) else if Dk c.A id < 0 then (false,CX c.A id) else (true,CX c.A id)).1=false∧Dk c.A id < 0∧(if a.1.asleep=true then ((6:Int),c) else if Dk c.A id < 0 then (0,⟨GU c.A id true,c.run,c.carr⟩) else Ax c id).2.A.l=CH (HR a' true) c.A.l)∨((if a.1.asleep=true then (false,(0:Int)) else if Dk c.A id < 0 then (false,CX c.A id) else (true,CX c.A id)).1=true∧¬ Dk c.A id < 0∧(if a.1.asleep=true then (false,(0:Int)) else if Dk c.A id < 0 then (false,CX c.A id) else (true,CX c.A id)).2=CX c.A id∧(if a.1.asleep=true then ((6:Int),c) else if Dk c.A id < 0 then (0,⟨GU c.A id true,c.run,c.carr⟩) else Ax c id).2.A.l=Dg id c.A.l))
   by_cases k:a.1.asleep=true
   ·rw [if_pos k] at h;cases h
   ·rw [if_neg k] at h
    rw [if_neg k,if_neg k]
    refine ⟨a,rfl,by simpa using k,?_⟩
    by_cases o:Dk c.A id < 0
    ·rw [if_pos o,if_pos o]
     refine .inl ⟨rfl,o,?_⟩
     show (GU c.A id true).l=_
     unfold GU;rw [e]
    ·rw [if_neg o] at h
     rw [if_neg o,if_neg o]
     exact .inr ⟨rfl,o,rfl,(hl h).1⟩
theorem rT {c:Cs} {id:Int} (h:(CL c id).1=0):∃ a,Ah c.A.l id=some a∧a.1.asleep=true∧(CL c id).2.A.l=CH (HR a false) c.A.l:=by
 unfold CL at h ⊢
 cases e:Ah c.A.l id with
 | none=>rw [e] at h;cases h
 | some a =>
   rw [e] at h
   have h:(if a.1.asleep=true then ((0:Int),(⟨GU c.A id false,c.run,c.carr⟩:Cs)) else (6,c)).1=0:=h
   show ∃ a',some a=some a'∧a'.1.asleep=true∧(if a.1.asleep=true then ((0:Int),(⟨GU c.A id false,c.run,c.carr⟩:Cs)) else (6,c)).2.A.l=_
   by_cases k:a.1.asleep=true
   ·rw [if_pos k]
    refine ⟨a,rfl,k,?_⟩
    show (GU c.A id false).l=_
    unfold GU;rw [e]
   ·rw [if_neg k] at h;cases h
theorem iT {A:As} {y:Rq} (h:Dq A (C4 y)=0):(C4 y).1=y∧(GR A (C4 y)).l=CH (C4 y) A.l:=by
 refine ⟨?_,Ul h⟩
 by_cases k:y.In
 ·exact Jr k
 ·unfold Dq at h
  rw [Qb (Ty k)] at h
  cases h
theorem mL {c:Cs} {id q:Int} (h:(Bo c id q).1=0):∃ a r,Ah c.A.l id=some a∧(Bo c id q).2.A.l=CH r c.A.l∧BA r=BA a∧r.1.i.p.w=q∧r.1.slice=a.1.slice∧r.1.asleep=a.1.asleep∧r.1.left=a.1.left:=by
 unfold Bo at h ⊢
 by_cases c1:Ee q=false
 ·rw [if_pos c1] at h;cases h
 ·rw [if_neg c1] at h ⊢
  cases e:Ah c.A.l id with
  | none=>rw [e] at h;cases h
  | some a =>
    rw [e] at h
    have h:(M0 c id (J4 c.A a.1 q)).1=0:=h
    show ∃ a' r,some a=some a'∧(M0 c id (J4 c.A a.1 q)).2.A.l=CH r c.A.l∧_
    cases e2:J4 c.A a.1 q with
    | none=>rw [e2] at h;cases h
    | some y =>
      rw [e2] at h
      obtain ⟨k1,k2⟩:=iT (show Dq c.A (C4 y)=0 from h)
      unfold J4 at e2
      cases e3:GJ (mA c.A) a.1.i.p q with
      | none=>rw [e3] at e2;cases e2
      | some p =>
        rw [e3] at e2
        have e2:Ir a.1 p=some y:=e2
        unfold Ir at e2
        cases e4:a.1.right with
        | false=>rw [e4] at e2;cases e2
        | true =>
          rw [e4] at e2
          obtain ⟨a1,a2,a3,a4,a5⟩:=RC (show CK _=some y from e2)
          refine ⟨a,C4 y,rfl,k2,?_,?_,?_,?_,?_⟩
          ·unfold BA;rw [k1,a1]
          ·rw [k1,a3];exact aAH e3
          ·rw [k1,a4]
          ·rw [k1,a2]
          ·rw [k1,a5]
theorem nW {c:Cs} {id ns:Int} (h:(Bn c id ns).1=0):∃ a r,Ah c.A.l id=some a∧(Bn c id ns).2.A.l=CH r c.A.l∧BA r=BA a∧r.1.i.p=a.1.i.p∧r.1.slice=ns∧r.1.asleep=a.1.asleep∧r.1.left=a.1.left:=by
 unfold Bn at h ⊢
 by_cases c1:EP ns=false
 ·rw [if_pos c1] at h;cases h
 ·rw [if_neg c1] at h ⊢
  cases e:Ah c.A.l id with
  | none=>rw [e] at h;cases h
  | some a =>
    rw [e] at h
    have h:Dq c.A (C4 ((D9 a.1 ns).getD .zero))=0:=h
    show ∃ a' r,some a=some a'∧(GR c.A (C4 ((D9 a.1 ns).getD .zero))).l=CH r c.A.l∧_
    obtain ⟨k1,k2⟩:=iT h
    cases e2:D9 a.1 ns with
    | none =>
      rw [e2] at h
      have h:Dq c.A (C4 .zero)=0:=h
      unfold Dq at h
      rw [Qb S3] at h
      cases h
    | some y =>
      rw [e2] at k1 k2
      have k1:(C4 y).1=y:=k1
      unfold D9 at e2
      cases e4:a.1.right with
      | false=>rw [e4] at e2;cases e2
      | true =>
        rw [e4] at e2
        obtain ⟨a1,a2,a3,a4,a5⟩:=RC (show CK _=some y from e2)
        refine ⟨a,C4 y,rfl,k2,?_,?_,?_,?_,?_⟩
        ·unfold BA;rw [k1,a1]
        ·rw [k1,a3]
        ·rw [k1,a4]
        ·rw [k1,a2]
        ·rw [k1,a5]
theorem EG.H6 {s:Sy} (h:EG s) {x:Tk} (hx:x∈Ap s.t):∃ k:Nat,x.core=k∧k < s.k.length:=by
 obtain ⟨h1,i,hi⟩:=Fy hx
 have h2:=(h.row x (List.mem_of_getElem? hi)).core h1
 have h3:=h.len
 exact ⟨x.core.toNat,by omega,by omega⟩
theorem EG.XF {s:Sy} (h:EG s) {x:Tk} (hx:x∈Ap s.t):CN s.cf.cores x:=by
 obtain ⟨h1,i,hi⟩:=Fy hx
 exact h.row x (List.mem_of_getElem? hi)
def KU (k:Int) (i:Int):Int→List Int:=fun k'=>if k'=k then [i] else []
theorem QL {s:Ch} {y:Tk} {lag:Int} (h:JZ s.s (KU y.core y.id)) (hy:y∈Ap s.s.t) (cP:y.st=1) (he:(FD s y lag).1=0):Cu (FD s y lag).2.s:=by
 obtain ⟨k,hk,hlt⟩:=h.ok.H6 hy
 unfold FD at he ⊢
 rw [hk] at he ⊢
 unfold EK at he ⊢
 generalize hj:Bj (AT s.s k) y.id y.w y.slice lag=J at he ⊢
 have e0:J.1=0:=by
  by_cases e:J.1=0
  ·exact e
  ·rw [if_neg e] at he;exact he
 rw [if_pos e0]
 have hR:=h.rep.at k
 have Ib:Bx J.2:=by rw [← hj];exact I0 hR _ _ _ _
 obtain ⟨r,j1,j2,j3,j4,_,j5,j6,_⟩:=sO (c:=AT s.s k) (id:=y.id) (q:=y.w) (ns:=y.slice) (lag:=lag) (by rw [hj];exact e0)
 rw [hj] at j1
 have hT:=h.tie k hlt
 have eE:KU y.core y.id k=[BA r]:=by unfold KU;rw [hk,if_pos rfl,j2]
 rw [eE] at hT
 obtain ⟨s1,hs1⟩:=hR
 obtain ⟨s2,hs2⟩:=Ib
 have AN:=hs2.o
 rw [j1] at AN
 have ht:DU s.s.t k J.2.A.l (Rp.none.g.map Gn.id) []:=by
  rw [j1]
  exact dW hT hs1.o AN (by rw [j2];exact j6) hy ⟨j2.symm,hk,by rw [j5];exact cP,j3.symm,j4.symm⟩
 exact (inv_do (E:=fun _=>[]) (t1:=s.s.t) hlt h.ok h.ids h.rep h.inv (fun k' hk' hne=>by
  have:=h.tie k' hk'
  unfold KU at this
  rw [if_neg om] at this
  exact this) ⟨s2,hs2⟩ ht s.ev J.1 e0).1
theorem PN {s:Sy} (h:Cu s) {x y:Tk} {k:Nat} (hk:x.core=k) (hx:x∈Ap s.t) (hid:y.id=x.id) (hc:y.core=x.core) (KA:BZ y=true) (HC:CN s.cf.cores y) {J:Int × Cs} (Ib:Bx J.2) (e0:J.1=0) {a r:RT} (hf:Ah (AT s k).A.l x.id=some a) (hl:J.2.A.l=CH r (AT s k).A.l) (hr:BA r=BA a) (ht:Qo k y r) (ev:List Ev) :
 Cu (BQ ⟨B7 (Bv s y) k (Cb (AT s k) J.1 J.2),ev⟩ k (BR J.1 J.2 .none)).s:=by
 obtain ⟨k',hk',hlt⟩:=h.ok.H6 hx
 obtain rfl:k=k':=by omega
 obtain ⟨s1,hs1⟩:=h.rep.at k
 have ho:=Ib
 obtain ⟨s2,hs2⟩:=ho
 have AN:=hs2.o
 rw [hl] at AN
 refine (inv_do (E:=fun _=>[]) (t1:=Ei s.t y) (r1 := .none) hlt (h.ok.CK HC) (h.ids.sets y) h.rep h.inv (fun k' hk2 hne=>?_) Ib ?_ ev J.1 e0).1
 ·exact (h.tie k' hk2).other (k:=k) h.ids hx hid KA (.inl om) (.inl om)
 ·rw [hl]
  exact mY (h.tie k hlt) h.ids hs1.o AN (Bz hf).1 hr ht KA
theorem OL {s:Ch} (h:Cu s.s) {x:Tk} (hx:x∈Ap s.s.t) (hc:BP x=true):JZ (B0 s x).2.s (KU x.core x.id)∧x∈Ap (B0 s x).2.s.t:=by
 obtain ⟨k,hk,hlt⟩:=h.ok.H6 hx
 unfold B0
 rw [hk]
 obtain ⟨a,ha,hai⟩:∃ a∈(AT s.s k).A.l,BA a=x.id:=by
  rcases (h.tie k hlt).bwd x hx hc hk (by simp) with q | q
  ·exact q
  ·cases q
 obtain ⟨s1,hs1⟩:=h.rep.at k
 have hf:Ah (AT s.s k).A.l x.id=some a:=by rw [← hai];exact Ct hs1.o ha
 have e0:(Ax (AT s.s k) x.id).1=0:=by unfold Ax;rw [hf];rfl
 obtain ⟨l1,_⟩:=leave_ok e0
 have Ib:=FB (h.rep.at k) x.id
 have ht:DU s.s.t k (Ax (AT s.s k) x.id).2.A.l (Rp.none.g.map Gn.id) (KU k x.id k):=by
  rw [l1]
  have:KU k x.id k=[x.id]:=if_pos rfl
  rw [this]
  exact WG (h.tie k hlt)
 obtain ⟨i1,i2,_,_⟩:=inv_do (E:=KU k x.id) (t1:=s.s.t) (r1 := .none) hlt h.ok h.ids h.rep h.inv (fun k' hk' hne=>by
  have:=h.tie k' hk'
  unfold KU
  rw [if_neg om]
  exact this) Ib ht s.ev _ e0
 refine ⟨i1,(i2 x ?_).2 hx⟩
 have hg:(BR (Ax (AT s.s k) x.id).1 (Ax (AT s.s k) x.id).2 .none).g=DZ (Ax (AT s.s k) x.id).2:=by
  unfold BR;rw [if_pos e0];rfl
 rw [hg]
 intro hm
 obtain ⟨g,hg,Yn⟩:=List.mem_map.1 hm
 obtain ⟨s3,hs3⟩:=Ib
 obtain ⟨_,_,h3,_⟩:=hs3.Mf.gone g hg
 obtain ⟨b,hb,jQ⟩:=List.mem_map.1 h3
 rw [l1] at hb
 exact (del_sub b hb).2 (by rw [jQ,Yn])
theorem task_live {s:Sy} (h:BY 0 s.t) {id:Int} (he:Eb (BU s.t id)=0):Bi s.t id∈Ap s.t∧(Bi s.t id).id=id:=by
 cases e:BU s.t id with
 | none=>rw [e] at he;cases he
 | some i =>
   obtain ⟨x,h1,h2,h3⟩:=cL h e
   obtain ⟨_,_,_,h4⟩:=HK h h1
   rw [h2] at h4
   rw [h4];exact ⟨h1,h2⟩
theorem Wb {t:List Tk} (h:BY 0 t) {x:Tk} (hx:x∈Ap t):Eb (BU t x.id)=0:=by obtain ⟨i,h1,_⟩:=HK h hx;rw [h1];rfl
theorem inv_exit {s:Ch} (h:Cu s.s) {x:Tk} (hx:x∈Ap s.s.t):Cu (Gd s x x.id).2.s∧(Gd s x x.id).1=0:=by
 have fin:∀ (u:Sy),(∃ E,JZ u E∧∀ k:Nat,∀ i∈E k,i=x.id)→x∈Ap u.t→(∀ k:Nat,x.core=k→BP x=true→k < u.k.length→∀ a∈(AT u k).A.l,BA a≠x.id)→Cu { u with t:=FG u.t x.id }:=by
  rintro u ⟨E,hE,K9⟩ hxu hno
  have L:=Z1 hE.ids hxu
  refine ⟨hE.ok.rows (XR hE.ok.row x.id) (Tu _ _),hE.ids.drop _,hE.rep,hE.inv,fun k hk=>⟨fun a ha=>?_,fun z hz hc Np _=>?_,fun i hi=>by cases hi⟩⟩
  ·obtain ⟨y,hy,ht⟩:=(hE.tie k hk).fwd a ha
   refine ⟨y,(L y).2 ⟨hy,fun e=>?_⟩,ht⟩
   have:=J7 hE.ids hy hxu e
   subst this
   exact hno k ht.2.1 ht.comp hk a ha ht.1.symm
  ·obtain ⟨hz,hn⟩:=(L z).1 hz
   exact (hE.tie k hk).bwd z hz hc Np (fun m=>hn (K9 k _ m))
 unfold Gd
 by_cases hc:BP x=true
 ·rw [if_pos hc]
  obtain ⟨i1,i2⟩:=OL h hx hc
  refine ⟨fin _ ⟨_,i1,fun k i hi=>?_⟩ i2 fun k hk _ hlt a ha e=>?_,Wb i1.ids i2⟩
  ·unfold KU at hi
   split at hi
   ·simpa using hi
   ·cases hi
  ·obtain ⟨k',hk',hlt'⟩:=h.ok.H6 hx
   obtain rfl:k=k':=by omega
   have e0:(Ax (AT s.s k) x.id).1=0:=by
    obtain ⟨b,hb,jQ⟩:∃ a∈(AT s.s k).A.l,BA a=x.id:=by
     rcases (h.tie k hlt').bwd x hx hc hk (by simp) with q | q
     ·exact q
     ·cases q
    obtain ⟨s1,hs1⟩:=h.rep.at k
    unfold Ax
    rw [← jQ,Ct hs1.o hb];rfl
   have JS:AT (B0 s x).2.s k=Dc (Ax (AT s.s k) x.id).2:=by
    unfold B0
    rw [hk]
    show AT (BQ _ _ _).s k=_
    rw [MK _ _ _ (h.ok.T5 _ _)]
    show AT (B7 s.s k _) k=_
    rw [Nh hlt',if_pos rfl]
    exact if_pos e0
   rw [JS] at ha
   obtain ⟨s3,hs3⟩:=FB (h.rep.at k) x.id
   have:=UD hs3 a ha
   rw [(leave_ok e0).1] at this
   exact (del_sub a this).2 e
 ·rw [if_neg hc]
  exact ⟨fin s.s ⟨_,h,fun k i hi=>by cases hi⟩ hx fun k hk YW=>absurd YW hc,Wb h.ids hx⟩
theorem M7 (x:Int):FW (IntKind.u32.wrap x):=by rw [wrap_u32];unfold FW;omega
theorem tied_of {s:Sy} {E:Int→List Int} (h:JZ s E) {x:Tk} (hx:x∈Ap s.t) {k:Nat} (hlt:k < s.k.length) {a:RT} (ha:a∈(AT s k).A.l) (e:BA a=x.id):Qo k x a:=by
 obtain ⟨u,hu,ht⟩:=(h.tie k hlt).fwd a ha
 have:=J7 h.ids hu hx (by rw [ht.1,e])
 subst this
 exact ht
theorem no_req {s:Sy} {E:Int→List Int} (h:JZ s E) {x:Tk} (hx:x∈Ap s.t) (hc:BP x=false):∀ k:Nat,k < s.k.length→∀ a∈(AT s k).A.l,BA a≠x.id:=fun k hlt a ha e=>by
 have:=(tied_of h hx hlt ha e).comp
 rw [hc] at this;cases this
theorem Q1 {s:Sy} {E:Int→List Int} (h:JZ s E) {x y:Tk} (hx:x∈Ap s.t) (hid:y.id=x.id) (KA:BZ y=true) (HC:CN s.cf.cores y) (hE:∀ k:Nat,∀ i∈E k,i=x.id) (hno:∀ k:Nat,k < s.k.length→∀ a∈(AT s k).A.l,BA a≠x.id):JZ (Bv s y) (KU y.core y.id)∧y∈Ap (Bv s y).t:=by
 have L:=I9 h.ids hx hid KA
 refine ⟨⟨h.ok.CK HC,h.ids.sets y,h.rep,h.inv,fun k hk=>⟨fun a ha=>?_,fun z hz hc Np he=>?_,fun i hi=>by cases hi⟩⟩,(L y).2 (.inl rfl)⟩
 ·obtain ⟨u,hu,ht⟩:=(h.tie k hk).fwd a ha
  exact ⟨u,(L u).2 (.inr ⟨hu,fun e=>hno k hk a ha (by rw [← ht.1,e,hid])⟩),ht⟩
 ·rcases (L z).1 hz with rfl | ⟨hz,hn⟩
  ·unfold KU at he
   rw [if_pos Np.symm] at he
   exact absurd (by simp) he
  ·exact (h.tie k hk).bwd z hz hc Np (fun m=>hn (by rw [hE k _ m,hid]))
theorem Vh {s:Sy} {k i:Int} (h:JZ s (KU k i)) {y:Tk} (hy:y∈Ap s.t) (e:y.id=i) (hc:BP y=false):Cu s :=
 ⟨h.ok,h.ids,h.rep,h.inv,fun k' hk=>⟨(h.tie k' hk).fwd,fun z hz Pe Np _=>(h.tie k' hk).bwd z hz Pe Np (fun m=>by
  unfold KU at m
  split at m
  ·have:z.id=i:=by simpa using m
   have:=J7 h.ids hz hy (this.trans e.symm)
   subst this
   rw [hc] at Pe;cases Pe
  ·cases m),(h.tie k' hk).gone⟩⟩
theorem inv_plain {s:Sy} (h:Cu s) {x y:Tk} (hx:x∈Ap s.t) (hid:y.id=x.id) (KA:BZ y=true) (HC:CN s.cf.cores y) (hc:BP x=false) (oH:BP y=false):Cu (Bv s y)∧y∈Ap (Bv s y).t:=by
 obtain ⟨a,b⟩:=Q1 h hx hid KA HC (fun k i hi=>by cases hi) (no_req h hx hc)
 exact ⟨Vh a b rfl oH,b⟩
theorem leave_no {s:Ch} (h:Cu s.s) {x:Tk} (hx:x∈Ap s.s.t) (hc:BP x=true):∀ k:Nat,k < (B0 s x).2.s.k.length→∀ a∈(AT (B0 s x).2.s k).A.l,BA a≠x.id:=fun k hlt a ha e=>by
 obtain ⟨i1,i2⟩:=OL h hx hc
 have ht:=tied_of i1 i2 hlt ha e
 obtain ⟨k',hk',hlt'⟩:=h.ok.H6 hx
 obtain rfl:k=k':=by have:=ht.2.1;omega
 have e0:(Ax (AT s.s k) x.id).1=0:=by
  obtain ⟨b,hb,jQ⟩:∃ a∈(AT s.s k).A.l,BA a=x.id:=by
   rcases (h.tie k hlt').bwd x hx hc hk' (by simp) with q | q
   ·exact q
   ·cases q
  obtain ⟨s1,hs1⟩:=h.rep.at k
  unfold Ax
  rw [← jQ,Ct hs1.o hb];rfl
 have JS:AT (B0 s x).2.s k=Dc (Ax (AT s.s k) x.id).2:=by
  unfold B0
  rw [hk']
  show AT (BQ _ _ _).s k=_
  rw [MK _ _ _ (h.ok.T5 _ _)]
  show AT (B7 s.s k _) k=_
  rw [Nh hlt',if_pos rfl]
  exact if_pos e0
 rw [JS] at ha
 obtain ⟨s3,hs3⟩:=FB (h.rep.at k) x.id
 have:=UD hs3 a ha
 rw [(leave_ok e0).1] at this
 exact (del_sub a this).2 e
theorem ZB {s:Sy} {E:Int→List Int} (h:JZ s E) {x:Tk} (hx:x∈Ap s.t):x.st=1∨x.st=2∨x.st=3:=by
 have:=live_right h.ids hx
 unfold BZ at this
 rw [Bool.and_eq_true,decide_eq_true_iff,decide_eq_true_iff] at this
 omega
theorem fS (s:Ch) (x:Tk) (id:Int):(F9 s x id).core=x.core:=by
 show (if (By (AT s.s x.core) id).1=true then { x with st:=3,lag:=Fu s.s.cf (By (AT s.s x.core) id).2 x.slice } else { x with st:=2 }:Tk).core=_
 split <;> rfl
theorem dK (s:Ch) (x:Tk) (id:Int):(F9 s x id).id=x.id:=by
 show (if (By (AT s.s x.core) id).1=true then { x with st:=3,lag:=Fu s.s.cf (By (AT s.s x.core) id).2 x.slice } else { x with st:=2 }:Tk).id=_
 split <;> rfl
theorem gD (s:Ch) (x:Tk) (id:Int):(F9 s x id).slice=x.slice:=by
 show (if (By (AT s.s x.core) id).1=true then { x with st:=3,lag:=Fu s.s.cf (By (AT s.s x.core) id).2 x.slice } else { x with st:=2 }:Tk).slice=_
 split <;> rfl
theorem fZ {s:Ch} (h:Cu s.s) {x:Tk} (hx:x∈Ap s.s.t) (he:(Hj s x x.id).1=0):Cu (Hj s x x.id).2.s:=by
 unfold Hj at he ⊢
 by_cases c1:x.st≠1
 ·rw [if_pos c1] at he;cases he
 rw [if_neg c1] at he ⊢
 have cP:x.st=1:=by omega
 obtain ⟨k,hk,hlt⟩:=h.ok.H6 hx
 unfold EI at he ⊢
 have iB:(F9 s x x.id).core=x.core:=fS _ _ _
 have ZL:(F9 s x x.id).id=x.id:=dK _ _ _
 have V6:F9 s x x.id=if (By (AT s.s k) x.id).1=true then { x with st:=3,lag:=Fu s.s.cf (By (AT s.s k) x.id).2 x.slice } else { x with st:=2 }:=by unfold F9;rw [hk]
 rw [iB,hk] at he ⊢
 generalize F9 s x x.id=y at *
 by_cases e0:(Bg (AT s.s k) x.id).1=0
 ·rw [if_pos e0]
  obtain ⟨a,hf,vL,hcs⟩:=lP e0
  have Ib:=Kg (h.rep.at k) x.id
  obtain ⟨ha,hai⟩:=Bz hf
  have ht:=tied_of h hx hlt ha hai
  have hro:=h.ok.XF hx
  rcases hcs with ⟨q1,_,q2⟩ | ⟨q1,_,_,q2⟩
  ·rw [q1] at V6
   have V6:y={ x with st:=2 }:=V6
   subst V6
   exact PN h hk hx (y:={ x with st:=2 }) rfl rfl rfl (hro.st om om) Ib e0 hf q2 rfl ⟨ht.1,ht.2.1,rfl,ht.2.2.2.1,ht.2.2.2.2⟩ s.ev
  ·rw [q1,if_pos rfl] at V6
   have HC:CN s.s.cf.cores y:=by
    rw [V6]
    exact ⟨hro.1,(by decide:(0:Int)≤3∧(3:Int) < 256),hro.2.2.1,hro.2.2.2.1,hro.2.2.2.2.1,LK _ _ _,fun _=>hro.core om⟩
   have hys:y.st=3:=by rw [V6]
   have KA:BZ y=true:=by unfold BZ;rw [hys];rfl
   have oH:BP y=false:=by unfold BP;rw [hys];rfl
   refine (inv_do (E:=fun _=>[]) (t1:=Ei s.s.t y) (r1 := .none) hlt (h.ok.CK HC) (h.ids.sets y) h.rep h.inv (fun k' hk2 hne=>?_) Ib ?_ s.ev _ e0).1
   ·exact (h.tie k' hk2).other (k:=k) h.ids hx ZL KA (.inl om) (.inr oH)
   ·rw [q2]
    have L:=I9 h.ids hx ZL KA
    have hd:=WG (id:=x.id) (h.tie k hlt)
    refine ⟨fun b hb=>?_,fun z hz Pe Np _=>?_,fun i hi=>by cases hi⟩
    ·obtain ⟨u,hu,hut⟩:=hd.fwd b hb
     exact ⟨u,(L u).2 (.inr ⟨hu,fun e=>(del_sub b hb).2 (by rw [← hut.1,e,ZL])⟩),hut⟩
    ·rcases (L z).1 hz with rfl | ⟨hz,hn⟩
     ·rw [oH] at Pe;cases Pe
     ·exact hd.bwd z hz Pe Np (by rw [← ZL];simpa using hn)
 ·rw [if_neg e0] at he;exact absurd he e0
theorem kP {s:Ch} (h:Cu s.s) {x:Tk} (hx:x∈Ap s.s.t) (he:(F7 s x x.id).1=0):Cu (F7 s x x.id).2.s:=by
 have hro:=h.ok.XF hx
 have hst:=ZB h hx
 obtain ⟨k,hk,hlt⟩:=h.ok.H6 hx
 have HC:CN s.s.cf.cores { x with st:=1 }:=hro.st om om
 unfold F7 at he ⊢
 by_cases c1:x.st=1
 ·rw [if_pos c1] at he;cases he
 rw [if_neg c1] at he ⊢
 by_cases c3:x.st=3
 ·rw [if_pos c3] at he ⊢
  obtain ⟨i1,i2⟩:=Q1 h hx (y:={ x with st:=1 }) rfl rfl HC (fun k i hi=>by cases hi) (no_req h hx (by unfold BP;rw [c3];rfl))
  exact QL (s:=⟨Bv s.s { x with st:=1 },s.ev⟩) i1 i2 rfl he
 ·rw [if_neg c3] at he ⊢
  unfold EI at he ⊢
  have e:({ x with st:=1 }:Tk).core=x.core:=rfl
  rw [e,hk] at he ⊢
  by_cases e0:(CL (AT s.s k) x.id).1=0
  ·rw [if_pos e0]
   obtain ⟨a,hf,vL,q2⟩:=rT e0
   obtain ⟨ha,hai⟩:=Bz hf
   have ht:=tied_of h hx hlt ha hai
   exact PN h hk hx (y:={ x with st:=1,core:=(k:Int) }) rfl hk.symm rfl (by rw [← hk];exact HC) (L8 (h.rep.at k) x.id) e0 hf q2 rfl ⟨ht.1,rfl,rfl,ht.2.2.2.1,ht.2.2.2.2⟩ s.ev
  ·rw [if_neg e0] at he;exact absurd he e0
theorem aJ {s:Ch} (h:Cu s.s) {x:Tk} (hx:x∈Ap s.s.t) {w:Int} (he:(Du s x x.id w).1=0):Cu (Du s x x.id w).2.s:=by
 have hro:=h.ok.XF hx
 obtain ⟨k,hk,hlt⟩:=h.ok.H6 hx
 have hw:FW (IntKind.u32.wrap w):=M7 _
 have HC:CN s.s.cf.cores { x with w:=IntKind.u32.wrap w }:=⟨hro.1,hro.2.1,hro.2.2.1,hw,hro.2.2.2.2.1,hro.2.2.2.2.2.1,hro.2.2.2.2.2.2⟩
 have KA:BZ { x with w:=IntKind.u32.wrap w }=true:=(live_right h.ids hx:BZ x=true)
 unfold Du at he ⊢
 by_cases c1:BB w 1048576≠0
 ·rw [if_pos c1] at he;exact absurd he c1
 rw [if_neg c1] at he ⊢
 cases hc:BP x with
 | false =>
   rw [if_pos rfl]
   exact (inv_plain h hx (y:={ x with w:=IntKind.u32.wrap w }) rfl KA HC hc hc).1
 | true =>
   rw [hc,if_neg (by simp)] at he
   rw [if_neg (by simp)]
   unfold EK at he ⊢
   rw [hk] at he ⊢
   by_cases e0:(Bo (AT s.s k) x.id (IntKind.u32.wrap w)).1=0
   ·rw [if_pos e0]
    obtain ⟨a,r,hf,q2,q3,q4,q5,q6,_⟩:=mL e0
    obtain ⟨ha,hai⟩:=Bz hf
    have ht:=tied_of h hx hlt ha hai
    exact PN h hk hx (y:={ x with w:=IntKind.u32.wrap w,core:=(k:Int) }) rfl hk.symm KA (by rw [← hk];exact HC) (Kl (h.rep.at k) x.id _) e0 hf q2 q3 ⟨by rw [q3];exact ht.1,rfl,by rw [q6];exact ht.2.2.1,q4.symm,by rw [q5];exact ht.2.2.2.2⟩ s.ev
   ·rw [if_neg e0] at he;exact absurd he e0
theorem cY {s:Ch} (h:Cu s.s) {x:Tk} (hx:x∈Ap s.s.t) {ns:Int} (D3:BV ns) (he:(El s x x.id ns).1=0):Cu (El s x x.id ns).2.s:=by
 have hro:=h.ok.XF hx
 obtain ⟨k,hk,hlt⟩:=h.ok.H6 hx
 have HC:CN s.s.cf.cores { x with slice:=ns }:=⟨hro.1,hro.2.1,hro.2.2.1,hro.2.2.2.1,D3,hro.2.2.2.2.2.1,hro.2.2.2.2.2.2⟩
 have KA:BZ { x with slice:=ns }=true:=(live_right h.ids hx:BZ x=true)
 unfold El at he ⊢
 by_cases c1:BB ns (Dd s.s.cf.slice)≠0
 ·rw [if_pos c1] at he;exact absurd he c1
 rw [if_neg c1] at he ⊢
 cases hc:BP x with
 | false =>
   rw [if_pos rfl]
   exact (inv_plain h hx (y:={ x with slice:=ns }) rfl KA HC hc hc).1
 | true =>
   rw [hc,if_neg (by simp)] at he
   rw [if_neg (by simp)]
   unfold EK at he ⊢
   rw [hk] at he ⊢
   by_cases e0:(Bn (AT s.s k) x.id ns).1=0
   ·rw [if_pos e0]
    obtain ⟨a,r,hf,q2,q3,q4,q5,q6,_⟩:=nW e0
    obtain ⟨ha,hai⟩:=Bz hf
    have ht:=tied_of h hx hlt ha hai
    exact PN h hk hx (y:={ x with slice:=ns,core:=(k:Int) }) rfl hk.symm KA (by rw [← hk];exact HC) (Kf (h.rep.at k) x.id ns) e0 hf q2 q3 ⟨by rw [q3];exact ht.1,rfl,by rw [q6];exact ht.2.2.1,by rw [q4];exact ht.2.2.2.1,q5.symm⟩ s.ev
   ·rw [if_neg e0] at he;exact absurd he e0
theorem leave_cf (s:Ch) (h:EG s.s) (x:Tk):(B0 s x).2.s.cf=s.s.cf:=(ok_leave h x).2
theorem leave_in (s:Ch) (x:Tk):In64 (B0 s x).1:=LK _ _ _
def GO (u:Ch) (x:Tk) (core lag:Int):Int × Ch:=if (EB x core lag).st=1 then FD ⟨Bv u.s (EB x core lag),u.ev⟩ (EB x core lag) (EB x core lag).lag else (0,⟨Bv u.s (EB x core lag),u.ev⟩)
theorem Ju {s:Ch} {x:Tk} {core:Int} (c1:CP s.s.cf core≠0∨core=x.core):Ci s x core=(CP s.s.cf core,s):=if_pos c1
theorem Kb {s:Ch} {x:Tk} {core:Int} (c1:¬ (CP s.s.cf core≠0∨core=x.core)):Ci s x core=if BP x=true then GO (B0 s x).2 x core (B0 s x).1 else GO s x core x.lag:=by
 unfold Ci
 rw [if_neg c1]
 show GO (if BP x=true then B0 s x else (x.lag,s)).2 x core (if BP x=true then B0 s x else (x.lag,s)).1=_
 split <;> rfl
theorem NM {s:Ch} {core w ns:Int} (c:DP s.s core w ns≠0):Bk s core w ns=(DP s.s core w ns,0,s):=if_pos c
theorem NS {s:Ch} {core w ns:Int} (c1:¬ DP s.s core w ns≠0) (c:En s.s.t (B6 core w ns)≠0):Bk s core w ns=(En s.s.t (B6 core w ns),0,s):=by unfold Bk;rw [if_neg c1,if_pos c]
def KD (s:Ch) (core w ns:Int):Int × Ch:=FD ⟨{ s.s with t:=D4 s.s.t (B6 core w ns) },s.ev⟩ { B6 core w ns with id:=Ea s.s.t (B6 core w ns) } 0
theorem QV {s:Ch} {core w ns:Int} (c1:¬ DP s.s core w ns≠0) (c:¬ En s.s.t (B6 core w ns)≠0):Bk s core w ns=if (KD s core w ns).1=0 then (0,Ea s.s.t (B6 core w ns),(KD s core w ns).2) else ((KD s core w ns).1,0,s):=by unfold Bk;rw [if_neg c1,if_neg c];rfl
theorem X4 {s:Ch} (h:Cu s.s) {x:Tk} (hx:x∈Ap s.s.t) {core:Int} (F8:In64 core) (he:(Ci s x core).1=0):Cu (Ci s x core).2.s:=by
 have hro:=h.ok.XF hx
 have hst:=ZB h hx
 by_cases c1:CP s.s.cf core≠0∨core=x.core
 ·rw [Ju c1];exact h
 rw [Kb c1] at he ⊢
 have hc0:0≤core∧core < s.s.cf.cores:=by
  have:CP s.s.cf core=0:=by
   rcases Classical.em (CP s.s.cf core=0) with q | q
   ·exact q
   ·exact absurd (.inl q) c1
  unfold CP at this
  split at this
  ·cases this
  ·omega
 have fin:∀ (u:Ch) (lag:Int),In64 lag→(∃ E,JZ u.s E∧∀ k:Nat,∀ i∈E k,i=x.id)→u.s.cf=s.s.cf→x∈Ap u.s.t→(∀ k:Nat,k < u.s.k.length→∀ a∈(AT u.s k).A.l,BA a≠x.id) →
  (GO u x core lag).1=0→Cu (GO u x core lag).2.s:=by
  rintro u lag Hl ⟨E,hE,K9⟩ uE hxu hno hq
  unfold GO at hq ⊢
  have xH:(EB x core lag).st=if x.st=2 then 3 else x.st:=rfl
  have HC:CN u.s.cf.cores (EB x core lag):=by
   rw [uE]
   refine ⟨hro.1,?_,F8,hro.2.2.2.1,hro.2.2.2.2.1,Hl,fun _=>hc0⟩
   rw [xH];split <;> omega
  have KA:BZ (EB x core lag)=true:=by
   unfold BZ
   rw [xH,Bool.and_eq_true,decide_eq_true_iff,decide_eq_true_iff]
   split <;> omega
  obtain ⟨i1,i2⟩:=Q1 hE hxu (y:=EB x core lag) rfl KA HC K9 hno
  by_cases c2:(EB x core lag).st=1
  ·rw [if_pos c2] at hq ⊢
   exact QL (s:=⟨Bv u.s (EB x core lag),u.ev⟩) i1 i2 c2 hq
  ·rw [if_neg c2]
   refine Vh i1 i2 rfl ?_
   cases fX:BP (EB x core lag) with
   | false=>rfl
   | true =>
     rw [RE] at fX
     rw [xH] at fX c2
     split at fX <;> split at c2 <;> omega
 cases hc:BP x with
 | true =>
   rw [hc,if_pos rfl] at he
   rw [if_pos rfl]
   obtain ⟨i1,i2⟩:=OL h hx hc
   refine fin (B0 s x).2 (B0 s x).1 (leave_in s x) ⟨_,i1,fun k i hi=>?_⟩ (leave_cf s h.ok x) i2 (leave_no h hx hc) he
   unfold KU at hi
   split at hi
   ·simpa using hi
   ·cases hi
 | false =>
   rw [hc,if_neg (by simp)] at he
   rw [if_neg (by simp)]
   exact fin s x.lag hro.2.2.2.2.2.1 ⟨_,h,fun k i hi=>by cases hi⟩ rfl hx (no_req h hx hc) he
theorem jH {s:Ch} (h:Cu s.s) {core w ns:Int} (F8:In64 core) (D3:BV ns) (he:(Bk s core w ns).1=0):Cu (Bk s core w ns).2.2.s:=by
 by_cases c1:DP s.s core w ns≠0
 ·rw [NM c1] at he;exact absurd he c1
 by_cases c2:En s.s.t (B6 core w ns)≠0
 ·rw [NS c1 c2] at he;exact absurd he c2
 rw [QV c1 c2] at he ⊢
 have Va:En s.s.t (B6 core w ns)=0:=by
  rcases Classical.em (En s.s.t (B6 core w ns)=0) with q | q
  ·exact q
  ·exact absurd q c2
 have hc0:0≤core∧core < s.s.cf.cores:=by
  have q:DP s.s core w ns=0:=by
   rcases Classical.em (DP s.s core w ns=0) with q | q
   ·exact q
   ·exact absurd q c1
  unfold DP GF CP at q
  by_cases k:core < 0∨core≥s.s.cf.cores
  ·rw [if_pos k] at q;cases q
  ·omega
 have HC:CN s.s.cf.cores (B6 core w ns):=⟨(by decide:In64 0),(by decide:(0:Int)≤1∧(1:Int) < 256),F8,M7 _,D3,(by decide:In64 0),fun _=>hc0⟩
 have L:=fun z=>(U2 h.ids Va z).1
 obtain ⟨_,hno,Lc,hn2⟩:=U2 h.ids Va (B6 core w ns)
 have eJ:KD s core w ns=FD ⟨{ s.s with t:=D4 s.s.t (B6 core w ns) },s.ev⟩ { B6 core w ns with id:=Ea s.s.t (B6 core w ns) } 0:=rfl
 generalize hn:Ea s.s.t (B6 core w ns)=n at *
 have U9:=h.ids.add (B6 core w ns)
 have aAO:EG { s.s with t:=D4 s.s.t (B6 core w ns) }:=h.ok.rows (Ya h.ok.row h.ok.tl HC) (Ww _ _)
 generalize KD s core w ns=J at *
 have hj:FD ⟨{ s.s with t:=D4 s.s.t (B6 core w ns) },s.ev⟩ { B6 core w ns with id:=n } 0=J:=eJ.symm
 have e0:J.1=0:=by
  by_cases e:J.1=0
  ·exact e
  ·rw [if_neg e] at he;exact he
 rw [if_pos e0]
 have hi:JZ { s.s with t:=D4 s.s.t (B6 core w ns) } (KU core n):=⟨aAO,U9,h.rep,h.inv,fun k hk=>⟨fun a ha=>?_,fun z hz hc Np uO=>?_,fun i hi=>by cases hi⟩⟩
 ·have:=QL (s:=⟨{ s.s with t:=D4 s.s.t (B6 core w ns) },s.ev⟩) (y:={ B6 core w ns with id:=n }) (lag:=0) hi ((L _).2 (.inl rfl)) rfl (by rw [hj];exact e0)
  rw [hj] at this
  exact this
 ·obtain ⟨u,hu,ht⟩:=(h.tie k hk).fwd a ha
  exact ⟨u,(L u).2 (.inr hu),ht⟩
 ·rcases (L z).1 hz with rfl | hz
  ·have aBH:(k:Int)=core:=Np.symm
   unfold KU at uO
   rw [if_pos aBH] at uO
   exact absurd (List.mem_singleton.2 rfl) uO
  ·exact (h.tie k hk).bwd z hz hc Np (by simp)
theorem T9 {ns:Int} (D3:0≤ns):∀ (n k:Nat) (s:Ch),Cu s.s→k+n=s.s.k.length→(Ds n k s ns).1=0→Cu (Ds n k s ns).2.s
 | 0,k,s,h,_,_=>h
 | n+1,k,s,h,hk,he=>by
   unfold Ds at he ⊢
   by_cases e0:(Ao (AT s.s k) ns).1=0
   ·have Uc:(Ao (AT s.s k) ns).fst=0:=e0
    rw [if_pos Uc] at he
    rw [if_pos Uc]
    obtain ⟨t1,t2⟩:=aK (h.rep.at k) (h.inv (AT s.s k) (OJ (show k < s.s.k.length by omega))) (ns:=ns) (h.tie k om)
    have i1:=(inv_do (E:=fun _=>[]) (s:=s.s) (t1:=s.s.t) (k:=k) (show k < s.s.k.length by omega) h.ok h.ids h.rep h.inv (fun k' hk' _=>h.tie k' hk') t2 t1 s.ev _ e0).1
    refine T9 D3 n (k+1) _ i1 ?_ he
    rw [(ok_absorb (s:=⟨B7 s.s k _,s.ev⟩) (h.ok.T5 _ _) _ _).2.2]
    show k+1+n=(s.s.k.set _ _).length
    rw [List.length_set];omega
   ·have Uc:¬ (Ao (AT s.s k) ns).fst=0:=e0
    rw [if_neg Uc] at he
    exact absurd he e0
theorem J6 {s:Ch} (h:Cu s.s) (id:Int) (f:Ch→Tk→Int × Ch) (hf:∀ x∈Ap s.s.t,x.id=id→(f s x).1=0→Cu (f s x).2.s) (he:(CJ s id f).1=0):Cu (CJ s id f).2.s:=by
 unfold CJ at he ⊢
 by_cases c:Eb (BU s.s.t id)≠0
 ·rw [if_pos c] at he;exact absurd he c
 ·rw [if_neg c] at he ⊢
  obtain ⟨h1,h2⟩:=task_live h.ids (id:=id) (by
   rcases Classical.em (Eb (BU s.s.t id)=0) with q | q
   ·exact q
   ·exact absurd q c)
  exact hf _ h1 h2 he
theorem s8 {s:Sy} (h:Cu s) {a:C0} (ha:a.In) (he:(Cc s a).1=0):Cu (Cc s a).2.s:=by
 unfold Cc at he ⊢
 by_cases c1:a.d % 12 < 2
 ·rw [if_pos c1] at he ⊢;exact jH (s:=⟨s,[]⟩) h ha.2.2.1 ha.2.2.2.2 he
 rw [if_neg c1] at he ⊢
 by_cases c2:a.d % 12=2
 ·rw [if_pos c2] at he ⊢;exact J6 (s:=⟨s,[]⟩) h a.id _ (fun x hx e k=>by rw [← e];exact (inv_exit (s:=⟨s,[]⟩) h hx).1) he
 rw [if_neg c2] at he ⊢
 by_cases c3:a.d % 12 < 5
 ·rw [if_pos c3] at he ⊢;exact J6 (s:=⟨s,[]⟩) h a.id _ (fun x hx e k=>by rw [← e] at k ⊢;exact fZ (s:=⟨s,[]⟩) h hx k) he
 rw [if_neg c3] at he ⊢
 by_cases c4:a.d % 12 < 7
 ·rw [if_pos c4] at he ⊢;exact J6 (s:=⟨s,[]⟩) h a.id _ (fun x hx e k=>by rw [← e] at k ⊢;exact kP (s:=⟨s,[]⟩) h hx k) he
 rw [if_neg c4] at he ⊢
 by_cases c5:a.d % 12=7
 ·rw [if_pos c5] at he ⊢;exact J6 (s:=⟨s,[]⟩) h a.id _ (fun x hx e k=>by rw [← e] at k ⊢;exact aJ (s:=⟨s,[]⟩) h hx k) he
 rw [if_neg c5] at he ⊢
 by_cases c6:a.d % 12=8
 ·rw [if_pos c6] at he ⊢;exact J6 (s:=⟨s,[]⟩) h a.id _ (fun x hx e k=>by rw [← e] at k ⊢;exact cY (s:=⟨s,[]⟩) h hx ha.2.2.2.2 k) he
 rw [if_neg c6] at he ⊢
 by_cases c7:a.d % 12=9
 ·rw [if_pos c7] at he ⊢;exact J6 (s:=⟨s,[]⟩) h a.id _ (fun x hx e k=>X4 (s:=⟨s,[]⟩) h hx ha.2.2.1 k) he
 rw [if_neg c7] at he ⊢
 unfold FZ at he ⊢
 by_cases c8:BB a.ns (Dd s.cf.tick)≠0
 ·have yN:BB a.ns (Dd (Ch.s ⟨s,[]⟩).cf.tick)≠0:=c8
  rw [if_pos yN] at he;exact absurd he c8
 ·have yN:¬ BB a.ns (Dd (Ch.s ⟨s,[]⟩).cf.tick)≠0:=c8
  rw [if_neg yN] at he ⊢
  exact T9 ha.2.2.2.2.1 _ 0 ⟨s,[]⟩ h (Nat.zero_add _) he
def VJ (m:Int) (l:List RT):Prop:=∀ a∈l,m≤a.1.slice
def uJ (m:Int) (a:RT):Bool:=decide (a.1.left < m)
def under (m:Int) (l:List RT):Nat:=(l.filter (uJ m)).length
theorem Rk {m:Int} {l l':List RT} (p:l.Perm l'):under m l=under m l':=(p.filter _).length_eq
theorem SO (m:Int) (a:RT) (l:List RT):under m (a :: l)=(if a.1.left < m then 1 else 0)+under m l:=by
 unfold under
 rw [List.filter_cons]
 unfold uJ
 by_cases h:a.1.left < m
 ·rw [if_pos (decide_eq_true h),if_pos h,List.length_cons,Nat.add_comm]
 ·rw [if_neg (by simpa using h),if_neg h,Nat.zero_add]
theorem dM {m:Int} {l l':List RT} (h:l.Sublist l'):under m l≤under m l':=(h.filter _).length_le
theorem l8 (m:Int) (l:List RT):under m l≤l.length:=List.length_filter_le _ _
theorem ext_sub (A:As) (id:Int):(Fk A id).l.Sublist A.l:=by
 unfold Fk
 split
 ·exact List.filter_sublist
 ·exact List.Sublist.refl _
theorem Ra:∀ (n:Nat) (A:As),(Co n A).2.l.Sublist A.l
 | 0,A=>List.Sublist.refl _
 | n+1,A=>by
   unfold Co
   cases A.l.find? (GB A) with
   | none=>exact List.Sublist.refl _
   | some a=>exact (Ra n _).trans (ext_sub A _)
theorem set_sub (c:Cs):(Dc c).A.l.Sublist c.A.l:=Ra _ _
theorem fD {s:Ss} {c:Cs} {left m:Int} (h:BK s c.A) (hI:K1 c) (hr:c.run≠0) (l0:0≤left) (he:FP c left=0) (hm:VJ m c.A.l) :
 VJ m (Dc (Dh c left)).A.l∧(BX c left=left∨(BX c left < left∧((m≤BX c left∧under m (Dc (Dh c left)).A.l≤under m c.A.l)∨under m (Dc (Dh c left)).A.l+1≤under m c.A.l))):=by
 rcases hI with ⟨h1,_⟩ | ⟨a,ha,xJ,hpos,vL,_⟩
 ·exact absurd h1 hr
 have hf:=Ct h.o ha
 have hg:DJ c.A.l c.run=a.1:=by unfold DJ;rw [xJ,hf]
 obtain ⟨p1,_,p3,p4,_⟩:=Tt hg l0 he
 obtain ⟨f1,f2,_⟩:=Vu hg l0 he
 have hid:BA (D6 c left)=BA a:=p1
 have q1:(Dh c left).A.l.Perm (D6 c left :: Dg (BA a) c.A.l):=by
  show (GR c.A (D6 c left)).l.Perm _
  rw [Ul he,← hid]
  exact KH h.o
 have q2:=del_perm h.o hf
 have hsub:=dM (m:=m) (set_sub (Dh c left))
 rw [Rk q1,SO] at hsub
 have hc:=Rk (m:=m) q2
 rw [SO] at hc
 have Cy:=hm a ha
 have en:BX c left=if a.1.left < left then a.1.left else left:=by unfold BX EC;rw [hg]
 refine ⟨fun x hx=>?_,?_⟩
 ·have hx:=(set_sub (Dh c left)).subset hx
  rcases List.mem_cons.1 (q1.mem_iff.1 hx) with rfl | k
  ·rw [f1];exact Cy
  ·exact hm x (q2.mem_iff.2 (List.mem_cons_of_mem _ k))
 ·by_cases k:a.1.left < left
  ·rw [if_pos k] at en
   rw [en]
   have e2:(D6 c left).1.left=a.1.slice:=by rw [f2,if_pos om]
   rw [e2,if_neg om] at hsub
   refine .inr ⟨k,?_⟩
   by_cases k2:a.1.left < m
   ·rw [if_pos k2] at hc;exact .inr om
   ·rw [if_neg k2] at hc;exact .inl ⟨by omega,by omega⟩
  ·rw [if_neg k] at en;exact .inl en
theorem nQ {a n m:Int} (hm:1≤m) (h:m≤n):(a - n) / m+1≤a / m:=by
 have h1:(a - n) / m≤(a - m) / m:=Int.ediv_le_ediv om om
 have h2:(a - m) / m=a / m - 1:=by
  have:=Int.add_mul_ediv_right a (-1) (show m≠0 by omega)
  rw [show a+-1*m=a - m by omega] at this
  omega
 omega
theorem Vr {m:Int} (hm:1≤m):∀ (k:Nat) (left:Int) (c:Cs) (r:Rp),Bx c→K1 c→0≤left→left≤1099511627776→VJ m c.A.l →
 (((DY k left c r).2.2.p.length:Nat):Int)≤r.p.length+under m c.A.l+left / m+1∧VJ m (DY k left c r).2.1.A.l
 | 0,left,c,r,_,_,l0,_,hs=>⟨by show ((r.p.length:Nat):Int)≤_;have:=Int.ediv_nonneg l0 (show 0≤m by omega);omega,hs⟩
 | k+1,left,c,r,hR,hI,l0,l1,hs=>by
   have h0:=Int.ediv_nonneg l0 (show 0≤m by omega)
   unfold DY
   split
   ·rename_i hc
    split
    ·rename_i he
     obtain ⟨s,hs'⟩:=hR
     obtain ⟨s1,h1⟩:=PE hs' left
     have hst:=NH (c:=c) (most:=left) ⟨l0,by omega⟩ he
     obtain ⟨a1,a2⟩:=fD hs' hI hc.2 l0 he hs
     have el:(IV c left r).p.length=r.p.length+1:=by show (r.p ++ [MI c left]).length=_;simp
     rcases a2 with e | ⟨e1,e2⟩
     ·have e0:DY k (left - BX c left) (Dc (Dh c left)) (IV c left r)=(0,Dc (Dh c left),IV c left r):=by
       cases k with
       | zero=>rfl
       | succ k=>unfold DY;rw [if_neg om]
      rw [e0]
      refine ⟨?_,a1⟩
      show (((IV c left r).p.length:Nat):Int)≤_
      omega
     ·obtain ⟨i1,i2⟩:=Vr hm k (left - BX c left) (Dc (Dh c left)) (IV c left r) (Kw ⟨s1,h1⟩) (inv_set h1) om om a1
      refine ⟨?_,i2⟩
      rcases e2 with ⟨e2,e3⟩ | e3
      ·have:=nQ (a:=left) hm e2
       omega
      ·have:(left - BX c left) / m≤left / m:=Int.ediv_le_ediv om om
       omega
    ·exact ⟨by show ((r.p.length:Nat):Int)≤_;omega,hs⟩
   ·exact ⟨by show ((r.p.length:Nat):Int)≤_;omega,hs⟩
theorem dX {m:Int} (hm:1≤m) {c:Cs} {ns:Int} (hR:Bx c) (hI:K1 c) (hs:VJ m c.A.l) (h0:0≤ns):(((Ao c ns).2.2.p.length:Nat):Int)≤33+ns / m∧VJ m (Ao c ns).2.1.A.l:=by
 have h2:=Int.ediv_nonneg h0 (show 0≤m by omega)
 unfold Ao
 split
 ·rename_i hc
  obtain ⟨h1,h3⟩:=Vr hm (ns.toNat+1) ns c .none hR hI h0 hc.2 hs
  obtain ⟨s,hs'⟩:=hR
  have e1:=hs'.le
  have e2:=l8 m c.A.l
  have e3:Rp.none.p.length=0:=rfl
  exact ⟨by omega,h3⟩
 ·exact ⟨by show ((0:Nat):Int)≤_;omega,hs⟩
theorem Wr {c:Cf} (h:EV c=0):1≤c.cores∧c.cores≤8∧1≤c.tasks∧c.tasks≤32∧1≤c.tick∧c.tick≤1099511627776∧1≤c.slice∧c.slice≤1099511627776:=by
 unfold EV at h
 split at h
 ·cases h
 ·rename_i k
  unfold GF at h
  have w:∀ {n e:Int},BB n e≠0∨(1≤n∧n≤e):=fun {n e}=>by
   unfold BB
   split
   ·exact .inl (by decide)
   ·exact .inr om
  split at h
  ·rename_i q;exact absurd h q
  ·rename_i q1
   unfold GF at h
   split at h
   ·rename_i q;exact absurd h q
   ·rename_i q2
    unfold GF at h
    split at h
    ·rename_i q;exact absurd h q
    ·rename_i q3
     unfold GF at h
     split at h
     ·rename_i q;exact absurd h q
     ·rename_i q4
      have r1:=(w (n:=c.cores) (e:=8)).resolve_left q1
      have r2:=(w (n:=c.tasks) (e:=32)).resolve_left q2
      have r3:=(w (n:=c.tick) (e:=1099511627776)).resolve_left q3
      have r4:=(w (n:=c.slice) (e:=1099511627776)).resolve_left q4
      omega
theorem iM {s:Sy} {n:Nat} {c:Cs} (h:s.k=List.replicate n c) {k:Nat} (hk:k < s.k.length):AT s k=c:=by
 have:=OJ hk
 rw [h] at this
 exact (List.mem_replicate.1 this).2
theorem inv_new {c:Cf} (hc:c.In) (h:EV c=0):Cu (Ic c):=by
 have k:=Wr h
 refine ⟨⟨hc,k.1,k.2.1,?_,fun x hx=>?_,?_⟩,BY.rep _ _,fun d hd=>?_,fun d hd=>?_,fun i hi=>?_⟩
 ·show ((List.replicate c.cores.toNat (ER c.origin)).length:Int)=c.cores
  rw [List.length_replicate];omega
 ·obtain rfl:=(List.mem_replicate.1 hx).2
  exact CN.zero _
 ·show (List.replicate (Er c.tasks) Tk.zero).length≤32
  rw [List.length_replicate];unfold Er;omega
 ·obtain rfl:=(List.mem_replicate.1 hd).2
  exact ⟨_,BK.new _⟩
 ·obtain rfl:=(List.mem_replicate.1 hd).2
  exact K1.new _
 ·rw [iM (s:=Ic c) rfl hi]
  refine ⟨fun a ha=>(by cases ha),fun x hx=>?_,fun i hi=>(by cases hi)⟩
  obtain ⟨h1,j,hj⟩:=Fy hx
  obtain rfl:=(List.mem_replicate.1 (List.mem_of_getElem? hj)).2
  exact absurd rfl h1
def Bh (m:Int) (t:List Tk):Prop:=∀ x∈Ap t,m≤x.slice
theorem UL {m:Int} {t:List Tk} (h:Bh m t) {y:Tk} (hy:m≤y.slice) (i:Nat):Bh m (t.set i y):=fun x hx=>by
 obtain ⟨h1,j,hj⟩:=Fy hx
 rcases List.mem_or_eq_of_mem_set (List.mem_of_getElem? hj) with q | rfl
 ·obtain ⟨j',hj'⟩:=List.getElem?_of_mem q
  exact h x (Fh.2 ⟨h1,j',hj'⟩)
 ·exact hy
theorem EZ {m:Int} {t:List Tk} (h:Bh m t) {y:Tk} (hy:Eb (BU t y.id)=0→m≤y.slice):Bh m (Ei t y):=by
 unfold Ei
 cases BZ y with
 | false=>exact h
 | true =>
   cases e:BU t y.id with
   | none=>exact h
   | some i=>exact UL h (hy (by rw [e];rfl)) i
theorem aR {m:Int} {t:List Tk} (h:Bh m t) {y:Tk} (hy:m≤y.slice):Bh m (D4 t y):=by
 unfold D4
 cases BZ y with
 | false=>exact h
 | true =>
   cases D2 t with
   | none=>exact h
   | some i=>exact UL (y:={ y with id:=(i:Int)+1 }) h hy i
theorem Pz {m:Int} {t:List Tk} (h:Bh m t) (id:Int):Bh m (FG t id):=by
 unfold FG
 cases BU t id with
 | none=>exact h
 | some i =>
   intro x hx
   obtain ⟨h1,j,hj⟩:=Fy hx
   rcases List.mem_or_eq_of_mem_set (List.mem_of_getElem? hj) with q | rfl
   ·obtain ⟨j',hj'⟩:=List.getElem?_of_mem q
    exact h x (Fh.2 ⟨h1,j',hj'⟩)
   ·exact absurd rfl h1
theorem Rl {m:Int} (k:Int):∀ (G:List Gn) (s:Ch),BY 0 s.s.t→Bh m s.s.t→Bh m (G.foldl (DS k) s).s.t
 | [],s,_,h=>h
 | g :: G,s,hI,h=>by
   refine Rl k G (DS k s g) (hI.sets (D7 s.s g)) (EZ (y:=D7 s.s g) h fun he=>?_)
   by_cases e:Eb (BU s.s.t g.id)=0
   ·exact h (Bi s.s.t g.id) (task_live hI e).1
   ·have ez:Bi s.s.t g.id = .zero:=by
     cases q:BU s.s.t g.id with
     | none=>unfold Bi;rw [q]
     | some i=>rw [q] at e;exact absurd rfl e
    have:(D7 s.s g).id=0:=by show (Bi s.s.t g.id).id=0;rw [ez];rfl
    rw [this] at he
    unfold BU at he
    rw [if_neg om] at he
    cases he
theorem least_absorb {m:Int} {s:Ch} (hI:BY 0 s.s.t) (h:Bh m s.s.t) (k:Int) (r:Rp):Bh m (BQ s k r).s.t:=by
 rw [NX]
 exact Rl k _ _ hI h
theorem WX (k:Int):∀ (G:List Gn) (s:Ch),BY 0 s.s.t→BY 0 (G.foldl (DS k) s).s.t
 | [],_,h=>h
 | g :: G,s,h=>WX k G (DS k s g) (h.sets (D7 s.s g))
theorem ids_absorb {s:Ch} (hI:BY 0 s.s.t) (k:Int) (r:Rp):BY 0 (BQ s k r).s.t:=by
 rw [NX]
 exact WX k _ _ hI
theorem Gs {m:Int} {s:Ch} (hI:BY 0 s.s.t) (h:Bh m s.s.t) (k:Int) (l:Int × Cs × Rp):Bh m (EK s k l).2.s.t:=by
 unfold EK
 split
 ·exact least_absorb (s:=⟨B7 s.s k _,s.ev⟩) hI h k _
 ·exact h
theorem Ni {m:Int} {s:Ch} (hI:BY 0 s.s.t) (h:Bh m s.s.t) {y:Tk} (hy:m≤y.slice) (l:Int × Cs × Rp):Bh m (EI s y l).2.s.t:=by
 unfold EI
 split
 ·exact least_absorb (s:=⟨Bv (B7 s.s y.core _) y,s.ev⟩) (hI.sets y) (EZ h fun _=>hy) y.core _
 ·exact h
theorem least_leave {m:Int} {s:Ch} (hI:BY 0 s.s.t) (h:Bh m s.s.t) (x:Tk):Bh m (B0 s x).2.s.t∧BY 0 (B0 s x).2.s.t :=
 ⟨least_absorb (s:=⟨B7 s.s x.core _,s.ev⟩) hI h x.core _,ids_absorb (s:=⟨B7 s.s x.core _,s.ev⟩) hI x.core _⟩
theorem P5 {m ns:Int}:∀ (n k:Nat) (s:Ch),BY 0 s.s.t→Bh m s.s.t→Bh m (Ds n k s ns).2.s.t
 | 0,_,_,_,h=>h
 | n+1,k,s,hI,h=>by
   unfold Ds
   by_cases e0:(Ao (AT s.s k) ns).1=0
   ·have Uc:(Ao (AT s.s k) ns).fst=0:=e0
    rw [if_pos Uc]
    exact P5 n (k+1) _ (ids_absorb (s:=⟨B7 s.s k _,s.ev⟩) hI k _) (least_absorb (s:=⟨B7 s.s k _,s.ev⟩) hI h k _)
   ·have Uc:¬ (Ao (AT s.s k) ns).fst=0:=e0
    rw [if_neg Uc]
    exact h
def ZQ (m:Int) (a:C0):Prop:=(a.d % 12 < 2∨a.d % 12=8)→1≤a.ns→m≤a.ns
theorem within_lo {n e:Int} (h:¬ BB n e≠0):1≤n∧n≤e:=by
 unfold BB at h
 split at h
 ·exact absurd (by decide) h
 ·omega
theorem HW {m:Int} {s:Ch} (hI:BY 0 s.s.t) (h:Bh m s.s.t) (id:Int) (f:Ch→Tk→Int × Ch) (hf:∀ x∈Ap s.s.t,x.id=id→Bh m (f s x).2.s.t):Bh m (CJ s id f).2.s.t:=by
 unfold CJ
 split
 ·exact h
 ·rename_i c
  obtain ⟨h1,h2⟩:=task_live hI (id:=id) (by
   rcases Classical.em (Eb (BU s.s.t id)=0) with q | q
   ·exact q
   ·exact absurd q c)
  exact hf _ h1 h2
theorem gI {m:Int} {s:Sy} (hI:BY 0 s.t) (h:Bh m s.t) {a:C0} (ha:ZQ m a):Bh m (Cc s a).2.s.t:=by
 unfold Cc
 by_cases c1:a.d % 12 < 2
 ·rw [if_pos c1]
  show Bh m (Bk ⟨s,[]⟩ a.core a.w a.ns).2.2.s.t
  by_cases q1:DP s a.core a.w a.ns≠0
  ·rw [NM (s:=⟨s,[]⟩) q1];exact h
  by_cases q2:En s.t (B6 a.core a.w a.ns)≠0
  ·rw [NS (s:=⟨s,[]⟩) q1 q2];exact h
  rw [QV (s:=⟨s,[]⟩) q1 q2]
  have D3:1≤a.ns:=by
   unfold DP GF at q1
   split at q1
   ·rename_i z;exact absurd z q1
   ·unfold GF at q1
    split at q1
    ·rename_i z;exact absurd z q1
    ·unfold GF at q1
     split at q1
     ·rename_i z;exact absurd z q1
     ·rename_i z;exact (within_lo z).1
  have hm:m≤(B6 a.core a.w a.ns).slice:=ha (.inl c1) D3
  have hl:Bh m (KD ⟨s,[]⟩ a.core a.w a.ns).2.s.t:=Gs (m:=m) (s:=⟨{ s with t:=D4 s.t (B6 a.core a.w a.ns) },[]⟩) (hI.add (B6 a.core a.w a.ns)) (aR h hm) _ _
  split
  ·exact hl
  ·exact h
 rw [if_neg c1]
 by_cases c2:a.d % 12=2
 ·rw [if_pos c2]
  refine HW (s:=⟨s,[]⟩) hI h a.id _ fun x hx e=>?_
  unfold Gd
  cases hc:BP x with
  | true=>rw [if_pos rfl];exact Pz (least_leave hI h x).1 _
  | false=>rw [if_neg (by simp)];exact Pz h _
 rw [if_neg c2]
 by_cases c3:a.d % 12 < 5
 ·rw [if_pos c3]
  refine HW (s:=⟨s,[]⟩) hI h a.id _ fun x hx e=>?_
  have hy:m≤(F9 ⟨s,[]⟩ x a.id).slice:=by
   have:(F9 ⟨s,[]⟩ x a.id).slice=x.slice:=gD _ _ _
   rw [this];exact h x hx
  show Bh m (Hj ⟨s,[]⟩ x a.id).2.s.t
  unfold Hj
  split
  ·exact h
  ·exact Ni hI h hy _
 rw [if_neg c3]
 by_cases c4:a.d % 12 < 7
 ·rw [if_pos c4]
  refine HW (s:=⟨s,[]⟩) hI h a.id _ fun x hx e=>?_
  have hy:m≤({ x with st:=1 }:Tk).slice:=h x hx
  show Bh m (F7 ⟨s,[]⟩ x a.id).2.s.t
  unfold F7
  split
  ·exact h
  ·split
   ·exact Gs (s:=⟨Bv s { x with st:=1 },[]⟩) (hI.sets { x with st:=1 }) (EZ h fun _=>hy) _ _
   ·exact Ni hI h hy _
 rw [if_neg c4]
 by_cases c5:a.d % 12=7
 ·rw [if_pos c5]
  refine HW (s:=⟨s,[]⟩) hI h a.id _ fun x hx e=>?_
  have hy:m≤({ x with w:=IntKind.u32.wrap a.w }:Tk).slice:=h x hx
  show Bh m (Du ⟨s,[]⟩ x a.id a.w).2.s.t
  unfold Du
  split
  ·exact h
  ·split
   ·exact EZ h fun _=>hy
   ·exact Gs (s:=⟨Bv s { x with w:=IntKind.u32.wrap a.w },[]⟩) (hI.sets { x with w:=IntKind.u32.wrap a.w }) (EZ h fun _=>hy) _ _
 rw [if_neg c5]
 by_cases c6:a.d % 12=8
 ·rw [if_pos c6]
  refine HW (s:=⟨s,[]⟩) hI h a.id _ fun x hx e=>?_
  show Bh m (El ⟨s,[]⟩ x a.id a.ns).2.s.t
  unfold El
  split
  ·exact h
  ·rename_i q
   have hy:m≤({ x with slice:=a.ns }:Tk).slice:=ha (.inr c6) (within_lo q).1
   split
   ·exact EZ h fun _=>hy
   ·exact Gs (s:=⟨Bv s { x with slice:=a.ns },[]⟩) (hI.sets { x with slice:=a.ns }) (EZ h fun _=>hy) _ _
 rw [if_neg c6]
 by_cases c7:a.d % 12=9
 ·rw [if_pos c7]
  refine HW (s:=⟨s,[]⟩) hI h a.id _ fun x hx e=>?_
  show Bh m (Ci ⟨s,[]⟩ x a.core).2.s.t
  by_cases q:CP s.cf a.core≠0∨a.core=x.core
  ·rw [Ju (s:=⟨s,[]⟩) q];exact h
  rw [Kb (s:=⟨s,[]⟩) q]
  have fin:∀ (u:Ch) (lag:Int),BY 0 u.s.t→Bh m u.s.t→Bh m (GO u x a.core lag).2.s.t:=fun u lag hIu hu=>by
   have hy:m≤(EB x a.core lag).slice:=h x hx
   unfold GO
   split
   ·exact Gs (s:=⟨Bv u.s (EB x a.core lag),u.ev⟩) (hIu.sets (EB x a.core lag)) (EZ hu fun _=>hy) _ _
   ·exact EZ hu fun _=>hy
  split
  ·obtain ⟨l1,l2⟩:=least_leave (s:=⟨s,[]⟩) hI h x
   exact fin _ _ l2 l1
  ·exact fin ⟨s,[]⟩ x.lag hI h
 rw [if_neg c7]
 show Bh m (FZ ⟨s,[]⟩ a.ns).2.s.t
 unfold FZ
 split
 ·exact h
 ·exact P5 _ _ _ hI h
theorem least_core {m:Int} {s:Sy} (h:Cu s) (hl:Bh m s.t) {k:Nat} (hk:k < s.k.length):VJ m (AT s k).A.l:=fun a ha=>by
 obtain ⟨x,hx,ht⟩:=(h.tie k hk).fwd a ha
 rw [← ht.2.2.2.2]
 exact hl x hx
theorem iZ {m ns:Int} {s:Sy} (h:Cu s) (hl:Bh m s.t) (hm:1≤m) (h0:0≤ns) (hn:ns / m≤300) {k:Nat} (hk:k < s.k.length):(Ao (AT s k) ns).2.2.p.length≤333:=by
 have:=(dX hm (h.rep.at k) (h.inv _ (OJ hk)) (least_core h hl hk) h0).1
 omega
theorem eB (k:Int):∀ (G:List Gn) (s:Ch),(G.foldl (DS k) s).s.k=s.s.k∧(G.foldl (DS k) s).s.cf=s.s.cf
 | [],_=>⟨rfl,rfl⟩
 | g :: G,s=>eB k G (DS k s g)
theorem absorb_k (s:Ch) (k:Int) (r:Rp):(BQ s k r).s.k=s.s.k∧(BQ s k r).s.cf=s.s.cf:=by
 rw [NX]
 exact eB k _ _
theorem Y3 {s s':Sy} (h:s'.k=s.k) (j:Int):AT s' j=AT s j:=by unfold AT;rw [h]
theorem V3 {s:Sy} {k:Int} {j:Nat} (h0:0≤k) (h:(j:Int)≠k) (c:Cs):AT (B7 s k c) j=AT s j:=by
 unfold AT B7
 show (s.k.set k.toNat c).getD j (ER 0)=s.k.getD j (ER 0)
 rw [List.getD_eq_getElem?_getD,List.getD_eq_getElem?_getD,List.getElem?_set,if_neg om]
theorem tL {e:Int} {c1:Cs}:(BR e c1 .none).p=[]:=by unfold BR;split <;> rfl
end Go.Proofs.Q0
