/- A part of the proof: what its functions compute. -/
import Derived.Test.YtalffooghioekaaGreatDoorBaseN9
set_option linter.unusedVariables false
set_option linter.unusedSimpArgs false
set_option maxRecDepth 100000
namespace Go.Proofs.YtalffooghioekaaGreatDoorX
open Go Go.RowKit
structure Ce where
  cb:Nat
  c:Cs
  F:List Nat
def ptrs (L:List Ce):List Value:=L.map fun x => .pointer (some ⟨x.cb,0,none⟩)
def allF (L:List Ce):List Nat:=(L.map Ce.F).flatten
theorem mem_allF {L:List Ce} {k:Nat}:k∈allF L↔∃ x∈L,k∈x.F:=by
  unfold allF
  simp only [List.mem_flatten,List.mem_map]
  constructor
  · rintro ⟨_,⟨x,hx,rfl⟩,hk⟩;exact ⟨x,hx,hk⟩
  · rintro ⟨x,hx,hk⟩;exact ⟨_,⟨x,hx,rfl⟩,hk⟩
abbrev tyCp:Nat:=55
structure CoresAt (w:World) (v:Value) (l:List Cs) (L:List Ce) (G:List Nat):Prop where
  a:SlV w tyCp 1 v L.length (ptrs L) G
  l:L.map Ce.c=l
  c:∀ x∈L,CAt w x.cb x.c x.F
  d:∀ (i j:Nat) x y,L[i]?=some x→L[j]?=some y→i≠j→∀ k∈x.F,k∉y.F
theorem CoresAt.keepD {w w':World} {v:Value} {l:List Cs} {L:List Ce} {G F:List Nat} (h:CoresAt w v l L G) (ho:Only F w w') (hd:∀ k∈G ++ allF L,k∉F):CoresAt w' v l L G :=
  ⟨h.a.keep ho fun k hk=>hd k (List.mem_append_left _ hk),h.l,fun x hx=>(h.c x hx).keepD ho fun k hk=>hd k (List.mem_append_right _ (mem_allF.2 ⟨x,hx,hk⟩)),h.d⟩
abbrev sysO (tb:Nat) (c:Cf) (v:Value):Obj := .cells #[.pointer (some ⟨tb,0,none⟩),.int .i64 c.cores,.int .i64 c.tasks,.int .u64 c.tick,.int .u64 c.slice,.int .u64 c.origin,v] 48 (0,0)
structure SyOpn (w:World) (sb tb rb:Nat) (v:Value) (s:Sy) (L:List Ce) (G:List Nat):Prop where
  o:w.heap[sb]?=some (sysO tb s.cf v)
  t:TabAt w tb rb s.t
  c:CoresAt w v s.k L G
  ok:OkY s
def SyAt (w:World) (sb:Nat) (s:Sy) (F:List Nat):Prop:=∃ tb rb v L G,F=sb :: tb :: rb :: (G ++ allF L)∧SyOpn w sb tb rb v s L G
def okY:Obj→Bool
  | .cells cs ty f=>okC (.cells cs ty f) && !(Nat.beq ty 48) && !(Nat.beq ty 115) && !(Nat.beq ty 51) && !(Nat.beq ty tyCp)
  | _=>false
theorem nbeq {a b:Nat} (h:(!(Nat.beq a b))=true):a≠b:=fun e=>by subst e;simp at h
theorem TabAt.nots {w:World} {tb rb:Nat} {l:List Tk} (h:TabAt w tb rb l) {b:Nat} {cs:Array Value} {ty:Nat} {fz:Nat × Nat} (hb:w.heap[b]?=some (.cells cs ty fz)) (h1:ty≠115) (h2:ty≠51):b≠tb∧b≠rb:=by
  obtain ⟨cap,rest,a1,a2,_⟩:=h
  exact ⟨blocks_ne hb a1 h1,blocks_ne hb a2 h2⟩
theorem SyAt.not {w:World} {sb:Nat} {s:Sy} {F:List Nat} (h:SyAt w sb s F) {b:Nat} {cs:Array Value} {ty:Nat} {fz:Nat × Nat} (hb:w.heap[b]?=some (.cells cs ty fz)) (ho:okY (.cells cs ty fz)=true):b∉F:=fun hm=>by
  obtain ⟨tb,rb,v,L,G,rfl,h⟩:=h
  simp only [okY,Bool.and_eq_true] at ho
  obtain ⟨⟨⟨⟨o1,o2⟩,o3⟩,o4⟩,o5⟩:=ho
  have n2:=nbeq o2
  have n3:=nbeq o3
  have n4:=nbeq o4
  have n5:=nbeq o5
  obtain ⟨n6,n7⟩:=h.t.nots hb n3 n4
  rcases List.mem_cons.1 hm with rfl | hm
  · exact blocks_ne hb h.o n2 rfl
  rcases List.mem_cons.1 hm with rfl | hm
  · exact n6 rfl
  rcases List.mem_cons.1 hm with rfl | hm
  · exact n7 rfl
  rcases List.mem_append.1 hm with hm | hm
  · exact slv_ne h.c.a hb n5 hm
  · obtain ⟨x,hx,hk⟩:=mem_allF.1 hm
    exact (h.c.c x hx).not hb o1 hk
theorem SyAt.keepD {w w':World} {sb:Nat} {s:Sy} {F G:List Nat} (h:SyAt w sb s F) (ho:Only G w w') (hd:∀ k∈F,k∉G):SyAt w' sb s F:=by
  obtain ⟨tb,rb,v,L,G',rfl,h⟩:=h
  exact ⟨tb,rb,v,L,G',rfl,ho.block h.o (hd _ (by simp)),h.t.keep ho (hd _ (by simp)) (hd _ (by simp)),h.c.keepD ho (fun k hk=>hd k (by simp only [List.mem_cons];exact .inr (.inr (.inr hk)))),h.ok⟩
theorem SyAt.only {w w':World} {sb:Nat} {s:Sy} {F:List Nat} (h:SyAt w sb s F) (ho:Only [] w w'):SyAt w' sb s F:=h.keepD ho (by simp)
theorem TabAt.lts {w:World} {tb rb:Nat} {l:List Tk} (h:TabAt w tb rb l):tb < w.heap.size∧rb < w.heap.size:=by
  obtain ⟨cap,rest,a1,a2,_⟩:=h
  exact ⟨lt_of_block a1,lt_of_block a2⟩
theorem SyAt.lt {w:World} {sb:Nat} {s:Sy} {F:List Nat} (h:SyAt w sb s F):∀ k∈F,k < w.heap.size:=fun k hm=>by
  obtain ⟨tb,rb,v,L,G,rfl,h⟩:=h
  rcases List.mem_cons.1 hm with rfl | hm
  · exact lt_of_block h.o
  rcases List.mem_cons.1 hm with rfl | hm
  · exact h.t.lts.1
  rcases List.mem_cons.1 hm with rfl | hm
  · exact h.t.lts.2
  rcases List.mem_append.1 hm with hm | hm
  · exact h.c.a.lt k hm
  · obtain ⟨x,hx,hk⟩:=mem_allF.1 hm
    exact (h.c.c x hx).lt k hk
theorem SyAt.mem {w:World} {sb:Nat} {s:Sy} {F:List Nat} (h:SyAt w sb s F):sb∈F:=by obtain ⟨tb,rb,v,L,G,rfl,h⟩:=h;simp
theorem ptrs_set (L:List Ce) (i:Nat) {x y:Ce} (hx:L[i]?=some x) (e:y.cb=x.cb):ptrs (L.set i y)=ptrs L:=by
  unfold ptrs
  rw [List.map_set,e]
  apply List.ext_getElem?
  intro j
  rw [List.getElem?_set]
  split
  · rename_i h
    subst h
    rw [List.getElem?_map,hx,List.length_map]
    split
    · rfl
    · rename_i h;rw [List.getElem?_eq_none (by omega)] at hx;cases hx
  · rfl
theorem CoresAt.put {w w':World} {v:Value} {l:List Cs} {L:List Ce} {G:List Nat} (h:CoresAt w v l L G) {i:Nat} {x:Ce} (hx:L[i]?=some x) {c':Cs} {F':List Nat} (hc:CAt w' x.cb c' F') (hF:∀ k∈F',k∈x.F∨w.heap.size≤k) (ho:Only [x.cb] w w') :
    CoresAt w' v (l.set i c') (L.set i ⟨x.cb,c',F'⟩) G∧∀ k∈G ++ allF (L.set i ⟨x.cb,c',F'⟩),k∈G ++ allF L∨w.heap.size≤k:=by
  have hxm:=List.mem_of_getElem? hx
  have hC:=h.c x hxm
  obtain ⟨_,_,_,_,_,hcb,_⟩:=hC.opn
  have hmem:∀ y∈L.set i ⟨x.cb,c',F'⟩,y=⟨x.cb,c',F'⟩∨∃ j:Nat,j≠i∧L[j]?=some y:=fun y hy=>by
    obtain ⟨j,hj⟩:=List.getElem?_of_mem hy
    rw [List.getElem?_set] at hj
    split at hj
    · split at hj
      · exact .inl (Option.some.inj hj).symm
      · cases hj
    · rename_i hne;exact .inr ⟨j,fun e=>hne e.symm,hj⟩
  have key:∀ (j:Nat) (y:Ce),j≠i→L[j]?=some y→∀ k∈F',k∉y.F:=fun j y hne hy k hk hm=>by
    rcases hF k hk with q | q
    · exact h.d i j x y hx hy (Ne.symm hne) k q hm
    · have:=(h.c y (List.mem_of_getElem? hy)).lt k hm;omega
  refine ⟨⟨?_,?_,?_,?_⟩,?_⟩
  · rw [List.length_set,ptrs_set L i (y:=⟨x.cb,c',F'⟩) hx rfl]
    exact h.a.keep ho fun k hk hm=>by obtain rfl:=List.mem_singleton.1 hm;exact slv_ne h.a hcb (by decide) hk
  · rw [List.map_set,h.l]
  · intro y hy
    rcases hmem y hy with rfl | ⟨j,hj,hy⟩
    · exact hc
    · exact (h.c y (List.mem_of_getElem? hy)).keepD ho fun k hk hm=>by
        obtain rfl:=List.mem_singleton.1 hm
        exact h.d j i y x hy hx hj _ hk hC.mem
  · intro a b y z hy hz hne k hk
    rw [List.getElem?_set] at hy hz
    split at hy
    · rename_i ea
      split at hy
      · cases hy
        rw [if_neg (fun e=>hne (ea.symm.trans e))] at hz
        exact key b z (fun e=>hne (ea.symm.trans e.symm)) hz k hk
      · cases hy
    · rename_i ea
      split at hz
      · rename_i eb
        split at hz
        · cases hz
          exact fun hm=>key a y (fun e=>ea e.symm) hy k hm hk
        · cases hz
      · exact h.d a b y z hy hz hne k hk
  · intro k hk
    rcases List.mem_append.1 hk with hk | hk
    · exact .inl (List.mem_append_left _ hk)
    · obtain ⟨y,hy,hky⟩:=mem_allF.1 hk
      rcases hmem y hy with rfl | ⟨j,_,hy⟩
      · rcases hF k hky with q | q
        · exact .inl (List.mem_append_right _ (mem_allF.2 ⟨x,hxm,q⟩))
        · exact .inr q
      · exact .inl (List.mem_append_right _ (mem_allF.2 ⟨y,List.mem_of_getElem? hy,hky⟩))
theorem CoresAt.len {w:World} {v:Value} {l:List Cs} {L:List Ce} {G:List Nat} (h:CoresAt w v l L G):L.length=l.length:=by rw [← h.l,List.length_map]
theorem CoresAt.at {w:World} {v:Value} {l:List Cs} {L:List Ce} {G:List Nat} (h:CoresAt w v l L G) {i:Nat} (hi:i < l.length):∃ x,L[i]?=some x∧CAt w x.cb x.c x.F∧x.c=l.getD i (newC 0):=by
  have hl:=h.len
  have hi':i < L.length:=by omega
  have hl2:=h.l
  refine ⟨L[i],List.getElem?_eq_getElem hi',h.c _ (List.getElem_mem hi'),?_⟩
  subst hl2
  rw [List.getD_eq_getElem?_getD,List.getElem?_map,List.getElem?_eq_getElem hi'];rfl
theorem CoresAt.ptr {w:World} {v:Value} {l:List Cs} {L:List Ce} {G:List Nat} (h:CoresAt w v l L G) {i:Nat} {x:Ce} (hx:L[i]?=some x):∃ g cap cur,v = .slice (some ⟨g,0,none⟩) L.length cap∧w.heap[g]?=some (.cells (cur:List Value).toArray tyCp (0,0))∧cur[i]?=some (.pointer (some ⟨x.cb,0,none⟩)):=by
  rcases h.a with ⟨_,h0,_⟩ | ⟨g,cap,cur,e,_,_,_,_,ht,hg⟩
  · rw [List.eq_nil_of_length_eq_zero h0] at hx;cases hx
  · refine ⟨g,cap,cur,e,hg,?_⟩
    have h1:(ptrs L)[i]?=some (.pointer (some ⟨x.cb,0,none⟩)):=by unfold ptrs;rw [List.getElem?_map,hx];rfl
    rw [← ht,List.getElem?_take] at h1
    split at h1
    · exact h1
    · cases h1
theorem SyAt.put {w w':World} {sb tb rb:Nat} {v:Value} {s:Sy} {L:List Ce} {G:List Nat} (h:SyOpn w sb tb rb v s L G) {k:Int} {x:Ce} (hx:L[k.toNat]?=some x) {c':Cs} {F':List Nat} (hc:CAt w' x.cb c' F') (hF:∀ k∈F',k∈x.F∨w.heap.size≤k) (ho:Only [x.cb] w w') :
    ∃ L',SyOpn w' sb tb rb v (setKY s k c') L' G∧(∀ q∈sb :: tb :: rb :: (G ++ allF L'),q∈sb :: tb :: rb :: (G ++ allF L)∨w.heap.size≤q):=by
  obtain ⟨h1,h2⟩:=h.c.put hx hc hF ho
  obtain ⟨_,_,_,_,_,hcb,_⟩:=(h.c.c x (List.mem_of_getElem? hx)).opn
  have n1:x.cb≠sb:=blocks_ne hcb h.o (by decide)
  obtain ⟨n2,n3⟩:=h.t.nots hcb (by decide) (by decide)
  refine ⟨_,⟨ho.block h.o (by simpa using Ne.symm n1),h.t.keep ho (by simpa using Ne.symm n2) (by simpa using Ne.symm n3),h1,h.ok.setK k c'⟩,fun q hq=>?_⟩
  rcases List.mem_cons.1 hq with rfl | hq
  · exact .inl (by simp)
  rcases List.mem_cons.1 hq with rfl | hq
  · exact .inl (by simp)
  rcases List.mem_cons.1 hq with rfl | hq
  · exact .inl (by simp)
  rcases h2 q hq with k | k
  · exact .inl (by simp only [List.mem_cons];exact .inr (.inr (.inr k)))
  · exact .inr k
theorem SyOpn.rows {w w':World} {sb tb rb:Nat} {v:Value} {s:Sy} {L:List Ce} {G:List Nat} (h:SyOpn w sb tb rb v s L G) {t:List Tk} (ht:TabAt w' tb rb t) (ho:Only [rb] w w') (hok:OkY { s with t:=t }):SyOpn w' sb tb rb v { s with t:=t } L G:=by
  obtain ⟨cap,rest,a1,a2,_⟩:=h.t
  have n1:rb≠sb:=blocks_ne a2 h.o (by decide)
  refine ⟨ho.block h.o (by simpa using Ne.symm n1),ht,h.c.keepD ho fun k hk hm=>?_,hok⟩
  obtain rfl:=List.mem_singleton.1 hm
  rcases List.mem_append.1 hk with hk | hk
  · exact slv_ne h.c.a a2 (by decide) hk
  · obtain ⟨x,hx,hkx⟩:=mem_allF.1 hk
    exact (h.c.c x hx).not a2 rfl hkx
abbrev chO (sb:Nat) (ve:Value):Obj := .cells #[.pointer (some ⟨sb,0,none⟩),ve] 140 (0,0)
abbrev SlE (w:World) (v:Value) (l:List Ev) (G:List Nat):Prop:=SlV w 41 5 v l.length (flatEv l) G
def ChAt (w:World) (hb:Nat) (s:Ch) (F:List Nat):Prop:=∃ sb Fs ve Ge,F=hb :: (Fs ++ Ge)∧w.heap[hb]?=some (chO sb ve)∧SyAt w sb s.s Fs∧SlE w ve s.ev Ge
def okH:Obj→Bool
  | .cells cs ty f=>okY (.cells cs ty f) && !(Nat.beq ty 140) && !(Nat.beq ty 41)
  | _=>false
theorem ChAt.not {w:World} {hb:Nat} {s:Ch} {F:List Nat} (h:ChAt w hb s F) {b:Nat} {cs:Array Value} {ty:Nat} {fz:Nat × Nat} (h1:w.heap[b]?=some (.cells cs ty fz)) (ho:okH (.cells cs ty fz)=true):b∉F:=fun hm=>by
  obtain ⟨sb,Fs,ve,Ge,rfl,k1,k2,k3⟩:=h
  simp only [okH,Bool.and_eq_true] at ho
  rcases List.mem_cons.1 hm with rfl | hm
  · exact blocks_ne h1 k1 (nbeq ho.1.2) rfl
  rcases List.mem_append.1 hm with hm | hm
  · exact k2.not h1 ho.1.1 hm
  · exact slv_ne k3 h1 (nbeq ho.2) hm
theorem ChAt.keepD {w w':World} {hb:Nat} {s:Ch} {F G:List Nat} (h:ChAt w hb s F) (ho:Only G w w') (hd:∀ k∈F,k∉G):ChAt w' hb s F:=by
  obtain ⟨sb,Fs,ve,Ge,rfl,k1,k2,k3⟩:=h
  exact ⟨sb,Fs,ve,Ge,rfl,ho.block k1 (hd _ (by simp)),k2.keepD ho fun k hk=>hd k (by simp [hk]),k3.keep ho fun k hk=>hd k (by simp [hk])⟩
theorem ChAt.only {w w':World} {hb:Nat} {s:Ch} {F:List Nat} (h:ChAt w hb s F) (ho:Only [] w w'):ChAt w' hb s F:=h.keepD ho (by simp)
theorem ChAt.lt {w:World} {hb:Nat} {s:Ch} {F:List Nat} (h:ChAt w hb s F):∀ k∈F,k < w.heap.size:=fun k hm=>by
  obtain ⟨sb,Fs,ve,Ge,rfl,k1,k2,k3⟩:=h
  rcases List.mem_cons.1 hm with rfl | hm
  · exact lt_of_block k1
  rcases List.mem_append.1 hm with hm | hm
  · exact k2.lt k hm
  · exact k3.lt k hm
def LeftC (w0:World) (hb:Nat) (s:Ch) (F:List Nat) (w':World):Prop:=∃ F',ChAt w' hb s F'∧(∀ k∈F',k∈F∨w0.heap.size≤k)∧Only F w0 w'
end Go.Proofs.YtalffooghioekaaGreatDoorX

namespace Go.Proofs.YtalffooghioekaaGreatDoorX
open Go Go.RowKit
def GoneIn (r:Rp):Prop:=∀ g∈r.g,InW g.lag∧In64 g.id
theorem GoneIn.none:GoneIn .none:=fun g hg=>by cases hg
theorem goneC_in {c:Cs} (h:RepC c):∀ g∈goneC c,InW g.lag∧In64 g.id:=fun g hg=>by
  obtain ⟨s,hs⟩:=h
  obtain ⟨_,_,h3,_⟩:=hs.flushF.gone g hg
  obtain ⟨a,_,ha⟩:=List.mem_map.1 h3
  exact ⟨gone_in hs g hg,by rw [← ha];exact a.2.1.2.1⟩
theorem goneC_len {c:Cs} (h:RepC c):(goneC c).length≤32:=by
  obtain ⟨s,hs⟩:=h
  have h1:(goneC c).length≤c.A.l.length:=gone_len _ _
  have:=hs.le
  omega
theorem GoneIn.try {e:Int} {c1:Cs} {r1:Rp} (h:GoneIn r1) (hc:RepC c1):GoneIn (tryR e c1 r1):=by
  unfold tryR
  split
  · intro g hg
    rcases List.mem_append.1 hg with k | k
    · exact h g k
    · exact goneC_in hc g k
  · exact GoneIn.none
theorem tryR_len {e:Int} {c1:Cs} {r1:Rp} (hc:RepC c1):(tryR e c1 r1).g.length≤r1.g.length+32∧(tryR e c1 r1).p.length≤r1.p.length:=by
  unfold tryR
  split
  · have:=goneC_len hc
    exact ⟨by rw [List.length_append];omega,Nat.le_refl _⟩
  · exact ⟨Nat.zero_le _,Nat.zero_le _⟩
theorem repC_srv {c:Cs} (h:RepC c) (m:Int):RepC (srvA c m):=by obtain ⟨s,hs⟩:=h;exact rep_srv hs m
theorem goneIn_tickN:∀ (k:Nat) (left:Int) (c:Cs) (r:Rp),RepC c→GoneIn r→GoneIn (tickN k left c r).2.2
  | 0,_,_,_,_,h=>h
  | k+1,left,c,r,hc,h=>by
    unfold tickN
    split
    · split
      · refine goneIn_tickN k _ _ _ (repC_set (repC_srv hc left)) fun g hg=>?_
        rcases List.mem_append.1 hg with q | q
        · exact h g q
        · exact goneC_in (repC_srv hc left) g q
      · exact h
    · exact h
theorem goneIn_tick {c:Cs} (h:RepC c) (ns:Int):GoneIn (tickC c ns).2.2:=by
  unfold tickC
  split
  · exact goneIn_tickN _ _ _ _ h GoneIn.none
  · exact GoneIn.none
theorem OkR.core {n:Int} {x:Tk} (h:OkR n x) (hx:x.st≠0):0≤x.core∧x.core < n:=h.2.2.2.2.2.2 hx
def RepY (s:Sy):Prop:=∀ c∈s.k,RepC c
end Go.Proofs.YtalffooghioekaaGreatDoorX

namespace Go.Proofs.YtalffooghioekaaGreatDoorX
open Go Go.RowKit
end Go.Proofs.YtalffooghioekaaGreatDoorX

namespace Go.Proofs.YtalffooghioekaaGreatDoorX
open Go Go.RowKit
attribute [local irreducible] XS XC XA thenE blockE retE loopE loopS cutB cutN doneE SE
theorem Told18.form {w1 w2:World} {cb:Nat} {F:List Nat} {rv:Value} {e:Int} {c c1:Cs} {r1:Rp} (T:Told18 w1 cb F rv e c c1 r1 w2):∃ ag cg ap cp,rv = .agg #[.slice ag (tryR e c1 r1).g.length cg,.slice ap (tryR e c1 r1).p.length cp]:=by
  obtain ⟨⟨vg,vp,Gg,Gp,rfl,p1,p2⟩,_,_⟩:=T
  obtain ⟨ag,cg,rfl⟩:=slv_form p1
  obtain ⟨ap,cp,rfl⟩:=slv_form p2
  exact ⟨ag,cg,ap,cp,rfl⟩
end Go.Proofs.YtalffooghioekaaGreatDoorX

namespace Go.Proofs.YtalffooghioekaaGreatDoorX
open Go Go.RowKit
attribute [local irreducible] XS XC XA thenE blockE retE loopE loopS cutB cutN doneE SE
theorem OkY.at {s:Sy} (h:OkY s) {x:Tk} (hx:OkR s.cf.cores x) (hn:x.st≠0):∃ n:Nat,x.core=n∧n < s.k.length:=by
  have h1:=hx.core hn
  have h2:=h.len
  exact ⟨x.core.toNat,by omega,by omega⟩
theorem intsY_snoc (l:List Int) (x:Int):ints (l ++ [x])=ints l ++ [.int .i64 x]:=by simp [ints]
set_option maxHeartbeats 4000000 in
theorem runs_ret (sb:Nat) (s:Sy) (F:List Nat) (w0:World) (h:SyAt w0 sb s F):Ret Tryz.prog 16 #[.pointer (some ⟨sb,0,none⟩)] w0 fun v w'=>(∃ G,SlV w' 3 1 v (s.k.map Cs.run).length (ints (s.k.map Cs.run)) G∧∀ k∈G,w0.heap.size≤k)∧Only [] w0 w':=by
  obtain ⟨tb,rb,vc,L,G,rfl,hO⟩:=h
  have h1:=hO.o
  have hs:=(St.nil w0).trackT h1
  have hlen:=hO.ok.len
  have hlo:=hO.ok.lo
  have hhi:=hO.ok.hi
  have hL:=hO.c.len
  have h0:0 < s.k.length:=by omega
  obtain ⟨x0,hx0,_,_⟩:=hO.c.at h0
  obtain ⟨g,cap,cur,rfl,hg,_⟩:=hO.c.ptr hx0
  refine ret_of_xc Tryz.func16 (by kernel_rfl) rfl Tryz.ntmps16 rfl rfl rfl ?_
  repeat' (first|refine vs (k:=?_)|refine qRg ?_|refine Nx.h ?_|refine qCf ?_|fail)
  have hoA:=hs.onlyF [] (by simp [h1]) (by simp [D0])
  have hcur:∀ (i:Nat) (x:Ce),L[i]?=some x→cur[i]?=some (.pointer (some ⟨x.cb,0,none⟩)):=fun i x hx=>by
    obtain ⟨g',cap',cur',e,hg',hc'⟩:=hO.c.ptr hx
    cases e
    rw [hg] at hg'
    simp only [Option.some.injEq,Obj.cells.injEq] at hg'
    have:=congrArg Array.toList hg'.1
    simp only at this
    rw [this];exact hc'
  refine xc_cutB (fun (v3:Value)=>[(3,v3)]) (fun v3 w=>Only [] w0 w∧∃ G,SlV w 3 1 v3 (s.k.map Cs.run).length (ints (s.k.map Cs.run)) G∧∀ k∈G,w0.heap.size≤k) ?_ ?_
  · refine xc_loopS (fun (x:Nat × Value)=>[(3,x.2),(11,.slice (some ⟨g,0,none⟩) L.length cap),(12,.int .i64 (L.length:Nat)),(13,.int .i64 (x.1:Nat))])
      (fun x w=>x.1≤L.length∧Only [] w0 w∧∃ G,SlV w 3 1 x.2 ((s.k.take x.1).map Cs.run).length (ints ((s.k.take x.1).map Cs.run)) G∧∀ k∈G,w0.heap.size≤k) (fun x=>L.length - x.1) (0,.slice none 0 0) (by (repeat (first | exact agree_nil | (apply agree_cons;exact rfl)))) ⟨Nat.zero_le _,hoA,[],.inl ⟨rfl,rfl,rfl,rfl⟩,by simp⟩ fun x env wl ⟨hi,ho0,hT⟩=>?_
    obtain ⟨i,v5⟩:=x
    simp only at hi hT
    obtain ⟨G3,hG,hGn⟩:=hT
    clear hs
    have hs:=(St.nil wl).trackT (ho0.block hg (by simp))
    repeat' (first|refine vs (k:=?_)|refine qRg ?_|refine Nx.h ?_|(refine xc_if rfl (fun hc=>?_) (fun hc=>?_))|fail)
    · have hlt:i < L.length:=by omega
      have hlt2:i < s.k.length:=by omega
      obtain ⟨x,hx,hC,hce⟩:=hO.c.at hlt2
      have ei:=nx64 (m:=L.length) hlt (by omega)
      have et:(s.k.take (i+1)).map Cs.run=(s.k.take i).map Cs.run ++ [x.c.run]:=by
        rw [take_next hlt2,List.map_append]
        congr 1
        rw [hce,List.getD_eq_getElem?_getD,List.getElem?_eq_getElem hlt2];rfl
      have hle:((s.k.take i).map Cs.run).length≤8:=by rw [List.length_map,List.length_take];omega
      generalize (s.k.take i).map Cs.run=A at *
      refine ix (h0:=(by omega)) (h1:=(by omega)) (k:=?_)
      refine lb (hc:=(by simpa using hcur i x hx)) (k:=?_)
      repeat' (first|refine vs (k:=?_)|refine qRg ?_|refine Nx.h ?_|fail)
      have hb0:=ho0.block hg (by simp)
      have hoc:=hs.onlyF [] (by simp [hb0]) (by simp [D0])
      (with_reducible apply xs_call);exact rfl;exact rfl;exact crun_ret x.cb x.c x.F _ (hC.only (ho0.trans hoc))
      rintro v w' ⟨rfl,ho⟩;replace hs:=hs.call0 ho;repeat' (first|(refine bs hs (k:=?_);intro b w hz hs)|fail)
      have hb2:=hs.get (At.head)
      have ho2:=hs.onlyF [] (by simp [hb0]) (by simp [D0])
      refine xs_appendW tabOk rfl rfl rfl rfl rfl rfl rfl (by decide) (lit_cells (news:=[.int .i64 x.c.run]) hb2) (by simp [Value.oneCell']) (hG.keep ho2 (by simp)) (by omega) (by omega) ?_
      intro v5' w4 ⟨G',hG',hGn'⟩ ho4
      have hz4:=ho2.size
      have hz0:=ho0.size
      clear hs
      have hs:=St.nil w4
      repeat' (first|refine vs (k:=?_)|refine qRg ?_|refine Nx.h ?_|fail)
      refine loopS_next (i+1,v5') (by show L.length - (i+1) < L.length - i;omega) (by (repeat (first | exact agree_nil | (apply agree_cons;first | exact rfl | exact congrArg (Value.int .i64) ei)))) ⟨by show i+1≤_;omega,((ho0.trans ho2).news hGn ho4).trans (hs.only0 rfl),G',?_,?_⟩
      · simp only [et]
        rw [List.length_append,intsY_snoc]
        exact hG'.keep (hs.only0 rfl) (by simp)
      · intro k hk
        rcases hGn' k hk with h | h
        · exact hGn k h
        · omega
    · have e:i=s.k.length:=by omega
      subst e
      rw [List.take_length] at hG
      exact cutB_exit v5 (by (repeat (first | exact agree_nil | (apply agree_cons;exact rfl)))) ⟨ho0,G3,hG,hGn⟩
  · rintro v5 env w ⟨ho0,G3,hG,hGn⟩
    clear hs
    have hs:=St.nil w
    repeat' (first|refine vs (k:=?_)|refine qRg ?_|refine Nx.h ?_|fail)
    first | refine rt (hq:=?_) | refine rt' (hq:=?_)
    have ho3:=hs.only0 rfl
    exact ⟨⟨G3,hG.keep ho3 (by simp),hGn⟩,ho0.trans ho3⟩
end Go.Proofs.YtalffooghioekaaGreatDoorX

namespace Go.Proofs.YtalffooghioekaaGreatDoorX
open Go Go.RowKit
attribute [local irreducible] XS XC XA thenE blockE retE loopE loopS cutB cutN doneE SE
section
variable {QE : Exit → Env → World → Prop} {n : Nat} {env : Env} {w wb : World} {D : Ctx} {H : List Ent}
theorem drT (E:List Nat) {e:Ent} {id:Nat} {ops:Array Oper} (hs:St wb D (e :: H) w) (hX:XH ops E QE n:=by exact ⟨by kernel_rfl,by kernel_rfl,by kernel_rfl,by (repeat (first | (with_reducible exact nop_ret) | (with_reducible apply nop_then) | (with_reducible apply nop_block) | (with_reducible apply nop_loop) | (with_reducible apply nop_loopS) | (with_reducible apply nop_cutB) | (with_reducible apply nop_cutN)))⟩)
    (k:XH ops E QE n→∀ w',St wb D (e :: H) w'→XA Tryz.prog ops E H QE n ops.size (Array.replicate ops.size false) env w'):XC Tryz.prog QE n (.region id ops true) env w:=drH E H hs hX k
end
structure ChOpn (w:World) (hb sb tb rb:Nat) (v ve:Value) (S:Ch) (L:List Ce) (G Ge:List Nat):Prop where
  h:w.heap[hb]?=some (chO sb ve)
  s:SyOpn w sb tb rb v S.s L G
  e:SlE w ve S.ev Ge
def chF (hb sb tb rb:Nat) (L:List Ce) (G Ge:List Nat):List Nat:=hb :: ((sb :: tb :: rb :: (G ++ allF L)) ++ Ge)
theorem ChAt.opn {w:World} {hb:Nat} {s:Ch} {F:List Nat} (h:ChAt w hb s F):∃ sb tb rb v ve L G Ge,F=chF hb sb tb rb L G Ge∧ChOpn w hb sb tb rb v ve s L G Ge:=by
  obtain ⟨sb,Fs,ve,Ge,rfl,h1,⟨tb,rb,v,L,G,rfl,h2⟩,h3⟩:=h
  exact ⟨sb,tb,rb,v,ve,L,G,Ge,rfl,h1,h2,h3⟩
theorem ChOpn.at {w:World} {hb sb tb rb:Nat} {v ve:Value} {s:Ch} {L:List Ce} {G Ge:List Nat} (h:ChOpn w hb sb tb rb v ve s L G Ge):ChAt w hb s (chF hb sb tb rb L G Ge):=⟨sb,_,ve,Ge,rfl,h.h,⟨tb,rb,v,L,G,rfl,h.s⟩,h.e⟩
theorem SyOpn.at {w:World} {sb tb rb:Nat} {v:Value} {s:Sy} {L:List Ce} {G:List Nat} (h:SyOpn w sb tb rb v s L G):SyAt w sb s (sb :: tb :: rb :: (G ++ allF L)):=⟨tb,rb,v,L,G,rfl,h⟩
theorem SyOpn.keepD {w w':World} {sb tb rb:Nat} {v:Value} {s:Sy} {L:List Ce} {G F:List Nat} (h:SyOpn w sb tb rb v s L G) (ho:Only F w w') (hd:∀ k∈sb :: tb :: rb :: (G ++ allF L),k∉F):SyOpn w' sb tb rb v s L G :=
  ⟨ho.block h.o (hd _ (by simp)),h.t.keep ho (hd _ (by simp)) (hd _ (by simp)),h.c.keepD ho (fun k hk=>hd k (by simp only [List.mem_cons];exact .inr (.inr (.inr hk)))),h.ok⟩
theorem SyOpn.only {w w':World} {sb tb rb:Nat} {v:Value} {s:Sy} {L:List Ce} {G:List Nat} (h:SyOpn w sb tb rb v s L G) (ho:Only [] w w'):SyOpn w' sb tb rb v s L G:=h.keepD ho (by simp)
theorem ChOpn.only {w w':World} {hb sb tb rb:Nat} {v ve:Value} {s:Ch} {L:List Ce} {G Ge:List Nat} (h:ChOpn w hb sb tb rb v ve s L G Ge) (ho:Only [] w w'):ChOpn w' hb sb tb rb v ve s L G Ge :=
  ⟨ho.block h.h (by simp),h.s.only ho,h.e.keep ho (by simp)⟩
theorem ChOpn.tell {w w1 w2:World} {hb sb tb rb:Nat} {v ve ve':Value} {s:Ch} {L:List Ce} {G Ge Ge':List Nat} (h:ChOpn w hb sb tb rb v ve s L G Ge) {x:Ev} (ho:Only Ge w w1) (ha:SlV w1 41 5 ve' (s.ev.length+1) (flatEv s.ev ++ x.cells) Ge') (hG:∀ k∈Ge',k∈Ge∨w.heap.size≤k) (ho2:Only [hb] w1 w2) (hh:w2.heap[hb]?=some (chO sb ve')) :
    ChOpn w2 hb sb tb rb v ve' ⟨s.s,s.ev ++ [x]⟩ L G Ge':=by
  have hS:=h.s.at
  have d1:∀ k∈sb :: tb :: rb :: (G ++ allF L),k∉Ge:=fun k hk hm=>by
    obtain ⟨cs,hc⟩:=slv_at h.e k hm
    exact hS.not hc rfl hk
  have n1:hb∉Ge:=fun hm=>slv_ne h.e h.h (by decide) hm
  have h1:=ho.block h.h n1
  have s1:=h.s.keepD ho d1
  refine ⟨hh,s1.keepD ho2 fun k hk hm=>?_,?_⟩
  · obtain rfl:=List.mem_singleton.1 hm
    exact s1.at.not h1 rfl hk
  · unfold SlE
    rw [List.length_append,flatEv_snoc]
    exact ha.keep ho2 fun k hk hm=>by obtain rfl:=List.mem_singleton.1 hm;exact slv_ne ha h1 (by decide) hk
theorem absorbY_take (s:Ch) (k:Int) (l:List Gn) {i:Nat} (h:i < l.length):(l.take (i+1)).foldl (absG k) s=absG k ((l.take i).foldl (absG k) s) l[i]:=by rw [take_next h,List.foldl_append];rfl
theorem absP_take (s:Ch) (k:Int) (l:List Pr) {i:Nat} (h:i < l.length):(l.take (i+1)).foldl (absP k) s=absP k ((l.take i).foldl (absP k) s) l[i]:=by rw [take_next h,List.foldl_append];rfl
theorem absP_len (k:Int) (l:List Pr) (s:Ch):(l.foldl (absP k) s).ev.length=s.ev.length+l.length:=by rw [(absP_s k l s).2,List.length_append,List.length_map]
theorem absG_len (k:Int) (l:List Gn) (s:Ch):(l.foldl (absG k) s).ev.length=s.ev.length+l.length:=by rw [absG_ev,List.length_append,List.length_map]
set_option maxHeartbeats 16000000 in
theorem absorbO_ret (hb sb tb rb:Nat) (v ve:Value) (s:Ch) (L:List Ce) (G Ge:List Nat) (k:Int) (rv:Value) (r:Rp) (w0:World) (hO:ChOpn w0 hb sb tb rb v ve s L G Ge) (hr:RvAt w0 rv r) (hg:GoneIn r) (hl:s.ev.length+r.p.length+r.g.length≤4000000000000) :
    Ret Tryz.prog 86 #[.pointer (some ⟨hb,0,none⟩),.int .i64 k,rv] w0 fun _ w'=>∃ ve' Ge',ChOpn w' hb sb tb rb v ve' (absorbY s k r) L G Ge'∧(∀ i∈Ge',i∈Ge∨w0.heap.size≤i)∧Only (chF hb sb tb rb L G Ge) w0 w':=by
  have hCh:=hO.at
  obtain ⟨vg,vp,Gg,Gp,rfl,pg,pp⟩:=hr
  have hDg:LsAt w0 197 13 vg (r.g.map Gn.cells):=SlV.ls pg rfl (by simp) (fun x hx=>by obtain ⟨g,_,rfl⟩:=List.mem_map.1 hx;rfl)
  have hDp:LsAt w0 195 3 vp (r.p.map Pr.cells):=SlV.ls pp rfl (by simp) (fun x hx=>by obtain ⟨g,_,rfl⟩:=List.mem_map.1 hx;rfl)
  obtain ⟨ag,cg,rfl,hDg⟩:=hDg
  obtain ⟨ap,cp,rfl,hDp⟩:=hDp
  rw [List.length_map] at pg hDg
  rw [List.length_map] at pp hDp
  rw [List.length_map,List.length_map]
  have hh:=hO.h
  have hltF:=hCh.lt
  have hs:=(St.nil w0).trackT hh
  refine ret_of_xc Tryz.func86 (by kernel_rfl) rfl Tryz.ntmps86 rfl rfl rfl ?_
  refine xc_seq ?_
  refine xc_region ?_ ?_;exact rfl
  refine bx hs (k:=?_);clear hs;intro b5 w1 hz1 hs
  repeat' (first|refine vs (k:=?_)|refine qRg ?_|refine Nx.h ?_|fail)
  have g5:=hs.new (b5,true) (by simp) rfl
  simp only at g5
  have hoA:=hs.onlyF [] (by simp [hh]) (by simp [D0])
  have k5:=hs.get (b:=b5) (by repeat (first | exact At.head | (with_reducible apply At.tail)))
  have zA:=hoA.size
  refine xc_cutB (fun (_:Value × List Nat)=>[(0,.pointer (some ⟨hb,0,none⟩)),(1,.int .i64 k),(5,.pointer (some ⟨b5,0,none⟩))]) (fun y w=>w.heap[b5]?=some (repO (.slice ag r.g.length cg) (.slice ap r.p.length cp))∧ChOpn w hb sb tb rb v y.1 (r.p.foldl (absP k) s) L G y.2∧(∀ i∈y.2,i∈Ge∨w0.heap.size≤i)∧Only (chF hb sb tb rb L G Ge) w0 w) ?_ ?_
  · refine xc_loopS (fun (x:Nat × Value × List Nat)=>[(0,.pointer (some ⟨hb,0,none⟩)),(1,.int .i64 k),(5,.pointer (some ⟨b5,0,none⟩)),(13,.slice ap r.p.length cp),(14,.int .i64 (r.p.length:Nat)),(15,.int .i64 (x.1:Nat))])
      (fun x w=>x.1≤r.p.length∧w.heap[b5]?=some (repO (.slice ag r.g.length cg) (.slice ap r.p.length cp))∧ChOpn w hb sb tb rb v x.2.1 ((r.p.take x.1).foldl (absP k) s) L G x.2.2∧(∀ i∈x.2.2,i∈Ge∨w0.heap.size≤i)∧Only (chF hb sb tb rb L G Ge) w0 w) (fun x=>r.p.length - x.1) (0,ve,Ge) (by (repeat (first | exact agree_nil | (apply agree_cons;exact rfl)))) ⟨Nat.zero_le _,k5,hO.only hoA,fun i hi => .inl hi,hoA.weaken (by simp)⟩ fun x env wl ⟨hi,hB,hC,hGe,ho⟩=>?_
    obtain ⟨i,v5,G5⟩:=x
    simp only at hi hC hGe
    clear hs
    have hs:=((St.nil wl).trackT hB).trackT hC.h
    repeat' (first|refine vs (k:=?_)|refine qRg ?_|refine Nx.h ?_|(refine xc_if rfl (fun hc=>?_) (fun hc=>?_))|fail)
    · have hlt:i < r.p.length:=by omega
      obtain ⟨b,off,cs,fz,rfl,_,hb1,hcs⟩:=hDp (fun h=>by have:=congrArg List.length h;rw [List.length_map,List.length_nil] at this;omega)
      have hpk:=hcs i (Pr.cells r.p[i]) (by rw [List.getElem?_map,List.getElem?_eq_getElem hlt];rfl)
      have ei:=nx64 (m:=r.p.length) hlt (by omega)
      have et:=absP_take s k r.p hlt
      have hln:=absP_len k (r.p.take i) s
      rw [List.length_take] at hln
      have hbl:=ho.block hb1 (hCh.not hb1 rfl)
      generalize r.p[i]=q at *
      generalize (r.p.take i).foldl (absP k) s=S at *
      refine ix (h0:=(by omega)) (h1:=(by omega)) (k:=?_)
      refine lhK (vs:=q.cells) hbl hpk (k:=?_)
      refine al hs (k:=?_);clear hs;intro b7 w7 hz7 hs
      refine stA hs (k:=?_);clear hs;intro w8 hs
      repeat' (first|refine Nx.h ?_|fail)
      have ho8:=hs.onlyF [] (by simp [hB,hC.h]) (by simp [D0])
      have k7:=hs.get (b:=b7) (by repeat (first | exact At.head | (with_reducible apply At.tail)))
      have hC8:=hC.only ho8
      have hB8:=ho8.block hB (by simp)
      have g7:=hs.new (b7,true) (by simp) rfl
      simp only at g7
      clear hs
      have hs:=((St.nil _).trackT k7).trackT hC8.h
      refine dr [17] hs (k:=?_);intro hX w hs
      refine tk 0 hX (k:=?_)
      refine tk 1 hX (k:=?_)
      refine tk 2 hX (k:=?_)
      refine tk 3 hX (k:=?_)
      refine tk 4 hX (k:=?_)
      refine tk 5 hX (k:=?_)
      refine tk 6 hX (k:=?_)
      refine tk 7 hX (k:=?_)
      refine tk 8 hX (k:=?_)
      refine tk 9 hX (k:=?_)
      refine tk 10 hX (k:=?_)
      refine tk 11 hX (k:=?_)
      refine tk 12 hX (k:=?_)
      refine dt 13 hX (k:=?_)
      refine bs hs (k:=?_);clear hs;intro b9 w9 hz9 hs
      refine XS.nil ?_
      refine dn (k:=?_)
      refine dt 14 hX (k:=?_)
      have ho9':=hs.onlyF [] (by simp [k7,hC8.h]) (by simp [D0])
      have ho9:=ho8.trans ho9'
      have hC9:=hC8.only ho9'
      have hB9:=ho9'.block hB8 (by simp)
      have z9:=ho9.size
      have z0:=ho.size
      refine xs_appendW tabOk rfl rfl rfl rfl rfl rfl rfl (by decide) (lit_cells (news:=Ev.cells (evP k q)) (hs.get At.head)) (by simp [Value.oneCell']) hC9.e (by omega) (by omega) ?_
      intro v10 w10 ⟨G10,hG10,hG10n⟩ ho10
      obtain ⟨a10,cp10,rfl⟩:=slv_form hG10
      have c1:=ho10.block hC9.h (fun hm=>slv_ne hC9.e hC9.h (by decide) hm)
      have k7':=ho10.block (hs.get (b:=b7) (by repeat (first | exact At.head | (with_reducible apply At.tail)))) (fun hm=>slv_ne hC9.e (hs.get (b:=b7) (by repeat (first | exact At.head | (with_reducible apply At.tail)))) (by decide) hm)
      have b5':=ho10.block hB9 (fun hm=>slv_ne hC9.e hB9 (by decide) hm)
      clear hs
      have hs:=((St.nil w10).trackT k7').trackT c1
      refine XS.nil ?_
      refine dn (k:=?_)
      refine tk 15 hX (k:=?_)
      refine tk 16 hX (k:=?_)
      refine dt 17 hX (k:=?_)
      refine st hs (k:=?_);clear hs;intro w11 hs
      refine XS.nil ?_
      refine dn (k:=?_)
      refine en (k:=?_)
      repeat' (first|refine vs (k:=?_)|refine qRg ?_|refine Nx.h ?_|fail)
      have hoB:Only [hb] w10 _:=hs.onlyF [hb] (by simp [k7']) (by simp [D0])
      have hB11:=hoB.block b5' (by simpa using blocks_ne b5' c1 (by decide))
      have hT:=hC9.tell (x:=evP k q) ho10 hG10 hG10n hoB (hs.get (b:=hb) (by repeat (first | exact At.head | (with_reducible apply At.tail))))
      refine loopS_next (i+1,.slice a10 (S.ev.length+1) cp10,G10) (by show r.p.length - (i+1) < r.p.length - i;omega) (by (repeat (first | exact agree_nil | (apply agree_cons;first | exact rfl | exact congrArg (Value.int .i64) ei)))) ⟨by show i+1≤_;omega,hB11,?_,fun j hj=>?_,((ho.step ho9 (by simp)).step ho10 (fun j hj=>?_)).step hoB (fun j hj => .inl (by obtain rfl:=List.mem_singleton.1 hj;simp [chF]))⟩
      · show ChOpn _ hb sb tb rb v _ ((r.p.take (i+1)).foldl (absP k) s) L G G10
        rw [et]
        exact hT
      · rcases hG10n j hj with q | q
        · exact hGe j q
        · exact .inr (by omega)
      · rcases hGe j hj with q | q
        · exact .inl (by simp [chF,q])
        · exact .inr q
    · have e:i=r.p.length:=by omega
      subst e
      rw [List.take_length] at hC
      exact cutB_exit (v5,G5) (by (repeat (first | exact agree_nil | (apply agree_cons;exact rfl)))) ⟨hB,hC,hGe,ho⟩
  · rintro ⟨v5,G5⟩ env w2 ⟨hB,hC,hGe,ho⟩
    simp only at hC hGe
    have hln0:=absP_len k r.p s
    have eA:absorbY s k r=r.g.foldl (absG k) (r.p.foldl (absP k) s):=rfl
    generalize r.p.foldl (absP k) s=S0 at *
    clear hs
    have hs:=(St.nil w2).trackT hB
    repeat' (first|refine vs (k:=?_)|refine qRg ?_|refine Nx.h ?_|fail)
    have hoW:=hs.onlyF [] (by simp [hB]) (by simp [D0])
    refine xc_cutB (fun (_:Value × List Nat)=>[]) (fun y w=>ChOpn w hb sb tb rb v y.1 (r.g.foldl (absG k) S0) L G y.2∧(∀ i∈y.2,i∈Ge∨w0.heap.size≤i)∧Only (chF hb sb tb rb L G Ge) w0 w) ?_ ?_
    · refine xc_loopS (fun (x:Nat × Value × List Nat)=>[(0,.pointer (some ⟨hb,0,none⟩)),(1,.int .i64 k),(38,.slice ag r.g.length cg),(39,.int .i64 (r.g.length:Nat)),(40,.int .i64 (x.1:Nat))])
        (fun x w=>x.1≤r.g.length∧ChOpn w hb sb tb rb v x.2.1 ((r.g.take x.1).foldl (absG k) S0) L G x.2.2∧(∀ i∈x.2.2,i∈Ge∨w0.heap.size≤i)∧Only (chF hb sb tb rb L G Ge) w0 w) (fun x=>r.g.length - x.1) (0,v5,G5) (by (repeat (first | exact agree_nil | (apply agree_cons;exact rfl)))) ⟨Nat.zero_le _,hC.only hoW,hGe,ho.step hoW (by simp)⟩ fun x env wl ⟨hi,hC,hGe,hoO⟩=>?_
      obtain ⟨i,v5,G5⟩:=x
      simp only at hi hC hGe
      clear hs
      have hs:=((St.nil wl).trackT hC.s.o).trackT hC.h
      repeat' (first|refine vs (k:=?_)|refine qRg ?_|refine Nx.h ?_|(refine xc_if rfl (fun hc=>?_) (fun hc=>?_))|fail)
      · have hlt:i < r.g.length:=by omega
        obtain ⟨b,off,cs,fz,rfl,_,hb1,hcs⟩:=hDg (fun h=>by have:=congrArg List.length h;rw [List.length_map,List.length_nil] at this;omega)
        have hpk:=hcs i (Gn.cells r.g[i]) (by rw [List.getElem?_map,List.getElem?_eq_getElem hlt];rfl)
        have ei:=nx64 (m:=r.g.length) hlt (by omega)
        have et:=absorbY_take S0 k r.g hlt
        have hln:=absG_len k (r.g.take i) S0
        rw [List.length_take] at hln
        have hbl:=hoO.block hb1 (hCh.not hb1 rfl)
        have hgi:=hg r.g[i] (List.getElem_mem hlt)
        generalize r.g[i]=q at *
        generalize (r.g.take i).foldl (absG k) S0=S at *
        refine ix (h0:=(by omega)) (h1:=(by omega)) (k:=?_)
        refine lhK (vs:=q.cells) hbl hpk (k:=?_)
        refine al hs (k:=?_);clear hs;intro b9 w9 hz9 hs
        refine stA hs (k:=?_);clear hs;intro w10 hs
        repeat' (first|refine Nx.h ?_|fail)
        refine dr [] hs (k:=?_);intro hX w hs
        refine tk 0 hX (k:=?_)
        refine tk 1 hX (k:=?_)
        refine tk 2 hX (k:=?_)
        refine tk 3 hX (k:=?_)
        refine tk 4 hX (k:=?_)
        refine tk 5 hX (k:=?_)
        refine tk 6 hX (k:=?_)
        refine tk 7 hX (k:=?_)
        refine tk 8 hX (k:=?_)
        refine pd0 13 10 hs (k:=?_);intro f X w hp;have hs:=hp.st
        apply xa_pend 9 13 (f:=f) (X:=X) hX hp;exact rfl;exact rfl;(apply makes_alloc tabOk;exact rfl);kernel_rfl;kernel_rfl;kernel_rfl;kernel_rfl;(intro X Y;(repeat (first | exact pgg_base | refine pgg_step ?_ (by exact rfl))));(intro w' hs;first|exact se_hold hs.hold|exact se_hold hs.hold.tail|exact se_done rfl);intro f X w hp;have hs:=hp.st
        have ho10:=hs.onlyF [] (by simp [hC.s.o,hC.h]) (by simp [D0])
        (with_reducible apply xs_call);exact rfl;exact rfl;exact ttask_ret tb rb S.s.t q.id _ (hC.s.t.only ho10) hgi.2
        have hx:=ok_task hC.s.ok.row q.id
        have eG:goneTk S.s q={ taskT S.s.t q.id with st:=3,lag:=keepF S.s.cf q.lag (taskT S.s.t q.id).slice }:=rfl
        generalize taskT S.s.t q.id=x at *
        rintro v w' ⟨rfl,ho⟩;replace hp:=hp.only ho;replace hs:=hp.st;repeat' (first|refine Nx.h ?_|fail)
        refine dn (k:=?_)
        refine tk 10 hX (hc:=by cases f <;> kernel_rfl) (k:=?_)
        refine tk 11 hX (hc:=by cases f <;> kernel_rfl) (k:=?_)
        refine tk 12 hX (hc:=by cases f <;> kernel_rfl) (k:=?_)
        apply xa_pendE 13 (f:=f) (X:=X) hX hp;exact rfl;(apply makes_alloc tabOk;exact rfl);kernel_rfl;kernel_rfl;(intro X Y;(repeat (first | exact pgg_base | refine pgg_step ?_ (by exact rfl))));(intro w' hs;first|exact se_hold hs.hold|exact se_hold hs.hold.tail|exact se_done rfl);intro b w hI hs
        refine dt 14 hX (k:=?_)
        repeat' (first|(refine stA hs (k:=?_);intro w hs)|refine Nx.h ?_|fail)
        refine dn (k:=?_)
        refine tk 15 hX (k:=?_)
        refine en (k:=?_)
        repeat' (first|refine Nx.h ?_|fail)
        refine drT [] hs (k:=?_);intro hX w hs
        refine tk 0 hX (k:=?_)
        refine tk 1 hX (k:=?_)
        refine tk 2 hX (k:=?_)
        refine tk 3 hX (k:=?_)
        refine tk 4 hX (k:=?_)
        refine tk 5 hX (k:=?_)
        refine tk 6 hX (k:=?_)
        refine tk 7 hX (k:=?_)
        refine tk 8 hX (k:=?_)
        refine tk 9 hX (k:=?_)
        refine dt 10 hX (k:=?_)
        repeat' (first|refine vs (k:=?_)|refine Nx.h ?_|fail)
        refine dn (k:=?_)
        refine tk 12 hX (k:=?_)
        refine dt 11 hX (k:=?_)
        (with_reducible apply xs_call);exact rfl;exact rfl;exact keep_ret S.s.cf q.lag x.slice hC.s.ok.cf hgi.1 hx.2.2.2.2.1 _
        rintro v w' ⟨rfl,ho⟩;replace hs:=hs.call0 ho;repeat' (first|refine Nx.h ?_|fail)
        refine dn (k:=?_)
        refine dt 13 hX (k:=?_)
        repeat' (first|(refine st hs (k:=?_);intro w hs)|refine Nx.h ?_|fail)
        refine dn (k:=?_)
        refine tk 14 hX (k:=?_)
        refine dt 15 hX (k:=?_)
        repeat' (first|(refine st hs (k:=?_);intro w hs)|refine Nx.h ?_|fail)
        refine dn (k:=?_)
        refine en (k:=?_)
        repeat' (first|refine Nx.h ?_|fail)
        refine dr [] hs (k:=?_);intro hX w hs
        refine tk 0 hX (k:=?_)
        refine tk 1 hX (k:=?_)
        refine tk 2 hX (k:=?_)
        refine tk 3 hX (k:=?_)
        refine tk 4 hX (k:=?_)
        refine tk 5 hX (k:=?_)
        refine tk 6 hX (k:=?_)
        refine tk 7 hX (k:=?_)
        refine dt 8 hX (k:=?_)
        have ho11:=hs.onlyF [] (by simp [hC.s.o,hC.h]) (by simp [D0])
        have eS:tkv (goneTk S.s q) = .agg #[.int .i64 x.id,.int .u8 3,.int .i64 x.core,.int .u32 x.w,.int .u64 x.slice,.int .i64 (keepF S.s.cf q.lag x.slice)]:=by rw [eG];rfl
        rw [← eS]
        have hok:OkR S.s.cf.cores (goneTk S.s q):=OkR.goneR hC.s.ok q
        (with_reducible apply xs_call);exact rfl;exact rfl;exact tset_ret tb rb S.s.t (goneTk S.s q) _ (hC.s.t.only ho11) hok.1
        rintro v12 w12 ⟨rfl,hT12,ho12⟩
        obtain ⟨cap,rest,t1,t2,_⟩:=(hC.s.t.only ho11)
        have kh:=ho12.block (hs.get (b:=hb) (o:=chO sb v5) (by repeat (first | exact At.head | (with_reducible apply At.tail)))) (by simpa using blocks_ne (hs.get (b:=hb) (o:=chO sb v5) (by repeat (first | exact At.head | (with_reducible apply At.tail)))) t2 (by decide))
        have k9:=ho12.block (hs.get (b:=b9) (by repeat (first | exact At.head | (with_reducible apply At.tail)))) (by simpa using blocks_ne (hs.get (b:=b9) (by repeat (first | exact At.head | (with_reducible apply At.tail)))) t2 (by decide))
        have hS12:SyOpn w12 sb tb rb v (setRY S.s (goneTk S.s q)) L G:=(hC.s.only ho11).rows hT12 ho12 (hC.s.ok.setR hok)
        have hE12:SlE w12 v5 S.ev G5:=(hC.e.keep ho11 (by simp)).keep ho12 (fun j hj hm=>by obtain rfl:=List.mem_singleton.1 hm;exact slv_ne (hC.e.keep ho11 (by simp)) t2 (by decide) hj)
        have hC12:ChOpn w12 hb sb tb rb v v5 ⟨setRY S.s (goneTk S.s q),S.ev⟩ L G G5:=⟨kh,hS12,hE12⟩
        have gb:=hs.new (b,true) (by simp) rfl
        have lrb:=hC.s.t.lts.2
        simp only at gb
        have k10:=ho12.block (hs.get (b:=b) (by repeat (first | exact At.head | (with_reducible apply At.tail)))) (by simp;omega)
        have ks:=hS12.o
        clear hs
        have hs:=((((St.nil w12).trackT ks).trackT kh).trackT k9).trackT k10
        refine XS.nil ?_
        refine dn (k:=?_)
        refine en (k:=?_)
        repeat' (first|refine Nx.h ?_|fail)
        have ho12b:=hs.onlyF [] (by simp [ks,kh,k9,k10]) (by simp [D0])
        replace hC12:=hC12.only ho12b
        replace ho12:=ho12.step ho12b (by simp)
        replace k9:=ho12b.block k9 (by simp)
        replace kh:=hC12.h
        clear hs
        have hs:=((St.nil _).trackT k9).trackT kh
        refine dr [13] hs (k:=?_);intro hX w hs
        refine tk 0 hX (k:=?_)
        refine tk 1 hX (k:=?_)
        refine tk 2 hX (k:=?_)
        refine tk 3 hX (k:=?_)
        refine tk 4 hX (k:=?_)
        refine tk 5 hX (k:=?_)
        refine tk 6 hX (k:=?_)
        refine tk 7 hX (k:=?_)
        refine tk 8 hX (k:=?_)
        refine dt 9 hX (k:=?_)
        refine bs hs (k:=?_);clear hs;intro b13 w13 hz13 hs
        refine XS.nil ?_
        refine dn (k:=?_)
        refine dt 10 hX (k:=?_)
        have ho13:=hs.onlyF [] (by simp [k9,kh]) (by simp [D0])
        have hC13:=hC12.only ho13
        have z13:=ho13.size
        have z12:=ho12.size
        have z11:=ho11.size
        have z0:=hoO.size
        refine xs_appendW tabOk rfl rfl rfl rfl rfl rfl rfl (by decide) (lit_cells (news:=Ev.cells ⟨k,q.id,0,false,true⟩) (hs.get At.head)) (by simp [Value.oneCell']) hC13.e (by show (S.ev.length+1)*32≤_;omega) (by show S.ev.length+1≤_;omega) ?_
        intro v14 w14 ⟨G14,hG14,hG14n⟩ ho14
        obtain ⟨a14,cp14,rfl⟩:=slv_form hG14
        have c1:=ho14.block hC13.h (fun hm=>slv_ne hC13.e hC13.h (by decide) hm)
        have k9':=ho14.block (hs.get (b:=b9) (by repeat (first | exact At.head | (with_reducible apply At.tail)))) (fun hm=>slv_ne hC13.e (hs.get (b:=b9) (by repeat (first | exact At.head | (with_reducible apply At.tail)))) (by decide) hm)
        clear hs
        have hs:=((St.nil w14).trackT k9').trackT c1
        refine XS.nil ?_
        refine dn (k:=?_)
        refine tk 11 hX (k:=?_)
        refine tk 12 hX (k:=?_)
        refine dt 13 hX (k:=?_)
        refine st hs (k:=?_);clear hs;intro w15 hs
        refine XS.nil ?_
        refine dn (k:=?_)
        refine en (k:=?_)
        repeat' (first|refine vs (k:=?_)|refine qRg ?_|refine Nx.h ?_|fail)
        have hoB:Only [hb] w14 _:=hs.onlyF [hb] (by simp [k9']) (by simp [D0])
        have hT:=hC13.tell (x:=⟨k,q.id,0,false,true⟩) ho14 hG14 hG14n hoB (hs.get (b:=hb) (by repeat (first | exact At.head | (with_reducible apply At.tail))))
        refine loopS_next (i+1,.slice a14 (S.ev.length+1) cp14,G14) (by show r.g.length - (i+1) < r.g.length - i;omega) (by (repeat (first | exact agree_nil | (apply agree_cons;first | exact rfl | exact congrArg (Value.int .i64) ei)))) ⟨by show i+1≤_;omega,?_,fun j hj=>?_,((((hoO.step ho11 (by simp)).step ho12 (fun j hj => .inl (by obtain rfl:=List.mem_singleton.1 hj;simp [chF]))).step ho13 (by simp)).step ho14 (fun j hj=>?_)).step hoB (fun j hj => .inl (by obtain rfl:=List.mem_singleton.1 hj;simp [chF]))⟩
        · show ChOpn _ hb sb tb rb v _ ((r.g.take (i+1)).foldl (absG k) S0) L G G14
          rw [et]
          exact hT
        · rcases hG14n j hj with q | q
          · exact hGe j q
          · exact .inr (by omega)
        · rcases hGe j hj with q | q
          · exact .inl (by simp [chF,q])
          · exact .inr q
      · have e:i=r.g.length:=by omega
        subst e
        rw [List.take_length] at hC
        exact cutB_exit (v5,G5) (by (repeat (first | exact agree_nil | (apply agree_cons;exact rfl)))) ⟨hC,hGe,hoO⟩
    · rintro ⟨v6,G6⟩ env w3 ⟨hC,hGe,ho⟩
      simp only at hC hGe
      clear hs
      have hs:=St.nil w3
      skip
      first | refine rt' (vs:=[]) (hr:=resOk_nil) (hq:=?_) | refine rt (vs:=[]) (hr:=resOk_nil) (hq:=?_)
      have ho2:=hs.only0 rfl
      exact ⟨_,_,by rw [eA];exact hC.only ho2,hGe,ho.step ho2 (by simp)⟩
theorem absorb_ret (hb:Nat) (s:Ch) (F:List Nat) (k:Int) (rv:Value) (r:Rp) (w0:World) (h:ChAt w0 hb s F) (hr:RvAt w0 rv r) (hg:GoneIn r) (hl:s.ev.length+r.p.length+r.g.length≤4000000000000) :
    Ret Tryz.prog 86 #[.pointer (some ⟨hb,0,none⟩),.int .i64 k,rv] w0 fun v w'=>LeftC w0 hb (absorbY s k r) F w':=by
  obtain ⟨sb,tb,rb,v,ve,L,G,Ge,rfl,hO⟩:=h.opn
  refine (absorbO_ret hb sb tb rb v ve s L G Ge k rv r w0 hO hr hg hl).mono fun v' w' ⟨ve',Ge',h1,h2,h3⟩=>⟨_,h1.at,fun j hj=>?_,h3⟩
  simp only [chF,List.mem_cons,List.mem_append] at hj ⊢
  rcases hj with hj | hj | hj
  · exact .inl (.inl hj)
  · exact .inl (.inr (.inl hj))
  · rcases h2 j hj with q | q
    · exact .inl (.inr (.inr q))
    · exact .inr q
end Go.Proofs.YtalffooghioekaaGreatDoorX

namespace Go.Proofs.YtalffooghioekaaGreatDoorX
open Go Go.RowKit
section
variable {ops : Array Oper} {QE : Exit → Env → World → Prop} {n : Nat} {rest : List Oper} {env : Env} {w wb : World} {D : Ctx} {H : List Ent} {d : Option Nat} {ty : Nat} {pos : String} {aft : Array Edge} {g : Option (Nat × Bool)}
def oldE (H:List Ent):List Ent:=H.map fun e=>(e.1,e.2.1,false)
theorem St.new0 (hs:St w D0 H w) {b:Nat} {o:Obj} {w':World} (h:St w D0 ((b,o,true) :: H) w'):Only [] w w' :=
  h.onlyF [] (fun e he=>by
    rcases List.mem_cons.1 he with rfl | he
    · exact .inl rfl
    · exact .inr (.inr (hs.hold e he))) (by simp [D0])
theorem St.new1 {b:Nat} {o:Obj} {w':World} (h:St w D0 ((b,o,true) :: H) w'):w.heap.size≤b:=h.new (b,true) (by simp) rfl
theorem St.new2 {b:Nat} {o:Obj} {w':World} (h:St w D0 ((b,o,true) :: H) w') (hf:oldE H=H):St w' D0 ((b,o,false) :: H) w':=by
  have h1:=h.rebase
  rw [List.map_cons] at h1
  unfold oldE at hf
  rw [hf] at h1
  exact h1
theorem St.notin (h:St wb D H w) {b:Nat} {cs:Array Value} {ty:Nat} {fz:Nat × Nat} (hb:w.heap[b]?=some (.cells cs ty fz)) (hn:(H.all fun e=>tyNe ty e.2.1)=true:=by rfl):b∉H.map (·.1):=fun hm=>by
  obtain ⟨e,he,rfl⟩:=List.mem_map.1 hm
  have h1:=List.all_eq_true.1 hn e he
  have h2:=h.at_ e he
  rw [hb] at h2
  rw [← Option.some.inj h2] at h1
  simp [tyNe] at h1
theorem St.past (hs:St w D0 H w) {F:List Nat} {w':World} (ho:Only F w w') (hF:∀ k∈F,k∉H.map (·.1)) (hf:oldE H=H:=by rfl):St w' D0 H w':=by
  have h1:=(hs.call ho hF (by simp [D0])).rebase
  unfold oldE at hf
  rw [hf] at h1
  exact h1
theorem St.past0 (hs:St w D0 H w) {w':World} (ho:Only [] w w') (hf:oldE H=H:=by rfl):St w' D0 H w':=hs.past ho (by simp) hf
theorem al1 {t:Nat} {cs:List Value} (hs:St w D0 H w) (ht:look t tab.zs=some cs:=by exact rfl) (hf:oldE H=H:=by rfl) (hw:wantedE ops env g=true:=by exact rfl)
    (k:∀ b w',Only [] w w'→w.heap.size≤b→St w' D0 ((b,.cells cs.toArray t,false) :: H) w'→XS Tryz.prog ops QE n rest (updO env d (.pointer (some ⟨b,0,none⟩))) w'):XS Tryz.prog ops QE n (⟨d,.alloc t,ty,pos,aft,g⟩ :: rest) env w :=
  xs_alloc tabOk ht hw hs fun b w' _ h=>k b w' (hs.new0 h) h.new1 (h.new2 hf)
theorem bx1 {t:Nat} {x:Operand} {cs:List Value} (hs:St w D0 H w) (hf:oldE H=H:=by rfl) (hw:wantedE ops env g=true:=by exact rfl) (hx:(ev env x).cells=cs.toArray:=by exact rfl)
    (k:∀ b w',Only [] w w'→w.heap.size≤b→St w' D0 ((b,.cells cs.toArray t,false) :: H) w'→XS Tryz.prog ops QE n rest (updO env d (.pointer (some ⟨b,0,none⟩))) w'):XS Tryz.prog ops QE n (⟨d,.box t x,ty,pos,aft,g⟩ :: rest) env w :=
  xs_box hw hx hs fun b w' _ h=>k b w' (hs.new0 h) h.new1 (h.new2 hf)
theorem bs1 {t e size bytes len:Nat} {parts:Array (Nat × Operand)} {zs cs:List Value} (hs:St w D0 H w) (hf:oldE H=H:=by rfl) (hw:wantedE ops env g=true:=by exact rfl) (hsl:look t tab.sls=some (e,size,bytes):=by exact rfl) (hz:look e tab.zs=some zs:=by exact rfl) (hzl:Nat.beq zs.length size=true:=by exact rfl) (hsm:Nat.ble (len*size) 16777216=true:=by exact rfl) (hps:Nat.beq (len*size) 0=false:=by exact rfl)
    (hb:Bld env (rowPl len size) (rowZ zs (len*size)) parts.toList cs:=by (repeat (first | exact Bld.nil | (apply Bld.one;exact rfl;(conv=>lhs;whnf);exact rfl;(repeat (first | exact PutL.nil | apply PutL.skip | apply PutL.cons))) | (apply Bld.agg;exact rfl;exact rfl;exact rfl;(repeat (first | exact PutL.nil | apply PutL.skip | apply PutL.cons))))))
    (k:∀ b w',Only [] w w'→w.heap.size≤b→St w' D0 ((b,.cells cs.toArray e,false) :: H) w'→XS Tryz.prog ops QE n rest (updO env d (.slice (some ⟨b,0,none⟩) len len)) w'):XS Tryz.prog ops QE n (⟨d,.buildSlice t len parts,ty,pos,aft,g⟩ :: rest) env w :=
  xs_buildSlice tabOk hw hsl hz hzl hsm hps hb hs fun b w' _ h=>k b w' (hs.new0 h) h.new1 (h.new2 hf)
theorem St.put1 (hs:St w D0 H w) {H':List Ent} {b:Nat} {w':World} (h:St w D0 H' w') (hb:∀ e∈H',e.1=b∨e∈H) (hf:oldE H'=H'):Only [b] w w'∧St w' D0 H' w':=by
  refine ⟨h.onlyF [b] (fun e he=>?_) (by simp [D0]),?_⟩
  · rcases hb e he with q | q
    · exact .inr (.inl (by simp [q]))
    · exact .inr (.inr (hs.hold e q))
  · have h1:=h.rebase
    unfold oldE at hf
    rw [hf] at h1
    exact h1
theorem At.others {b:Nat} {o:Obj} {nw:Bool} {f:Obj→List Ent} (h:At H b o nw f) (o':Obj):∀ e∈f o',e.1=b∨e∈H:=by
  induction h with
  | head =>
    intro e he
    rcases List.mem_cons.1 he with rfl | he
    · exact .inl rfl
    · exact .inr (List.mem_cons_of_mem _ he)
  | tail _ ih =>
    intro e he
    rcases List.mem_cons.1 he with rfl | he
    · exact .inr List.mem_cons_self
    · rcases ih e he with q | q
      · exact .inl q
      · exact .inr (List.mem_cons_of_mem _ q)
theorem st1 {t b off:Nat} {x y:Operand} {cs cs':List Value} {E:TypeId} {nw:Bool} {f:Obj→List Ent} {v:Value} (hs:St w D0 H w) (ht:look t tab.tks=some (false,1):=by exact rfl) (hw:wantedE ops env g=true:=by exact rfl)
    (hp:ev env x = .pointer (some ⟨b,off,none⟩):=by exact rfl) (hv:ev env y=v:=by (conv=>lhs;whnf)) (h1:v.oneCell'=true:=by exact rfl) (hA:At H b (.cells cs.toArray E (0,0)) nw f:=by (repeat (first | exact At.head | (with_reducible apply At.tail)))) (hc:PutL cs off [v] cs':=by (repeat (first | exact PutL.nil | apply PutL.skip | apply PutL.cons))) (hf:oldE (f (.cells cs'.toArray E (0,0)))=f (.cells cs'.toArray E (0,0)):=by rfl)
    (k:∀ w',Only [b] w w'→St w' D0 (f (.cells cs'.toArray E (0,0))) w'→XS Tryz.prog ops QE n rest (updO env d undef) w'):XS Tryz.prog ops QE n (⟨d,.store t x y,ty,pos,aft,g⟩ :: rest) env w :=
  xs_store tabOk ht hw hp hv h1 hs hA hc fun w' h=>(fun q=>k w' q.1 q.2) (hs.put1 h (hA.others _) hf)
theorem stA1 {t b off m:Nat} {x y:Operand} {cs vs cs':List Value} {E:TypeId} {nw:Bool} {f:Obj→List Ent} (hs:St w D0 H w) (ht:look t tab.tks=some (true,m):=by exact rfl) (hw:wantedE ops env g=true:=by exact rfl)
    (hp:ev env x = .pointer (some ⟨b,off,none⟩):=by exact rfl) (hv:ev env y = .agg vs.toArray:=by exact rfl) (hm:Nat.beq vs.length m=true:=by exact rfl) (h1:vs.all Value.oneCell'=true:=by exact rfl) (hA:At H b (.cells cs.toArray E (0,0)) nw f:=by (repeat (first | exact At.head | (with_reducible apply At.tail)))) (hc:PutL cs off vs cs':=by (repeat (first | exact PutL.nil | apply PutL.skip | apply PutL.cons))) (hf:oldE (f (.cells cs'.toArray E (0,0)))=f (.cells cs'.toArray E (0,0)):=by rfl)
    (k:∀ w',Only [b] w w'→St w' D0 (f (.cells cs'.toArray E (0,0))) w'→XS Tryz.prog ops QE n rest (updO env d undef) w'):XS Tryz.prog ops QE n (⟨d,.store t x y,ty,pos,aft,g⟩ :: rest) env w :=
  xs_storeA tabOk ht hw hp hv hm h1 hs hA hc fun w' h=>(fun q=>k w' q.1 q.2) (hs.put1 h (hA.others _) hf)
theorem dr1 (E:List Nat) {id:Nat} {ops:Array Oper} (hs:St w D0 H w) (hX:XH ops E QE n:=by exact ⟨by kernel_rfl,by kernel_rfl,by kernel_rfl,by (repeat (first | (with_reducible exact nop_ret) | (with_reducible apply nop_then) | (with_reducible apply nop_block) | (with_reducible apply nop_loop) | (with_reducible apply nop_loopS) | (with_reducible apply nop_cutB) | (with_reducible apply nop_cutN)))⟩) (hf:oldE H=H:=by rfl)
    (k:XH ops E QE n→∀ w',Only [] w w'→St w' D0 H w'→XA Tryz.prog ops E H QE n ops.size (Array.replicate ops.size false) env w'):XC Tryz.prog QE n (.region id ops true) env w :=
  dr E hs hX fun hX w' h=>k hX w' (h.onlyF [] (fun e he => .inr (.inr (hs.hold e he))) (by simp [D0])) (by
    have h1:=h.rebase
    unfold oldE at hf
    rw [hf] at h1
    exact h1)
end
end Go.Proofs.YtalffooghioekaaGreatDoorX

namespace Go.Proofs.YtalffooghioekaaGreatDoorX
open Go Go.RowKit
end Go.Proofs.YtalffooghioekaaGreatDoorX

namespace Go.Proofs.YtalffooghioekaaGreatDoorX
namespace FL
structure F1 where
  w:Rat
  x:Rat
  e:Rat
def lag (V:Rat) (k:F1):Rat:=k.w*V - k.x
end FL
end Go.Proofs.YtalffooghioekaaGreatDoorX

namespace Go.Proofs.YtalffooghioekaaGreatDoorX
open IB (IT)
open FL
/-! A set in memory. -/
end Go.Proofs.YtalffooghioekaaGreatDoorX

namespace Go.Proofs.YtalffooghioekaaGreatDoorX
open IB (IT)
open FL
/-! Where a position is that was moved. -/
end Go.Proofs.YtalffooghioekaaGreatDoorX

namespace Go.Proofs.YtalffooghioekaaGreatDoorX
open IB (IT)
open FL
/-! A core. -/
end Go.Proofs.YtalffooghioekaaGreatDoorX

namespace Go.Proofs.YtalffooghioekaaGreatDoorX
open IB (IT)
open FL
/-! What the laws ask. -/
end Go.Proofs.YtalffooghioekaaGreatDoorX

namespace Go.Proofs.YtalffooghioekaaGreatDoorX
open Go Go.RowKit
end Go.Proofs.YtalffooghioekaaGreatDoorX

namespace Go.Proofs.YtalffooghioekaaGreatDoorX
open Go Go.RowKit
def Tied (k:Int) (x:Tk) (a:RT):Prop:=x.id=idR a∧x.core=k∧x.st=(if a.1.asleep=true then 2 else 1)∧x.w=a.1.i.p.w∧x.slice=a.1.slice
structure Ties (t:List Tk) (k:Int) (l:List RT) (G E:List Int):Prop where
  fwd:∀ a∈l,∃ x∈liveT t,Tied k x a
  bwd:∀ x∈liveT t,compT x=true→x.core=k→x.id∉E→(∃ a∈l,idR a=x.id)∨x.id∈G
  gone:∀ i∈G,(∀ a∈l,idR a≠i)∧∃ x∈liveT t,x.id=i∧x.core=k
theorem absorb_t (s:Ch) (k:Int) (r:Rp):(absorbY s k r).s=(r.g.foldl (absG k) ⟨s.s,s.ev ++ r.p.map (evP k)⟩).s:=by
  unfold absorbY
  obtain ⟨e1,e2⟩:=absP_s k r.p s
  rw [show r.p.foldl (absP k) s=⟨s.s,s.ev ++ r.p.map (evP k)⟩ by rw [← e1,← e2]]
end Go.Proofs.YtalffooghioekaaGreatDoorX

namespace Go.Proofs.YtalffooghioekaaGreatDoorX
open Go Go.RowKit
structure InvE (s:Sy) (E:Int→List Int):Prop where
  ok:OkY s
  ids:IdsOk 0 s.t
  rep:RepY s
  inv:∀ c∈s.k,InvC c
  tie:∀ k:Nat,k < s.k.length→Ties s.t k (coreY s k).A.l [] (E k)
abbrev InvY (s:Sy):Prop:=InvE s fun _=>[]
theorem coreY_mem {s:Sy} {k:Nat} (hk:k < s.k.length):coreY s k∈s.k:=by
  show s.k.getD k (newC 0)∈s.k
  rw [List.getD_eq_getElem?_getD,List.getElem?_eq_getElem hk]
  exact List.getElem_mem hk
end Go.Proofs.YtalffooghioekaaGreatDoorX

namespace Go.Proofs.YtalffooghioekaaGreatDoorX
open Go Go.RowKit
end Go.Proofs.YtalffooghioekaaGreatDoorX

namespace Go.Proofs.YtalffooghioekaaGreatDoorX
open Go Go.RowKit
theorem u32_rng (x:Int):U32 (IntKind.u32.wrap x):=by rw [wrap_u32];unfold U32;omega
theorem spawn_bad1 {s:Ch} {core w ns:Int} (c:spawnYE s.s core w ns≠0):spawnY s core w ns=(spawnYE s.s core w ns,0,s):=if_pos c
theorem spawn_bad2 {s:Ch} {core w ns:Int} (c1:¬ spawnYE s.s core w ns≠0) (c:addE s.s.t (newTY core w ns)≠0):spawnY s core w ns=(addE s.s.t (newTY core w ns),0,s):=by unfold spawnY;rw [if_neg c1,if_pos c]
def spawnJ (s:Ch) (core w ns:Int):Int × Ch:=joinY ⟨{ s.s with t:=addT s.s.t (newTY core w ns) },s.ev⟩ { newTY core w ns with id:=addI s.s.t (newTY core w ns) } 0
theorem spawn_go {s:Ch} {core w ns:Int} (c1:¬ spawnYE s.s core w ns≠0) (c:¬ addE s.s.t (newTY core w ns)≠0):spawnY s core w ns=if (spawnJ s core w ns).1=0 then (0,addI s.s.t (newTY core w ns),(spawnJ s core w ns).2) else ((spawnJ s core w ns).1,0,s):=by unfold spawnY;rw [if_neg c1,if_neg c];rfl
end Go.Proofs.YtalffooghioekaaGreatDoorX

namespace Go.Proofs.YtalffooghioekaaGreatDoorX
open Go Go.RowKit
def lowP (m:Int) (a:RT):Bool:=decide (a.1.left < m)
def under (m:Int) (l:List RT):Nat:=(l.filter (lowP m)).length
end Go.Proofs.YtalffooghioekaaGreatDoorX

namespace Go.Proofs.YtalffooghioekaaGreatDoorX
open Go Go.RowKit
theorem check_ok {c:Cf} (h:checkF c=0):1≤c.cores∧c.cores≤8∧1≤c.tasks∧c.tasks≤32∧1≤c.tick∧c.tick≤1099511627776∧1≤c.slice∧c.slice≤1099511627776:=by
  unfold checkF at h
  split at h
  · cases h
  · rename_i k
    unfold allE at h
    have w:∀ {n e:Int},withinE n e≠0∨(1≤n∧n≤e):=fun {n e}=>by
      unfold withinE
      split
      · exact .inl (by decide)
      · exact .inr (by omega)
    split at h
    · rename_i q;exact absurd h q
    · rename_i q1
      unfold allE at h
      split at h
      · rename_i q;exact absurd h q
      · rename_i q2
        unfold allE at h
        split at h
        · rename_i q;exact absurd h q
        · rename_i q3
          unfold allE at h
          split at h
          · rename_i q;exact absurd h q
          · rename_i q4
            have r1:=(w (n:=c.cores) (e:=8)).resolve_left q1
            have r2:=(w (n:=c.tasks) (e:=32)).resolve_left q2
            have r3:=(w (n:=c.tick) (e:=1099511627776)).resolve_left q3
            have r4:=(w (n:=c.slice) (e:=1099511627776)).resolve_left q4
            omega
theorem coreY_rep {s:Sy} {n:Nat} {c:Cs} (h:s.k=List.replicate n c) {k:Nat} (hk:k < s.k.length):coreY s k=c:=by
  have:=coreY_mem hk
  rw [h] at this
  exact (List.mem_replicate.1 this).2
theorem inv_new {c:Cf} (hc:c.In) (h:checkF c=0):InvY (newSy c):=by
  have k:=check_ok h
  refine ⟨⟨hc,k.1,k.2.1,?_,fun x hx=>?_,?_⟩,IdsOk.rep _ _,fun d hd=>?_,fun d hd=>?_,fun i hi=>?_⟩
  · show ((List.replicate c.cores.toNat (newC c.origin)).length:Int)=c.cores
    rw [List.length_replicate];omega
  · obtain rfl:=(List.mem_replicate.1 hx).2
    exact OkR.zero _
  · show (List.replicate (sizeT c.tasks) Tk.zero).length≤32
    rw [List.length_replicate];unfold sizeT;omega
  · obtain rfl:=(List.mem_replicate.1 hd).2
    exact ⟨_,Rep.new _⟩
  · obtain rfl:=(List.mem_replicate.1 hd).2
    exact InvC.new _
  · rw [coreY_rep (s:=newSy c) rfl hi]
    refine ⟨fun a ha=>(by cases ha),fun x hx=>?_,fun i hi=>(by cases hi)⟩
    obtain ⟨h1,j,hj⟩:=mem_live hx
    obtain rfl:=(List.mem_replicate.1 (List.mem_of_getElem? hj)).2
    exact absurd rfl h1
theorem within_lo {n e:Int} (h:¬ withinE n e≠0):1≤n∧n≤e:=by
  unfold withinE at h
  split at h
  · exact absurd (by decide) h
  · omega
end Go.Proofs.YtalffooghioekaaGreatDoorX

namespace Go.Proofs.YtalffooghioekaaGreatDoorX
open Go Go.RowKit
theorem absG_k (k:Int):∀ (G:List Gn) (s:Ch),(G.foldl (absG k) s).s.k=s.s.k∧(G.foldl (absG k) s).s.cf=s.s.cf
  | [],_=>⟨rfl,rfl⟩
  | g :: G,s=>absG_k k G (absG k s g)
theorem absorb_k (s:Ch) (k:Int) (r:Rp):(absorbY s k r).s.k=s.s.k∧(absorbY s k r).s.cf=s.s.cf:=by
  rw [absorb_t]
  exact absG_k k _ _
theorem coreY_k {s s':Sy} (h:s'.k=s.k) (j:Int):coreY s' j=coreY s j:=by unfold coreY;rw [h]
theorem coreY_ne {s:Sy} {k:Int} {j:Nat} (h0:0≤k) (h:(j:Int)≠k) (c:Cs):coreY (setKY s k c) j=coreY s j:=by
  unfold coreY setKY
  show (s.k.set k.toNat c).getD j (newC 0)=s.k.getD j (newC 0)
  rw [List.getD_eq_getElem?_getD,List.getD_eq_getElem?_getD,List.getElem?_set,if_neg (by omega)]
end Go.Proofs.YtalffooghioekaaGreatDoorX

namespace Go.Proofs.YtalffooghioekaaGreatDoorX
open Go Go.RowKit
attribute [local irreducible] XS XC XA thenE blockE retE loopE loopS cutB cutN doneE SE
structure Af (w0 w:World) (hb sb tb rb:Nat) (v ve:Value) (s':Ch) (L L':List Ce) (G Ge:List Nat) (rv:Value) (rp:Rp):Prop where
  p:RvAt w rv rp
  c:ChOpn w hb sb tb rb v ve s' L' G Ge
  f:∀ k∈chF hb sb tb rb L' G Ge,k∈chF hb sb tb rb L G Ge∨w0.heap.size≤k
  o:Only (chF hb sb tb rb L G Ge) w0 w
theorem RvAt.keepT {w w':World} {rv:Value} {r:Rp} {F:List Nat} (h:RvAt w rv r) (ho:Only F w w') (hF:∀ b∈F,∃ cs ty fz,w.heap[b]?=some (.cells cs ty fz)∧ty≠197∧ty≠195):RvAt w' rv r:=by
  obtain ⟨vg,vp,Gg,Gp,rfl,p1,p2⟩:=h
  exact ⟨vg,vp,Gg,Gp,rfl,p1.keep ho (fun k hk hm=>by obtain ⟨cs,ty,fz,a,b,c⟩:=hF k hm;exact slv_ne p1 a b hk),p2.keep ho (fun k hk hm=>by obtain ⟨cs,ty,fz,a,b,c⟩:=hF k hm;exact slv_ne p2 a c hk)⟩
theorem Af.keep {w0 w w':World} {hb sb tb rb:Nat} {v ve:Value} {s':Ch} {L L':List Ce} {G Ge:List Nat} {rv:Value} {rp:Rp} (h:Af w0 w hb sb tb rb v ve s' L L' G Ge rv rp) (ho:Only [] w w'):Af w0 w' hb sb tb rb v ve s' L L' G Ge rv rp :=
  ⟨h.p.keepT ho (by simp),h.c.only ho,h.f,h.o.step ho (by simp)⟩
theorem ChOpn.keepN {w w':World} {hb sb tb rb:Nat} {v ve:Value} {s:Ch} {L:List Ce} {G Ge F:List Nat} (h:ChOpn w hb sb tb rb v ve s L G Ge) (ho:Only F w w') (hF:∀ b∈F,∃ cs ty fz,w.heap[b]?=some (.cells cs ty fz)∧okH (.cells cs ty fz)=true):ChOpn w' hb sb tb rb v ve s L G Ge:=by
  have hd:∀ k∈chF hb sb tb rb L G Ge,k∉F:=fun k hk hm=>by
    obtain ⟨cs,ty,fz,a,b⟩:=hF k hm
    exact h.at.not a b hk
  exact ⟨ho.block h.h (hd _ (by simp [chF])),h.s.keepD ho (fun k hk=>hd k (by simp only [chF,List.mem_cons,List.mem_append] at hk ⊢;exact .inr (.inl hk))),h.e.keep ho (fun k hk=>hd k (by simp [chF,hk]))⟩
theorem Af.store {w0 w w':World} {hb sb tb rb:Nat} {v ve:Value} {s':Ch} {L L':List Ce} {G Ge:List Nat} {rv:Value} {rp:Rp} (h:Af w0 w hb sb tb rb v ve s' L L' G Ge rv rp) {b:Nat} {cs:Array Value} {ty:Nat} {fz:Nat × Nat} (ho:Only [b] w w') (hb':w.heap[b]?=some (.cells cs ty fz)) (h1:okH (.cells cs ty fz)=true) (h2:ty≠197) (h3:ty≠195) (h4:w0.heap.size≤b):Af w0 w' hb sb tb rb v ve s' L L' G Ge rv rp :=
  ⟨h.p.keepT ho (fun k hk=>by obtain rfl:=List.mem_singleton.1 hk;exact ⟨cs,ty,fz,hb',h2,h3⟩),h.c.keepN ho (fun k hk=>by obtain rfl:=List.mem_singleton.1 hk;exact ⟨cs,ty,fz,hb',h1⟩),h.f,h.o.step ho (fun k hk => .inr (by obtain rfl:=List.mem_singleton.1 hk;exact h4))⟩
theorem core_done {w0 w w':World} {hb sb tb rb:Nat} {v ve:Value} {s:Ch} {L:List Ce} {G Ge:List Nat} {n:Nat} {e:Ce} {rv:Value} {er:Int} {c1:Cs} {r1:Rp} (hO:ChOpn w hb sb tb rb v ve s L G Ge) (he:L[n]?=some e) (T:Told18 w e.cb e.F rv er e.c c1 r1 w') (hw:Only [] w0 w) :
    ∃ L',Af w0 w' hb sb tb rb v ve ⟨setKY s.s n (tryC e.c er c1),s.ev⟩ L L' G Ge rv (tryR er c1 r1):=by
  obtain ⟨hRv,⟨F',hC',hF'⟩,hoT⟩:=T
  obtain ⟨_,_,_,_,_,hcb,_⟩:=(hO.s.c.c e (List.mem_of_getElem? he)).opn
  obtain ⟨L',h1,h2⟩:=SyAt.put hO.s (k:=(n:Int)) (by rw [Int.toNat_natCast];exact he) hC' hF' hoT
  have n1:hb≠e.cb:=blocks_ne hO.h hcb (by decide)
  have hz:=hw.size
  have hcm:e.cb∈sb :: tb :: rb :: (G ++ allF L):=by
    simp only [List.mem_cons,List.mem_append]
    exact .inr (.inr (.inr (.inr (mem_allF.2 ⟨e,List.mem_of_getElem? he,(hO.s.c.c e (List.mem_of_getElem? he)).mem⟩))))
  refine ⟨L',hRv,⟨hoT.block hO.h (by simpa using n1),h1,hO.e.keep hoT fun k hk hm=>by obtain rfl:=List.mem_singleton.1 hm;exact slv_ne hO.e hcb (by decide) hk⟩,fun k hk=>?_,(hw.weaken (by simp)).step hoT fun k hk => .inl ?_⟩
  · simp only [chF,List.mem_cons,List.mem_append] at hk ⊢
    rcases hk with hk | hk | hk
    · exact .inl (.inl hk)
    · rcases h2 k (by simp only [List.mem_cons,List.mem_append];exact hk) with q | q
      · simp only [List.mem_cons,List.mem_append] at q
        exact .inl (.inr (.inl q))
      · exact .inr (by omega)
    · exact .inl (.inr (.inr hk))
  · obtain rfl:=List.mem_singleton.1 hk
    simp only [chF,List.mem_cons,List.mem_append] at hcm ⊢
    exact .inr (.inl hcm)
theorem ChOpn.notT {w:World} {hb sb tb rb:Nat} {v ve:Value} {s:Ch} {L:List Ce} {G Ge:List Nat} (h:ChOpn w hb sb tb rb v ve s L G Ge) {b:Nat} {cs:Array Value} {fz:Nat × Nat} (h1:w.heap[b]?=some (.cells cs 51 fz)) (hne:b≠rb):b∉chF hb sb tb rb L G Ge:=fun hm=>by
  obtain ⟨cap,rest,a1,a2,_⟩:=h.s.t
  simp only [chF,List.mem_cons,List.mem_append] at hm
  rcases hm with rfl | (rfl | rfl | rfl | hm | hm) | hm
  · exact blocks_ne h1 h.h (by decide) rfl
  · exact blocks_ne h1 h.s.o (by decide) rfl
  · exact blocks_ne h1 a1 (by decide) rfl
  · exact hne rfl
  · exact slv_ne h.s.c.a h1 (by decide) hm
  · obtain ⟨x,hx,hk⟩:=mem_allF.1 hm
    exact (h.s.c.c x hx).not h1 rfl hk
  · exact slv_ne h.e h1 (by decide) hm
theorem chF_step {w0 w1:World} {F F1 F2:List Nat} (h:∀ k∈F1,k∈F∨w0.heap.size≤k) (h2:∀ k∈F2,k∈F1∨w1.heap.size≤k) (hz:w0.heap.size≤w1.heap.size):∀ k∈F2,k∈F∨w0.heap.size≤k:=fun k hk=>by
  rcases h2 k hk with q | q
  · exact h k q
  · exact .inr (by omega)
abbrev taskO (x:Tk):Obj := .cells #[.int .i64 x.id,.int .u8 x.st,.int .i64 x.core,.int .u32 x.w,.int .u64 x.slice,.int .i64 x.lag] 51 (0,0)
end Go.Proofs.YtalffooghioekaaGreatDoorX

namespace Go.Proofs.YtalffooghioekaaGreatDoorX
open Go Go.RowKit
attribute [local irreducible] XS XC XA thenE blockE retE loopE loopS cutB cutN doneE SE
def LeftE (w0:World) (hb:Nat) (e:Int) (s:Ch) (F:List Nat) (w':World):Prop:=(e=0→∃ F',ChAt w' hb s F'∧∀ k∈F',k∈F∨w0.heap.size≤k)∧Only F w0 w'
theorem join18_ret (cb:Nat) (c:Cs) (F:List Nat) (id q ns lag:Int) (w0:World) (h:CAt w0 cb c F) (hid:In64 id) (hq:U32 q) (hns:U64 ns) (hlag:In64 lag) :
    Ret Tryz.prog 127 #[.pointer (some ⟨cb,0,none⟩),.int .i64 id,.int .u32 q,.int .u64 ns,.int .i64 lag] w0 fun v w'=>∃ rv,v = .tuple #[rv,.int .i64 (joinC c id q ns lag).1]∧Told18 w0 cb F rv (joinC c id q ns lag).1 c (joinC c id q ns lag).2 .none w':=join_ret cb c F id q ns lag w0 h hid hq hns hlag
theorem ChOpn.place {w:World} {hb sb tb rb:Nat} {v ve:Value} {s:Ch} {L:List Ce} {G Ge:List Nat} (hO:ChOpn w hb sb tb rb v ve s L G Ge) {x:Tk} (hx:OkR s.s.cf.cores x) (hn:x.st≠0):∃ (n:Nat) (e:Ce) (g cap:Nat) (cur:List Value),x.core=n∧n < s.s.k.length∧L[n]?=some e∧CAt w e.cb e.c e.F∧coreY s.s n=e.c∧v = .slice (some ⟨g,0,none⟩) L.length cap∧w.heap[g]?=some (.cells cur.toArray tyCp (0,0))∧cur[n]?=some (.pointer (some ⟨e.cb,0,none⟩))∧L.length=s.s.k.length∧RepC e.c∧∃ a r k,w.heap[e.cb]?=some (coreO a r k):=by
  obtain ⟨n,hxn,hlt⟩:=hO.s.ok.at hx hn
  obtain ⟨e,he,hC,hce⟩:=hO.s.c.at hlt
  obtain ⟨g,cap,cur,hv,hg,hcur⟩:=hO.s.c.ptr he
  obtain ⟨_,_,_,_,_,hcb,_⟩:=hC.opn
  exact ⟨n,e,g,cap,cur,hxn,hlt,he,hC,hce.symm,hv,hg,hcur,hO.s.c.len,hC.repS,_,_,_,hcb⟩
set_option maxHeartbeats 32000000 in
theorem hjoin_ret (hb:Nat) (s:Ch) (F:List Nat) (x:Tk) (lag:Int) (w0:World) (h:ChAt w0 hb s F) (hx:OkR s.s.cf.cores x) (hn:x.st≠0) (hlag:In64 lag) (hl:s.ev.length≤1000000) :
    Ret Tryz.prog 78 #[.pointer (some ⟨hb,0,none⟩),tkv x,.int .i64 lag] w0 fun v w'=>v = .int .i64 (joinY s x lag).1∧LeftE w0 hb (joinY s x lag).1 (joinY s x lag).2 F w':=by
  obtain ⟨sb,tb,rb,v,ve,L,G,Ge,rfl,hO⟩:=h.opn
  obtain ⟨n,e,g,cap,cur,hxn,hlt,he,hC,hce,rfl,hg,hcur,hLl,hR,_,_,_,hcb⟩:=hO.place hx hn
  have hxi:=hx.1
  have hxw:=hx.2.2.2.1
  have hxs:=hx.2.2.2.2.1
  have eL:joinY s x lag=if (joinC (coreY s.s x.core) x.id x.w x.slice lag).1=0 then (0,absorbY ⟨setKY s.s x.core (tryC (coreY s.s x.core) (joinC (coreY s.s x.core) x.id x.w x.slice lag).1 (joinC (coreY s.s x.core) x.id x.w x.slice lag).2),s.ev⟩ x.core (tryR (joinC (coreY s.s x.core) x.id x.w x.slice lag).1 (joinC (coreY s.s x.core) x.id x.w x.slice lag).2 .none)) else ((joinC (coreY s.s x.core) x.id x.w x.slice lag).1,s):=rfl
  rw [hxn,hce] at eL
  rw [eL]
  obtain ⟨xi,xt,xc,xw,xsl,xl⟩:=x
  simp only at hxn hxi hxs hxw
  subst hxn
  simp only
  have hs:=(((St.nil w0).trackT hg).trackT hO.s.o).trackT hO.h
  refine ret_of_xc Tryz.func78 (by kernel_rfl) rfl Tryz.ntmps78 rfl rfl rfl ?_
  refine xc_seq ?_
  refine xc_region ?_ ?_;exact rfl
  refine bx1 hs (k:=?_);clear hs;intro b3 w1 ho1 z1 hs
  repeat' (first|refine vs (k:=?_)|refine Nx.h ?_|fail)
  have hkl:GoneIn (tryR (joinC e.c xi xw xsl lag).1 (joinC e.c xi xw xsl lag).2 .none):=GoneIn.none.try (repC_join hR xi xw xsl lag)
  have hkn:=tryR_len (e:=(joinC e.c xi xw xsl lag).1) (r1 := .none) (repC_join hR xi xw xsl lag)
  generalize hrp:tryR (joinC e.c xi xw xsl lag).1 (joinC e.c xi xw xsl lag).2 .none=rp at hkl hkn
  refine xc_cutN (fun (y:Nat × Value × Value × List Ce)=>[(0,.pointer (some ⟨hb,0,none⟩)),(4,.pointer (some ⟨b3,0,none⟩)),(7,.pointer (some ⟨y.1,0,none⟩)),(8,.int .i64 (joinC e.c xi xw xsl lag).1)])
    (fun y w=>w.heap[b3]?=some (taskO ⟨xi,xt,n,xw,xsl,xl⟩)∧w.heap[y.1]?=some (repO y.2.1 y.2.2.1)∧Af w0 w hb sb tb rb (.slice (some ⟨g,0,none⟩) L.length cap) ve ⟨setKY s.s n (tryC e.c (joinC e.c xi xw xsl lag).1 (joinC e.c xi xw xsl lag).2),s.ev⟩ L y.2.2.2 G Ge (.agg #[y.2.1,y.2.2.1]) rp) ?_ ?_
  · refine dr1 [] hs (k:=?_);clear hs;intro hX w hoD hs
    have hoc:=ho1.trans hoD
    refine tk 0 hX (k:=?_)
    refine tk 1 hX (k:=?_)
    refine tk 2 hX (k:=?_)
    refine tk 3 hX (k:=?_)
    refine tk 4 hX (k:=?_)
    refine tk 5 hX (k:=?_)
    refine tk 6 hX (k:=?_)
    refine tk 7 hX (k:=?_)
    refine tk 8 hX (k:=?_)
    refine tk 9 hX (hr:=fun w' hH=>r_indexAddr tabOk rfl rfl rfl (by show (0:Int)≤(n:Int);omega) (by show (n:Int) < _;omega)) (k:=?_)
    refine tk 10 hX (hr:=fun w' hH=>r_load tabOk rfl rfl (hH rfl) (by repeat (first | exact At.head | (with_reducible apply At.tail))) (by simpa using hcur)) (k:=?_)
    refine tk 11 hX (k:=?_)
    refine tk 12 hX (k:=?_)
    refine tk 13 hX (k:=?_)
    refine tk 14 hX (k:=?_)
    refine tk 15 hX (k:=?_)
    refine tk 16 hX (k:=?_)
    refine tk 17 hX (k:=?_)
    refine xa_do2 18 22 hX (h1:=?_) (h2:=?_)
    · skip
      (with_reducible apply xs_call);exact rfl;exact rfl;exact join18_ret e.cb e.c e.F xi xw xsl lag _ (hC.only hoc) hxi hxw hxs hlag
      rintro v1 w2 ⟨rv,rfl,T⟩
      have hf:=T.form
      rw [hrp] at hf
      obtain ⟨ag,cg,ap,cp,rfl⟩:=hf
      obtain ⟨L',hA⟩:=core_done (hO.only hoc) he T hoc
      rw [hrp] at hA
      replace hs:=hs.past T.2.2 (fun k hk=>by obtain rfl:=List.mem_singleton.1 hk;exact hs.notin (hoc.block hcb (by simp)))
      refine XS.nil ?_
      refine dn (k:=?_)
      refine tk 19 hX (k:=?_)
      refine tk 20 hX (k:=?_)
      refine tk 21 hX (k:=?_)
      refine dt 22 hX (k:=?_)
      refine al1 hs (k:=?_);clear hs;intro b6 w6 ho6 z6 hs
      have y6:w0.heap.size≤b6:=Nat.le_trans (Only.size hA.o) z6
      replace hA:=hA.keep ho6
      refine XS.nil ?_
      refine dn (k:=?_)
      refine dt 23 hX (k:=?_)
      have q6:=hs.get (b:=b6) (by repeat (first | exact At.head | (with_reducible apply At.tail)))
      refine stA1 hs (k:=?_);clear hs;intro w21 ho21 hs
      replace hA:=hA.store ho21 q6 rfl (by decide) (by decide) y6
      refine XS.nil ?_
      refine dn (k:=?_)
      refine tk 24 hX (k:=?_)
      refine en (k:=?_)
      have r3:=hs.get (b:=b3) (by repeat (first | exact At.head | (with_reducible apply At.tail)))
      have r6:=hs.get (b:=b6) (by repeat (first | exact At.head | (with_reducible apply At.tail)))
      exact cutN_normal (b6,.slice ag rp.g.length cg,.slice ap rp.p.length cp,L') (by (repeat (first | exact agree_nil | (apply agree_cons;exact rfl)))) ⟨r3,r6,hA⟩
    · skip
      refine al1 hs (k:=?_);clear hs;intro b6 w6 ho6 z6 hs
      have y6:w0.heap.size≤b6:=Nat.le_trans (Only.size hoc) z6
      replace hoc:=hoc.trans ho6
      refine XS.nil ?_
      refine dn (k:=?_)
      refine dt 18 hX (k:=?_)
      (with_reducible apply xs_call);exact rfl;exact rfl;exact join18_ret e.cb e.c e.F xi xw xsl lag _ (hC.only hoc) hxi hxw hxs hlag
      rintro v1 w2 ⟨rv,rfl,T⟩
      have hf:=T.form
      rw [hrp] at hf
      obtain ⟨ag,cg,ap,cp,rfl⟩:=hf
      obtain ⟨L',hA⟩:=core_done (hO.only hoc) he T hoc
      rw [hrp] at hA
      replace hs:=hs.past T.2.2 (fun k hk=>by obtain rfl:=List.mem_singleton.1 hk;exact hs.notin (hoc.block hcb (by simp)))
      refine XS.nil ?_
      refine dn (k:=?_)
      refine tk 19 hX (k:=?_)
      refine tk 20 hX (k:=?_)
      refine tk 21 hX (k:=?_)
      refine dt 23 hX (k:=?_)
      have q6:=hs.get (b:=b6) (by repeat (first | exact At.head | (with_reducible apply At.tail)))
      refine stA1 hs (k:=?_);clear hs;intro w21 ho21 hs
      replace hA:=hA.store ho21 q6 rfl (by decide) (by decide) y6
      refine XS.nil ?_
      refine dn (k:=?_)
      refine tk 24 hX (k:=?_)
      refine en (k:=?_)
      have r3:=hs.get (b:=b3) (by repeat (first | exact At.head | (with_reducible apply At.tail)))
      have r6:=hs.get (b:=b6) (by repeat (first | exact At.head | (with_reducible apply At.tail)))
      exact cutN_normal (b6,.slice ag rp.g.length cg,.slice ap rp.p.length cp,L') (by (repeat (first | exact agree_nil | (apply agree_cons;exact rfl)))) ⟨r3,r6,hA⟩
  · rintro ⟨b6,vg,vp,L'⟩ env w4 ⟨k3,k6,hA⟩
    simp only at k6 hA
    clear hs
    have hh4:=hA.c.h
    have hs:=(((St.nil w4).trackT k3).trackT k6).trackT hh4
    have hAp:=hA.p
    obtain ⟨_,_,_,_,evs,_,_⟩:=hA.p
    cases evs
    generalize joinC e.c xi xw xsl lag=J at *
    by_cases hJ:J.1=0
    · rw [if_pos hJ]
      rw [hJ] at hA ⊢
      repeat' (first|refine vs (k:=?_)|refine qRg ?_|refine Nx.h ?_|refine qCt ?_|fail)
      have hoq:=hs.onlyF [] (by simp [k3,k6,hh4]) (by simp [D0])
      (with_reducible apply xs_call);exact rfl;exact rfl;exact absorb_ret hb _ _ n _ rp _ (hA.c.only hoq).at (hAp.keepT hoq (by simp)) hkl (by show s.ev.length+rp.p.length+rp.g.length≤_;have:=hkn.1;have:=hkn.2;have e1:Rp.none.p.length=0:=rfl;have e2:Rp.none.g.length=0:=rfl;omega)
      rintro v5 w5 ⟨F5,hC5,hF5,ho5⟩
      have hz4:=hA.o.size
      have hoE:Only (chF hb sb tb rb L G Ge) w0 w5:=(hA.o.step hoq (by simp)).step ho5 hA.f
      have hFE:=chF_step hA.f hF5 (show w0.heap.size≤_ by omega)
      clear hs
      have hs:=St.nil w5
      repeat' (first|refine vs (k:=?_)|refine qRg ?_|refine Nx.h ?_|fail)
      first | refine rt (hq:=?_) | refine rt' (hq:=?_)
      have ho6:=hs.only0 rfl
      exact ⟨rfl,fun _=>⟨_,hC5.only ho6,hFE⟩,hoE.step ho6 (by simp)⟩
    · rw [if_neg hJ]
      repeat' (first|refine vs (k:=?_)|refine qRg ?_|refine Nx.h ?_|(refine xc_if rfl (fun hc=>?_) (fun hc=>?_))|fail)
      · exact absurd (by simpa using hc) hJ
      · first | refine rt (hq:=?_) | refine rt' (hq:=?_)
        have ho6:=hs.onlyF [] (by simp [k3,k6,hh4]) (by simp [D0])
        exact ⟨rfl,fun q=>absurd q hJ,hA.o.step ho6 (by simp)⟩
end Go.Proofs.YtalffooghioekaaGreatDoorX

namespace Go.Proofs.YtalffooghioekaaGreatDoorX
open Go Go.RowKit
attribute [local irreducible] XS XC XA thenE blockE retE loopE loopS cutB cutN doneE SE
theorem ptrs_snoc (L:List Ce) (e:Ce):ptrs (L ++ [e])=ptrs L ++ [.pointer (some ⟨e.cb,0,none⟩)]:=by simp [ptrs]
theorem allF_snoc (L:List Ce) (e:Ce):allF (L ++ [e])=allF L ++ e.F:=by simp [allF]
theorem CoresAt.none (w:World):CoresAt w (.slice none 0 0) [] [] []:=⟨.inl ⟨rfl,rfl,rfl,rfl⟩,rfl,fun x hx=>(by cases hx),fun i j x y hx=>(by simp at hx)⟩
theorem CoresAt.lt {w:World} {v:Value} {l:List Cs} {L:List Ce} {G:List Nat} (h:CoresAt w v l L G):∀ k∈G ++ allF L,k < w.heap.size:=fun k hk=>by
  rcases List.mem_append.1 hk with q | q
  · exact h.a.lt k q
  · obtain ⟨x,hx,q⟩:=mem_allF.1 q
    exact (h.c x hx).lt k q
theorem CoresAt.ap {w:World} {v:Value} {l:List Cs} {L:List Ce} {G:List Nat} (h:CoresAt w v l L G):∀ k∈allF L,k∉G:=fun k hk hm=>by
  obtain ⟨x,hx,q⟩:=mem_allF.1 hk
  obtain ⟨cs,hc⟩:=slv_at h.a k hm
  exact (h.c x hx).not hc rfl q
structure Making (w0 w:World) (sb tb rb:Nat) (cf:Cf) (t:List Tk) (l:List Cs) (v:Value) (L:List Ce) (G:List Nat):Prop where
  o:w.heap[sb]?=some (sysO tb cf v)
  t:TabAt w tb rb t
  c:CoresAt w v l L G
  f:∀ k∈sb :: tb :: rb :: (G ++ allF L),w0.heap.size≤k
  w:Only [] w0 w
theorem Making.keep {w0 w w':World} {sb tb rb:Nat} {cf:Cf} {t:List Tk} {l:List Cs} {v:Value} {L:List Ce} {G:List Nat} (h:Making w0 w sb tb rb cf t l v L G) (ho:Only [] w w'):Making w0 w' sb tb rb cf t l v L G :=
  ⟨ho.block h.o (by simp),h.t.only ho,h.c.keepD ho (by simp),h.f,h.w.trans ho⟩
theorem Making.grow {w0 w w1 w2:World} {sb tb rb:Nat} {cf:Cf} {t:List Tk} {l:List Cs} {v v':Value} {L:List Ce} {G G':List Nat} (h:Making w0 w sb tb rb cf t l v L G) {e:Ce} (hc:CAt w e.cb e.c e.F) (hd:∀ k∈e.F,k∉allF L) (hf:∀ k∈e.F,w0.heap.size≤k)
    (ha:SlV w1 tyCp 1 v' (L.length+1) (ptrs L ++ [.pointer (some ⟨e.cb,0,none⟩)]) G') (hG:∀ k∈G',k∈G∨w.heap.size≤k) (ho:Only G w w1) (ho2:Only [sb] w1 w2) (hsb:w2.heap[sb]?=some (sysO tb cf v')):Making w0 w2 sb tb rb cf t (l ++ [e.c]) v' (L ++ [e]) G':=by
  obtain ⟨cap,rest,a1,a2,_⟩:=h.t
  have hz:=h.w.size
  have n1:tb∉G:=fun hm=>slv_ne h.c.a a1 (by decide) hm
  have n2:rb∉G:=fun hm=>slv_ne h.c.a a2 (by decide) hm
  have n3:sb∉G:=fun hm=>slv_ne h.c.a h.o (by decide) hm
  have o1:=ho.block h.o n3
  have t1:=h.t.keep ho n1 n2
  have m1:sb≠tb:=blocks_ne h.o a1 (by decide)
  have m2:sb≠rb:=blocks_ne h.o a2 (by decide)
  have hcores:∀ x∈L,CAt w1 x.cb x.c x.F:=fun x hx=>(h.c.c x hx).keepD ho fun k hk=>h.c.ap k (mem_allF.2 ⟨x,hx,hk⟩)
  have hce:CAt w1 e.cb e.c e.F:=hc.keepD ho fun k hk hm=>by
    obtain ⟨cs,hcs⟩:=slv_at h.c.a k hm
    exact hc.not hcs rfl hk
  have hb:=lt_of_block h.o
  refine ⟨hsb,t1.keep ho2 (by simpa using Ne.symm m1) (by simpa using Ne.symm m2),?_,fun k hk=>?_,(h.w.step ho fun k hk => .inr (h.f k (by simp [hk]))).step ho2 fun k hk => .inr (by obtain rfl:=List.mem_singleton.1 hk;exact h.f _ (by simp))⟩
  · have nsb:∀ {x:Ce},CAt w1 x.cb x.c x.F→sb∉x.F:=fun {x} hx=>hx.not o1 rfl
    have c1:CoresAt w2 (.slice Option.none 0 0) l L []∨True := .inr trivial
    have base:CoresAt w2 v' (l ++ [e.c]) (L ++ [e]) G':=by
      refine ⟨?_,by rw [List.map_append,h.c.l];rfl,fun x hx=>?_,fun i j x y hx hy hne k hk hm=>?_⟩
      · rw [List.length_append,ptrs_snoc]
        exact ha.keep ho2 fun k hk hm=>by obtain rfl:=List.mem_singleton.1 hm;exact slv_ne ha o1 (by decide) hk
      · have hx1:CAt w1 x.cb x.c x.F:=by
          rcases List.mem_append.1 hx with q | q
          · exact hcores x q
          · obtain rfl:=List.mem_singleton.1 q;exact hce
        exact hx1.keepD ho2 fun k hk hm=>by obtain rfl:=List.mem_singleton.1 hm;exact nsb hx1 hk
      · rw [List.getElem?_append] at hx hy
        have one:∀ (a:Nat) (z:Ce),([e]:List Ce)[a]?=some z→a=0∧z=e:=fun a z hz=>by
          cases a with
          | zero=>cases hz;exact ⟨rfl,rfl⟩
          | succ a=>simp at hz
        split at hx
        · split at hy
          · exact h.c.d i j x y hx hy hne k hk hm
          · obtain ⟨_,rfl⟩:=one _ _ hy
            exact hd k hm (mem_allF.2 ⟨x,List.mem_of_getElem? hx,hk⟩)
        · obtain ⟨e1,rfl⟩:=one _ _ hx
          split at hy
          · exact hd k hk (mem_allF.2 ⟨y,List.mem_of_getElem? hy,hm⟩)
          · obtain ⟨e2,rfl⟩:=one _ _ hy
            omega
    exact base
  · have hf0:=h.f
    simp only [List.mem_cons,List.mem_append,allF_snoc] at hk hf0
    rcases hk with rfl | rfl | rfl | hk | hk | hk
    · exact hf0 _ (.inl rfl)
    · exact hf0 _ (.inr (.inl rfl))
    · exact hf0 _ (.inr (.inr (.inl rfl)))
    · rcases hG k hk with q | q
      · exact hf0 k (.inr (.inr (.inr (.inl q))))
      · omega
    · exact hf0 k (.inr (.inr (.inr (.inr hk))))
    · exact hf k hk
set_option maxHeartbeats 8000000 in
theorem syclone_ret (sb:Nat) (s:Sy) (F:List Nat) (w0:World) (h:SyAt w0 sb s F):Ret Tryz.prog 20 #[.pointer (some ⟨sb,0,none⟩)] w0 fun v w'=>(∃ sb' F',v = .pointer (some ⟨sb',0,none⟩)∧SyAt w' sb' s F'∧∀ k∈F',w0.heap.size≤k)∧Only [] w0 w':=by
  obtain ⟨tb,rb,vc,L,G,rfl,hO⟩:=h
  have h1:=hO.o
  have hs:=(St.nil w0).trackT h1
  have hlen:=hO.ok.len
  have hlo:=hO.ok.lo
  have hhi:=hO.ok.hi
  have hL:=hO.c.len
  have h0:0 < s.k.length:=by omega
  obtain ⟨x0,hx0,_,_⟩:=hO.c.at h0
  obtain ⟨g,cap,cur,rfl,hg,_⟩:=hO.c.ptr hx0
  have hcur:∀ (i:Nat) (x:Ce),L[i]?=some x→cur[i]?=some (.pointer (some ⟨x.cb,0,none⟩)):=fun i x hx=>by
    obtain ⟨g',cap',cur',e,hg',hc'⟩:=hO.c.ptr hx
    cases e
    rw [hg] at hg'
    simp only [Option.some.injEq,Obj.cells.injEq] at hg'
    have:=congrArg Array.toList hg'.1
    simp only at this
    rw [this];exact hc'
  refine ret_of_xc Tryz.func20 (by kernel_rfl) rfl Tryz.ntmps20 rfl rfl rfl ?_
  repeat' (first|refine vs (k:=?_)|refine qRg ?_|refine Nx.h ?_|refine qCf ?_|fail)
  refine dr [] hs (k:=?_);intro hX w hs
  refine tk 0 hX (k:=?_)
  refine tk 1 hX (k:=?_)
  refine tk 2 hX (k:=?_)
  refine tk 3 hX (k:=?_)
  refine tk 5 hX (k:=?_)
  refine tk 6 hX (k:=?_)
  refine tk 7 hX (k:=?_)
  refine tk 8 hX (k:=?_)
  refine dt 4 hX (k:=?_)
  have hoa:=hs.onlyF [] (by simp [h1]) (by simp [D0])
  (with_reducible apply xs_call);exact rfl;exact rfl;exact tclone_ret tb rb s.t _ (hO.t.only hoa)
  rintro v w1 ⟨⟨tb',rb',rfl,hT1,n1,n2,n3⟩,ho1⟩;replace hs:=hs.call0 ho1
  have hz1:=hoa.size
  have kq:=hs.get (b:=sb) (o:=sysO tb s.cf (.slice (some ⟨g,0,none⟩) L.length cap)) (by repeat (first | exact At.head | (with_reducible apply At.tail)))
  have hoA:=hs.onlyF [] (by simp [h1]) (by simp [D0])
  have hzA:=hoA.size
  clear hs
  have hs:=(St.nil w1).trackT kq
  repeat' (first|refine Nx.h ?_|fail)
  refine dn (k:=?_)
  refine tk 9 hX (k:=?_)
  refine dt 10 hX (k:=?_)
  refine bx hs (k:=?_);clear hs;intro sb' w2 hz2 hs
  refine XS.nil ?_
  have gsb:=hs.new _ List.mem_cons_self rfl
  simp only at gsb
  refine dn (k:=?_)
  refine tk 11 hX (k:=?_)
  refine en (k:=?_)
  repeat' (first|refine vs (k:=?_)|refine qRg ?_|refine Nx.h ?_|fail)
  have hoB:=hs.onlyF [] (by simp [kq]) (by simp [D0])
  have mk0:Making w0 _ sb' tb' rb' s.cf s.t [] (.slice none 0 0) [] []:=⟨hs.get (b:=sb') (by repeat (first | exact At.head | (with_reducible apply At.tail))),hT1.only hoB,CoresAt.none _,fun k hk=>by
    simp only [List.mem_cons,List.nil_append,show allF []=[] from rfl,List.not_mem_nil,or_false] at hk
    rcases hk with rfl | rfl | rfl <;> omega,hoA.trans hoB⟩
  refine xc_cutB (fun (_:Value × List Ce × List Nat)=>[(3,.pointer (some ⟨sb',0,none⟩))]) (fun y w=>Making w0 w sb' tb' rb' s.cf s.t s.k y.1 y.2.1 y.2.2) ?_ ?_
  · refine xc_loopS (fun (x:Nat × Value × List Ce × List Nat)=>[(3,.pointer (some ⟨sb',0,none⟩)),(22,.slice (some ⟨g,0,none⟩) L.length cap),(23,.int .i64 (L.length:Nat)),(24,.int .i64 (x.1:Nat))])
      (fun x w=>x.1≤L.length∧Making w0 w sb' tb' rb' s.cf s.t (s.k.take x.1) x.2.1 x.2.2.1 x.2.2.2) (fun x=>L.length - x.1) (0,.slice none 0 0,[],[]) (by (repeat (first | exact agree_nil | (apply agree_cons;exact rfl)))) ⟨Nat.zero_le _,mk0⟩ fun x env wl ⟨hi,hM⟩=>?_
    obtain ⟨i,v5,L5,G5⟩:=x
    simp only at hi hM
    clear hs
    have hgl:=hM.w.block hg (by simp)
    have hs:=((St.nil wl).trackT hgl).trackT hM.o
    repeat' (first|refine vs (k:=?_)|refine qRg ?_|refine Nx.h ?_|(refine xc_if rfl (fun hc=>?_) (fun hc=>?_))|fail)
    · have hlt:i < L.length:=by omega
      have hlt2:i < s.k.length:=by omega
      obtain ⟨x,hx,hC,hce⟩:=hO.c.at hlt2
      have ei:=nx64 (m:=L.length) hlt (by omega)
      have et:s.k.take (i+1)=s.k.take i ++ [x.c]:=by
        rw [take_next hlt2,hce,List.getD_eq_getElem?_getD,List.getElem?_eq_getElem hlt2];rfl
      have hL5:=hM.c.len
      rw [List.length_take] at hL5
      refine ix (h0:=(by omega)) (h1:=(by omega)) (k:=?_)
      refine lb (hc:=(by simpa using hcur i x hx)) (k:=?_)
      repeat' (first|refine vs (k:=?_)|refine Nx.h ?_|fail)
      refine dr [11] hs (k:=?_);intro hX w hs
      refine tk 0 hX (k:=?_)
      refine tk 1 hX (k:=?_)
      refine tk 2 hX (k:=?_)
      refine tk 3 hX (k:=?_)
      refine tk 4 hX (k:=?_)
      refine tk 5 hX (k:=?_)
      refine dt 6 hX (k:=?_)
      have hoc:=hs.onlyF [] (by simp [hgl,hM.o]) (by simp [D0])
      (with_reducible apply xs_call);exact rfl;exact rfl;exact cclone_ret x.cb x.c x.F _ (hC.only (hM.w.trans hoc))
      rintro v6 w6 ⟨⟨cb6,F6,rfl,hC6,hF6⟩,ho6⟩;replace hs:=hs.call0 ho6
      have hM6:=hM.keep (hs.onlyF [] (by simp [hgl,hM.o]) (by simp [D0]))
      have hz6:=(hM.w.trans hoc).size
      have hlt5:=hM.c.lt
      have hzc:=hoc.size
      have ksb:=hM6.o
      have kgl:=hM6.w.block hg (by simp)
      clear hs
      have hs:=((St.nil w6).trackT kgl).trackT ksb
      repeat' (first|refine Nx.h ?_|fail)
      refine dn (k:=?_)
      refine dt 7 hX (k:=?_)
      refine bs hs (k:=?_);clear hs;intro b7 w7 hz7 hs
      refine XS.nil ?_
      refine dn (k:=?_)
      refine dt 8 hX (k:=?_)
      have ho7:=hs.onlyF [] (by simp [ksb,kgl]) (by simp [D0])
      have hM7:=hM6.keep ho7
      have hz7':=ho7.size
      refine xs_appendW tabOk rfl rfl rfl rfl rfl rfl rfl (by decide) (lit_cells (news:=[.pointer (some ⟨cb6,0,none⟩)]) (hs.get At.head)) (by simp [Value.oneCell']) hM7.c.a (by omega) (by omega) ?_
      intro v8 w8 ⟨G8,hG8,hG8n⟩ ho8
      obtain ⟨a8,cp8,rfl⟩:=slv_form hG8
      have k8:=ho8.block (hs.get (b:=sb') (o:=sysO tb' s.cf v5) (by repeat (first | exact At.head | (with_reducible apply At.tail)))) (fun hm=>slv_ne hM7.c.a hM7.o (by decide) hm)
      have kg8:=ho8.block (ho7.block kgl (by simp)) (fun hm=>by
        have:=hM7.f g (by simp [hm])
        have:=lt_of_block hg
        omega)
      clear hs
      have hs:=((St.nil w8).trackT kg8).trackT k8
      refine XS.nil ?_
      refine dn (k:=?_)
      refine tk 9 hX (k:=?_)
      refine tk 10 hX (k:=?_)
      refine dt 11 hX (k:=?_)
      refine st hs (k:=?_);clear hs;intro w9 hs
      refine XS.nil ?_
      refine dn (k:=?_)
      refine en (k:=?_)
      repeat' (first|refine vs (k:=?_)|refine qRg ?_|refine Nx.h ?_|fail)
      have hG:Making w0 _ sb' tb' rb' s.cf s.t (s.k.take i ++ [x.c]) _ (L5 ++ [⟨cb6,x.c,F6⟩]) G8 :=
        hM7.grow (e:=⟨cb6,x.c,F6⟩) (hC6.only ho7) (fun k hk hm=>by
          have:=hF6 k hk
          have:=hlt5 k (List.mem_append_right _ hm)
          omega) (fun k hk=>by have:=hF6 k hk;omega) hG8 hG8n ho8 (hs.onlyF [sb'] (by simp [kg8]) (by simp [D0])) (hs.get (b:=sb') (by repeat (first | exact At.head | (with_reducible apply At.tail))))
      refine loopS_next (i+1,.slice a8 (L5.length+1) cp8,L5 ++ [⟨cb6,x.c,F6⟩],G8) (by show L.length - (i+1) < L.length - i;omega) (by (repeat (first | exact agree_nil | (apply agree_cons;first | exact rfl | exact congrArg (Value.int .i64) ei)))) ⟨by show i+1≤_;omega,?_⟩
      show Making w0 _ sb' tb' rb' s.cf s.t (s.k.take (i+1)) _ _ G8
      rw [et]
      exact hG
    · have e:i=s.k.length:=by omega
      subst e
      rw [List.take_length] at hM
      exact cutB_exit (v5,L5,G5) (by (repeat (first | exact agree_nil | (apply agree_cons;exact rfl)))) hM
  · rintro ⟨v5,L5,G5⟩ env w hM
    simp only at hM
    clear hs
    have hs:=St.nil w
    repeat' (first|refine vs (k:=?_)|refine qRg ?_|refine Nx.h ?_|fail)
    first | refine rt (hq:=?_) | refine rt' (hq:=?_)
    have hM2:=hM.keep (hs.only0 rfl)
    exact ⟨⟨sb',_,rfl,⟨tb',rb',v5,L5,G5,rfl,hM2.o,hM2.t,hM2.c,hO.ok⟩,hM2.f⟩,hM2.w⟩
set_option maxHeartbeats 8000000 in
theorem synew_ret (c:Cf) (hc0:c.In) (w0:World):Ret Tryz.prog 15 #[cfv c] w0 fun v w'=>((checkF c≠0∧v = .tuple #[.pointer none,.int .i64 (checkF c)])∨(checkF c=0∧∃ sb F,v = .tuple #[.pointer (some ⟨sb,0,none⟩),.int .i64 0]∧SyAt w' sb (newSy c) F∧∀ k∈F,w0.heap.size≤k))∧Only [] w0 w':=by
  have hs:=St.nil w0
  refine ret_of_xc Tryz.func15 (by kernel_rfl) rfl Tryz.ntmps15 rfl rfl rfl ?_
  refine xc_seq ?_
  refine xc_region ?_ ?_;exact rfl
  refine bx hs (k:=?_);clear hs;intro b1 w1 hz1 hs
  repeat' (first|refine vs (k:=?_)|refine qRg ?_|refine Nx.h ?_|fail)
  (with_reducible apply xs_call);exact rfl;exact rfl;exact check_ret c hc0 _
  by_cases e0:checkF c=0
  · have hck:=check_ok e0
    have hokY:=(inv_new hc0 e0).ok
    rw [e0]
    rintro v w' ⟨rfl,ho⟩;replace hs:=hs.call0 ho;repeat' (first|refine vs (k:=?_)|refine qRg ?_|refine Nx.h ?_|refine qCf ?_|fail)
    have g1:=hs.new (b1,true) (by simp) rfl
    simp only at g1
    refine dr [] hs (k:=?_);intro hX w hs
    refine tk 0 hX (k:=?_)
    refine tk 1 hX (k:=?_)
    refine tk 3 hX (k:=?_)
    refine dt 2 hX (k:=?_)
    have hoa:=hs.only0 rfl
    (with_reducible apply xs_call);exact rfl;exact rfl;exact tnew_ret c.tasks _
    rintro v w2 ⟨⟨tb',rb',rfl,hT1,n1,n2,n3⟩,ho1⟩;replace hs:=hs.call0 ho1
    have hz1:=hoa.size
    have kq:=hs.get (b:=b1) (by repeat (first | exact At.head | (with_reducible apply At.tail)))
    have hoA:=hs.only0 rfl
    have hzA:=hoA.size
    clear hs
    have hs:=(St.nil w2).trackT kq
    repeat' (first|refine Nx.h ?_|fail)
    refine dn (k:=?_)
    refine tk 4 hX (k:=?_)
    refine dt 5 hX (k:=?_)
    refine bx hs (k:=?_);clear hs;intro sb' w3 hz3 hs
    refine XS.nil ?_
    have gsb:=hs.new _ List.mem_cons_self rfl
    simp only at gsb
    refine dn (k:=?_)
    refine tk 6 hX (k:=?_)
    refine en (k:=?_)
    repeat' (first|refine vs (k:=?_)|refine qRg ?_|refine Nx.h ?_|fail)
    have hoB:=hs.onlyF [] (by simp [kq]) (by simp [D0])
    have kc:=hs.get (b:=b1) (by repeat (first | exact At.head | (with_reducible apply At.tail)))
    have mk0:Making w0 _ sb' tb' rb' c (List.replicate (sizeT c.tasks) .zero) [] (.slice none 0 0) [] []:=⟨hs.get (b:=sb') (by repeat (first | exact At.head | (with_reducible apply At.tail))),hT1.only hoB,CoresAt.none _,fun k hk=>by
      simp only [List.mem_cons,List.nil_append,show allF []=[] from rfl,List.not_mem_nil,or_false] at hk
      rcases hk with rfl | rfl | rfl <;> omega,hoA.trans hoB⟩
    obtain ⟨m,hm⟩:∃ m:Nat,c.cores=m:=⟨c.cores.toNat,by omega⟩
    rw [hm]
    refine xc_cutB (fun (_:Value × List Ce × List Nat)=>[(5,.pointer (some ⟨sb',0,none⟩))]) (fun y w=>Making w0 w sb' tb' rb' c (List.replicate (sizeT c.tasks) .zero) (List.replicate m (newC c.origin)) y.1 y.2.1 y.2.2) ?_ ?_
    · refine xc_loopS (fun (x:Nat × Value × List Ce × List Nat)=>[(1,.pointer (some ⟨b1,0,none⟩)),(5,.pointer (some ⟨sb',0,none⟩)),(18,.int .i64 (m:Nat)),(19,.int .i64 (x.1:Nat))])
        (fun x w=>x.1≤m∧w.heap[b1]?=some (.cells #[.int .i64 c.cores,.int .i64 c.tasks,.int .u64 c.tick,.int .u64 c.slice,.int .u64 c.origin] 24 (0,0))∧Making w0 w sb' tb' rb' c (List.replicate (sizeT c.tasks) .zero) (List.replicate x.1 (newC c.origin)) x.2.1 x.2.2.1 x.2.2.2) (fun x=>m - x.1) (0,.slice none 0 0,[],[]) (by (repeat (first | exact agree_nil | (apply agree_cons;exact rfl)))) ⟨Nat.zero_le _,kc,mk0⟩ fun x env wl ⟨hi,hB,hM⟩=>?_
      obtain ⟨i,v5,L5,G5⟩:=x
      simp only at hi hM
      clear hs
      have hs:=((St.nil wl).trackT hB).trackT hM.o
      repeat' (first|refine vs (k:=?_)|refine qRg ?_|refine Nx.h ?_|(refine xc_if rfl (fun hc=>?_) (fun hc=>?_))|fail)
      · have hlt:i < m:=by omega
        have ei:=nx64 (m:=m) hlt (by omega)
        have hL5:=hM.c.len
        rw [List.length_replicate] at hL5
        refine dr [12] hs (k:=?_);intro hX w hs
        refine tk 0 hX (k:=?_)
        refine tk 1 hX (k:=?_)
        refine tk 2 hX (k:=?_)
        refine tk 3 hX (k:=?_)
        refine tk 4 hX (k:=?_)
        refine tk 5 hX (k:=?_)
        refine tk 6 hX (k:=?_)
        refine dt 7 hX (k:=?_)
        have hoc:=hs.onlyF [] (by simp [hB,hM.o]) (by simp [D0])
        (with_reducible apply xs_call);exact rfl;exact rfl;exact cnew_ret c.origin hc0.2.2.2.2 _
        rintro v6 w6 ⟨⟨cb6,F6,rfl,hC6,hF6⟩,ho6⟩;replace hs:=hs.call0 ho6
        have hM6:=hM.keep (hs.onlyF [] (by simp [hB,hM.o]) (by simp [D0]))
        have hz6:=(hM.w.trans hoc).size
        have hlt5:=hM.c.lt
        have hzc:=hoc.size
        have ksb:=hM6.o
        have kB:=hs.get (b:=b1) (by repeat (first | exact At.head | (with_reducible apply At.tail)))
        clear hs
        have hs:=((St.nil w6).trackT kB).trackT ksb
        repeat' (first|refine Nx.h ?_|fail)
        refine dn (k:=?_)
        refine dt 8 hX (k:=?_)
        refine bs hs (k:=?_);clear hs;intro b7 w7 hz7 hs
        refine XS.nil ?_
        refine dn (k:=?_)
        refine dt 9 hX (k:=?_)
        have ho7:=hs.onlyF [] (by simp [ksb,kB]) (by simp [D0])
        have hM7:=hM6.keep ho7
        have hz7':=ho7.size
        refine xs_appendW tabOk rfl rfl rfl rfl rfl rfl rfl (by decide) (lit_cells (news:=[.pointer (some ⟨cb6,0,none⟩)]) (hs.get At.head)) (by simp [Value.oneCell']) hM7.c.a (by omega) (by omega) ?_
        intro v8 w8 ⟨G8,hG8,hG8n⟩ ho8
        obtain ⟨a8,cp8,rfl⟩:=slv_form hG8
        have k8:=ho8.block (hs.get (b:=sb') (o:=sysO tb' c v5) (by repeat (first | exact At.head | (with_reducible apply At.tail)))) (fun hm=>slv_ne hM7.c.a hM7.o (by decide) hm)
        have k9:=ho8.block (hs.get (b:=b1) (by repeat (first | exact At.head | (with_reducible apply At.tail)))) (fun hm=>slv_ne hM7.c.a (hs.get (b:=b1) (by repeat (first | exact At.head | (with_reducible apply At.tail)))) (by decide) hm)
        clear hs
        have hs:=((St.nil w8).trackT k9).trackT k8
        refine XS.nil ?_
        refine dn (k:=?_)
        refine tk 10 hX (k:=?_)
        refine tk 11 hX (k:=?_)
        refine dt 12 hX (k:=?_)
        refine st hs (k:=?_);clear hs;intro w9 hs
        refine XS.nil ?_
        refine dn (k:=?_)
        refine en (k:=?_)
        repeat' (first|refine vs (k:=?_)|refine qRg ?_|refine Nx.h ?_|fail)
        have hG:Making w0 _ sb' tb' rb' c (List.replicate (sizeT c.tasks) .zero) (List.replicate i (newC c.origin) ++ [newC c.origin]) _ (L5 ++ [⟨cb6,newC c.origin,F6⟩]) G8 :=
          hM7.grow (e:=⟨cb6,newC c.origin,F6⟩) (hC6.only ho7) (fun k hk hm=>by
            have:=hF6 k hk
            have:=hlt5 k (List.mem_append_right _ hm)
            omega) (fun k hk=>by have:=hF6 k hk;omega) hG8 hG8n ho8 (hs.onlyF [sb'] (by simp [k9]) (by simp [D0])) (hs.get (b:=sb') (by repeat (first | exact At.head | (with_reducible apply At.tail))))
        refine loopS_next (i+1,.slice a8 (L5.length+1) cp8,L5 ++ [⟨cb6,newC c.origin,F6⟩],G8) (by show m - (i+1) < m - i;omega) (by (repeat (first | exact agree_nil | (apply agree_cons;first | exact rfl | exact congrArg (Value.int .i64) ei)))) ⟨by show i+1≤_;omega,hs.get (b:=b1) (by repeat (first | exact At.head | (with_reducible apply At.tail))),?_⟩
        show Making w0 _ sb' tb' rb' c _ (List.replicate (i+1) (newC c.origin)) _ _ G8
        rw [List.replicate_succ']
        exact hG
      · have e:i=m:=by omega
        subst e
        exact cutB_exit (v5,L5,G5) (by (repeat (first | exact agree_nil | (apply agree_cons;exact rfl)))) hM
    · rintro ⟨v5,L5,G5⟩ env w hM
      simp only at hM
      clear hs
      have hs:=St.nil w
      repeat' (first|refine vs (k:=?_)|refine qRg ?_|refine Nx.h ?_|fail)
      first | refine rt (hq:=?_) | refine rt' (hq:=?_)
      have hM2:=hM.keep (hs.only0 rfl)
      have em:c.cores.toNat=m:=by omega
      exact ⟨.inr ⟨rfl,sb',_,rfl,⟨tb',rb',v5,L5,G5,rfl,hM2.o,hM2.t,by
        show CoresAt _ v5 (List.replicate c.cores.toNat (newC c.origin)) L5 G5
        rw [em];exact hM2.c,hokY⟩,hM2.f⟩,hM2.w⟩
  · generalize checkF c=e at *
    rintro v w' ⟨rfl,ho⟩;replace hs:=hs.call0 ho;repeat' (first|refine vs (k:=?_)|refine qRg ?_|refine Nx.h ?_|(refine xc_cond rfl (fun hc=>?_) (fun hc=>?_))|fail)
    · first | refine rt (hq:=?_) | refine rt' (hq:=?_)
      exact ⟨.inl ⟨e0,rfl⟩,hs.only0 rfl⟩
    · exact absurd (by simpa using hc) e0
end Go.Proofs.YtalffooghioekaaGreatDoorX

namespace Go.Proofs.YtalffooghioekaaGreatDoorX
open Go Go.RowKit
attribute [local irreducible] XS XC XA thenE blockE retE loopE loopS cutB cutN doneE SE
def DoY (w0 w:World) (fid:Nat) (caps:List Value) (E:List Nat) (Qx:World→Prop) (s:Sy) (l:Int × Ch):Prop :=
  ∀ hb F,ChAt w hb ⟨s,[]⟩ F→(∀ k∈F,w0.heap.size≤k) →
    Ret Tryz.prog fid (.pointer (some ⟨hb,0,none⟩) :: caps).toArray w fun v w'=>v = .int .i64 l.1∧Qx w'∧(l.1=0→∃ F',ChAt w' hb l.2 F'∧∀ k∈F',k∈F∨w.heap.size≤k)∧Only (F ++ E) w w'
def Told21 (w0:World) (sb:Nat) (F E:List Nat) (ve:Value) (s:Sy) (l:Int × Ch) (w':World):Prop :=
  (∃ G,SlE w' ve (trySy s l).1 G)∧(∃ F',SyAt w' sb (trySy s l).2 F'∧∀ k∈F',k∈F∨w0.heap.size≤k)∧Only (sb :: E) w0 w'
set_option maxHeartbeats 16000000 in
theorem tryY_ret (sb:Nat) (s:Sy) (F:List Nat) (w0:World) (h:SyAt w0 sb s F) (fid:Nat) (caps:List Value) (E:List Nat) (Qx:World→Prop) (l:Int × Ch)
    (hQ:∀ w w' G,Qx w→Only G w w'→(∀ k∈E,k∉G)→Qx w') (hE:∀ k∈E,k∉F∧k < w0.heap.size) (hdo:∀ w,Only [] w0 w→DoY w0 w fid caps E Qx s l) :
    Ret Tryz.prog 72 #[.pointer (some ⟨sb,0,none⟩),.func (.func fid) #[] caps.toArray] w0 fun v w'=>∃ ve,v = .tuple #[ve,.int .i64 l.1]∧Qx w'∧Told21 w0 sb F E ve s l w':=by
  have hS:=h
  obtain ⟨tb,rb,vc,L,G,rfl,hO⟩:=h
  have h1:=hO.o
  have lsb:=lt_of_block h1
  have hs:=(St.nil w0).trackT h1
  refine ret_of_xc Tryz.func72 (by kernel_rfl) rfl Tryz.ntmps72 rfl rfl rfl ?_
  repeat' (first|refine vs (k:=?_)|refine qRg ?_|refine Nx.h ?_|refine qCf ?_|fail)
  have ho:=hs.onlyF [] (by simp [h1]) (by simp [D0])
  (with_reducible apply xs_call);exact rfl;exact rfl;exact syclone_ret sb s _ _ (hS.only ho)
  rintro v w1 ⟨⟨sb',F',rfl,hS1,hF'⟩,ho1⟩;replace hs:=hs.call0 ho1
  have hoA:=hs.onlyF [] (by simp [h1]) (by simp [D0])
  have k1:=hs.get At.head
  have zA:=ho.size
  clear hs
  have hs:=(St.nil w1).trackT k1
  refine vs (k:=?_)
  refine bx1 hs (k:=?_);clear hs;intro hb w2 ho2 z2 hs
  repeat' (first|refine vs (k:=?_)|refine qRg ?_|refine Nx.h ?_|fail)
  have ho3:=hs.onlyF [] (fun e he => .inr (.inr (hs.hold e he))) (by simp [D0])
  have kh:=hs.get (b:=hb) (by repeat (first | exact At.head | (with_reducible apply At.tail)))
  have hS2:=hS1.only ho2
  have hCh:ChAt w2 hb ⟨s,[]⟩ (hb :: (F' ++ [])):=⟨sb',F',_,[],rfl,kh,hS2,.inl ⟨rfl,rfl,rfl,rfl⟩⟩
  have zB:=hoA.size
  have zC:=ho2.size
  have hF0:∀ k∈hb :: (F' ++ []),w0.heap.size≤k:=fun k hk=>by
    simp only [List.append_nil,List.mem_cons] at hk
    rcases hk with rfl | hk
    · omega
    · have:=hF' k hk;omega
  have hoB:=hoA.trans ho2
  (with_reducible apply xs_call);exact rfl;exact rfl;exact hdo _ hoB hb _ hCh hF0
  rintro v w3 ⟨rfl,hX,hres,ho4⟩
  have m1:sb∉(hb :: (F' ++ [])) ++ E:=fun hm=>by
    rcases List.mem_append.1 hm with q | q
    · have:=hF0 sb q;omega
    · exact (hE sb q).1 (by simp)
  have j1:=ho4.block (hs.get (b:=sb) (by repeat (first | exact At.head | (with_reducible apply At.tail)))) m1
  have hoC:Only (sb :: E) w0 w3:=((hoB.weaken (by simp)).step ho4 (fun k hk=>by
    rcases List.mem_append.1 hk with q | q
    · exact .inr (hF0 k q)
    · exact .inl (by simp [q])))
  have zD:=hoC.size
  clear hs
  have etr:trySy s l=if l.1=0 then (l.2.ev,l.2.s) else ([],s):=rfl
  obtain ⟨tr,htr⟩:∃ tr,tr=trySy s l:=⟨_,rfl⟩
  rw [← htr] at etr
  generalize l.2=s1 at *
  generalize l.1=e at *
  have T0:∀ (ve:Value) (w':World),Told21 w0 sb (sb :: tb :: rb :: (G ++ allF L)) E ve s l w'=((∃ G,SlE w' ve (trySy s l).1 G)∧(∃ F',SyAt w' sb (trySy s l).2 F'∧∀ k∈F',k∈(sb :: tb :: rb :: (G ++ allF L))∨w0.heap.size≤k)∧Only (sb :: E) w0 w'):=fun _ _=>rfl
  simp only [T0]
  by_cases he:e=0
  · subst he
    obtain ⟨F3,hC3,hF3⟩:=hres rfl
    have hF3':∀ k∈F3,w0.heap.size≤k:=fun k hk=>by
      rcases hF3 k hk with q | q
      · exact hF0 k q
      · have:=hoB.size;omega
    obtain ⟨sb3,tb3,rb3,v3,ve3,L3,G3,Ge3,rfl,hO3⟩:=hC3.opn
    have o3h:=hO3.h
    have o3s:=hO3.s.o
    have n3:sb3≠sb:=by have:=hF3' sb3 (by simp [chF]);omega
    obtain ⟨ae,ce,rfl⟩:=slv_form hO3.e
    obtain ⟨a3,c3,rfl⟩:=slv_form hO3.s.c.a
    have o3h:=hO3.h
    have o3s:=hO3.s.o
    have hs:=(((St.nil w3).trackT j1).track o3s (by simpa using n3)).trackT o3h
    repeat' (first|refine vs (k:=?_)|(refine stA hs (k:=?_);intro w hs)|refine qRg ?_|refine Nx.h ?_|refine qCf ?_|fail)
    first | refine rt (hq:=?_) | refine rt' (hq:=?_)
    have ho6:Only [sb] w3 _:=hs.onlyF [sb] (by simp [o3s,o3h]) (by simp [D0])
    have hd:∀ k∈chF hb sb3 tb3 rb3 L3 G3 Ge3,k∉[sb]:=fun k hk hm=>by
      obtain rfl:=List.mem_singleton.1 hm
      have:=hF3' _ hk;omega
    have et:trySy s l=(s1.ev,s1.s):=by rw [← htr,etr];exact if_pos rfl
    have hF4:∀ k∈sb :: tb3 :: rb3 :: (G3 ++ allF L3),k∈sb :: tb :: rb :: (G ++ allF L)∨w0.heap.size≤k:=fun k hk=>by
      rcases List.mem_cons.1 hk with rfl | hk
      · exact .inl (by simp)
      · exact .inr (hF3' k (by simp only [chF,List.mem_cons,List.mem_append] at hk ⊢;exact .inr (.inl (.inr hk))))
    have hS6:=hO3.s
    refine ⟨_,rfl,hQ _ _ _ hX ho6 (fun k hk hm=>by obtain rfl:=List.mem_singleton.1 hm;exact (hE _ hk).1 (by simp)),?_,?_,hoC.step ho6 (fun k hk => .inl (by obtain rfl:=List.mem_singleton.1 hk;simp))⟩
    · rw [et]
      exact ⟨Ge3,hO3.e.keep ho6 (fun k hk=>hd k (by simp [chF,hk]))⟩
    · rw [et]
      exact ⟨_,⟨tb3,rb3,_,L3,G3,rfl,hs.get (b:=sb) (by repeat (first | exact At.head | (with_reducible apply At.tail))),hS6.t.keep ho6 (hd _ (by simp [chF])) (hd _ (by simp [chF])),hS6.c.keepD ho6 (fun k hk=>hd k (by simp only [chF,List.mem_cons,List.mem_append] at hk ⊢;exact .inr (.inl (.inr (.inr (.inr hk)))))),hS6.ok⟩,hF4⟩
  · have hs:=(St.nil w3).trackT j1
    have et:trySy s l=([],s):=by rw [← htr,etr];exact if_neg he
    repeat' (first|refine vs (k:=?_)|refine qRg ?_|refine Nx.h ?_|(refine xc_cond rfl (fun hc=>?_) (fun hc=>?_))|fail)
    · first | refine rt (hq:=?_) | refine rt' (hq:=?_)
      have ho6:=hs.onlyF [] (by simp [j1]) (by simp [D0])
      refine ⟨_,rfl,hQ _ _ _ hX ho6 (by simp),?_,?_,hoC.step ho6 (by simp)⟩
      · rw [et];exact ⟨[],.inl ⟨rfl,rfl,rfl,rfl⟩⟩
      · rw [et]
        refine ⟨_,((hS.only hoB).keepD ho4 (fun k hk hm=>?_)).only ho6,fun k hk => .inl hk⟩
        rcases List.mem_append.1 hm with q | q
        · have:=hF0 k q
          have:=hS.lt k hk
          omega
        · exact (hE k q).1 hk
    · exact absurd (by simpa using hc) he
end Go.Proofs.YtalffooghioekaaGreatDoorX

namespace Go.Proofs.YtalffooghioekaaGreatDoorX
open Go Go.RowKit
attribute [local irreducible] XS XC XA thenE blockE retE loopE loopS cutB cutN doneE SE
theorem ChOpn.rowsC {w w':World} {hb sb tb rb:Nat} {v ve:Value} {s:Ch} {L:List Ce} {G Ge:List Nat} (h:ChOpn w hb sb tb rb v ve s L G Ge) {t:List Tk} (ht:TabAt w' tb rb t) (ho:Only [rb] w w') (hok:OkY { s.s with t:=t }):ChOpn w' hb sb tb rb v ve ⟨{ s.s with t:=t },s.ev⟩ L G Ge:=by
  obtain ⟨cap,rest,a1,a2,_⟩:=h.s.t
  exact ⟨ho.block h.h (by simpa using blocks_ne h.h a2 (by decide)),h.s.rows ht ho hok,h.e.keep ho fun k hk hm=>by obtain rfl:=List.mem_singleton.1 hm;exact slv_ne h.e a2 (by decide) hk⟩
theorem St.notinT {wb w:World} {D:Ctx} {b4:Nat} {o:Obj} {nw:Bool} {H:List Ent} (h:St wb D ((b4,o,nw) :: H) w) {b:Nat} {cs:Array Value} {ty:Nat} {fz:Nat × Nat} (hne:b4≠b) (hb:w.heap[b]?=some (.cells cs ty fz)) (hn:(H.all fun e=>tyNe ty e.2.1)=true:=by rfl):b∉((b4,o,nw) :: H).map (·.1):=fun hm=>by
  rcases List.mem_cons.1 hm with q | q
  · exact hne q.symm
  · obtain ⟨e,he,rfl⟩:=List.mem_map.1 q
    have h1:=List.all_eq_true.1 hn e he
    have h2:=h.at_ e (List.mem_cons_of_mem _ he)
    rw [hb] at h2
    rw [← Option.some.inj h2] at h1
    simp [tyNe] at h1
end Go.Proofs.YtalffooghioekaaGreatDoorX

namespace Go.Proofs.YtalffooghioekaaGreatDoorX
open Go Go.RowKit
attribute [local irreducible] XS XC XA thenE blockE retE loopE loopS cutB cutN doneE SE
theorem ChOpn.keepTask {w w':World} {hb sb tb rb:Nat} {v ve:Value} {s:Ch} {L:List Ce} {G Ge:List Nat} (h:ChOpn w hb sb tb rb v ve s L G Ge) {b:Nat} {cs:Array Value} {fz:Nat × Nat} (ho:Only [b] w w') (hb':w.heap[b]?=some (.cells cs 51 fz)) (hne:b≠rb):ChOpn w' hb sb tb rb v ve s L G Ge:=by
  have hn:=h.notT hb' hne
  have hd:∀ k∈chF hb sb tb rb L G Ge,k∉[b]:=fun k hk hm=>by obtain rfl:=List.mem_singleton.1 hm;exact hn hk
  exact ⟨ho.block h.h (hd _ (by simp [chF])),h.s.keepD ho (fun k hk=>hd k (by simp only [chF,List.mem_cons,List.mem_append] at hk ⊢;exact .inr (.inl hk))),h.e.keep ho (fun k hk=>hd k (by simp [chF,hk]))⟩
end Go.Proofs.YtalffooghioekaaGreatDoorX

namespace Go.Proofs.YtalffooghioekaaGreatDoorX
open Go Go.RowKit
attribute [local irreducible] XS XC XA thenE blockE retE loopE loopS cutB cutN doneE SE
end Go.Proofs.YtalffooghioekaaGreatDoorX

namespace Go.Proofs.YtalffooghioekaaGreatDoorX
open Go Go.RowKit
attribute [local irreducible] XS XC XA thenE blockE retE loopE loopS cutB cutN doneE SE
end Go.Proofs.YtalffooghioekaaGreatDoorX

namespace Go.Proofs.YtalffooghioekaaGreatDoorX
open Go Go.RowKit
attribute [local irreducible] XS XC XA thenE blockE retE loopE loopS cutB cutN doneE SE
end Go.Proofs.YtalffooghioekaaGreatDoorX

namespace Go.Proofs.YtalffooghioekaaGreatDoorX
open Go Go.RowKit
attribute [local irreducible] XS XC XA thenE blockE retE loopE loopS cutB cutN doneE SE
def tickNext (s:Ch) (k:Nat) (ns:Int):Ch:=absorbY ⟨setKY s.s k (tryC (coreY s.s k) (tickC (coreY s.s k) ns).1 (tickC (coreY s.s k) ns).2.1),s.ev⟩ k (tryR (tickC (coreY s.s k) ns).1 (tickC (coreY s.s k) ns).2.1 (tickC (coreY s.s k) ns).2.2)
theorem tickYL_ok {n k:Nat} {s:Ch} {ns:Int} (h:(tickC (coreY s.s k) ns).1=0):tickYL (n+1) k s ns=tickYL n (k+1) (tickNext s k ns) ns:=by
  have h':(tickC (coreY s.s k) ns).fst=0:=h
  rw [tickYL]
  exact if_pos h'
theorem tickYL_bad {n k:Nat} {s:Ch} {ns:Int} (h:(tickC (coreY s.s k) ns).1≠0):tickYL (n+1) k s ns=((tickC (coreY s.s k) ns).1,s):=by
  have h':¬ (tickC (coreY s.s k) ns).fst=0:=h
  rw [tickYL]
  exact if_neg h'
set_option maxHeartbeats 32000000 in
theorem stick1_ret (b1 hb:Nat) (s:Sy) (ns:Int) (wb w0:World) (hns:U64 ns) (hw0:Only [] wb w0) (B1w:wb.heap[b1]?=some (.cells #[.int .u64 ns] 22 (0,0))) (hbd:ns≤1099511627776→∀ k:Nat,k < s.k.length→(tickC (coreY s k) ns).2.2.p.length≤1000000) :
    DoY wb w0 94 [.pointer (some ⟨b1,0,none⟩)] [] (fun _=>True) s (tickY ⟨s,[]⟩ ns):=by
  intro hb F h hF
  have B1:=hw0.block B1w (by simp)
  have hC0:=h
  obtain ⟨sb,tb,rb,v,ve,L,G,Ge,rfl,hO⟩:=h.opn
  have hhi:=hO.s.ok.hi
  have hlen:=hO.s.ok.len
  have hlo:=hO.s.ok.lo
  have hLl:=hO.s.c.len
  have h0:0 < (Ch.s ⟨s,[]⟩).k.length:=by show 0 < s.k.length;have:((s.k.length:Nat):Int)=s.cf.cores:=hlen;have:1≤s.cf.cores:=hlo;omega
  obtain ⟨x0,hx0,_,_⟩:=hO.s.c.at h0
  obtain ⟨g,cap,cur0,rfl,_,_⟩:=hO.s.c.ptr hx0
  have hh:=hO.h
  have os:=hO.s.o
  have hs:=((St.nil w0).trackT B1).trackT os |>.trackT hh
  have eX:tickY ⟨s,[]⟩ ns=if withinE ns (capN s.cf.tick)≠0 then (withinE ns (capN s.cf.tick),⟨s,[]⟩) else tickYL s.k.length 0 ⟨s,[]⟩ ns:=rfl
  rw [eX]
  refine ret_of_xc Tryz.func94 (by kernel_rfl) rfl Tryz.ntmps94 rfl rfl rfl ?_
  repeat' (first|refine vs (k:=?_)|refine qRg ?_|refine Nx.h ?_|fail)
  refine dr [] hs (k:=?_);intro hX w hs
  refine tk 0 hX (k:=?_)
  refine tk 1 hX (k:=?_)
  refine tk 2 hX (k:=?_)
  refine tk 3 hX (k:=?_)
  refine tk 4 hX (k:=?_)
  refine tk 5 hX (k:=?_)
  refine tk 6 hX (k:=?_)
  refine tk 7 hX (k:=?_)
  refine dt 8 hX (k:=?_)
  (with_reducible apply xs_call);exact rfl;exact rfl;exact ctime_ret s.cf ns _
  rintro v w' ⟨rfl,ho⟩;replace hs:=hs.call0 ho;repeat' (first|refine Nx.h ?_|fail)
  refine dn (k:=?_)
  refine tk 9 hX (k:=?_)
  refine en (k:=?_)
  by_cases he:withinE ns (capN s.cf.tick)≠0
  · rw [if_pos he]
    generalize withinE ns (capN s.cf.tick)=ee at *
    repeat' (first|refine vs (k:=?_)|refine qRg ?_|refine Nx.h ?_|(refine xc_cond rfl (fun hc=>?_) (fun hc=>?_))|fail)
    · first | refine rt (hq:=?_) | refine rt' (hq:=?_)
      exact ⟨rfl,trivial,fun z=>absurd z he,(hs.onlyF [] (by simp [B1,os,hh]) (by simp [D0])).weaken (by simp)⟩
    · exact absurd (by simpa using hc) he
  have hn1:ns≤1099511627776:=by
    have:=(within_lo he).2
    unfold capN at this
    split at this <;> omega
  replace hbd:=hbd hn1
  have he0:withinE ns (capN s.cf.tick)=0:=by
    rcases Classical.em (withinE ns (capN s.cf.tick)=0) with z | z
    · exact z
    · exact absurd z he
  rw [if_neg he,he0]
  repeat' (first|refine vs (k:=?_)|refine qRg ?_|refine Nx.h ?_|refine qCf ?_|fail)
  have hoA:=hs.onlyF [] (by simp [B1,os,hh]) (by simp [D0])
  have hlS:s.k.length≤8:=by have:((s.k.length:Nat):Int)=s.cf.cores:=hlen;have:s.cf.cores≤8:=hhi;omega
  have hLs:L.length=s.k.length:=hLl
  refine xc_cutB (fun (_:Ch × List Ce × Value × List Nat)=>[]) (fun y w=>tickYL s.k.length 0 ⟨s,[]⟩ ns=(0,y.1)∧ChOpn w hb sb tb rb (.slice (some ⟨g,0,none⟩) L.length cap) y.2.2.1 y.1 y.2.1 G y.2.2.2∧(∀ i∈chF hb sb tb rb y.2.1 G y.2.2.2,i∈chF hb sb tb rb L G Ge∨w0.heap.size≤i)∧Only (chF hb sb tb rb L G Ge) w0 w) ?_ ?_
  · refine xc_loopS (fun (x:Nat × Ch × List Ce × Value × List Nat)=>[(0,.pointer (some ⟨hb,0,none⟩)),(1,.pointer (some ⟨b1,0,none⟩)),(27,.slice (some ⟨g,0,none⟩) L.length cap),(28,.int .i64 (L.length:Nat)),(29,.int .i64 (x.1:Nat))])
      (fun x w=>x.1≤L.length∧tickYL s.k.length 0 ⟨s,[]⟩ ns=tickYL (s.k.length - x.1) x.1 x.2.1 ns∧w.heap[b1]?=some (.cells #[.int .u64 ns] 22 (0,0))∧ChOpn w hb sb tb rb (.slice (some ⟨g,0,none⟩) L.length cap) x.2.2.2.1 x.2.1 x.2.2.1 G x.2.2.2.2∧(∀ i∈chF hb sb tb rb x.2.2.1 G x.2.2.2.2,i∈chF hb sb tb rb L G Ge∨w0.heap.size≤i)∧Only (chF hb sb tb rb L G Ge) w0 w∧x.2.1.s.k.length=s.k.length∧(∀ j:Nat,x.1≤j→coreY x.2.1.s j=coreY s j)∧x.2.1.ev.length≤x.1*2000000)
      (fun x=>L.length - x.1) (0,⟨s,[]⟩,L,ve,Ge) (by (repeat (first | exact agree_nil | (apply agree_cons;exact rfl)))) ⟨Nat.zero_le _,rfl,hoA.block B1 (by simp),hO.only hoA,fun i hi => .inl hi,hoA.weaken (by simp),rfl,fun _ _=>rfl,Nat.zero_le _⟩ fun x env wl ⟨hi,hT,hB,hC,hFs,hoL,hkl,hcr,hev⟩=>?_
    obtain ⟨i,S,Li,vi,Gi⟩:=x
    simp only at hi hT hC hFs hkl hcr hev
    clear hs
    have hs:=((St.nil wl).trackT hB).trackT hC.h
    repeat' (first|refine vs (k:=?_)|refine qRg ?_|refine Nx.h ?_|(refine xc_if rfl (fun hc=>?_) (fun hc=>?_))|fail)
    · have hlt:i < L.length:=by omega
      have hltS:i < S.s.k.length:=by omega
      obtain ⟨x,hx,hCx,hce⟩:=hC.s.c.at hltS
      obtain ⟨g',cap',cur,ev',hg,hcur⟩:=hC.s.c.ptr hx
      have hg':g'=g∧L.length=Li.length:=by
        simp only [Value.slice.injEq,Option.some.injEq,Addr.mk.injEq] at ev'
        exact ⟨ev'.1.1.symm,ev'.2.1⟩
      obtain ⟨hgg,hLL⟩:=hg'
      rw [hgg] at hg
      have ei:=nx64 (m:=L.length) hlt (by omega)
      have hR:RepC x.c:=hCx.repS
      have ec:coreY S.s i=x.c:=hce.symm
      have ecs:coreY s i=x.c:=by rw [← hcr i (Nat.le_refl _)];exact ec
      have hpl:=hbd i (by omega)
      rw [ecs] at hpl
      obtain ⟨_,_,_,_,_,hcb,_⟩:=hCx.opn
      have hgk:GoneIn (tryR (tickC x.c ns).1 (tickC x.c ns).2.1 (tickC x.c ns).2.2):=(goneIn_tick hR ns).try (repC_tick hR ns)
      have hkn:=tryR_len (e:=(tickC x.c ns).1) (r1:=(tickC x.c ns).2.2) (repC_tick hR ns)
      have hkg:(tickC x.c ns).2.2.g.length≤32:=by obtain ⟨s1,hs1⟩:=hR;exact (tick_bounds hs1 ns).2
      have hnx:tickNext S i ns=absorbY ⟨setKY S.s i (tryC x.c (tickC x.c ns).1 (tickC x.c ns).2.1),S.ev⟩ i (tryR (tickC x.c ns).1 (tickC x.c ns).2.1 (tickC x.c ns).2.2):=by unfold tickNext;rw [ec]
      have hst:s.k.length - i=(s.k.length - (i+1))+1:=by omega
      rw [hst] at hT
      have hgw:wl.heap[g]?=some (.cells cur.toArray tyCp (0,0)):=hg
      replace hs:=hs.trackT hgw
      refine ix (h0:=(by omega)) (h1:=(by omega)) (k:=?_)
      refine lb (hc:=(by simpa using hcur)) (k:=?_)
      repeat' (first|refine vs (k:=?_)|refine qRg ?_|refine Nx.h ?_|fail)
      have hoc:=hs.onlyF [] (by simp [hB,hC.h,hgw]) (by simp [D0])
      (with_reducible apply xs_call);exact rfl;exact rfl;exact tickT_ret x.cb x.c x.F ns _ (hCx.only hoc) hns
      rintro v2 w2 ⟨rv,rfl,T⟩
      have hf:=T.form
      obtain ⟨ag,cg,ap,cp,rfl⟩:=hf
      obtain ⟨L',hA⟩:=core_done (hC.only hoc) hx T hoc
      have hB2:=T.2.2.block (hoc.block hB (by simp)) (by simpa using blocks_ne (hoc.block hB (by simp)) (hoc.block hcb (by simp)) (by decide))
      clear hs
      have hs:=((St.nil w2).trackT hB2).trackT hA.c.h
      by_cases hJ:(tickC x.c ns).1=0
      · rw [tickYL_ok (by rw [ec];exact hJ),hnx] at hT
        rw [hJ] at hA hT hgk hkn ⊢
        have hev2:(absorbY ⟨setKY S.s i (tryC x.c 0 (tickC x.c ns).2.1),S.ev⟩ i (tryR 0 (tickC x.c ns).2.1 (tickC x.c ns).2.2)).ev.length≤(i+1)*2000000:=by
          rw [absorb_ev]
          simp only [List.length_append,List.length_map]
          have:=hkn.1;have:=hkn.2
          omega
        have hk2:=(absorb_k ⟨setKY S.s i (tryC x.c 0 (tickC x.c ns).2.1),S.ev⟩ i (tryR 0 (tickC x.c ns).2.1 (tickC x.c ns).2.2)).1
        generalize hrp:tryR 0 (tickC x.c ns).2.1 (tickC x.c ns).2.2=rp at *
        generalize tryC x.c 0 (tickC x.c ns).2.1=c' at *
        repeat' (first|refine vs (k:=?_)|(refine stA hs (k:=?_);intro w hs)|(refine al hs (k:=?_);intro b w hz hs)|refine qRg ?_|refine Nx.h ?_|refine qCf ?_|fail)
        have hoq:=hs.onlyF [] (by simp [hB2,hA.c.h]) (by simp [D0])
        (with_reducible apply xs_call);exact rfl;exact rfl;exact absorbO_ret hb sb tb rb _ vi _ L' G Gi i _ rp _ (hA.c.only hoq) (hA.p.keepT hoq (by simp)) hgk (by have:=hkn.1;have:=hkn.2;show S.ev.length+_+_≤_;omega)
        rintro v5 w5 ⟨ve5,Ge5,hC5,hGe5,ho5⟩
        have hB5:=ho5.block (hoq.block hB2 (by simp)) ((hA.c.only hoq).at.not (hoq.block hB2 (by simp)) rfl)
        have hz4:=hA.o.size
        have hzL:=hoL.size
        have hoE:=hoL.step ((hA.o.step hoq (by simp)).step ho5 hA.f) hFs
        clear hs
        have hs:=St.nil w5
        repeat' (first|refine vs (k:=?_)|refine qRg ?_|refine Nx.h ?_|fail)
        have ho6:=hs.only0 rfl
        refine loopS_next (i+1,_,L',ve5,Ge5) (by show L.length - (i+1) < L.length - i;omega) (by (repeat (first | exact agree_nil | (apply agree_cons;first | exact rfl | exact congrArg (Value.int .i64) ei)))) ⟨by show i+1≤_;omega,hT,ho6.block hB5 (by simp),hC5.only ho6,fun j hj=>?_,hoE.step ho6 (by simp),?_,fun j hj=>?_,hev2⟩
        · have key:j∈chF hb sb tb rb L' G Gi∨w0.heap.size≤j:=by
            simp only [chF,List.mem_cons,List.mem_append] at hj ⊢
            rcases hj with hj | hj | hj
            · exact .inl (.inl hj)
            · exact .inl (.inr (.inl hj))
            · rcases hGe5 j hj with q | q
              · exact .inl (.inr (.inr q))
              · exact .inr (by have:=hoq.size;omega)
          rcases key with q | q
          · rcases hA.f j q with z | z
            · exact hFs j z
            · exact .inr (by omega)
          · exact .inr q
        · show (absorbY _ i rp).s.k.length=_
          rw [hk2]
          show (S.s.k.set _ _).length=_
          rw [List.length_set];exact hkl
        · show coreY (absorbY _ i rp).s j=_
          have hj':i+1≤j:=hj
          rw [coreY_k hk2,coreY_ne (k:=(i:Int)) (by omega) (show ((j:Nat):Int)≠(i:Int) by omega)]
          exact hcr j (by omega)
      · rw [tickYL_bad (by rw [ec];exact hJ),ec] at hT
        rw [hT]
        generalize (tickC x.c ns).1=ee at *
        repeat' (first|refine vs (k:=?_)|(refine stA hs (k:=?_);intro w hs)|(refine al hs (k:=?_);intro b w hz hs)|refine qRg ?_|refine Nx.h ?_|(refine xc_cond rfl (fun hc=>?_) (fun hc=>?_))|fail)
        · first | refine rt (hq:=?_) | refine rt' (hq:=?_)
          have ho6:=hs.onlyF [] (by simp [hB2,hA.c.h]) (by simp [D0])
          exact ⟨rfl,trivial,fun q=>absurd q hJ,((hoL.step (hA.o.step ho6 (by simp)) hFs)).weaken (by simp)⟩
        · exact absurd (by simpa using hc) hJ
    · have e:i=s.k.length:=by omega
      subst e
      rw [Nat.sub_self] at hT
      exact cutB_exit (S,Li,vi,Gi) (by (repeat (first | exact agree_nil | (apply agree_cons;exact rfl)))) ⟨hT,hC,hFs,hoL⟩
  · rintro ⟨S,Li,vi,Gi⟩ env w ⟨hT,hC,hFs,hoL⟩
    simp only at hT hC hFs
    rw [hT]
    clear hs
    have hs:=St.nil w
    repeat' (first|refine vs (k:=?_)|refine qRg ?_|refine Nx.h ?_|fail)
    first | refine rt (hq:=?_) | refine rt' (hq:=?_)
    have ho6:=hs.only0 rfl
    exact ⟨rfl,trivial,fun _=>⟨_,(hC.only ho6).at,hFs⟩,(hoL.step ho6 (by simp)).weaken (by simp)⟩
end Go.Proofs.YtalffooghioekaaGreatDoorX

namespace Go.Proofs.YtalffooghioekaaGreatDoorX
open Go Go.RowKit
attribute [local irreducible] XS XC XA thenE blockE retE loopE loopS cutB cutN doneE SE
end Go.Proofs.YtalffooghioekaaGreatDoorX

namespace Go.Proofs.YtalffooghioekaaGreatDoorX
open Go Go.RowKit
attribute [local irreducible] XS XC XA thenE blockE retE loopE loopS cutB cutN doneE SE
abbrev intO (x:Int):Obj := .cells #[.int .i64 x] 3 (0,0)
theorem addI_in {l:List Tk} (h:l.length≤32) (x:Tk):In64 (addI l x):=by
  unfold addI
  cases rightT x with
  | false=>exact (by decide:In64 0)
  | true =>
    cases e:freeT l with
    | none=>exact (by decide:In64 0)
    | some i =>
      have:=freeT_lt e
      show In64 ((i:Int)+1)
      unfold In64;omega
set_option maxHeartbeats 32000000 in
theorem sspawn1_ret (b1 b2 b3 b4 hb:Nat) (s:Sy) (core q ns:Int) (wb w0:World) (hcore:In64 core) (hq:U64 q) (hns:U64 ns) (hw0:Only [] wb w0) (n14:b1≠b4) (n23:b2≠b3)
    (B1w:wb.heap[b1]?=some (intO core)) (B2w:wb.heap[b2]?=some (.cells #[.int .u64 q] 22 (0,0))) (B3w:wb.heap[b3]?=some (.cells #[.int .u64 ns] 22 (0,0))) (B4w:wb.heap[b4]?=some (intO 0)) :
    DoY wb w0 73 [.pointer (some ⟨b1,0,none⟩),.pointer (some ⟨b2,0,none⟩),.pointer (some ⟨b3,0,none⟩),.pointer (some ⟨b4,0,none⟩)] [b4] (fun w=>w.heap[b4]?=some (intO (spawnY ⟨s,[]⟩ core q ns).2.1)) s ((spawnY ⟨s,[]⟩ core q ns).1,(spawnY ⟨s,[]⟩ core q ns).2.2):=by
  intro hb F h hF
  have B1:=hw0.block B1w (by simp)
  have B2:=hw0.block B2w (by simp)
  have B3:=hw0.block B3w (by simp)
  have B4:=hw0.block B4w (by simp)
  have l4:=lt_of_block B4w
  have zw:=hw0.size
  have hC0:=h
  have hltF:=h.lt
  have hokS:OkY s:=by obtain ⟨_,_,_,_,_,_,_,_,_,hO⟩:=h.opn;exact hO.s.ok
  obtain ⟨sb,tb,rb,v,ve,L,G,Ge,eF,hO⟩:=h.opn
  have lrb:=hO.s.t.lts.2
  have n4F:b4∉F:=fun hm=>by have:=hF _ hm;omega
  have hh:=hO.h
  have os:=hO.s.o
  have hs:=((((St.nil w0).trackT B1).trackT B2).track B3 (by
    have:=blocks_ne B3 B1 (by decide)
    simp;exact ⟨Ne.symm n23,this⟩)).trackT os |>.trackT hh
  refine ret_of_xc Tryz.func73 (by kernel_rfl) rfl Tryz.ntmps73 rfl rfl rfl ?_
  repeat' (first|refine vs (k:=?_)|refine qRg ?_|refine Nx.h ?_|fail)
  refine dr1 [] hs (k:=?_);clear hs;intro hX w hoD hs
  refine tk 0 hX (k:=?_)
  refine tk 1 hX (k:=?_)
  refine tk 2 hX (k:=?_)
  refine tk 3 hX (k:=?_)
  refine tk 4 hX (k:=?_)
  refine tk 5 hX (k:=?_)
  refine tk 6 hX (k:=?_)
  refine tk 7 hX (k:=?_)
  refine tk 9 hX (k:=?_)
  refine tk 10 hX (k:=?_)
  refine tk 11 hX (k:=?_)
  refine tk 12 hX (k:=?_)
  refine tk 13 hX (k:=?_)
  refine tk 14 hX (k:=?_)
  refine tk 15 hX (k:=?_)
  refine tk 16 hX (k:=?_)
  refine tk 18 hX (k:=?_)
  refine tk 19 hX (k:=?_)
  refine tk 20 hX (k:=?_)
  refine tk 21 hX (k:=?_)
  refine tk 22 hX (k:=?_)
  refine tk 23 hX (k:=?_)
  refine tk 24 hX (k:=?_)
  refine tk 25 hX (k:=?_)
  refine dt 8 hX (k:=?_)
  (with_reducible apply xs_call);exact rfl;exact rfl;exact ccore_ret s.cf core _
  rintro v2 w2 ⟨rfl,ho2⟩
  replace hs:=hs.past0 ho2
  refine XS.nil ?_
  refine dn (k:=?_)
  refine dt 17 hX (k:=?_)
  (with_reducible apply xs_call);exact rfl;exact rfl;exact cfweight_ret s.cf q _
  rintro v3 w3 ⟨rfl,ho3⟩
  replace hs:=hs.past0 ho3
  refine XS.nil ?_
  refine dn (k:=?_)
  refine dt 26 hX (k:=?_)
  (with_reducible apply xs_call);exact rfl;exact rfl;exact crequest_ret s.cf ns _
  rintro v4 w4 ⟨rfl,ho4⟩
  replace hs:=hs.past0 ho4
  refine XS.nil ?_
  refine dn (k:=?_)
  refine dt 27 hX (k:=?_)
  refine bs1 hs (k:=?_);clear hs;intro b27 w5 ho5 z5 hs
  refine XS.nil ?_
  refine dn (k:=?_)
  refine dt 28 hX (k:=?_)
  (with_reducible apply xs_call);exact rfl;exact rfl;exact all_ret [coreE s.cf core,withinE q 1048576,withinE ns (capN s.cf.slice)] _ (by simp) _ (lit_ls (n:=3) (hs.get At.head) rfl (fun x hx=>by obtain ⟨e,_,rfl⟩:=List.mem_map.1 hx;rfl) rfl).x
  rintro v6 w6 ⟨rfl,ho6⟩
  replace hs:=hs.past0 ho6
  refine XS.nil ?_
  refine dn (k:=?_)
  refine tk 29 hX (k:=?_)
  refine en (k:=?_)
  have hoA:=((((hoD.trans ho2).trans ho3).trans ho4).trans ho5).trans ho6
  have zA:=hoA.size
  rw [show allE [coreE s.cf core,withinE q 1048576,withinE ns (capN s.cf.slice)]=spawnYE s core q ns from rfl]
  by_cases c1:spawnYE s core q ns≠0
  · rw [spawn_bad1 (s:=⟨s,[]⟩) c1]
    generalize spawnYE s core q ns=ee at *
    repeat' (first|refine vs (k:=?_)|(refine stA hs (k:=?_);intro w hs)|(refine al hs (k:=?_);intro b w hz hs)|refine qRg ?_|refine Nx.h ?_|(refine xc_cond rfl (fun hc=>?_) (fun hc=>?_))|fail)
    · first | refine rt (hq:=?_) | refine rt' (hq:=?_)
      have ho7:=hs.onlyF [] (fun e he => .inr (.inr (hs.hold e he))) (by simp [D0])
      exact ⟨rfl,(hoA.trans ho7).block B4 (by simp),fun z=>absurd z c1,(hoA.trans ho7).weaken (by simp)⟩
    · exact absurd (by simpa using hc) c1
  have c1':spawnYE s core q ns=0:=by
    rcases Classical.em (spawnYE s core q ns=0) with z | z
    · exact z
    · exact absurd z c1
  rw [c1']
  have hcr:0≤core∧core < s.cf.cores:=by
    unfold spawnYE allE coreE at c1'
    by_cases k:core < 0∨core≥s.cf.cores
    · rw [if_pos k] at c1';cases c1'
    · omega
  have hyo:OkR s.cf.cores (newTY core q ns):=⟨(by decide:In64 0),(by decide:(0:Int)≤1∧(1:Int) < 256),hcore,u32_rng _,hns,(by decide:In64 0),fun _=>hcr⟩
  have k1:=hs.get (b:=b1) (by repeat (first | exact At.head | (with_reducible apply At.tail)))
  have k2:=hs.get (b:=b2) (by repeat (first | exact At.head | (with_reducible apply At.tail)))
  have k3:=hs.get (b:=b3) (by repeat (first | exact At.head | (with_reducible apply At.tail)))
  have hO6:=hO.only hoA
  have o6h:=hO6.h
  have o6s:=hO6.s.o
  clear hs
  have hs:=((((St.nil w6).trackT k1).trackT k2).track k3 (by
    have:=blocks_ne k3 k1 (by decide)
    simp;exact ⟨Ne.symm n23,this⟩)).trackT o6s |>.trackT o6h
  have hH:=hs.hold
  repeat' (first|refine vs (k:=?_)|(refine stA hs (k:=?_);intro w hs)|(refine al hs (k:=?_);intro b w hz hs)|refine qRg ?_|refine Nx.h ?_|refine qCf ?_|fail)
  obtain ⟨b8,rfl⟩:∃ z,z=b:=⟨_,rfl⟩
  have z8:w6.heap.size≤b8:=hs.new (b8,true) (by simp) rfl
  have ho7:=hs.onlyF [] (fun e he=>by
    rcases List.mem_cons.1 he with rfl | he
    · exact .inl rfl
    · exact .inr (.inr (hH e he))) (by simp [D0])
  replace hs:=hs.rebase
  simp only [List.map_cons,List.map_nil] at hs
  have hO7:=hO6.only ho7
  have nb4:b8≠rb:=by omega
  have hoW:=(hoA.trans ho7).weaken (G:=F) (by simp)
  refine dr1 [] hs (k:=?_);clear hs;intro hX w hoE hs
  have hO8:=hO7.only hoE
  replace hoW:=hoW.step hoE (by simp)
  refine tk 0 hX (k:=?_)
  refine tk 1 hX (k:=?_)
  refine tk 2 hX (k:=?_)
  refine tk 3 hX (k:=?_)
  refine tk 4 hX (k:=?_)
  refine tk 5 hX (k:=?_)
  refine tk 6 hX (k:=?_)
  refine tk 7 hX (k:=?_)
  refine dt 8 hX (k:=?_)
  (with_reducible apply xs_call);exact rfl;exact rfl;exact tadd_ret tb rb s.t (newTY core q ns) _ hO8.s.t
  rintro v8 w8 ⟨rfl,hT8,ho8⟩
  have hTt:=hO8.s.t
  obtain ⟨cap12,rest12,t12a,t12b,_⟩:=hTt
  replace hs:=hs.past ho8 (fun k hk=>by obtain rfl:=List.mem_singleton.1 hk;exact hs.notinT nb4 t12b)
  have hO9:=hO8.rowsC hT8 ho8 (hokS.rows (ok_addT hokS.row hokS.tl hyo) (addT_len _ _))
  replace hoW:=hoW.step ho8 (fun k hk => .inl (by obtain rfl:=List.mem_singleton.1 hk;rw [eF];simp [chF]))
  have B48:w8.heap[b4]?=some (intO 0):=hoW.block B4 n4F
  refine XS.nil ?_
  refine dn (k:=?_)
  refine tk 9 hX (k:=?_)
  refine tk 10 hX (k:=?_)
  refine tk 11 hX (k:=?_)
  refine tk 12 hX (k:=?_)
  refine tk 13 hX (k:=?_)
  refine en (k:=?_)
  by_cases c2:addE s.t (newTY core q ns)≠0
  · rw [spawn_bad2 (s:=⟨s,[]⟩) c1 c2]
    have c2':addE (Ch.s ⟨s,[]⟩).t (newTY core q ns)≠0:=c2
    generalize addE (Ch.s ⟨s,[]⟩).t (newTY core q ns)=ee at *
    generalize addE s.t (newTY core q ns)=ee2 at *
    repeat' (first|refine vs (k:=?_)|(refine st hs (k:=?_);intro w hs)|refine qRg ?_|refine Nx.h ?_|(refine xc_cond rfl (fun hc=>?_) (fun hc=>?_))|fail)
    · first | refine rt (hq:=?_) | refine rt' (hq:=?_)
      have ho7:=hs.onlyF [] (fun e he => .inr (.inr (hs.hold e he))) (by simp [D0])
      exact ⟨rfl,ho7.block B48 (by simp),fun z=>absurd z c2,(hoW.step ho7 (by simp)).weaken (by intro k hk;exact List.mem_append_left _ hk)⟩
    · exact absurd (by simpa using hc) c2
  have c2':addE s.t (newTY core q ns)=0:=by
    rcases Classical.em (addE s.t (newTY core q ns)=0) with z | z
    · exact z
    · exact absurd z c2
  rw [spawn_go (s:=⟨s,[]⟩) c1 c2,c2']
  have hn:=addI_in hokS.tl (newTY core q ns)
  have eJ:spawnJ ⟨s,[]⟩ core q ns=joinY ⟨{ s with t:=addT s.t (newTY core q ns) },[]⟩ { newTY core q ns with id:=addI s.t (newTY core q ns) } 0:=rfl
  have eN:addI (Ch.s ⟨s,[]⟩).t (newTY core q ns)=addI s.t (newTY core q ns):=rfl
  rw [eN]
  have hy2:OkR s.cf.cores { newTY core q ns with id:=addI s.t (newTY core q ns) }:=⟨hn,hyo.2⟩
  generalize spawnJ ⟨s,[]⟩ core q ns=J at *
  generalize addI s.t (newTY core q ns)=n at *
  have hH:=hs.hold
  have hbx:=hs.get At.head
  repeat' (first|refine vs (k:=?_)|(refine st hs (k:=?_);intro w hs)|refine qRg ?_|refine Nx.h ?_|refine qCf ?_|fail)
  have ho10:=hs.onlyF [b8] (fun e he=>by
    rcases List.mem_cons.1 he with rfl | he
    · exact .inr (.inl (by simp))
    · exact .inr (.inr (hH e (List.mem_cons_of_mem _ he)))) (by simp [D0])
  have hO10:=hO9.keepTask ho10 hbx nb4
  have n84:b4≠b8:=by omega
  replace hoW:=hoW.step ho10 (fun k hk => .inr (by obtain rfl:=List.mem_singleton.1 hk;omega))
  have B410:=ho10.block B48 (by simpa using n84)
  (with_reducible apply xs_call);exact rfl;exact rfl;exact hjoin_ret hb ⟨{ s with t:=addT s.t (newTY core q ns) },[]⟩ _ { newTY core q ns with id:=n } 0 _ hO10.at hy2 (by decide:(1:Int)≠0) (by decide:In64 0) (by simp)
  rw [← eJ]
  rintro v11 w11 ⟨rfl,hL11,ho11⟩
  have hzW:=hoW.size
  have B411:=ho11.block B410 (by rw [← eF];exact n4F)
  replace hoW:=hoW.step ho11 (fun k hk => .inl (by rw [eF];exact hk))
  clear hs
  have hs:=(St.nil w11).trackT B411
  by_cases c3:J.1=0
  · rw [if_pos c3]
    have hL:=hL11 c3
    rw [c3]
    repeat' (first|refine vs (k:=?_)|(refine st hs (k:=?_);intro w hs)|refine qRg ?_|refine Nx.h ?_|refine qCf ?_|fail)
    first | refine rt (hq:=?_) | refine rt' (hq:=?_)
    have ho12:=hs.onlyF [b4] (by simp) (by simp [D0])
    obtain ⟨F',h1,h2⟩:=hL
    refine ⟨rfl,hs.get (b:=b4) (by repeat (first | exact At.head | (with_reducible apply At.tail))),fun _=>⟨F',h1.keepD ho12 (fun k hk hm=>by obtain rfl:=List.mem_singleton.1 hm;exact h1.not B411 rfl hk),fun k hk=>?_⟩,(hoW.weaken (by intro k hk;exact List.mem_append_left _ hk)).step ho12 (fun k hk => .inl (List.mem_append_right _ hk))⟩
    rcases h2 k hk with q | q
    · exact .inl (by rw [eF];exact q)
    · exact .inr (by omega)
  · rw [if_neg c3]
    generalize J.1=ee at *
    repeat' (first|refine vs (k:=?_)|(refine st hs (k:=?_);intro w hs)|refine qRg ?_|refine Nx.h ?_|(refine xc_cond rfl (fun hc=>?_) (fun hc=>?_))|fail)
    · first | refine rt (hq:=?_) | refine rt' (hq:=?_)
      have ho7:=hs.onlyF [] (by simp [B411]) (by simp [D0])
      exact ⟨rfl,ho7.block B411 (by simp),fun z=>absurd z c3,(hoW.step ho7 (by simp)).weaken (by intro k hk;exact List.mem_append_left _ hk)⟩
    · exact absurd (by simpa using hc) c3
end Go.Proofs.YtalffooghioekaaGreatDoorX

namespace Go.Proofs.YtalffooghioekaaGreatDoorX
open Go Go.RowKit
attribute [local irreducible] XS XC XA thenE blockE retE loopE loopS cutB cutN doneE SE
theorem Told21.fin {w0 w1 w2 w3:World} {sb:Nat} {F:List Nat} {ve:Value} {s:Sy} {l:Int × Ch} (T:Told21 w1 sb F [] ve s l w2) (ho:Only [] w0 w1) (ho3:Only [] w2 w3):Told21 w0 sb F [] ve s l w3:=by
  obtain ⟨⟨G,hG⟩,⟨F',hS,hF⟩,hT⟩:=T
  have hz:=ho.size
  exact ⟨⟨G,hG.keep ho3 (by simp)⟩,⟨F',hS.only ho3,fun k hk=>by
    rcases hF k hk with q | q
    · exact .inl q
    · exact .inr (by omega)⟩,((ho.weaken (by simp)).step hT (fun k hk => .inl hk)).step ho3 (by simp)⟩
theorem Told21.form {w0 w1:World} {sb:Nat} {F E:List Nat} {ve:Value} {s:Sy} {l:Int × Ch} (T:Told21 w0 sb F E ve s l w1):∃ a c,ve = .slice a (trySy s l).1.length c:=by
  obtain ⟨⟨G,hG⟩,_⟩:=T
  exact slv_form hG
set_option maxHeartbeats 4000000 in
theorem tickS_ret (sb:Nat) (s:Sy) (F:List Nat) (ns:Int) (w0:World) (h:SyAt w0 sb s F) (hns:U64 ns) (hbd:ns≤1099511627776→∀ k:Nat,k < s.k.length→(tickC (coreY s k) ns).2.2.p.length≤1000000) :
    Ret Tryz.prog 39 #[.pointer (some ⟨sb,0,none⟩),.int .u64 ns] w0 fun v w'=>∃ ve,v = .tuple #[ve,.int .i64 (tickY ⟨s,[]⟩ ns).1]∧Told21 w0 sb F [] ve s (tickY ⟨s,[]⟩ ns) w':=by
  have hs:=St.nil w0
  refine ret_of_xc Tryz.func39 (by kernel_rfl) rfl Tryz.ntmps39 rfl rfl rfl ?_
  refine xc_seq ?_
  refine xc_region ?_ ?_;exact rfl
  refine bx1 hs (k:=?_);clear hs;intro b3 w3 ho3 z3 hs
  repeat' (first|refine vs (k:=?_)|refine qRg ?_|refine Nx.h ?_|fail)
  have k3:=hs.get (b:=b3) (by repeat (first | exact At.head | (with_reducible apply At.tail)))
  (with_reducible apply xs_call);exact rfl;exact rfl;exact tryY_ret sb s F _ (h.only ho3) 94 [.pointer (some ⟨b3,0,none⟩)] [] (fun _=>True) (tickY ⟨s,[]⟩ ns) (fun _ _ _ _ _ _=>trivial) (by simp) (fun w hw hb F' hC hF'=>stick1_ret b3 hb s ns _ w hns hw k3 hbd hb F' hC hF')
  rintro v w9 ⟨ve,rfl,_,T⟩
  obtain ⟨ae,ce,rfl⟩:=T.form
  clear hs
  have hs:=St.nil w9
  repeat' (first|refine vs (k:=?_)|refine Nx.h ?_|fail)
  first | refine rt (hq:=?_) | refine rt' (hq:=?_)
  exact ⟨_,rfl,T.fin ho3 (hs.only0 rfl)⟩
set_option maxHeartbeats 4000000 in
theorem spawnS_ret (sb:Nat) (s:Sy) (F:List Nat) (core q ns:Int) (w0:World) (h:SyAt w0 sb s F) (hcore:In64 core) (hq:U64 q) (hns:U64 ns) :
    Ret Tryz.prog 32 #[.pointer (some ⟨sb,0,none⟩),.int .i64 core,.int .u64 q,.int .u64 ns] w0 fun v w'=>∃ ve,v = .tuple #[.int .i64 (spawnY ⟨s,[]⟩ core q ns).2.1,ve,.int .i64 (spawnY ⟨s,[]⟩ core q ns).1]∧Told21 w0 sb F [] ve s ((spawnY ⟨s,[]⟩ core q ns).1,(spawnY ⟨s,[]⟩ core q ns).2.2) w':=by
  have hltF:=h.lt
  have hs:=St.nil w0
  refine ret_of_xc Tryz.func32 (by kernel_rfl) rfl Tryz.ntmps32 rfl rfl rfl ?_
  refine xc_seq ?_
  refine xc_region ?_ ?_;exact rfl
  refine bx1 hs (k:=?_);clear hs;intro b5 w5 ho5 z5 hs
  refine bx1 hs (k:=?_);clear hs;intro b6 w6 ho6 z6 hs
  refine bx1 hs (k:=?_);clear hs;intro b7 w7 ho7 z7 hs
  iterate 3 refine vs (k:=?_)
  refine XS.nil ?_
  refine then_of ?_
  refine xc_seq ?_
  refine xc_region ?_ ?_;exact rfl
  refine al1 hs (k:=?_);clear hs;intro b11 w8 ho8 z8 hs
  refine st1 hs (k:=?_);clear hs;intro w9 ho9 hs
  repeat' (first|refine vs (k:=?_)|refine qRg ?_|refine Nx.h ?_|fail)
  have k5:=hs.get (b:=b5) (by repeat (first | exact At.head | (with_reducible apply At.tail)))
  have k6:=hs.get (b:=b6) (by repeat (first | exact At.head | (with_reducible apply At.tail)))
  have k7:=hs.get (b:=b7) (by repeat (first | exact At.head | (with_reducible apply At.tail)))
  have k11:=hs.get (b:=b11) (by repeat (first | exact At.head | (with_reducible apply At.tail)))
  have e5:=ho5.size
  have e6:=ho6.size
  have e7:=ho7.size
  have e8:=ho8.size
  have l5:=lt_of_block k5
  have hoA:Only [] w0 w9:=(((ho5.trans ho6).trans ho7).trans ho8).step ho9 (fun k hk => .inr (by obtain rfl:=List.mem_singleton.1 hk;simp at *;omega))
  have n57:b5≠b11:=by
    have:=hs.nd
    simp only [List.map_cons,List.map_nil,List.nodup_cons,List.mem_cons,not_or] at this
    exact fun e=>this.1.2.2.1 e.symm
  have n67:b6≠b7:=by
    have:=hs.nd
    simp only [List.map_cons,List.map_nil,List.nodup_cons,List.mem_cons,not_or] at this
    exact fun e=>this.2.1.1 e.symm
  (with_reducible apply xs_call);exact rfl;exact rfl;exact tryY_ret sb s F _ (h.only hoA) 73 [.pointer (some ⟨b5,0,none⟩),.pointer (some ⟨b6,0,none⟩),.pointer (some ⟨b7,0,none⟩),.pointer (some ⟨b11,0,none⟩)] [b11] (fun w=>w.heap[b11]?=some (intO (spawnY ⟨s,[]⟩ core q ns).2.1)) ((spawnY ⟨s,[]⟩ core q ns).1,(spawnY ⟨s,[]⟩ core q ns).2.2) (fun w w' G hq ho hG=>ho.block hq (hG _ (by simp))) (fun k hk=>by obtain rfl:=List.mem_singleton.1 hk;exact ⟨fun hm=>by have:=hltF _ hm;simp at *;omega,lt_of_block k11⟩) (fun w hw hb F' hC hF'=>sspawn1_ret b5 b6 b7 b11 hb s core q ns _ w hcore hq hns hw n57 n67 k5 k6 k7 k11 hb F' hC hF')
  rintro v w10 ⟨ve,rfl,hQ,T⟩
  obtain ⟨ae,ce,rfl⟩:=T.form
  clear hs
  have hs:=(St.nil w10).trackT hQ
  obtain ⟨⟨Gt,hGt⟩,⟨F',hS',hF'⟩,hT'⟩:=T
  repeat' (first|refine vs (k:=?_)|refine qRg ?_|refine Nx.h ?_|fail)
  first | refine rt (hq:=?_) | refine rt' (hq:=?_)
  have ho11:=hs.onlyF [] (by simp [hQ]) (by simp [D0])
  have zA:=hoA.size
  refine ⟨_,rfl,⟨Gt,hGt.keep ho11 (by simp)⟩,⟨F',hS'.only ho11,fun k hk=>?_⟩,((hoA.weaken (by simp)).step hT' (fun k hk=>?_)).step ho11 (by simp)⟩
  · rcases hF' k hk with z | z
    · exact .inl z
    · exact .inr (by omega)
  · simp only [List.mem_cons,List.not_mem_nil,or_false] at hk
    rcases hk with rfl | rfl
    · exact .inl (by simp)
    · exact .inr (by simp at *;omega)
end Go.Proofs.YtalffooghioekaaGreatDoorX
