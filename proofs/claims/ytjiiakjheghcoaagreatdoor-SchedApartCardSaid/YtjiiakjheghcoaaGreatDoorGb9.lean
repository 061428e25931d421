/- A part of the proof: what its functions compute. -/
import Derived.Test.YtjiiakjheghcoaaGreatDoorGb8
set_option linter.unusedVariables false
set_option linter.unusedSimpArgs false
set_option maxRecDepth 100000
set_option maxHeartbeats 64000000
set_option linter.unusedSectionVars false
namespace Go.Proofs.Q0
open Go Go.RowKit
structure Ce where
 cb:Nat
 c:Cs
 F:List Nat
def ptrs (L:List Ce):List Value:=L.map fun x => .pointer (some ⟨x.cb,0,none⟩)
def EL (L:List Ce):List Nat:=(L.map Ce.F).flatten
theorem Dj {L:List Ce} {k:Nat}:k∈EL L↔∃ x∈L,k∈x.F:=by
 unfold EL
 simp only [List.mem_flatten,List.mem_map]
 constructor
 ·rintro ⟨_,⟨x,hx,rfl⟩,hk⟩;exact ⟨x,hx,hk⟩
 ·rintro ⟨x,hx,hk⟩;exact ⟨_,⟨x,hx,rfl⟩,hk⟩
abbrev TM:Nat:=55
structure CQ (w:World) (v:Value) (l:List Cs) (L:List Ce) (G:List Nat):Prop where
 a:Ba w TM 1 v L.length (ptrs L) G
 l:L.map Ce.c=l
 c:∀ x∈L,Bc w x.cb x.c x.F
 d:∀ (i j:Nat) x y,L[i]?=some x→L[j]?=some y→i≠j→∀ k∈x.F,k∉y.F
theorem CQ.Ae {w w':World} {v:Value} {l:List Cs} {L:List Ce} {G F:List Nat} (h:CQ w v l L G) (ho:AA F w w') (hd:∀ k∈G ++ EL L,k∉F):CQ w' v l L G :=
 ⟨h.a.keep ho fun k hk=>hd k (List.mem_append_left _ hk),h.l,fun x hx=>(h.c x hx).Ae ho fun k hk=>hd k (List.mem_append_right _ (Dj.2 ⟨x,hx,hk⟩)),h.d⟩
abbrev S6 (tb:Nat) (c:Cf) (v:Value):Obj := .cells #[.pointer (some ⟨tb,0,none⟩),.int .i64 c.cores,.int .i64 c.tasks,.int .u64 c.tick,.int .u64 c.slice,.int .u64 c.origin,v] 48 (0,0)
structure Fa (w:World) (sb tb rb:Nat) (v:Value) (s:Sy) (L:List Ce) (G:List Nat):Prop where
 o:w.heap[sb]?=some (S6 tb s.cf v)
 t:DW w tb rb s.t
 c:CQ w v s.k L G
 ok:EC s
def CS (w:World) (sb:Nat) (s:Sy) (F:List Nat):Prop:=∃ tb rb v L G,F=sb :: tb :: rb :: (G ++ EL L)∧Fa w sb tb rb v s L G
def vY:Obj→Bool
 | .cells cs ty f=>oN (.cells cs ty f) && !(Nat.beq ty 48) && !(Nat.beq ty 97) && !(Nat.beq ty 51) && !(Nat.beq ty TM)
 | _=>false
theorem nbeq {a b:Nat} (h:(!(Nat.beq a b))=true):a≠b:=fun e=>by subst e;simp at h
theorem DW.tQ {w:World} {tb rb:Nat} {l:List Tk} (h:DW w tb rb l) {b:Nat} {cs:Array Value} {ty:Nat} {fz:Nat × Nat} (hb:w.heap[b]?=some (.cells cs ty fz)) (h1:ty≠97) (h2:ty≠51):b≠tb∧b≠rb:=by
 obtain ⟨cap,rest,a1,a2,_⟩:=h
 exact ⟨AW hb a1 h1,AW hb a2 h2⟩
theorem CS.not {w:World} {sb:Nat} {s:Sy} {F:List Nat} (h:CS w sb s F) {b:Nat} {cs:Array Value} {ty:Nat} {fz:Nat × Nat} (hb:w.heap[b]?=some (.cells cs ty fz)) (ho:vY (.cells cs ty fz)=true):b∉F:=fun hm=>by
 obtain ⟨tb,rb,v,L,G,rfl,h⟩:=h
 simp only [vY,Bool.and_eq_true] at ho
 obtain ⟨⟨⟨⟨o1,o2⟩,o3⟩,o4⟩,o5⟩:=ho
 have n2:=nbeq o2
 have n3:=nbeq o3
 have n4:=nbeq o4
 have n5:=nbeq o5
 obtain ⟨n6,n7⟩:=h.t.tQ hb n3 n4
 rcases List.mem_cons.1 hm with rfl | hm
 ·exact AW hb h.o n2 rfl
 rcases List.mem_cons.1 hm with rfl | hm
 ·exact n6 rfl
 rcases List.mem_cons.1 hm with rfl | hm
 ·exact n7 rfl
 rcases List.mem_append.1 hm with hm | hm
 ·exact BQ h.c.a hb n5 hm
 ·obtain ⟨x,hx,hk⟩:=Dj.1 hm
  exact (h.c.c x hx).not hb o1 hk
theorem CS.Ae {w w':World} {sb:Nat} {s:Sy} {F G:List Nat} (h:CS w sb s F) (ho:AA G w w') (hd:∀ k∈F,k∉G):CS w' sb s F:=by
 obtain ⟨tb,rb,v,L,G',rfl,h⟩:=h
 exact ⟨tb,rb,v,L,G',rfl,ho.block h.o (hd _ (by simp)),h.t.keep ho (hd _ (by simp)) (hd _ (by simp)),h.c.Ae ho (fun k hk=>hd k (by simp only [List.mem_cons];exact .inr (.inr (.inr hk)))),h.ok⟩
theorem CS.only {w w':World} {sb:Nat} {s:Sy} {F:List Nat} (h:CS w sb s F) (ho:AA [] w w'):CS w' sb s F:=h.Ae ho (by simp)
theorem DW.Rj {w:World} {tb rb:Nat} {l:List Tk} (h:DW w tb rb l):tb < w.heap.size∧rb < w.heap.size:=by
 obtain ⟨cap,rest,a1,a2,_⟩:=h
 exact ⟨lt_of_block a1,lt_of_block a2⟩
theorem CS.lt {w:World} {sb:Nat} {s:Sy} {F:List Nat} (h:CS w sb s F):∀ k∈F,k < w.heap.size:=fun k hm=>by
 obtain ⟨tb,rb,v,L,G,rfl,h⟩:=h
 rcases List.mem_cons.1 hm with rfl | hm
 ·exact lt_of_block h.o
 rcases List.mem_cons.1 hm with rfl | hm
 ·exact h.t.Rj.1
 rcases List.mem_cons.1 hm with rfl | hm
 ·exact h.t.Rj.2
 rcases List.mem_append.1 hm with hm | hm
 ·exact h.c.a.lt k hm
 ·obtain ⟨x,hx,hk⟩:=Dj.1 hm
  exact (h.c.c x hx).lt k hk
theorem CS.mem {w:World} {sb:Nat} {s:Sy} {F:List Nat} (h:CS w sb s F):sb∈F:=by obtain ⟨tb,rb,v,L,G,rfl,h⟩:=h;simp
theorem CS.ok {w:World} {sb:Nat} {s:Sy} {F:List Nat} (h:CS w sb s F):EC s:=by obtain ⟨tb,rb,v,L,G,rfl,h⟩:=h;exact h.ok
theorem nE (L:List Ce) (i:Nat) {x y:Ce} (hx:L[i]?=some x) (e:y.cb=x.cb):ptrs (L.set i y)=ptrs L:=by
 unfold ptrs
 rw [List.map_set,e]
 apply List.ext_getElem?
 intro j
 rw [List.getElem?_set]
 split
 ·rename_i h
  subst h
  rw [List.getElem?_map,hx,List.length_map]
  split
  ·rfl
  ·rename_i h;rw [List.getElem?_eq_none om] at hx;cases hx
 ·rfl
theorem CQ.put {w w':World} {v:Value} {l:List Cs} {L:List Ce} {G:List Nat} (h:CQ w v l L G) {i:Nat} {x:Ce} (hx:L[i]?=some x) {c':Cs} {F':List Nat} (hc:Bc w' x.cb c' F') (hF:∀ k∈F',k∈x.F∨w.heap.size≤k) (ho:AA [x.cb] w w') :
 CQ w' v (l.set i c') (L.set i ⟨x.cb,c',F'⟩) G∧∀ k∈G ++ EL (L.set i ⟨x.cb,c',F'⟩),k∈G ++ EL L∨w.heap.size≤k:=by
 have hxm:=List.mem_of_getElem? hx
 have hC:=h.c x hxm
 obtain ⟨_,_,_,_,_,hcb,_⟩:=hC.EB
 have hmem:∀ y∈L.set i ⟨x.cb,c',F'⟩,y=⟨x.cb,c',F'⟩∨∃ j:Nat,j≠i∧L[j]?=some y:=fun y hy=>by
  obtain ⟨j,hj⟩:=List.getElem?_of_mem hy
  rw [List.getElem?_set] at hj
  split at hj
  ·split at hj
   ·exact .inl (Option.some.inj hj).symm
   ·cases hj
  ·rename_i hne;exact .inr ⟨j,fun e=>hne e.symm,hj⟩
 have key:∀ (j:Nat) (y:Ce),j≠i→L[j]?=some y→∀ k∈F',k∉y.F:=fun j y hne hy k hk hm=>by
  rcases hF k hk with q | q
  ·exact h.d i j x y hx hy (Ne.symm hne) k q hm
  ·have:=(h.c y (List.mem_of_getElem? hy)).lt k hm;omega
 refine ⟨⟨?_,?_,?_,?_⟩,?_⟩
 ·rw [List.length_set,nE L i (y:=⟨x.cb,c',F'⟩) hx rfl]
  exact h.a.keep ho fun k hk hm=>by obtain rfl:=List.mem_singleton.1 hm;exact BQ h.a hcb (by decide) hk
 ·rw [List.map_set,h.l]
 ·intro y hy
  rcases hmem y hy with rfl | ⟨j,hj,hy⟩
  ·exact hc
  ·exact (h.c y (List.mem_of_getElem? hy)).Ae ho fun k hk hm=>by
    obtain rfl:=List.mem_singleton.1 hm
    exact h.d j i y x hy hx hj _ hk hC.mem
 ·intro a b y z hy hz hne k hk
  rw [List.getElem?_set] at hy hz
  split at hy
  ·rename_i ea
   split at hy
   ·cases hy
    rw [if_neg (fun e=>hne (ea.symm.trans e))] at hz
    exact key b z (fun e=>hne (ea.symm.trans e.symm)) hz k hk
   ·cases hy
  ·rename_i ea
   split at hz
   ·rename_i eb
    split at hz
    ·cases hz
     exact fun hm=>key a y (fun e=>ea e.symm) hy k hm hk
    ·cases hz
   ·exact h.d a b y z hy hz hne k hk
 ·intro k hk
  rcases List.mem_append.1 hk with hk | hk
  ·exact .inl (List.mem_append_left _ hk)
  ·obtain ⟨y,hy,hky⟩:=Dj.1 hk
   rcases hmem y hy with rfl | ⟨j,_,hy⟩
   ·rcases hF k hky with q | q
    ·exact .inl (List.mem_append_right _ (Dj.2 ⟨x,hxm,q⟩))
    ·exact .inr q
   ·exact .inl (List.mem_append_right _ (Dj.2 ⟨y,List.mem_of_getElem? hy,hky⟩))
theorem CQ.len {w:World} {v:Value} {l:List Cs} {L:List Ce} {G:List Nat} (h:CQ w v l L G):L.length=l.length:=by rw [← h.l,List.length_map]
theorem CQ.at {w:World} {v:Value} {l:List Cs} {L:List Ce} {G:List Nat} (h:CQ w v l L G) {i:Nat} (hi:i < l.length):∃ x,L[i]?=some x∧Bc w x.cb x.c x.F∧x.c=l.getD i (EV 0):=by
 have hl:=h.len
 have hi':i < L.length:=by omega
 have hl2:=h.l
 refine ⟨L[i],List.getElem?_eq_getElem hi',h.c _ (List.getElem_mem hi'),?_⟩
 subst hl2
 rw [List.getD_eq_getElem?_getD,List.getElem?_map,List.getElem?_eq_getElem hi'];rfl
theorem CQ.ptr {w:World} {v:Value} {l:List Cs} {L:List Ce} {G:List Nat} (h:CQ w v l L G) {i:Nat} {x:Ce} (hx:L[i]?=some x):∃ g cap cur,v = .slice (some ⟨g,0,none⟩) L.length cap∧w.heap[g]?=some (.cells (cur:List Value).toArray TM (0,0))∧cur[i]?=some (.pointer (some ⟨x.cb,0,none⟩)):=by
 rcases h.a with ⟨_,h0,_⟩ | ⟨g,cap,cur,e,_,_,_,_,ht,hg⟩
 ·rw [List.eq_nil_of_length_eq_zero h0] at hx;cases hx
 ·refine ⟨g,cap,cur,e,hg,?_⟩
  have h1:(ptrs L)[i]?=some (.pointer (some ⟨x.cb,0,none⟩)):=by unfold ptrs;rw [List.getElem?_map,hx];rfl
  rw [← ht,List.getElem?_take] at h1
  split at h1
  ·exact h1
  ·cases h1
theorem CS.put {w w':World} {sb tb rb:Nat} {v:Value} {s:Sy} {L:List Ce} {G:List Nat} (h:Fa w sb tb rb v s L G) {k:Int} {x:Ce} (hx:L[k.toNat]?=some x) {c':Cs} {F':List Nat} (hc:Bc w' x.cb c' F') (hF:∀ k∈F',k∈x.F∨w.heap.size≤k) (ho:AA [x.cb] w w') :
 ∃ L',Fa w' sb tb rb v (Bb s k c') L' G∧(∀ q∈sb :: tb :: rb :: (G ++ EL L'),q∈sb :: tb :: rb :: (G ++ EL L)∨w.heap.size≤q):=by
 obtain ⟨h1,h2⟩:=h.c.put hx hc hF ho
 obtain ⟨_,_,_,_,_,hcb,_⟩:=(h.c.c x (List.mem_of_getElem? hx)).EB
 have n1:x.cb≠sb:=AW hcb h.o (by decide)
 obtain ⟨n2,n3⟩:=h.t.tQ hcb (by decide) (by decide)
 refine ⟨_,⟨ho.block h.o (by simpa using Ne.symm n1),h.t.keep ho (by simpa using Ne.symm n2) (by simpa using Ne.symm n3),h1,h.ok.Sk k c'⟩,fun q hq=>?_⟩
 rcases List.mem_cons.1 hq with rfl | hq
 ·exact .inl (by simp)
 rcases List.mem_cons.1 hq with rfl | hq
 ·exact .inl (by simp)
 rcases List.mem_cons.1 hq with rfl | hq
 ·exact .inl (by simp)
 rcases h2 q hq with k | k
 ·exact .inl (by simp only [List.mem_cons];exact .inr (.inr (.inr k)))
 ·exact .inr k
theorem Fa.rows {w w':World} {sb tb rb:Nat} {v:Value} {s:Sy} {L:List Ce} {G:List Nat} (h:Fa w sb tb rb v s L G) {t:List Tk} (ht:DW w' tb rb t) (ho:AA [rb] w w') (hok:EC { s with t:=t }):Fa w' sb tb rb v { s with t:=t } L G:=by
 obtain ⟨cap,rest,a1,a2,_⟩:=h.t
 have n1:rb≠sb:=AW a2 h.o (by decide)
 refine ⟨ho.block h.o (by simpa using Ne.symm n1),ht,h.c.Ae ho fun k hk hm=>?_,hok⟩
 obtain rfl:=List.mem_singleton.1 hm
 rcases List.mem_append.1 hk with hk | hk
 ·exact BQ h.c.a a2 (by decide) hk
 ·obtain ⟨x,hx,hkx⟩:=Dj.1 hk
  exact (h.c.c x hx).not a2 rfl hkx
abbrev fX (sb:Nat) (ve:Value):Obj := .cells #[.pointer (some ⟨sb,0,none⟩),ve] 123 (0,0)
abbrev Y2 (w:World) (v:Value) (l:List Ev) (G:List Nat):Prop:=Ba w 41 5 v l.length (Nr l) G
def D4 (w:World) (hb:Nat) (s:Ch) (F:List Nat):Prop:=∃ sb Fs ve Ge,F=hb :: (Fs ++ Ge)∧w.heap[hb]?=some (fX sb ve)∧CS w sb s.s Fs∧Y2 w ve s.ev Ge
def oD:Obj→Bool
 | .cells cs ty f=>vY (.cells cs ty f) && !(Nat.beq ty 123) && !(Nat.beq ty 41)
 | _=>false
theorem D4.not {w:World} {hb:Nat} {s:Ch} {F:List Nat} (h:D4 w hb s F) {b:Nat} {cs:Array Value} {ty:Nat} {fz:Nat × Nat} (h1:w.heap[b]?=some (.cells cs ty fz)) (ho:oD (.cells cs ty fz)=true):b∉F:=fun hm=>by
 obtain ⟨sb,Fs,ve,Ge,rfl,k1,k2,k3⟩:=h
 simp only [oD,Bool.and_eq_true] at ho
 rcases List.mem_cons.1 hm with rfl | hm
 ·exact AW h1 k1 (nbeq ho.1.2) rfl
 rcases List.mem_append.1 hm with hm | hm
 ·exact k2.not h1 ho.1.1 hm
 ·exact BQ k3 h1 (nbeq ho.2) hm
theorem D4.Ae {w w':World} {hb:Nat} {s:Ch} {F G:List Nat} (h:D4 w hb s F) (ho:AA G w w') (hd:∀ k∈F,k∉G):D4 w' hb s F:=by
 obtain ⟨sb,Fs,ve,Ge,rfl,k1,k2,k3⟩:=h
 exact ⟨sb,Fs,ve,Ge,rfl,ho.block k1 (hd _ (by simp)),k2.Ae ho fun k hk=>hd k (by simp [hk]),k3.keep ho fun k hk=>hd k (by simp [hk])⟩
theorem D4.only {w w':World} {hb:Nat} {s:Ch} {F:List Nat} (h:D4 w hb s F) (ho:AA [] w w'):D4 w' hb s F:=h.Ae ho (by simp)
theorem D4.lt {w:World} {hb:Nat} {s:Ch} {F:List Nat} (h:D4 w hb s F):∀ k∈F,k < w.heap.size:=fun k hm=>by
 obtain ⟨sb,Fs,ve,Ge,rfl,k1,k2,k3⟩:=h
 rcases List.mem_cons.1 hm with rfl | hm
 ·exact lt_of_block k1
 rcases List.mem_append.1 hm with hm | hm
 ·exact k2.lt k hm
 ·exact k3.lt k hm
def qP (w0:World) (hb:Nat) (s:Ch) (F:List Nat) (w':World):Prop:=∃ F',D4 w' hb s F'∧(∀ k∈F',k∈F∨w0.heap.size≤k)∧AA F w0 w'
def Cc (r:Rp):Prop:=∀ g∈r.g,A9 g.lag∧In64 g.id
theorem Cc.none:Cc .none:=fun g hg=>by cases hg
theorem Wu {c:Cs} (h:CO c):∀ g∈DY c,A9 g.lag∧In64 g.id:=fun g hg=>by
 obtain ⟨s,hs⟩:=h
 obtain ⟨_,_,h3,_⟩:=hs.MM.gone g hg
 obtain ⟨a,_,ha⟩:=List.mem_map.1 h3
 exact ⟨TF hs g hg,by rw [← ha];exact a.2.1.2.1⟩
theorem Tg {c:Cs} (h:CO c):(DY c).length≤32:=by
 obtain ⟨s,hs⟩:=h
 have h1:(DY c).length≤c.A.l.length:=NK _ _
 have:=hs.le
 omega
theorem Cc.try {e:Int} {c1:Cs} {r1:Rp} (h:Cc r1) (hc:CO c1):Cc (BU e c1 r1):=by
 unfold BU
 split
 ·intro g hg
  rcases List.mem_append.1 hg with k | k
  ·exact h g k
  ·exact Wu hc g k
 ·exact Cc.none
theorem IQ {e:Int} {c1:Cs} {r1:Rp} (hc:CO c1):(BU e c1 r1).g.length≤r1.g.length+32∧(BU e c1 r1).p.length≤r1.p.length:=by
 unfold BU
 split
 ·have:=Tg hc
  exact ⟨by rw [List.length_append];omega,Nat.le_refl _⟩
 ·exact ⟨Nat.zero_le _,Nat.zero_le _⟩
theorem QZ {c:Cs} (h:CO c) (m:Int):CO (Df c m):=by obtain ⟨s,hs⟩:=h;exact PF hs m
theorem Oi:∀ (k:Nat) (left:Int) (c:Cs) (r:Rp),CO c→Cc r→Cc (DV k left c r).2.2
 | 0,_,_,_,_,h=>h
 | k+1,left,c,r,hc,h=>by
   unfold DV
   split
   ·split
    ·refine Oi k _ _ _ (NJ (QZ hc left)) fun g hg=>?_
     rcases List.mem_append.1 hg with q | q
     ·exact h g q
     ·exact Wu (QZ hc left) g q
    ·exact h
   ·exact h
theorem YF {c:Cs} (h:CO c) (ns:Int):Cc (Aq c ns).2.2:=by
 unfold Aq
 split
 ·exact Oi _ _ _ _ h Cc.none
 ·exact Cc.none
theorem ok_leave {s:Ch} (h:EC s.s) (x:Tk):EC (B6 s x).2.s∧(B6 s x).2.s.cf=s.s.cf:=by
 obtain ⟨h1,h2,_⟩:=ok_absorb (s:=⟨Bb s.s x.core (Cr (AS s.s x.core) (Ax (AS s.s x.core) x.id).1 (Ax (AS s.s x.core) x.id).2),s.ev⟩) (h.Sk x.core _) x.core (BU (Ax (AS s.s x.core) x.id).1 (Ax (AS s.s x.core) x.id).2 .none)
 exact ⟨h1,h2⟩
theorem CN.st {n:Int} {x:Tk} (h:CN n x) (hx:x.st≠0) {z:Int} (hz:0≤z∧z < 256):CN n { x with st:=z }:=⟨h.1,hz,h.2.2.1,h.2.2.2.1,h.2.2.2.2.1,h.2.2.2.2.2.1,fun _=>h.2.2.2.2.2.2 hx⟩
theorem CN.core {n:Int} {x:Tk} (h:CN n x) (hx:x.st≠0):0≤x.core∧x.core < n:=h.2.2.2.2.2.2 hx
def Zz (s:Sy):Prop:=∀ c∈s.k,CO c
theorem Zz.at {s:Sy} (h:Zz s) (k:Int):CO (AS s k):=by
 unfold AS
 rw [List.getD_eq_getElem?_getD]
 cases e:s.k[k.toNat]? with
 | none=>exact ⟨_,BJ.new 0⟩
 | some c=>exact h c (List.mem_of_getElem? e)
end Go.Proofs.Q0
namespace Go.Proofs.Q0
open Go Go.RowKit
attribute [local irreducible] XS XC XA AX AO A7 A0 AZ A8 Aa AV SE
theorem Gx.form {w1 w2:World} {cb:Nat} {F:List Nat} {rv:Value} {e:Int} {c c1:Cs} {r1:Rp} (T:Gx w1 cb F rv e c c1 r1 w2):∃ ag cg ap cp,rv = .agg #[.slice ag (BU e c1 r1).g.length cg,.slice ap (BU e c1 r1).p.length cp]:=by
 obtain ⟨⟨vg,vp,Gg,Gp,rfl,p1,p2⟩,_,_⟩:=T
 obtain ⟨ag,cg,rfl⟩:=BO p1
 obtain ⟨ap,cp,rfl⟩:=BO p2
 exact ⟨ag,cg,ap,cp,rfl⟩
theorem Ib (x:Tk) (w0:World):AM Tryz.prog 47 #[Jx x] w0 fun v w'=>v = .bool (BP x)∧AA [] w0 w':=by
 have hs:=St.nil w0
 refine AQ Tryz.func47 Tryz.ntmps47 (k:=?_)
 repeat' (first|refine Sf ?_|(refine bx hs (k:=?_);intro b w hz hs)|((with_reducible apply BM);exact rfl;exact rfl;intro c hc;(fail_if_success have:true=c:=hc);(fail_if_success have:false=c:=hc);cases c)|fail)
 all_goals (refine AF ?_)
 all_goals refine ⟨?_,hs.AD rfl⟩
 all_goals clear hs
 all_goals first
  | (have h1:(x.st == 1)=false:=hc;unfold BP;rw [h1];rfl)
  | (have h1:(x.st == 1)=true:=hc;unfold BP;rw [h1];rfl)
theorem EC.at {s:Sy} (h:EC s) {x:Tk} (hx:CN s.cf.cores x) (hn:x.st≠0):∃ n:Nat,x.core=n∧n < s.k.length:=by
 have h1:=hx.core hn
 have h2:=h.len
 exact ⟨x.core.toNat,by omega,by omega⟩
theorem I4 (sb:Nat) (s:Sy) (F:List Nat) (k:Int) (w0:World) (h:CS w0 sb s F) (hk:In64 k):AM Tryz.prog 15 #[.pointer (some ⟨sb,0,none⟩),.int .i64 k] w0 fun v w' =>
 ((Bx s.cf k≠0∧v = .tuple #[.pointer none,.int .i64 (Bx s.cf k)])∨(Bx s.cf k=0∧∃ cb F',v = .tuple #[.pointer (some ⟨cb,0,none⟩),.int .i64 0]∧Bc w' cb (AS s k) F'∧∀ i∈F',w0.heap.size≤i))∧AA [] w0 w':=by
 obtain ⟨tb,rb,vc,L,G,rfl,hO⟩:=h
 have h1:=hO.o
 have hs:=(St.nil w0).AE h1
 refine AQ Tryz.func15 Tryz.ntmps15 (k:=?_)
 refine Jd ?_
 refine cl (h:=by exact KK s.cf k _) (k:=?_)
 by_cases e0:Bx s.cf k=0
 ·have hk0:0≤k∧k < s.cf.cores:=by
   unfold Bx at e0
   split at e0
   ·cases e0
   ·omega
  have hlen:=hO.ok.len
  obtain ⟨n,rfl⟩:∃ n:Nat,k=n:=⟨k.toNat,by omega⟩
  obtain ⟨x,hx,hC,hce⟩:=hO.c.at (i:=n) om
  obtain ⟨g,cap,cur,rfl,hg,FQ⟩:=hO.c.ptr hx
  have hL:=hO.c.len
  have ec:AS s n=x.c:=hce.symm
  rw [e0,ec]
  rintro v w1 ⟨rfl,ho⟩;replace hs:=hs.AK ho
  have hoz:=hs.AB [] (by simp [h1]) (by simp [D0])
  replace hs:=hs.AE (hoz.block hg (by simp))
  refine Jd ?_
  refine ix (h0:=(by omega)) (h1:=(by omega)) (k:=?_)
  refine lb (hc:=(by simpa using FQ)) (k:=?_)
  have hz:=(hs.AB [] (by simp [h1,hg]) (by simp [D0])).size
  refine cl (h:=by exact Mm x.cb x.c x.F _ (hC.only (hs.AB [] (by simp [h1,hg]) (by simp [D0])))) (k:=?_)
  rintro v w2 ⟨⟨cb,F',rfl,hC',CV⟩,AN⟩;replace hs:=hs.AK AN
  refine Jc ?_
  refine AF ?_
  have hoe:AA [] w2 _:=(St.nil w2).AD rfl
  exact ⟨.inr ⟨rfl,cb,F',rfl,hC',fun i hi=>by have:=CV i hi;omega⟩,hs.AB [] (by simp [h1,hg]) (by simp [D0])⟩
 ·generalize Bx s.cf k=e at *
  rintro v w' ⟨rfl,ho⟩;replace hs:=hs.AK ho;repeat' (first|refine Sa ?_|refine xc_cond rfl (fun hc=>?_) fun hc=>?_|fail)
  ·refine AF ?_
   exact ⟨.inl ⟨e0,rfl⟩,hs.AB [] (by simp [h1]) (by simp [D0])⟩
  ·exact absurd (by simpa using hc) e0
theorem Zj (l:List Int) (x:Int):ints (l ++ [x])=ints l ++ [.int .i64 x]:=by simp [ints]
theorem nO (sb:Nat) (s:Sy) (F:List Nat) (w0:World) (h:CS w0 sb s F):AM Tryz.prog 10 #[.pointer (some ⟨sb,0,none⟩)] w0 fun v w'=>(∃ G,Ba w' 3 1 v (s.k.map Cs.run).length (ints (s.k.map Cs.run)) G∧∀ k∈G,w0.heap.size≤k)∧AA [] w0 w':=by
 obtain ⟨tb,rb,vc,L,G,rfl,hO⟩:=h
 have h1:=hO.o
 have hs:=(St.nil w0).AE h1
 have hlen:=hO.ok.len
 have hlo:=hO.ok.lo
 have hhi:=hO.ok.hi
 have hL:=hO.c.len
 have h0:0 < s.k.length:=by omega
 obtain ⟨x0,hx0,_,_⟩:=hO.c.at h0
 obtain ⟨g,cap,cur,rfl,hg,_⟩:=hO.c.ptr hx0
 refine AQ Tryz.func10 Tryz.ntmps10 (k:=?_)
 refine Jd ?_
 have Aw:=hs.AB [] (by simp [h1]) (by simp [D0])
 have FQ:∀ (i:Nat) (x:Ce),L[i]?=some x→cur[i]?=some (.pointer (some ⟨x.cb,0,none⟩)):=fun i x hx=>by
  obtain ⟨g',cap',cur',e,hg',M0⟩:=hO.c.ptr hx
  cases e
  rw [hg] at hg'
  simp only [Option.some.injEq,Obj.cells.injEq] at hg'
  have:=congrArg Array.toList hg'.1
  simp only at this
  rw [this];exact M0
 refine BN (fun (v3:Value)=>[(3,v3)]) (fun v3 w=>AA [] w0 w∧∃ G,Ba w 3 1 v3 (s.k.map Cs.run).length (ints (s.k.map Cs.run)) G∧∀ k∈G,w0.heap.size≤k) ?_ ?_
 ·refine BD (fun (x:Nat × Value)=>[(3,x.2),(11,.slice (some ⟨g,0,none⟩) L.length cap),(12,.int .i64 (L.length:Nat)),(13,.int .i64 (x.1:Nat))])
   (fun x w=>x.1≤L.length∧AA [] w0 w∧∃ G,Ba w 3 1 x.2 ((s.k.take x.1).map Cs.run).length (ints ((s.k.take x.1).map Cs.run)) G∧∀ k∈G,w0.heap.size≤k) (fun x=>L.length - x.1) (0,.slice none 0 0) Ab ⟨Nat.zero_le _,Aw,[],.inl ⟨rfl,rfl,rfl,rfl⟩,by simp⟩ fun x env wl ⟨hi,BS,hT⟩=>?_
  obtain ⟨i,v5⟩:=x
  simp only at hi hT
  obtain ⟨G3,hG,Ds⟩:=hT
  clear hs
  have hs:=(St.nil wl).AE (BS.block hg (by simp))
  repeat' (first|refine Sa ?_|refine Au rfl (fun hc=>?_) fun hc=>?_|fail)
  ·have hlt:i < L.length:=by omega
   have QW:i < s.k.length:=by omega
   obtain ⟨x,hx,hC,hce⟩:=hO.c.at QW
   have ei:=D2 (m:=L.length) hlt om
   have et:(s.k.take (i+1)).map Cs.run=(s.k.take i).map Cs.run ++ [x.c.run]:=by
    rw [C4 QW,List.map_append]
    congr 1
    rw [hce,List.getD_eq_getElem?_getD,List.getElem?_eq_getElem QW];rfl
   have hle:((s.k.take i).map Cs.run).length≤8:=by rw [List.length_map,List.length_take];omega
   generalize (s.k.take i).map Cs.run=A at *
   refine ix (h0:=(by omega)) (h1:=(by omega)) (k:=?_)
   refine lb (hc:=(by simpa using FQ i x hx)) (k:=?_)
   refine Ja ?_
   have hb0:=BS.block hg (by simp)
   have Av:=hs.AB [] (by simp [hb0]) (by simp [D0])
   refine AY hs (h:=by exact IG x.cb x.c x.F _ (hC.only (BS.trans Av))) (k:=?_);intro w' ho hs;repeat' (first|(refine bs hs (k:=?_);intro b w hz hs)|fail)
   have Dv:=hs.get (At.head)
   have AN:=hs.AB [] (by simp [hb0]) (by simp [D0])
   refine CM AI rfl rfl rfl rfl rfl rfl rfl (by decide) (lit_cells (news:=[.int .i64 x.c.run]) Dv) (by simp [Value.oneCell']) (hG.keep AN (by simp)) om om ?_
   intro Og w4 ⟨G',JF,J7⟩ Ao
   have PT:=AN.size
   have Pj:=BS.size
   clear hs
   have hs:=St.nil w4
   refine Ja ?_
   refine A2 (i+1,Og) (by show L.length - (i+1) < L.length - i;omega) (by (repeat (first | exact Ac | (apply A5;first | exact rfl | exact congrArg (Value.int .i64) ei)))) ⟨by show i+1≤_;omega,((BS.trans AN).news Ds Ao).trans (hs.AD rfl),G',?_,?_⟩
   ·simp only [et]
    rw [List.length_append,Zj]
    exact JF.keep (hs.AD rfl) (by simp)
   ·intro k hk
    rcases J7 k hk with h | h
    ·exact Ds k h
    ·omega
  ·have e:i=s.k.length:=by omega
   subst e
   rw [List.take_length] at hG
   exact Ar v5 Ab ⟨BS,G3,hG,Ds⟩
 ·rintro v5 env w ⟨BS,G3,hG,Ds⟩
  clear hs
  have hs:=St.nil w
  refine Ja ?_
  refine AF ?_
  have AT:=hs.AD rfl
  exact ⟨⟨G3,hG.keep AT (by simp),Ds⟩,BS.trans AT⟩
section
variable {QE : Exit → Env → World → Prop} {n : Nat} {env : Env} {w wb : World} {D : Ctx} {H : List Bn}
theorem drT (E:List Nat) {e:Bn} {id:Nat} {ops:Array Oper} (hs:St wb D (e :: H) w) (hX:XH ops E QE n:=by exact ⟨by kernel_rfl,by kernel_rfl,by kernel_rfl,by (repeat (first | (with_reducible exact PR) | (with_reducible apply Mg) | (with_reducible apply Lr) | (with_reducible apply NC) | (with_reducible apply Lf) | (with_reducible apply NY) | (with_reducible apply Mf)))⟩)
 (k:XH ops E QE n→∀ w',St wb D (e :: H) w'→XA Tryz.prog ops E H QE n ops.size (Array.replicate ops.size false) env w'):XC Tryz.prog QE n (.region id ops true) env w:=qI E H hs hX k
end
structure CR (w:World) (hb sb tb rb:Nat) (v ve:Value) (S:Ch) (L:List Ce) (G Ge:List Nat):Prop where
 h:w.heap[hb]?=some (fX sb ve)
 s:Fa w sb tb rb v S.s L G
 e:Y2 w ve S.ev Ge
def CB (hb sb tb rb:Nat) (L:List Ce) (G Ge:List Nat):List Nat:=hb :: ((sb :: tb :: rb :: (G ++ EL L)) ++ Ge)
theorem D4.EB {w:World} {hb:Nat} {s:Ch} {F:List Nat} (h:D4 w hb s F):∃ sb tb rb v ve L G Ge,F=CB hb sb tb rb L G Ge∧CR w hb sb tb rb v ve s L G Ge:=by
 obtain ⟨sb,Fs,ve,Ge,rfl,h1,⟨tb,rb,v,L,G,rfl,h2⟩,h3⟩:=h
 exact ⟨sb,tb,rb,v,ve,L,G,Ge,rfl,h1,h2,h3⟩
theorem CR.at {w:World} {hb sb tb rb:Nat} {v ve:Value} {s:Ch} {L:List Ce} {G Ge:List Nat} (h:CR w hb sb tb rb v ve s L G Ge):D4 w hb s (CB hb sb tb rb L G Ge):=⟨sb,_,ve,Ge,rfl,h.h,⟨tb,rb,v,L,G,rfl,h.s⟩,h.e⟩
theorem Fa.at {w:World} {sb tb rb:Nat} {v:Value} {s:Sy} {L:List Ce} {G:List Nat} (h:Fa w sb tb rb v s L G):CS w sb s (sb :: tb :: rb :: (G ++ EL L)):=⟨tb,rb,v,L,G,rfl,h⟩
theorem Fa.Ae {w w':World} {sb tb rb:Nat} {v:Value} {s:Sy} {L:List Ce} {G F:List Nat} (h:Fa w sb tb rb v s L G) (ho:AA F w w') (hd:∀ k∈sb :: tb :: rb :: (G ++ EL L),k∉F):Fa w' sb tb rb v s L G :=
 ⟨ho.block h.o (hd _ (by simp)),h.t.keep ho (hd _ (by simp)) (hd _ (by simp)),h.c.Ae ho (fun k hk=>hd k (by simp only [List.mem_cons];exact .inr (.inr (.inr hk)))),h.ok⟩
theorem Fa.only {w w':World} {sb tb rb:Nat} {v:Value} {s:Sy} {L:List Ce} {G:List Nat} (h:Fa w sb tb rb v s L G) (ho:AA [] w w'):Fa w' sb tb rb v s L G:=h.Ae ho (by simp)
theorem CR.only {w w':World} {hb sb tb rb:Nat} {v ve:Value} {s:Ch} {L:List Ce} {G Ge:List Nat} (h:CR w hb sb tb rb v ve s L G Ge) (ho:AA [] w w'):CR w' hb sb tb rb v ve s L G Ge :=
 ⟨ho.block h.h (by simp),h.s.only ho,h.e.keep ho (by simp)⟩
theorem CR.tell {w w1 w2:World} {hb sb tb rb:Nat} {v ve YR:Value} {s:Ch} {L:List Ce} {G Ge Wi:List Nat} (h:CR w hb sb tb rb v ve s L G Ge) {x:Ev} (ho:AA Ge w w1) (ha:Ba w1 41 5 YR (s.ev.length+1) (Nr s.ev ++ x.cells) Wi) (hG:∀ k∈Wi,k∈Ge∨w.heap.size≤k) (AN:AA [hb] w1 w2) (hh:w2.heap[hb]?=some (fX sb YR)) :
 CR w2 hb sb tb rb v YR ⟨s.s,s.ev ++ [x]⟩ L G Wi:=by
 have hS:=h.s.at
 have d1:∀ k∈sb :: tb :: rb :: (G ++ EL L),k∉Ge:=fun k hk hm=>by
  obtain ⟨cs,hc⟩:=LN h.e k hm
  exact hS.not hc rfl hk
 have n1:hb∉Ge:=fun hm=>BQ h.e h.h (by decide) hm
 have h1:=ho.block h.h n1
 have s1:=h.s.Ae ho d1
 refine ⟨hh,s1.Ae AN fun k hk hm=>?_,?_⟩
 ·obtain rfl:=List.mem_singleton.1 hm
  exact s1.at.not h1 rfl hk
 ·unfold Y2
  rw [List.length_append,X5]
  exact ha.keep AN fun k hk hm=>by obtain rfl:=List.mem_singleton.1 hm;exact BQ ha h1 (by decide) hk
theorem XJ (s:Ch) (k:Int) (l:List Gn) {i:Nat} (h:i < l.length):(l.take (i+1)).foldl (DO k) s=DO k ((l.take i).foldl (DO k) s) l[i]:=by rw [C4 h,List.foldl_append];rfl
theorem eU (s:Ch) (k:Int) (l:List Pr) {i:Nat} (h:i < l.length):(l.take (i+1)).foldl (Gv k) s=Gv k ((l.take i).foldl (Gv k) s) l[i]:=by rw [C4 h,List.foldl_append];rfl
theorem V3 (k:Int) (l:List Pr) (s:Ch):(l.foldl (Gv k) s).ev.length=s.ev.length+l.length:=by rw [(Nn k l s).2,List.length_append,List.length_map]
theorem mO (k:Int) (l:List Gn) (s:Ch):(l.foldl (DO k) s).ev.length=s.ev.length+l.length:=by rw [TS,List.length_append,List.length_map]
theorem PX (hb sb tb rb:Nat) (v ve:Value) (s:Ch) (L:List Ce) (G Ge:List Nat) (k:Int) (rv:Value) (r:Rp) (w0:World) (hO:CR w0 hb sb tb rb v ve s L G Ge) (hr:Lt w0 rv r) (hg:Cc r) (hl:s.ev.length+r.p.length+r.g.length≤4000000000000) :
 AM Tryz.prog 60 #[.pointer (some ⟨hb,0,none⟩),.int .i64 k,rv] w0 fun _ w'=>∃ YR Wi,CR w' hb sb tb rb v YR (BR s k r) L G Wi∧(∀ i∈Wi,i∈Ge∨w0.heap.size≤i)∧AA (CB hb sb tb rb L G Ge) w0 w':=by
 have iS:=hO.at
 obtain ⟨vg,vp,Gg,Gp,rfl,pg,pp⟩:=hr
 have oI:Cn w0 170 13 vg (r.g.map Gn.cells):=Ba.ls pg rfl (by simp) (fun x hx=>by obtain ⟨g,_,rfl⟩:=List.mem_map.1 hx;rfl)
 have pZ:Cn w0 168 3 vp (r.p.map Pr.cells):=Ba.ls pp rfl (by simp) (fun x hx=>by obtain ⟨g,_,rfl⟩:=List.mem_map.1 hx;rfl)
 obtain ⟨ag,cg,rfl,oI⟩:=oI
 obtain ⟨ap,cp,rfl,pZ⟩:=pZ
 rw [List.length_map] at pg oI
 rw [List.length_map] at pp pZ
 rw [List.length_map,List.length_map]
 have hh:=hO.h
 have VL:=iS.lt
 have hs:=(St.nil w0).AE hh
 refine AQ Tryz.func60 Tryz.ntmps60 (k:=?_)
 refine Ag ?_
 refine Al ?_
 refine bx hs (k:=?_);clear hs;intro b5 w1 JK hs
 refine Ja ?_
 have g5:=hs.new (b5,true) (by simp) rfl
 simp only at g5
 have Aw:=hs.AB [] (by simp [hh]) (by simp [D0])
 have k5:=hs.get (b:=b5) (by repeat (first | exact At.head | (with_reducible apply At.tail)))
 have zA:=Aw.size
 refine BN (fun (_:Value × List Nat)=>[(0,.pointer (some ⟨hb,0,none⟩)),(1,.int .i64 k),(5,.pointer (some ⟨b5,0,none⟩))]) (fun y w=>w.heap[b5]?=some (KW (.slice ag r.g.length cg) (.slice ap r.p.length cp))∧CR w hb sb tb rb v y.1 (r.p.foldl (Gv k) s) L G y.2∧(∀ i∈y.2,i∈Ge∨w0.heap.size≤i)∧AA (CB hb sb tb rb L G Ge) w0 w) ?_ ?_
 ·refine BD (fun (x:Nat × Value × List Nat)=>[(0,.pointer (some ⟨hb,0,none⟩)),(1,.int .i64 k),(5,.pointer (some ⟨b5,0,none⟩)),(13,.slice ap r.p.length cp),(14,.int .i64 (r.p.length:Nat)),(15,.int .i64 (x.1:Nat))])
   (fun x w=>x.1≤r.p.length∧w.heap[b5]?=some (KW (.slice ag r.g.length cg) (.slice ap r.p.length cp))∧CR w hb sb tb rb v x.2.1 ((r.p.take x.1).foldl (Gv k) s) L G x.2.2∧(∀ i∈x.2.2,i∈Ge∨w0.heap.size≤i)∧AA (CB hb sb tb rb L G Ge) w0 w) (fun x=>r.p.length - x.1) (0,ve,Ge) Ab ⟨Nat.zero_le _,k5,hO.only Aw,fun i hi => .inl hi,Aw.weaken (by simp)⟩ fun x env wl ⟨hi,hB,hC,LQ,ho⟩=>?_
  obtain ⟨i,v5,G5⟩:=x
  simp only at hi hC LQ
  clear hs
  have hs:=((St.nil wl).AE hB).AE hC.h
  repeat' (first|refine Sa ?_|refine Au rfl (fun hc=>?_) fun hc=>?_|fail)
  ·have hlt:i < r.p.length:=by omega
   obtain ⟨b,off,cs,fz,rfl,_,CD,hcs⟩:=pZ (fun h=>by have:=congrArg List.length h;rw [List.length_map,List.length_nil] at this;omega)
   have hpk:=hcs i (Pr.cells r.p[i]) (by rw [List.getElem?_map,List.getElem?_eq_getElem hlt];rfl)
   have ei:=D2 (m:=r.p.length) hlt om
   have et:=eU s k r.p hlt
   have IX:=V3 k (r.p.take i) s
   rw [List.length_take] at IX
   have JN:=ho.block CD (iS.not CD rfl)
   generalize r.p[i]=q at *
   generalize (r.p.take i).foldl (Gv k) s=S at *
   refine ix (h0:=(by omega)) (h1:=(by omega)) (k:=?_)
   refine KH (vs:=q.cells) JN hpk (k:=?_)
   refine al hs (k:=?_);clear hs;intro b7 w7 Yn hs
   refine AU hs (k:=?_);clear hs;intro w8 hs
   refine Jb ?_
   have E3:=hs.AB [] (by simp [hB,hC.h]) (by simp [D0])
   have k7:=hs.get (b:=b7) (by repeat (first | exact At.head | (with_reducible apply At.tail)))
   have tR:=hC.only E3
   have hB8:=E3.block hB (by simp)
   have g7:=hs.new (b7,true) (by simp) rfl
   simp only at g7
   clear hs
   have hs:=((St.nil _).AE k7).AE tR.h
   refine dr [17] hs (k:=?_);intro hX w hs
   refine tks 0 13 ?_
   refine dt 13 hX (k:=?_)
   refine bs hs (k:=?_);clear hs;intro b9 w9 xX hs
   refine XS.nil ?_
   refine dn (k:=?_)
   refine dt 14 hX (k:=?_)
   have kM:=hs.AB [] (by simp [k7,tR.h]) (by simp [D0])
   have MO:=E3.trans kM
   have XL:=tR.only kM
   have hB9:=kM.block hB8 (by simp)
   have z9:=MO.size
   have z0:=ho.size
   refine CM AI rfl rfl rfl rfl rfl rfl rfl (by decide) (lit_cells (news:=Ev.cells (Td k q)) (hs.get At.head)) (by simp [Value.oneCell']) XL.e om om ?_
   intro v10 dS ⟨G10,uX,oJ⟩ J0
   obtain ⟨a10,aA7,rfl⟩:=BO uX
   have c1:=J0.block XL.h (fun hm=>BQ XL.e XL.h (by decide) hm)
   have k7':=J0.block (hs.get (b:=b7) (by repeat (first | exact At.head | (with_reducible apply At.tail)))) (fun hm=>BQ XL.e (hs.get (b:=b7) (by repeat (first | exact At.head | (with_reducible apply At.tail)))) (by decide) hm)
   have b5':=J0.block hB9 (fun hm=>BQ XL.e hB9 (by decide) hm)
   clear hs
   have hs:=((St.nil dS).AE k7').AE c1
   refine XS.nil ?_
   refine dn (k:=?_)
   refine tks 15 2 ?_
   refine dt 17 hX (k:=?_)
   refine st hs (k:=?_);clear hs;intro w11 hs
   refine XS.nil ?_
   refine dn (k:=?_)
   refine en (k:=?_)
   refine Ja ?_
   have B8:AA [hb] dS _:=hs.AB [hb] (by simp [k7']) (by simp [D0])
   have aAH:=B8.block b5' (by simpa using AW b5' c1 (by decide))
   have hT:=XL.tell (x:=Td k q) J0 uX oJ B8 (hs.get (b:=hb) (by repeat (first | exact At.head | (with_reducible apply At.tail))))
   refine A2 (i+1,.slice a10 (S.ev.length+1) aA7,G10) (by show r.p.length - (i+1) < r.p.length - i;omega) (by (repeat (first | exact Ac | (apply A5;first | exact rfl | exact congrArg (Value.int .i64) ei)))) ⟨by show i+1≤_;omega,aAH,?_,fun j hj=>?_,((ho.step MO (by simp)).step J0 (fun j hj=>?_)).step B8 (fun j hj => .inl (by obtain rfl:=List.mem_singleton.1 hj;simp [CB]))⟩
   ·show CR _ hb sb tb rb v _ ((r.p.take (i+1)).foldl (Gv k) s) L G G10
    rw [et]
    exact hT
   ·rcases oJ j hj with q | q
    ·exact LQ j q
    ·exact .inr om
   ·rcases LQ j hj with q | q
    ·exact .inl (by simp [CB,q])
    ·exact .inr q
  ·have e:i=r.p.length:=by omega
   subst e
   rw [List.take_length] at hC
   exact Ar (v5,G5) Ab ⟨hB,hC,LQ,ho⟩
 ·rintro ⟨v5,G5⟩ env w2 ⟨hB,hC,LQ,ho⟩
  simp only at hC LQ
  have aBf:=V3 k r.p s
  have eA:BR s k r=r.g.foldl (DO k) (r.p.foldl (Gv k) s):=rfl
  generalize r.p.foldl (Gv k) s=S0 at *
  clear hs
  have hs:=(St.nil w2).AE hB
  refine Ja ?_
  have Aj:=hs.AB [] (by simp [hB]) (by simp [D0])
  refine BN (fun (_:Value × List Nat)=>[]) (fun y w=>CR w hb sb tb rb v y.1 (r.g.foldl (DO k) S0) L G y.2∧(∀ i∈y.2,i∈Ge∨w0.heap.size≤i)∧AA (CB hb sb tb rb L G Ge) w0 w) ?_ ?_
  ·refine BD (fun (x:Nat × Value × List Nat)=>[(0,.pointer (some ⟨hb,0,none⟩)),(1,.int .i64 k),(38,.slice ag r.g.length cg),(39,.int .i64 (r.g.length:Nat)),(40,.int .i64 (x.1:Nat))])
    (fun x w=>x.1≤r.g.length∧CR w hb sb tb rb v x.2.1 ((r.g.take x.1).foldl (DO k) S0) L G x.2.2∧(∀ i∈x.2.2,i∈Ge∨w0.heap.size≤i)∧AA (CB hb sb tb rb L G Ge) w0 w) (fun x=>r.g.length - x.1) (0,v5,G5) Ab ⟨Nat.zero_le _,hC.only Aj,LQ,ho.step Aj (by simp)⟩ fun x env wl ⟨hi,hC,LQ,qB⟩=>?_
   obtain ⟨i,v5,G5⟩:=x
   simp only at hi hC LQ
   clear hs
   have hs:=((St.nil wl).AE hC.s.o).AE hC.h
   repeat' (first|refine Sa ?_|refine Au rfl (fun hc=>?_) fun hc=>?_|fail)
   ·have hlt:i < r.g.length:=by omega
    obtain ⟨b,off,cs,fz,rfl,_,CD,hcs⟩:=oI (fun h=>by have:=congrArg List.length h;rw [List.length_map,List.length_nil] at this;omega)
    have hpk:=hcs i (Gn.cells r.g[i]) (by rw [List.getElem?_map,List.getElem?_eq_getElem hlt];rfl)
    have ei:=D2 (m:=r.g.length) hlt om
    have et:=XJ S0 k r.g hlt
    have IX:=mO k (r.g.take i) S0
    rw [List.length_take] at IX
    have JN:=qB.block CD (iS.not CD rfl)
    have Y3:=hg r.g[i] (List.getElem_mem hlt)
    generalize r.g[i]=q at *
    generalize (r.g.take i).foldl (DO k) S0=S at *
    refine ix (h0:=(by omega)) (h1:=(by omega)) (k:=?_)
    refine KH (vs:=q.cells) JN hpk (k:=?_)
    refine al hs (k:=?_);clear hs;intro b9 w9 xX hs
    refine AU hs (k:=?_);clear hs;intro dS hs
    refine Jb ?_
    refine dr [] hs (k:=?_);intro hX w hs
    refine tks 0 9 ?_
    refine GS 13 10 hs (k:=?_);intro f X w hp;have hs:=hp.st
    apply BH 9 13 (f:=f) (X:=X) hX hp;exact rfl;exact rfl;(apply AR AI;exact rfl);kernel_rfl;kernel_rfl;kernel_rfl;kernel_rfl;(intro X Y;(repeat (first | exact A4 | refine A3 ?_ (by exact rfl))));(intro w' hs;first|exact AH hs.hold|exact AH hs.hold.tail|exact A6 rfl);intro f X w hp;have hs:=hp.st
    have J0:=hs.AB [] (by simp [hC.s.o,hC.h]) (by simp [D0])
    refine cl (h:=by exact Od tb rb S.s.t q.id _ (hC.s.t.only J0) Y3.2) (k:=?_)
    have hx:=ok_task hC.s.ok.row q.id
    have eG:D5 S.s q={ BF S.s.t q.id with st:=3,lag:=GH S.s.cf q.lag (BF S.s.t q.id).slice }:=rfl
    generalize BF S.s.t q.id=x at *
    rintro v w' ⟨rfl,ho⟩;replace hp:=hp.only ho;replace hs:=hp.st;refine Jb ?_
    refine dn (k:=?_)
    refine tk 10 hX (hc:=by cases f <;> kernel_rfl) (k:=?_)
    refine tk 11 hX (hc:=by cases f <;> kernel_rfl) (k:=?_)
    refine tk 12 hX (hc:=by cases f <;> kernel_rfl) (k:=?_)
    apply B9 13 (f:=f) (X:=X) hX hp;exact rfl;(apply AR AI;exact rfl);kernel_rfl;kernel_rfl;(intro X Y;(repeat (first | exact A4 | refine A3 ?_ (by exact rfl))));(intro w' hs;first|exact AH hs.hold|exact AH hs.hold.tail|exact A6 rfl);intro b w hI hs
    refine dt 14 hX (k:=?_)
    repeat' (first|refine Nx.h ?_|(refine AU hs (k:=?_);intro w hs)|fail)
    refine dn (k:=?_)
    refine tk 15 hX (k:=?_)
    refine en (k:=?_)
    refine Jb ?_
    refine drT [] hs (k:=?_);intro hX w hs
    refine tks 0 10 ?_
    refine dt 10 hX (k:=?_)
    refine Jc ?_
    refine dn (k:=?_)
    refine tk 12 hX (k:=?_)
    refine dt 11 hX (k:=?_)
    refine AY hs (h:=by exact Q5 S.s.cf q.lag x.slice hC.s.ok.cf Y3.1 hx.2.2.2.2.1 _) (k:=?_);intro w' ho hs;refine Jb ?_
    refine dn (k:=?_)
    refine dt 13 hX (k:=?_)
    repeat' (first|refine Nx.h ?_|(refine st hs (k:=?_);intro w hs)|fail)
    refine dn (k:=?_)
    refine tk 14 hX (k:=?_)
    refine dt 15 hX (k:=?_)
    repeat' (first|refine Nx.h ?_|(refine st hs (k:=?_);intro w hs)|fail)
    refine dn (k:=?_)
    refine en (k:=?_)
    refine Jb ?_
    refine dr [] hs (k:=?_);intro hX w hs
    refine tks 0 8 ?_
    refine dt 8 hX (k:=?_)
    have JE:=hs.AB [] (by simp [hC.s.o,hC.h]) (by simp [D0])
    have eS:Jx (D5 S.s q) = .agg #[.int .i64 x.id,.int .u8 3,.int .i64 x.core,.int .u32 x.w,.int .u64 x.slice,.int .i64 (GH S.s.cf q.lag x.slice)]:=by rw [eG];rfl
    rw [← eS]
    have hok:CN S.s.cf.cores (D5 S.s q):=CN.oE hC.s.ok q
    refine cl (h:=by exact FN tb rb S.s.t (D5 S.s q) _ (hC.s.t.only JE) hok.1) (k:=?_)
    rintro v12 w12 ⟨rfl,FW,Bq⟩
    obtain ⟨cap,rest,t1,t2,_⟩:=(hC.s.t.only JE)
    have kh:=Bq.block (hs.get (b:=hb) (o:=fX sb v5) (by repeat (first | exact At.head | (with_reducible apply At.tail)))) (by simpa using AW (hs.get (b:=hb) (o:=fX sb v5) (by repeat (first | exact At.head | (with_reducible apply At.tail)))) t2 (by decide))
    have k9:=Bq.block (hs.get (b:=b9) (by repeat (first | exact At.head | (with_reducible apply At.tail)))) (by simpa using AW (hs.get (b:=b9) (by repeat (first | exact At.head | (with_reducible apply At.tail)))) t2 (by decide))
    have wY:Fa w12 sb tb rb v (Bu S.s (D5 S.s q)) L G:=(hC.s.only JE).rows FW Bq (hC.s.ok.CK hok)
    have aAM:Y2 w12 v5 S.ev G5:=(hC.e.keep JE (by simp)).keep Bq (fun j hj hm=>by obtain rfl:=List.mem_singleton.1 hm;exact BQ (hC.e.keep JE (by simp)) t2 (by decide) hj)
    have aQ:CR w12 hb sb tb rb v v5 ⟨Bu S.s (D5 S.s q),S.ev⟩ L G G5:=⟨kh,wY,aAM⟩
    have gb:=hs.new (b,true) (by simp) rfl
    have Yl:=hC.s.t.Rj.2
    simp only at gb
    have oM:=Bq.block (hs.get (b:=b) (by repeat (first | exact At.head | (with_reducible apply At.tail)))) (by simp;omega)
    have ks:=wY.o
    clear hs
    have hs:=((((St.nil w12).AE ks).AE kh).AE k9).AE oM
    refine XS.nil ?_
    refine dn (k:=?_)
    refine en (k:=?_)
    refine Jb ?_
    have bE:=hs.AB [] (by simp [ks,kh,k9,oM]) (by simp [D0])
    replace aQ:=aQ.only bE
    replace Bq:=Bq.step bE (by simp)
    replace k9:=bE.block k9 (by simp)
    replace kh:=aQ.h
    clear hs
    have hs:=((St.nil _).AE k9).AE kh
    refine dr [13] hs (k:=?_);intro hX w hs
    refine tks 0 9 ?_
    refine dt 9 hX (k:=?_)
    refine bs hs (k:=?_);clear hs;intro b13 I5 aBT hs
    refine XS.nil ?_
    refine dn (k:=?_)
    refine dt 10 hX (k:=?_)
    have LF:=hs.AB [] (by simp [k9,kh]) (by simp [D0])
    have TP:=aQ.only LF
    have z13:=LF.size
    have z12:=Bq.size
    have z11:=JE.size
    have z0:=qB.size
    refine CM AI rfl rfl rfl rfl rfl rfl rfl (by decide) (lit_cells (news:=Ev.cells ⟨k,q.id,0,false,true⟩) (hs.get At.head)) (by simp [Value.oneCell']) TP.e (by show (S.ev.length+1)*32≤_;omega) (by show S.ev.length+1≤_;omega) ?_
    intro v14 w14 ⟨G14,uB,pY⟩ MI
    obtain ⟨a14,aAt,rfl⟩:=BO uB
    have c1:=MI.block TP.h (fun hm=>BQ TP.e TP.h (by decide) hm)
    have zY:=MI.block (hs.get (b:=b9) (by repeat (first | exact At.head | (with_reducible apply At.tail)))) (fun hm=>BQ TP.e (hs.get (b:=b9) (by repeat (first | exact At.head | (with_reducible apply At.tail)))) (by decide) hm)
    clear hs
    have hs:=((St.nil w14).AE zY).AE c1
    refine XS.nil ?_
    refine dn (k:=?_)
    refine tks 11 2 ?_
    refine dt 13 hX (k:=?_)
    refine st hs (k:=?_);clear hs;intro w15 hs
    refine XS.nil ?_
    refine dn (k:=?_)
    refine en (k:=?_)
    refine Ja ?_
    have B8:AA [hb] w14 _:=hs.AB [hb] (by simp [zY]) (by simp [D0])
    have hT:=TP.tell (x:=⟨k,q.id,0,false,true⟩) MI uB pY B8 (hs.get (b:=hb) (by repeat (first | exact At.head | (with_reducible apply At.tail))))
    refine A2 (i+1,.slice a14 (S.ev.length+1) aAt,G14) (by show r.g.length - (i+1) < r.g.length - i;omega) (by (repeat (first | exact Ac | (apply A5;first | exact rfl | exact congrArg (Value.int .i64) ei)))) ⟨by show i+1≤_;omega,?_,fun j hj=>?_,((((qB.step JE (by simp)).step Bq (fun j hj => .inl (by obtain rfl:=List.mem_singleton.1 hj;simp [CB]))).step LF (by simp)).step MI (fun j hj=>?_)).step B8 (fun j hj => .inl (by obtain rfl:=List.mem_singleton.1 hj;simp [CB]))⟩
    ·show CR _ hb sb tb rb v _ ((r.g.take (i+1)).foldl (DO k) S0) L G G14
     rw [et]
     exact hT
    ·rcases pY j hj with q | q
     ·exact LQ j q
     ·exact .inr om
    ·rcases LQ j hj with q | q
     ·exact .inl (by simp [CB,q])
     ·exact .inr q
   ·have e:i=r.g.length:=by omega
    subst e
    rw [List.take_length] at hC
    exact Ar (v5,G5) Ab ⟨hC,LQ,qB⟩
  ·rintro ⟨v6,G6⟩ env w3 ⟨hC,LQ,ho⟩
   simp only at hC LQ
   clear hs
   have hs:=St.nil w3
   skip
   refine JG ?_
   have AN:=hs.AD rfl
   exact ⟨_,_,by rw [eA];exact hC.only AN,LQ,ho.step AN (by simp)⟩
theorem GI (hb:Nat) (s:Ch) (F:List Nat) (k:Int) (rv:Value) (r:Rp) (w0:World) (h:D4 w0 hb s F) (hr:Lt w0 rv r) (hg:Cc r) (hl:s.ev.length+r.p.length+r.g.length≤4000000000000) :
 AM Tryz.prog 60 #[.pointer (some ⟨hb,0,none⟩),.int .i64 k,rv] w0 fun v w'=>qP w0 hb (BR s k r) F w':=by
 obtain ⟨sb,tb,rb,v,ve,L,G,Ge,rfl,hO⟩:=h.EB
 refine (PX hb sb tb rb v ve s L G Ge k rv r w0 hO hr hg hl).mono fun v' w' ⟨YR,Wi,h1,h2,h3⟩=>⟨_,h1.at,fun j hj=>?_,h3⟩
 simp only [CB,List.mem_cons,List.mem_append] at hj ⊢
 rcases hj with hj | hj | hj
 ·exact .inl (.inl hj)
 ·exact .inl (.inr (.inl hj))
 ·rcases h2 j hj with q | q
  ·exact .inl (.inr (.inr q))
  ·exact .inr q
end Go.Proofs.Q0
namespace Go.Proofs.Q0
open Go Go.RowKit
section
variable {ops : Array Oper} {QE : Exit → Env → World → Prop} {n : Nat} {rest : List Oper} {env : Env} {w wb : World} {D : Ctx} {H : List Bn} {d : Option Nat} {ty : Nat} {pos : String} {Am : Array Edge} {g : Option (Nat × Bool)}
def Ir (H:List Bn):List Bn:=H.map fun e=>(e.1,e.2.1,false)
theorem St.nL (hs:St w D0 H w) {b:Nat} {o:Obj} {w':World} (h:St w D0 ((b,o,true) :: H) w'):AA [] w w' :=
 h.AB [] (fun e he=>by
  rcases List.mem_cons.1 he with rfl | he
  ·exact .inl rfl
  ·exact .inr (.inr (hs.hold e he))) (by simp [D0])
theorem St.new1 {b:Nat} {o:Obj} {w':World} (h:St w D0 ((b,o,true) :: H) w'):w.heap.size≤b:=h.new (b,true) (by simp) rfl
theorem St.new2 {b:Nat} {o:Obj} {w':World} (h:St w D0 ((b,o,true) :: H) w') (hf:Ir H=H):St w' D0 ((b,o,false) :: H) w':=by
 have h1:=h.En
 rw [List.map_cons] at h1
 unfold Ir at hf
 rw [hf] at h1
 exact h1
theorem St.E8 (h:St wb D H w) {b:Nat} {cs:Array Value} {ty:Nat} {fz:Nat × Nat} (hb:w.heap[b]?=some (.cells cs ty fz)) (hn:(H.all fun e=>TK ty e.2.1)=true:=by rfl):b∉H.map (·.1):=fun hm=>by
 obtain ⟨e,he,rfl⟩:=List.mem_map.1 hm
 have h1:=List.all_eq_true.1 hn e he
 have h2:=h.at_ e he
 rw [hb] at h2
 rw [← Option.some.inj h2] at h1
 simp [TK] at h1
theorem St.Db (hs:St w D0 H w) {F:List Nat} {w':World} (ho:AA F w w') (hF:∀ k∈F,k∉H.map (·.1)) (hf:Ir H=H:=by rfl):St w' D0 H w':=by
 have h1:=(hs.call ho hF (by simp [D0])).En
 unfold Ir at hf
 rw [hf] at h1
 exact h1
theorem St.I9 (hs:St w D0 H w) {w':World} (ho:AA [] w w') (hf:Ir H=H:=by rfl):St w' D0 H w':=hs.Db ho (by simp) hf
theorem FF {t:Nat} {cs:List Value} (hs:St w D0 H w) (ht:look t Gq.zs=some cs:=by exact rfl) (hf:Ir H=H:=by rfl) (hw:BA ops env g=true:=by exact rfl)
 (k:∀ b w',AA [] w w'→w.heap.size≤b→St w' D0 ((b,.cells cs.toArray t,false) :: H) w'→XS Tryz.prog ops QE n rest (Bp env d (.pointer (some ⟨b,0,none⟩))) w'):XS Tryz.prog ops QE n (⟨d,.alloc t,ty,pos,Am,g⟩ :: rest) env w :=
 xs_alloc AI ht hw hs fun b w' _ h=>k b w' (hs.nL h) h.new1 (h.new2 hf)
theorem Gd {t:Nat} {x:Operand} {cs:List Value} (hs:St w D0 H w) (hf:Ir H=H:=by rfl) (hw:BA ops env g=true:=by exact rfl) (hx:(ev env x).cells=cs.toArray:=by exact rfl)
 (k:∀ b w',AA [] w w'→w.heap.size≤b→St w' D0 ((b,.cells cs.toArray t,false) :: H) w'→XS Tryz.prog ops QE n rest (Bp env d (.pointer (some ⟨b,0,none⟩))) w'):XS Tryz.prog ops QE n (⟨d,.box t x,ty,pos,Am,g⟩ :: rest) env w :=
 xs_box hw hx hs fun b w' _ h=>k b w' (hs.nL h) h.new1 (h.new2 hf)
theorem bs1 {t e size bytes len:Nat} {parts:Array (Nat × Operand)} {zs cs:List Value} (hs:St w D0 H w) (hf:Ir H=H:=by rfl) (hw:BA ops env g=true:=by exact rfl) (Cx:look t Gq.sls=some (e,size,bytes):=by exact rfl) (hz:look e Gq.zs=some zs:=by exact rfl) (hzl:Nat.beq zs.length size=true:=by exact rfl) (Oa:Nat.ble (len*size) 16777216=true:=by exact rfl) (hps:Nat.beq (len*size) 0=false:=by exact rfl)
 (hb:CU env (Mo len size) (Ql zs (len*size)) parts.toList cs:=by (repeat (first | exact CU.nil | (apply CU.one;exact rfl;(conv=>lhs;whnf);exact rfl;(repeat (first | exact Ai.nil | apply Ai.skip | apply Ai.cons))) | (apply CU.agg;exact rfl;exact rfl;exact rfl;(repeat (first | exact Ai.nil | apply Ai.skip | apply Ai.cons))))))
 (k:∀ b w',AA [] w w'→w.heap.size≤b→St w' D0 ((b,.cells cs.toArray e,false) :: H) w'→XS Tryz.prog ops QE n rest (Bp env d (.slice (some ⟨b,0,none⟩) len len)) w'):XS Tryz.prog ops QE n (⟨d,.buildSlice t len parts,ty,pos,Am,g⟩ :: rest) env w :=
 Hz AI hw Cx hz hzl Oa hps hb hs fun b w' _ h=>k b w' (hs.nL h) h.new1 (h.new2 hf)
theorem St.tL (hs:St w D0 H w) {H':List Bn} {b:Nat} {w':World} (h:St w D0 H' w') (hb:∀ e∈H',e.1=b∨e∈H) (hf:Ir H'=H'):AA [b] w w'∧St w' D0 H' w':=by
 refine ⟨h.AB [b] (fun e he=>?_) (by simp [D0]),?_⟩
 ·rcases hb e he with q | q
  ·exact .inr (.inl (by simp [q]))
  ·exact .inr (.inr (hs.hold e q))
 ·have h1:=h.En
  unfold Ir at hf
  rw [hf] at h1
  exact h1
theorem At.others {b:Nat} {o:Obj} {nw:Bool} {f:Obj→List Bn} (h:At H b o nw f) (o':Obj):∀ e∈f o',e.1=b∨e∈H:=by
 induction h with
 | head =>
   intro e he
   rcases List.mem_cons.1 he with rfl | he
   ·exact .inl rfl
   ·exact .inr (List.mem_cons_of_mem _ he)
 | tail _ ih =>
   intro e he
   rcases List.mem_cons.1 he with rfl | he
   ·exact .inr List.mem_cons_self
   ·rcases ih e he with q | q
    ·exact .inl q
    ·exact .inr (List.mem_cons_of_mem _ q)
theorem fK {t b off:Nat} {x y:Operand} {cs cs':List Value} {E:TypeId} {nw:Bool} {f:Obj→List Bn} {v:Value} (hs:St w D0 H w) (ht:look t Gq.tks=some (false,1):=by exact rfl) (hw:BA ops env g=true:=by exact rfl)
 (hp:ev env x = .pointer (some ⟨b,off,none⟩):=by exact rfl) (hv:ev env y=v:=by (conv=>lhs;whnf)) (h1:v.oneCell'=true:=by exact rfl) (hA:At H b (.cells cs.toArray E (0,0)) nw f:=by (repeat (first | exact At.head | (with_reducible apply At.tail)))) (hc:Ai cs off [v] cs':=by (repeat (first | exact Ai.nil | apply Ai.skip | apply Ai.cons))) (hf:Ir (f (.cells cs'.toArray E (0,0)))=f (.cells cs'.toArray E (0,0)):=by rfl)
 (k:∀ w',AA [b] w w'→St w' D0 (f (.cells cs'.toArray E (0,0))) w'→XS Tryz.prog ops QE n rest (Bp env d undef) w'):XS Tryz.prog ops QE n (⟨d,.store t x y,ty,pos,Am,g⟩ :: rest) env w :=
 xs_store AI ht hw hp hv h1 hs hA hc fun w' h=>(fun q=>k w' q.1 q.2) (hs.tL h (hA.others _) hf)
theorem DR {t b off m:Nat} {x y:Operand} {cs vs cs':List Value} {E:TypeId} {nw:Bool} {f:Obj→List Bn} (hs:St w D0 H w) (ht:look t Gq.tks=some (true,m):=by exact rfl) (hw:BA ops env g=true:=by exact rfl)
 (hp:ev env x = .pointer (some ⟨b,off,none⟩):=by exact rfl) (hv:ev env y = .agg vs.toArray:=by exact rfl) (hm:Nat.beq vs.length m=true:=by exact rfl) (h1:vs.all Value.oneCell'=true:=by exact rfl) (hA:At H b (.cells cs.toArray E (0,0)) nw f:=by (repeat (first | exact At.head | (with_reducible apply At.tail)))) (hc:Ai cs off vs cs':=by (repeat (first | exact Ai.nil | apply Ai.skip | apply Ai.cons))) (hf:Ir (f (.cells cs'.toArray E (0,0)))=f (.cells cs'.toArray E (0,0)):=by rfl)
 (k:∀ w',AA [b] w w'→St w' D0 (f (.cells cs'.toArray E (0,0))) w'→XS Tryz.prog ops QE n rest (Bp env d undef) w'):XS Tryz.prog ops QE n (⟨d,.store t x y,ty,pos,Am,g⟩ :: rest) env w :=
 UJ AI ht hw hp hv hm h1 hs hA hc fun w' h=>(fun q=>k w' q.1 q.2) (hs.tL h (hA.others _) hf)
theorem Hj (E:List Nat) {id:Nat} {ops:Array Oper} (hs:St w D0 H w) (hX:XH ops E QE n:=by exact ⟨by kernel_rfl,by kernel_rfl,by kernel_rfl,by (repeat (first | (with_reducible exact PR) | (with_reducible apply Mg) | (with_reducible apply Lr) | (with_reducible apply NC) | (with_reducible apply Lf) | (with_reducible apply NY) | (with_reducible apply Mf)))⟩) (hf:Ir H=H:=by rfl)
 (k:XH ops E QE n→∀ w',AA [] w w'→St w' D0 H w'→XA Tryz.prog ops E H QE n ops.size (Array.replicate ops.size false) env w'):XC Tryz.prog QE n (.region id ops true) env w :=
 dr E hs hX fun hX w' h=>k hX w' (h.AB [] (fun e he => .inr (.inr (hs.hold e he))) (by simp [D0])) (by
  have h1:=h.En
  unfold Ir at hf
  rw [hf] at h1
  exact h1)
end
end Go.Proofs.Q0
namespace Go.Proofs.Q0
namespace FL
structure F1 where
 w:Rat
 x:Rat
 e:Rat
def lag (V:Rat) (k:F1):Rat:=k.w*V - k.x
end FL
end Go.Proofs.Q0
namespace Go.Proofs.Q0
open IB (IT)
open FL
theorem Tp {c:Cs} {m:Int} {a:RT} (hg:DH c.A.l c.run=a.1) (m0:0≤m) (he:FV c m=0):(D3 c m).1.i.id=a.1.i.id∧Lv a.1.i.p (BX c m*1048576)=some (D3 c m).1.i.p∧1≤BX c m∧BX c m≤a.1.left∧((D3 c m).1.left=a.1.left - BX c m∨a.1.left - BX c m=0):=by
 cases e:Fw c m with
 | none =>
   have:FV c m=2:=by unfold FV D3;rw [e];exact (put_zero _).1
   omega
 | some u =>
   have hu:=TR m0 e
   have hk:=(Ry e).1
   have hy:D3 c m=C3 u.1:=by unfold D3;rw [e]
   have hy1:(D3 c m).1=u.1:=by rw [hy];exact JY hu
   rw [hy1]
   rw [hg] at hk
   unfold Fw DD at e
   rw [hg] at e
   split at e
   ·rename_i hc
    cases em:Lv a.1.i.p (BX c m*1048576) with
    | none=>rw [em] at e;cases e
    | some p =>
      rw [em] at e
      have e:(CK (Cu a.1 p (BX c m))).map (fun u=>(u,decide (a.1.left - BX c m=0)))=some u:=e
      cases es:CK (Cu a.1 p (BX c m)) with
      | none=>rw [es] at e;cases e
      | some y =>
        rw [es] at e
        cases e
        have hn:0≤BX c m:=by
         unfold BX EF
         have:=Rx hc.1
         rw [hg]
         split <;> omega
        unfold CK at es
        cases k2:(Dx (Cu a.1 p (BX c m))).right with
        | false=>rw [k2] at es;cases es
        | true =>
          rw [k2] at es
          cases es
          have q1:(Dx (Cu a.1 p (BX c m))).i.p=p:=by
           unfold Dx
           cases EW (Cu a.1 p (BX c m)).left <;> rfl
          have q2:(Dx (Cu a.1 p (BX c m))).left=bif decide (a.1.left - BX c m=0) then a.1.slice else a.1.left - BX c m:=by
           unfold Dx
           cases EW (Cu a.1 p (BX c m)).left <;> rfl
          refine ⟨hk,congrArg some q1.symm,by omega,hc.2.2,?_⟩
          show (Dx (Cu a.1 p (BX c m))).left=_∨_
          rw [q2]
          by_cases z:a.1.left - BX c m=0
          ·exact .inr z
          ·rw [decide_eq_false z]
           exact .inl rfl
   ·cases e
end Go.Proofs.Q0
namespace Go.Proofs.Q0
open Go Go.RowKit
theorem TY {s:Ss} {c:Cs} (h:BJ s c.A):∀ x∈(Da c).A.l,x∈c.A.l:=h.MM.sub
theorem Wp {c:Cs} {m:Int} {a:RT} (hg:DH c.A.l c.run=a.1) (m0:0≤m) (he:FV c m=0):(D3 c m).1.slice=a.1.slice∧(D3 c m).1.left=(if a.1.left - BX c m=0 then a.1.slice else a.1.left - BX c m)∧(MF c m).done=decide (a.1.left - BX c m=0):=by
 cases e:Fw c m with
 | none =>
   have:FV c m=2:=by unfold FV D3;rw [e];exact (put_zero _).1
   omega
 | some u =>
   have hu:=TR m0 e
   have hy:D3 c m=C3 u.1:=by unfold D3;rw [e]
   have hy1:(D3 c m).1=u.1:=by rw [hy];exact JY hu
   have hp:(MF c m).done=u.2:=by unfold MF;rw [e]
   rw [hy1,hp]
   unfold Fw DD at e
   rw [hg] at e
   split at e
   ·rename_i hc
    cases em:Lv a.1.i.p (BX c m*1048576) with
    | none=>rw [em] at e;cases e
    | some p =>
      rw [em] at e
      have e:(CK (Cu a.1 p (BX c m))).map (fun u=>(u,decide (a.1.left - BX c m=0)))=some u:=e
      cases es:CK (Cu a.1 p (BX c m)) with
      | none=>rw [es] at e;cases e
      | some y =>
        rw [es] at e
        cases e
        unfold CK at es
        cases k2:(Dx (Cu a.1 p (BX c m))).right with
        | false=>rw [k2] at es;cases es
        | true =>
          rw [k2] at es
          cases es
          have q1:(Dx (Cu a.1 p (BX c m))).slice=a.1.slice:=by
           unfold Dx
           cases EW (Cu a.1 p (BX c m)).left <;> rfl
          have q2:(Dx (Cu a.1 p (BX c m))).left=bif decide (a.1.left - BX c m=0) then a.1.slice else a.1.left - BX c m:=by
           unfold Dx
           cases EW (Cu a.1 p (BX c m)).left <;> rfl
          refine ⟨q1,?_,rfl⟩
          show (Dx (Cu a.1 p (BX c m))).left=_
          rw [q2]
          by_cases z:a.1.left - BX c m=0
          ·rw [decide_eq_true z,if_pos z];rfl
          ·rw [decide_eq_false z,if_neg z];rfl
   ·cases e
theorem Ff {l:List Tk} {z:Tk}:z∈BE l↔z.st≠0∧∃ i:Nat,l[i]?=some z:=by
 unfold BE
 rw [List.mem_filter,List.mem_iff_getElem?]
 constructor
 ·rintro ⟨h1,h2⟩;exact ⟨by simpa using h2,h1⟩
 ·rintro ⟨h1,h2⟩;exact ⟨h2,by simpa using h1⟩
theorem ON {t:List Tk} (h:BY 0 t) {y:Tk} {i:Nat} (hi:i < t.length) (hid:y.id=(i:Int)+1) (z:Tk):z∈BE (t.set i y)↔(z=y∧y.st≠0)∨(z∈BE t∧z.id≠y.id):=by
 rw [Ff,Ff]
 constructor
 ·rintro ⟨h1,j,hj⟩
  rw [List.getElem?_set] at hj
  split at hj
  ·cases hj;exact .inl ⟨rfl,h1⟩
  ·rename_i hne
   have:=(h.get hj h1).1
   exact .inr ⟨⟨h1,j,hj⟩,fun e=>hne om⟩
 ·rintro (⟨rfl,h1⟩ | ⟨⟨h1,j,hj⟩,h2⟩)
  ·exact ⟨h1,i,by rw [List.getElem?_set,if_pos rfl,if_pos hi]⟩
  ·have:=(h.get hj h1).1
   exact ⟨h1,j,by rw [List.getElem?_set,if_neg (fun e=>h2 om)];exact hj⟩
theorem I0 {t:List Tk} (h:BY 0 t) {x y:Tk} (hx:x∈BE t) (hid:y.id=x.id) (hy:B0 y=true) (z:Tk):z∈BE (Ez t y)↔z=y∨(z∈BE t∧z.id≠y.id):=by
 obtain ⟨i,h1,h2,_⟩:=HG h hx
 obtain ⟨h3,h4⟩:=IF h1
 have e:Ez t y=t.set i y:=by unfold Ez;rw [hy,hid,h1];rfl
 rw [e,ON h h3 (by rw [hid];exact h4) z]
 have:=Um hy
 constructor
 ·rintro (⟨h,_⟩ | h)
  ·exact .inl h
  ·exact .inr h
 ·rintro (h | h)
  ·exact .inl ⟨h,this⟩
  ·exact .inr h
theorem Zm {t:List Tk} (h:BY 0 t) {x:Tk} (hx:x∈BE t) (z:Tk):z∈BE (FJ t x.id)↔z∈BE t∧z.id≠x.id:=by
 obtain ⟨i,h1,h2,_⟩:=HG h hx
 obtain ⟨h3,h4⟩:=IF h1
 have e:FJ t x.id=t.set i .zero:=by unfold FJ;rw [h1]
 rw [e,Ff,Ff]
 constructor
 ·rintro ⟨k1,j,hj⟩
  rw [List.getElem?_set] at hj
  split at hj
  ·cases hj;exact absurd rfl k1
  ·rename_i hne
   have:=(h.get hj k1).1
   exact ⟨⟨k1,j,hj⟩,fun e=>hne om⟩
 ·rintro ⟨⟨k1,j,hj⟩,k2⟩
  have:=(h.get hj k1).1
  exact ⟨k1,j,by rw [List.getElem?_set,if_neg (fun e=>k2 om)];exact hj⟩
theorem XB:∀ {l:List Tk} {i:Nat},DX l=some i→∃ x,l[i]?=some x∧x.st=0
 | [],i,h=>by cases h
 | y :: l,i,h=>by
   unfold DX at h
   split at h
   ·rename_i k;cases h;exact ⟨y,rfl,k⟩
   ·cases e:DX l with
    | none=>rw [e] at h;cases h
    | some j =>
      rw [e] at h
      cases h
      obtain ⟨x,h1,h2⟩:=XB e
      exact ⟨x,by rw [List.getElem?_cons_succ];exact h1,h2⟩
theorem UW {t:List Tk} (h:BY 0 t) {y:Tk} (he:E9 t y=0) (z:Tk):(z∈BE (DN t y)↔z={ y with id:=Eo t y }∨z∈BE t)∧(∀ u∈BE t,u.id≠Eo t y)∧1≤Eo t y∧Eo t y≤t.length:=by
 unfold E9 at he
 unfold DN Eo
 cases hr:B0 y with
 | false=>rw [hr] at he;cases he
 | true =>
   rw [hr] at he
   cases e:DX t with
   | none=>rw [e] at he;cases he
   | some i =>
     obtain ⟨x,h1,h2⟩:=XB e
     have hi:=LC e
     have hno:∀ u∈BE t,u.id≠(i:Int)+1:=fun u hu k=>by
      obtain ⟨k1,j,hj⟩:=GD hu
      have:=(h.get hj k1).1
      have:j=i:=by omega
      subst this
      rw [h1] at hj;cases hj;exact k1 h2
     have hy:=Um hr
     refine ⟨?_,hno,by show (1:Int)≤(i:Int)+1;omega,by show (i:Int)+1≤_;omega⟩
     show z∈BE (t.set i { y with id:=(i:Int)+1 })↔z={ y with id:=(i:Int)+1 }∨z∈BE t
     rw [ON h hi rfl z]
     constructor
     ·rintro (⟨h,_⟩ | h)
      ·exact .inl h
      ·exact .inr h.1
     ·rintro (h | h)
      ·exact .inl ⟨h,hy⟩
      ·exact .inr ⟨h,hno z h⟩
theorem JS {t:List Tk} (h:BY 0 t) {x y:Tk} (hx:x∈BE t) (hy:y∈BE t) (e:x.id=y.id):x=y:=by
 obtain ⟨_,_,_,h1⟩:=HG h hx
 obtain ⟨_,_,_,h2⟩:=HG h hy
 rw [← h1,← h2,e]
theorem live_right {t:List Tk} (h:BY 0 t) {x:Tk} (hx:x∈BE t):B0 x=true:=by
 obtain ⟨k1,j,hj⟩:=GD hx
 exact (h.get hj k1).2
def Q1 (k:Int) (x:Tk) (a:RT):Prop:=x.id=Az a∧x.core=k∧x.st=(if a.1.asleep=true then 2 else 1)∧x.w=a.1.i.p.w∧x.slice=a.1.slice
structure DS (t:List Tk) (k:Int) (l:List RT) (G E:List Int):Prop where
 fwd:∀ a∈l,∃ x∈BE t,Q1 k x a
 bwd:∀ x∈BE t,BP x=true→x.core=k→x.id∉E→(∃ a∈l,Az a=x.id)∨x.id∈G
 gone:∀ i∈G,(∀ a∈l,Az a≠i)∧∃ x∈BE t,x.id=i∧x.core=k
theorem Q9 {x:Tk}:BP x=true↔x.st=1∨x.st=2:=by unfold BP;rw [Bool.or_eq_true];simp
theorem Q1.comp {k:Int} {x:Tk} {a:RT} (h:Q1 k x a):BP x=true:=by
 rw [Q9,h.2.2.1]
 split
 ·exact .inr rfl
 ·exact .inl rfl
theorem DS.other {t:List Tk} {k k':Int} {l:List RT} {G E:List Int} (h:DS t k' l G E) (hI:BY 0 t) {x y:Tk} (hx:x∈BE t) (hid:y.id=x.id) (hy:B0 y=true) (qA:x.core≠k'∨(BP x=false∧x.id∉G)) (hyk:y.core≠k'∨BP y=false):DS (Ez t y) k' l G E:=by
 have L:=I0 hI hx hid hy
 refine ⟨fun a ha=>?_,fun z hz hc hk he=>?_,fun i hi=>⟨(h.gone i hi).1,?_⟩⟩
 ·obtain ⟨u,hu,ht⟩:=h.fwd a ha
  refine ⟨u,(L u).2 (.inr ⟨hu,fun e=>?_⟩),ht⟩
  have:=JS hI hu hx (by rw [e,hid])
  subst this
  rcases qA with q | ⟨q,_⟩
  ·exact q ht.2.1
  ·rw [ht.comp] at q;cases q
 ·rcases (L z).1 hz with rfl | ⟨hz,_⟩
  ·rcases hyk with q | q
   ·exact absurd hk q
   ·rw [hc] at q;cases q
  ·exact h.bwd z hz hc hk he
 ·obtain ⟨u,hu,h1,h2⟩:=(h.gone i hi).2
  refine ⟨u,(L u).2 (.inr ⟨hu,fun e=>?_⟩),h1,h2⟩
  have:=JS hI hu hx (by rw [e,hid])
  subst this
  rcases qA with q | ⟨_,q⟩
  ·exact q h2
  ·exact q (h1 ▸ hi)
theorem DS.enter {t:List Tk} {k:Int} {l:List RT} {i:Int} {G E:List Int} (h:DS t k l (i :: G) E) (hI:BY 0 t) {x y:Tk} (hx:x∈BE t) (hi:x.id=i) (hid:y.id=x.id) (hc:y.core=x.core) (hs:y.st=3):DS (Ez t y) k l G E:=by
 have hy:B0 y=true:=by unfold B0;rw [hs];rfl
 have L:=I0 hI hx hid hy
 obtain ⟨g1,u,hu,g2,g3⟩:=h.gone i List.mem_cons_self
 obtain rfl:=JS hI hu hx (g2.trans hi.symm)
 refine ⟨fun a ha=>?_,fun z hz PV hk he=>?_,fun j hj=>⟨(h.gone j (List.mem_cons_of_mem _ hj)).1,?_⟩⟩
 ·obtain ⟨v,hv,ht⟩:=h.fwd a ha
  exact ⟨v,(L v).2 (.inr ⟨hv,fun e=>g1 a ha (by rw [← ht.1,e,hid,g2])⟩),ht⟩
 ·rcases (L z).1 hz with rfl | ⟨hz,hn⟩
  ·rw [Q9,hs] at PV;omega
  ·rcases h.bwd z hz PV hk he with q | q
   ·exact .inl q
   ·rcases List.mem_cons.1 q with q | q
    ·exact absurd (by rw [q,hid,g2]) hn
    ·exact .inr q
 ·obtain ⟨v,hv,h1,h2⟩:=(h.gone j (List.mem_cons_of_mem _ hj)).2
  by_cases e:v.id=y.id
  ·exact ⟨y,(L y).2 (.inl rfl),by rw [← e];exact h1,by rw [hc];exact g3⟩
  ·exact ⟨v,(L v).2 (.inr ⟨hv,e⟩),h1,h2⟩
theorem UC (k:Int):∀ (G:List Gn) (s:Ch) (l:List RT) (E:List Int),BY 0 s.s.t→DS s.s.t k l (G.map Gn.id) E →
 BY 0 (G.foldl (DO k) s).s.t∧DS (G.foldl (DO k) s).s.t k l [] E ∧
 (∀ k' l' E',k'≠k→DS s.s.t k' l' [] E'→DS (G.foldl (DO k) s).s.t k' l' [] E') ∧
 (∀ z,z.id∉G.map Gn.id→(z∈BE (G.foldl (DO k) s).s.t↔z∈BE s.s.t)) ∧
 (∀ z∈BE (G.foldl (DO k) s).s.t,∃ u∈BE s.s.t,u.id=z.id∧u.core=z.core∧u.w=z.w∧u.slice=z.slice) ∧
 (∀ z∈BE (G.foldl (DO k) s).s.t,z.id∈G.map Gn.id→z.st=3)
 | [],s,l,E,hI,h=>⟨hI,h,fun _ _ _ _ h=>h,fun _ _=>Iff.rfl,fun z hz=>⟨z,hz,rfl,rfl,rfl,rfl⟩,fun z _ hm=>by cases hm⟩
 | g :: G,s,l,E,hI,h=>by
   obtain ⟨_,x,hx,h1,h2⟩:=h.gone g.id (by simp)
   obtain ⟨i,f1,f2,f3⟩:=HG hI hx
   rw [h1] at f3
   have hid:(D5 s.s g).id=x.id:=by show (BF s.s.t g.id).id=_;rw [f3]
   have Ia:(D5 s.s g).core=x.core:=by show (BF s.s.t g.id).core=_;rw [f3]
   have hw:(D5 s.s g).w=x.w:=by show (BF s.s.t g.id).w=_;rw [f3]
   have Cx:(D5 s.s g).slice=x.slice:=by show (BF s.s.t g.id).slice=_;rw [f3]
   have hst:(D5 s.s g).st=3:=rfl
   have hr:B0 (D5 s.s g)=true:=rfl
   have L:=I0 hI hx hid hr
   have cA:BY 0 (DO k s g).s.t:=hI.sets (D5 s.s g)
   obtain ⟨a1,a2,a3,a4,a5,a6⟩:=UC k G (DO k s g) l E cA (h.enter hI hx h1 hid Ia hst)
   refine ⟨a1,a2,fun k' l' E' hk ht=>a3 k' l' E' hk (ht.other (k:=k) hI hx hid hr (.inl (by rw [h2];exact Ne.symm hk)) (.inr (by unfold BP;rw [hst];rfl))),fun z hz=>?_,fun z hz=>?_,fun z hz hm=>?_⟩
   ·simp only [List.map_cons,List.mem_cons,not_or] at hz
    refine (a4 z hz.2).trans ((L z).trans ⟨?_,fun k => .inr ⟨k,by rw [hid,h1];exact hz.1⟩⟩)
    rintro (rfl | k)
    ·exact absurd (by rw [hid,h1]) hz.1
    ·exact k.1
   ·obtain ⟨u,hu,e1,e2,e3,e4⟩:=a5 z hz
    rcases (L u).1 hu with rfl | ⟨k,_⟩
    ·exact ⟨x,hx,by rw [← e1,hid],by rw [← e2,Ia],by rw [← e3,hw],by rw [← e4,Cx]⟩
    ·exact ⟨u,k,e1,e2,e3,e4⟩
   ·by_cases q:z.id∈G.map Gn.id
    ·exact a6 z hz q
    ·have R7:=(a4 z q).1 hz
     rcases (L z).1 R7 with rfl | ⟨_,k2⟩
     ·exact hst
     ·simp only [List.map_cons,List.mem_cons] at hm
      rcases hm with hm | hm
      ·exact absurd (by rw [hm,hid,h1]) k2
      ·exact absurd hm q
theorem My (s:Ch) (k:Int) (r:Rp):(BR s k r).s=(r.g.foldl (DO k) ⟨s.s,s.ev ++ r.p.map (Td k)⟩).s:=by
 unfold BR
 obtain ⟨e1,e2⟩:=Nn k r.p s
 rw [show r.p.foldl (Gv k) s=⟨s.s,s.ev ++ r.p.map (Td k)⟩ by rw [← e1,← e2]]
theorem Kp {r x:RT} {l:List RT} (ho:Cl (CF r l)) (hx:x∈CF r l):x=r∨(x∈l∧Az x≠Az r):=by
 have h:=Ct ho hx
 rw [KL] at h
 split at h
 ·cases h;exact .inl rfl
 ·rename_i hn;exact .inr ⟨(CA h).1,hn⟩
theorem Sq (r:RT) (l:List RT):r∈CF r l:=(CA (by rw [KL,if_pos rfl])).1
theorem Sr {r x:RT} {l:List RT} (ho:Cl l) (hx:x∈l) (hn:Az x≠Az r):x∈CF r l:=(CA (by rw [KL,if_neg hn];exact Ct ho hx)).1
theorem Pv:∀ {n:Nat} {s:Ss} {A:As},BJ s A→A.l.length≤n→∀ a∈A.l,a∈(Cm n A).2.l∨Az a∈(Cm n A).1.map Gn.id
 | 0,s,A,h,hn,a,ha=>by rw [List.eq_nil_of_length_eq_zero (Nat.le_zero.1 hn)] at ha;cases ha
 | n+1,s,A,h,hn,a,ha=>by
   unfold Cm
   cases e:A.l.find? (GB A) with
   | none=>exact .inl ha
   | some b =>
     have hb:=List.mem_of_find?_eq_some e
     have hf:=Ct h.o hb
     have hx:=nV hf
     have hl:=(del_perm h.o hf).length_eq
     simp only [List.length_cons] at hl
     by_cases k:Az a=Az b
     ·exact .inr (by show Az a∈Az b :: _;rw [k];exact List.mem_cons_self)
     ·rcases Pv (n:=n) (h.exit hf).2.2 (by rw [hx];omega) a (by rw [hx];exact List.mem_filter.2 ⟨ha,by simpa using k⟩) with q | q
      ·exact .inl q
      ·exact .inr (List.mem_cons_of_mem _ q)
theorem RO {t:List Tk} {k:Int} {c1:Cs} {G E:List Int} (hR:CO c1) (h:DS t k c1.A.l G E):DS t k (Da c1).A.l (G ++ (DY c1).map Gn.id) E:=by
 obtain ⟨s,hs⟩:=hR
 have hF:=hs.MM
 have hc:=Pv hs (Nat.le_refl _)
 refine ⟨fun a ha=>h.fwd a (hF.sub a ha),fun x hx Yq hk he=>?_,fun i hi=>?_⟩
 ·rcases h.bwd x hx Yq hk he with ⟨a,ha,e⟩ | q
  ·rcases hc a ha with q | q
   ·exact .inl ⟨a,q,e⟩
   ·exact .inr (List.mem_append_right _ (by rw [← e];exact q))
  ·exact .inr (List.mem_append_left _ q)
 ·rcases List.mem_append.1 hi with q | q
  ·exact ⟨fun a ha=>(h.gone i q).1 a (hF.sub a ha),(h.gone i q).2⟩
  ·obtain ⟨g,hg,rfl⟩:=List.mem_map.1 q
   obtain ⟨_,_,h3,h4⟩:=hF.gone g hg
   obtain ⟨a,ha,e⟩:=List.mem_map.1 h3
   obtain ⟨x,hx,ht⟩:=h.fwd a ha
   exact ⟨h4,x,hx,by rw [ht.1,e],ht.2.1⟩
theorem gX {t:List Tk} {k:Int} {l:List RT} {G E:List Int} (h:DS t k l G E) {a r:RT} (hl:Cl l) (ho:Cl (CF r l)) (ha:a∈l) (hi:Az r=Az a) (h1:r.1.asleep=a.1.asleep) (h2:r.1.i.p.w=a.1.i.p.w) (h3:r.1.slice=a.1.slice):DS t k (CF r l) G E:=by
 refine ⟨fun b hb=>?_,fun x hx hc hk he=>?_,fun i hi'=>⟨fun b hb e=>?_,(h.gone i hi').2⟩⟩
 ·rcases Kp ho hb with rfl | ⟨hb,_⟩
  ·obtain ⟨x,hx,ht⟩:=h.fwd a ha
   exact ⟨x,hx,by rw [hi];exact ht.1,ht.2.1,by rw [h1];exact ht.2.2.1,by rw [h2];exact ht.2.2.2.1,by rw [h3];exact ht.2.2.2.2⟩
  ·exact h.fwd b hb
 ·rcases h.bwd x hx hc hk he with ⟨b,hb,e⟩ | q
  ·by_cases n:Az b=Az r
   ·exact .inl ⟨r,Sq r l,by rw [← n,e]⟩
   ·exact .inl ⟨b,Sr hl hb n,e⟩
  ·exact .inr q
 ·rcases Kp ho hb with rfl | ⟨hb,_⟩
  ·exact (h.gone i hi').1 a ha (by rw [← hi,e])
  ·exact (h.gone i hi').1 b hb e
theorem mP {t:List Tk} {k:Int} {l:List RT} {G E:List Int} (h:DS t k l G E) (hI:BY 0 t) {a r:RT} {y:Tk} (hl:Cl l) (ho:Cl (CF r l)) (ha:a∈l) (hi:Az r=Az a) (hy:Q1 k y r) (hr:B0 y=true):DS (Ez t y) k (CF r l) G E:=by
 obtain ⟨x,hx,ht⟩:=h.fwd a ha
 have hid:y.id=x.id:=by rw [hy.1,hi,ht.1]
 have L:=I0 hI hx hid hr
 refine ⟨fun b hb=>?_,fun z hz hc hk he=>?_,fun i hi'=>⟨fun b hb e=>?_,?_⟩⟩
 ·rcases Kp ho hb with rfl | ⟨hb,hn⟩
  ·exact ⟨y,(L y).2 (.inl rfl),hy⟩
  ·obtain ⟨u,hu,Gu⟩:=h.fwd b hb
   exact ⟨u,(L u).2 (.inr ⟨hu,fun e=>hn (by rw [← Gu.1,e,hy.1])⟩),Gu⟩
 ·rcases (L z).1 hz with rfl | ⟨hz,hn⟩
  ·exact .inl ⟨r,Sq r l,hy.1.symm⟩
  ·rcases h.bwd z hz hc hk he with ⟨b,hb,e⟩ | q
   ·exact .inl ⟨b,Sr hl hb (fun n=>hn (by rw [← e,n,hy.1])),e⟩
   ·exact .inr q
 ·rcases Kp ho hb with rfl | ⟨hb,_⟩
  ·exact (h.gone i hi').1 a ha (by rw [← hi,e])
  ·exact (h.gone i hi').1 b hb e
 ·obtain ⟨v,hv,h1,h2⟩:=(h.gone i hi').2
  exact ⟨v,(L v).2 (.inr ⟨hv,fun e=>(h.gone i hi').1 a ha (by rw [← ht.1,← hid,← e,h1])⟩),h1,h2⟩
theorem Uo {t:List Tk} {k:Int} {l:List RT} {G:List Int} {id:Int} (h:DS t k l G []):DS t k (Dh id l) G [id]:=by
 refine ⟨fun b hb=>h.fwd b (del_sub b hb).1,fun z hz hc hk he=>?_,fun i hi=>⟨fun b hb=>(h.gone i hi).1 b (del_sub b hb).1,(h.gone i hi).2⟩⟩
 rcases h.bwd z hz hc hk (by simp) with ⟨b,hb,e⟩ | q
 ·exact .inl ⟨b,List.mem_filter.2 ⟨hb,by simp only [decide_eq_true_eq];rw [e];simpa using he⟩,e⟩
 ·exact .inr q
theorem cU {t:List Tk} {k:Int} {l:List RT} {r:RT} {y:Tk} (h:DS t k l [] [Az r]) (hl:Cl l) (ho:Cl (CF r l)) (hn:Ah l (Az r)=none) (hy:y∈BE t) (ht:Q1 k y r):DS t k (CF r l) [] []:=by
 refine ⟨fun b hb=>?_,fun z hz hc hk _=>?_,fun i hi=>by cases hi⟩
 ·rcases Kp ho hb with rfl | ⟨hb,_⟩
  ·exact ⟨y,hy,ht⟩
  ·exact h.fwd b hb
 ·by_cases e:z.id=Az r
  ·exact .inl ⟨r,Sq r l,e.symm⟩
  ·rcases h.bwd z hz hc hk (by simpa using e) with ⟨b,hb,q⟩ | q
   ·exact .inl ⟨b,Sr hl hb (by rw [q];exact e),q⟩
   ·cases q
theorem iQ {t:List Tk} {k:Int} {c:Cs} {m:Int} {G:List Int} (hR:CO c) (hI:KV c) (hr:c.run≠0) (m0:0≤m) (he:FV c m=0) (h:DS t k c.A.l G []):DS t k (Df c m).A.l G []:=by
 obtain ⟨s,hs⟩:=hR
 rcases hI with ⟨h1,_⟩ | ⟨a,ha,wS,hpos,uW,_⟩
 ·exact absurd h1 hr
 have hg:DH c.A.l c.run=a.1:=by unfold DH;rw [wS,Ct hs.o ha]
 obtain ⟨s1,hs1⟩:=PF hs m
 obtain ⟨p1,p2,_⟩:=Tp hg m0 he
 obtain ⟨f1,_,_⟩:=Wp hg m0 he
 have el:(Df c m).A.l=CF (D3 c m) c.A.l:=Ul he
 have Cx:(D3 c m).1.asleep=a.1.asleep:=by
  cases e:Fw c m with
  | none =>
    have:FV c m=2:=by unfold FV D3;rw [e];exact (put_zero _).1
    omega
  | some u =>
    have hy:D3 c m=C3 u.1:=by unfold D3;rw [e]
    rw [hy,JY (TR m0 e),(Ry e).2,hg]
 rw [el]
 have ho:=hs1.o
 rw [el] at ho
 exact gX h hs.o ho ha p1 Cx (at_some p2).2.1 f1
theorem UF {t:List Tk} {k:Int}:∀ (n:Nat) (left:Int) (c:Cs) (r:Rp),CO c→KV c→0≤left→left≤1099511627776→DS t k c.A.l (r.g.map Gn.id) [] →
 DS t k (DV n left c r).2.1.A.l ((DV n left c r).2.2.g.map Gn.id) []∧CO (DV n left c r).2.1
 | 0,left,c,r,hR,_,_,_,h=>⟨h,hR⟩
 | n+1,left,c,r,hR,hI,l0,l1,h=>by
   unfold DV
   split
   ·rename_i hc
    split
    ·rename_i he
     have hst:=Mr (c:=c) (most:=left) ⟨l0,by omega⟩ he
     have h1:=iQ hR hI hc.2 l0 he h
     have KC:=QZ hR left
     obtain ⟨s1,hs1⟩:=KC
     have h2:=RO ⟨s1,hs1⟩ h1
     refine UF n _ _ _ (NJ ⟨s1,hs1⟩) (inv_set hs1) om om ?_
     show DS t k _ ((r.g ++ DY (Df c left)).map Gn.id) []
     rw [List.map_append]
     exact h2
    ·exact ⟨h,hR⟩
   ·exact ⟨h,hR⟩
theorem bK {t:List Tk} {k:Int} {c:Cs} {ns:Int} (hR:CO c) (hI:KV c) (h:DS t k c.A.l [] []):DS t k (Aq c ns).2.1.A.l ((Aq c ns).2.2.g.map Gn.id) []∧CO (Aq c ns).2.1:=by
 unfold Aq
 split
 ·rename_i hc;exact UF _ ns c .none hR hI om hc.2 h
 ·exact ⟨h,hR⟩
structure JW (s:Sy) (E:Int→List Int):Prop where
 ok:EC s
 ids:BY 0 s.t
 rep:Zz s
 inv:∀ c∈s.k,KV c
 tie:∀ k:Nat,k < s.k.length→DS s.t k (AS s k).A.l [] (E k)
abbrev Co (s:Sy):Prop:=JW s fun _=>[]
theorem Np {s:Sy} {k:Nat} (hk:k < s.k.length) (c:Cs) (k':Nat):AS (Bb s k c) k'=if k'=k then c else AS s k':=by
 unfold AS Bb
 show (s.k.set k c).getD k' (EV 0)=if k'=k then c else s.k.getD k' (EV 0)
 rw [List.getD_eq_getElem?_getD,List.getD_eq_getElem?_getD,List.getElem?_set]
 by_cases e:k=k'
 ·subst e;rw [if_pos rfl,if_pos rfl,if_pos hk];rfl
 ·rw [if_neg e,if_neg (Ne.symm e)]
theorem OU {s:Sy} {k:Nat} (hk:k < s.k.length):AS s k∈s.k:=by
 show s.k.getD k (EV 0)∈s.k
 rw [List.getD_eq_getElem?_getD,List.getElem?_eq_getElem hk]
 exact List.getElem_mem hk
theorem Lu (s:Ch) (k:Int) (r:Rp) (h:EC s.s) (j:Int):AS (BR s k r).s j=AS s.s j:=by
 unfold AS
 rw [(ok_absorb h k r).2.2]
theorem inv_do {s:Sy} {t1:List Tk} {E:Int→List Int} {k:Nat} (hk:k < s.k.length) (hok:EC { s with t:=t1 }) (aAN:BY 0 t1) (Ns:Zz s) (hinv:∀ c∈s.k,KV c)
 (hoth:∀ k':Nat,k' < s.k.length→k'≠k→DS t1 k' (AS s k').A.l [] (E k')) {c1:Cs} {r1:Rp} (hc1:CO c1) (h:DS t1 k c1.A.l (r1.g.map Gn.id) (E k)) (ev:List Ev) (e:Int) (he:e=0) :
 JW (BR ⟨Bb { s with t:=t1 } k (Cr (AS s k) e c1),ev⟩ k (BU e c1 r1)).s E ∧
  (∀ z,z.id∉(BU e c1 r1).g.map Gn.id→(z∈BE (BR ⟨Bb { s with t:=t1 } k (Cr (AS s k) e c1),ev⟩ k (BU e c1 r1)).s.t↔z∈BE t1)) ∧
  (∀ z∈BE (BR ⟨Bb { s with t:=t1 } k (Cr (AS s k) e c1),ev⟩ k (BU e c1 r1)).s.t,∃ u∈BE t1,u.id=z.id∧u.core=z.core∧u.w=z.w∧u.slice=z.slice) ∧
  (∀ z∈BE (BR ⟨Bb { s with t:=t1 } k (Cr (AS s k) e c1),ev⟩ k (BU e c1 r1)).s.t,z.id∈(BU e c1 r1).g.map Gn.id→z.st=3):=by
 subst he
 have h2:=RO hc1 h
 have eC:Cr (AS s k) 0 c1=Da c1:=if_pos rfl
 have eR:BU 0 c1 r1=⟨r1.g ++ DY c1,r1.p⟩:=if_pos rfl
 rw [eC,eR]
 rw [← List.map_append] at h2
 have tI:EC (Bb { s with t:=t1 } k (Da c1)):=hok.Sk k _
 obtain ⟨o1,o2,o3⟩:=ok_absorb (s:=⟨Bb { s with t:=t1 } k (Da c1),ev⟩) tI k ⟨r1.g ++ DY c1,r1.p⟩
 have Ia:=Lu ⟨Bb { s with t:=t1 } k (Da c1),ev⟩ k ⟨r1.g ++ DY c1,r1.p⟩ tI
 have et:=My ⟨Bb { s with t:=t1 } k (Da c1),ev⟩ k ⟨r1.g ++ DY c1,r1.p⟩
 obtain ⟨a1,a2,a3,a4,a5,a6⟩:=UC k (r1.g ++ DY c1) ⟨Bb { s with t:=t1 } k (Da c1),ev ++ r1.p.map (Td k)⟩ (Da c1).A.l (E k) aAN h2
 rw [← et] at a1 a2 a3 a4 a5 a6
 refine ⟨⟨o1,a1,fun c hc=>?_,fun c hc=>?_,fun k' hk'=>?_⟩,a4,a5,a6⟩
 ·rw [o3] at hc
  rcases List.mem_or_eq_of_mem_set hc with q | rfl
  ·exact Ns c q
  ·exact NJ hc1
 ·rw [o3] at hc
  rcases List.mem_or_eq_of_mem_set hc with q | rfl
  ·exact hinv c q
  ·obtain ⟨s',hs'⟩:=hc1;exact inv_set hs'
 ·rw [o3] at hk'
  have hk2:k' < s.k.length:=by
   have:k' < (s.k.set k (Da c1)).length:=hk'
   rwa [List.length_set] at this
  rw [Ia,Np (s:={ s with t:=t1 }) hk]
  by_cases q:k'=k
  ·subst q;rw [if_pos rfl];exact a2
  ·rw [if_neg q]
   exact a3 k' _ _ om (hoth k' hk2 q)
theorem zP {m:Mn} {c q lag:Int} {p:Pt} (h:Gl m c q lag=some p):p.w=q:=by
 unfold Gl at h
 split at h
 ·split at h
  ·cases h;rfl
  ·split at h
   ·exact (at_some h).2.1
   ·cases h
 ·cases h
theorem yU {m:Mn} {p p':Pt} {q:Int} (h:GL m p q=some p'):p'.w=q:=by
 unfold GL at h
 split at h
 ·exact (at_some h).2.1
 ·cases h
theorem Q6 {r u:Rq} (h:CK r=some u):u.i.id=r.i.id∧u.asleep=r.asleep∧u.i.p=r.i.p∧u.slice=r.slice∧u.left=r.left:=by
 unfold CK at h
 cases k:(Dx r).right with
 | false=>rw [k] at h;cases h
 | true =>
   rw [k] at h
   cases h
   unfold Dx
   cases EW r.left <;> exact ⟨rfl,rfl,rfl,rfl,rfl⟩
theorem Tq {r:Rq} (h:¬ r.In):(C3 r).1.right=false:=by
 have e:C3 r=⟨.zero,by decide⟩:=dif_neg h
 rw [e];rfl
theorem Qf {r:Rq} {e:Int} (h:r.right=false):Fz r e=2:=by unfold Fz;rw [h];rfl
theorem rU {c:Cs} {id q ns lag:Int} (h:(Bi c id q ns lag).1=0):∃ r:RT,(Bi c id q ns lag).2.A.l=CF r c.A.l∧Az r=id∧r.1.i.p.w=q∧r.1.slice=ns∧r.1.left=ns∧r.1.asleep=false∧Ah c.A.l id=none∧(Bi c id q ns lag).2.A=G0 c.A r∧FO c.A r=0∧LV c.A q lag=some r.1.i.p:=by
 have h0:=h
 unfold Bi at h
 split at h
 ·cases h
 ·rename_i c1
  split at h
  ·cases h
  ·rename_i c2
   split at h
   ·cases h
   ·rename_i c3
    cases e:Hv c id q ns lag with
    | none=>rw [e] at h;cases h
    | some r =>
      rw [e] at h
      have h:(if FO c.A r=0 then ((0:Int),(⟨G0 c.A r,c.run,E0 c.carr (CW (G0 c.A r) id)⟩:Cs)) else (FO c.A r,c)).1=0:=h
      by_cases k:FO c.A r=0
      ·have eJ:Bi c id q ns lag=(0,⟨G0 c.A r,c.run,E0 c.carr (CW (G0 c.A r) id)⟩):=by
        unfold Bi
        rw [if_neg c1,if_neg c2,if_neg c3,e]
        exact if_pos k
       rw [eJ]
       have el:(G0 c.A r).l=CF r c.A.l:=by unfold G0;rw [if_pos k]
       have VN:Ah c.A.l id=none:=by
        cases z:Ah c.A.l id with
        | none=>rfl
        | some _=>rw [z] at c2;exact absurd rfl c2
       unfold Hv at e
       cases e1:LV c.A q lag with
       | none=>rw [e1] at e;cases e
       | some p =>
         rw [e1] at e
         have e:(newR p id ns).map C3=some r:=e
         cases e2:newR p id ns with
         | none=>rw [e2] at e;cases e
         | some u =>
           rw [e2] at e
           have e:some (C3 u)=some r:=e
           cases e
           obtain ⟨a1,a2,a3,a4,a5⟩:=Q6 e2
           by_cases hin:u.In
           ·have eu:=JY hin
            refine ⟨C3 u,el,?_,?_,?_,?_,?_,VN,rfl,k,?_⟩
            ·unfold Az;rw [eu];exact a1
            ·rw [eu,a3];exact zP e1
            ·rw [eu];exact a4
            ·rw [eu];exact a5
            ·rw [eu];exact a2
            ·rw [eu,a3]
           ·unfold FO at k
            rw [Qf (Tq hin)] at k
            cases k
      ·rw [if_neg k] at h;exact absurd h k
theorem leave_ok {c:Cs} {id:Int} (h:(Ax c id).1=0):(Ax c id).2.A.l=Dh id c.A.l∧∃ a,Ah c.A.l id=some a:=by
 unfold Ax at h ⊢
 by_cases k:(Ah c.A.l id).isSome
 ·rw [if_pos k]
  cases e:Ah c.A.l id with
  | none=>rw [e] at k;cases k
  | some a =>
    refine ⟨?_,a,rfl⟩
    show (Fk c.A id).l=_
    unfold Fk
    rw [e];rfl
 ·rw [if_neg k] at h;cases h
theorem mY {c:Cs} {id:Int} (h:(Be c id).1=0):∃ a,Ah c.A.l id=some a∧a.1.asleep=false∧(((Bz c id).1=false∧De c.A id < 0∧(Be c id).2.A.l=CF (HZ a true) c.A.l)∨((Bz c id).1=true∧¬ De c.A id < 0∧(Bz c id).2=CW c.A id∧(Be c id).2.A.l=Dh id c.A.l)):=by
 have hl:=leave_ok (c:=c) (id:=id)
 unfold Be at h ⊢
 unfold Bz
 cases e:Ah c.A.l id with
 | none=>rw [e] at h;cases h
 | some a =>
   rw [e] at h
   have h:(if a.1.asleep=true then ((6:Int),c) else if De c.A id < 0 then (0,⟨GZ c.A id true,c.run,c.carr⟩) else Ax c id).1=0:=h
   show ∃ a',some a=some a'∧a'.1.asleep=false∧(((if a.1.asleep=true then (false,(0:Int)) else if De c.A id < 0 then (false,CW c.A id) else (true,CW c.A id)).1=false∧De c.A id < 0∧(if a.1.asleep=true then ((6:Int),c) else if De c.A id < 0 then (0,⟨GZ c.A id true,c.run,c.carr⟩) else Ax c id).2.A.l=CF (HZ a' true) c.A.l)∨((if a.1.asleep=true then (false,(0:Int)) else if De c.A id < 0 then (false,CW c.A id) else (true,CW c.A id)).1=true∧¬ De c.A id < 0∧(if a.1.asleep=true then (false,(0:Int)) else if De c.A id < 0 then (false,CW c.A id) else (true,CW c.A id)).2=CW c.A id∧(if a.1.asleep=true then ((6:Int),c) else if De c.A id < 0 then (0,⟨GZ c.A id true,c.run,c.carr⟩) else Ax c id).2.A.l=Dh id c.A.l))
   by_cases k:a.1.asleep=true
   ·rw [if_pos k] at h;cases h
   ·rw [if_neg k] at h
    rw [if_neg k,if_neg k]
    refine ⟨a,rfl,by simpa using k,?_⟩
    by_cases o:De c.A id < 0
    ·rw [if_pos o,if_pos o]
     refine .inl ⟨rfl,o,?_⟩
     show (GZ c.A id true).l=_
     unfold GZ;rw [e]
    ·rw [if_neg o] at h
     rw [if_neg o,if_neg o]
     exact .inr ⟨rfl,o,rfl,(hl h).1⟩
theorem sI {c:Cs} {id:Int} (h:(CL c id).1=0):∃ a,Ah c.A.l id=some a∧a.1.asleep=true∧(CL c id).2.A.l=CF (HZ a false) c.A.l:=by
 unfold CL at h ⊢
 cases e:Ah c.A.l id with
 | none=>rw [e] at h;cases h
 | some a =>
   rw [e] at h
   have h:(if a.1.asleep=true then ((0:Int),(⟨GZ c.A id false,c.run,c.carr⟩:Cs)) else (6,c)).1=0:=h
   show ∃ a',some a=some a'∧a'.1.asleep=true∧(if a.1.asleep=true then ((0:Int),(⟨GZ c.A id false,c.run,c.carr⟩:Cs)) else (6,c)).2.A.l=_
   by_cases k:a.1.asleep=true
   ·rw [if_pos k]
    refine ⟨a,rfl,k,?_⟩
    show (GZ c.A id false).l=_
    unfold GZ;rw [e]
   ·rw [if_neg k] at h;cases h
theorem jF {A:As} {y:Rq} (h:Dn A (C3 y)=0):(C3 y).1=y∧(GX A (C3 y)).l=CF (C3 y) A.l:=by
 refine ⟨?_,Ul h⟩
 by_cases k:y.In
 ·exact JY k
 ·unfold Dn at h
  rw [Qf (Tq k)] at h
  cases h
theorem nI {c:Cs} {id q:Int} (h:(Bk c id q).1=0):∃ a r,Ah c.A.l id=some a∧(Bk c id q).2.A.l=CF r c.A.l∧Az r=Az a∧r.1.i.p.w=q∧r.1.slice=a.1.slice∧r.1.asleep=a.1.asleep∧r.1.left=a.1.left:=by
 unfold Bk at h ⊢
 by_cases c1:Ek q=false
 ·rw [if_pos c1] at h;cases h
 ·rw [if_neg c1] at h ⊢
  cases e:Ah c.A.l id with
  | none=>rw [e] at h;cases h
  | some a =>
    rw [e] at h
    have h:(MR c id (JU c.A a.1 q)).1=0:=h
    show ∃ a' r,some a=some a'∧(MR c id (JU c.A a.1 q)).2.A.l=CF r c.A.l∧_
    cases e2:JU c.A a.1 q with
    | none=>rw [e2] at h;cases h
    | some y =>
      rw [e2] at h
      obtain ⟨k1,k2⟩:=jF (show Dn c.A (C3 y)=0 from h)
      unfold JU at e2
      cases e3:GL (mA c.A) a.1.i.p q with
      | none=>rw [e3] at e2;cases e2
      | some p =>
        rw [e3] at e2
        have e2:Io a.1 p=some y:=e2
        unfold Io at e2
        cases e4:a.1.right with
        | false=>rw [e4] at e2;cases e2
        | true =>
          rw [e4] at e2
          obtain ⟨a1,a2,a3,a4,a5⟩:=Q6 (show CK _=some y from e2)
          refine ⟨a,C3 y,rfl,k2,?_,?_,?_,?_,?_⟩
          ·unfold Az;rw [k1,a1]
          ·rw [k1,a3];exact yU e3
          ·rw [k1,a4]
          ·rw [k1,a2]
          ·rw [k1,a5]
theorem kI {c:Cs} {id ns:Int} (h:(Bl c id ns).1=0):∃ a r,Ah c.A.l id=some a∧(Bl c id ns).2.A.l=CF r c.A.l∧Az r=Az a∧r.1.i.p=a.1.i.p∧r.1.slice=ns∧r.1.asleep=a.1.asleep∧r.1.left=a.1.left:=by
 unfold Bl at h ⊢
 by_cases c1:EW ns=false
 ·rw [if_pos c1] at h;cases h
 ·rw [if_neg c1] at h ⊢
  cases e:Ah c.A.l id with
  | none=>rw [e] at h;cases h
  | some a =>
    rw [e] at h
    have h:Dn c.A (C3 ((D6 a.1 ns).getD .zero))=0:=h
    show ∃ a' r,some a=some a'∧(GX c.A (C3 ((D6 a.1 ns).getD .zero))).l=CF r c.A.l∧_
    obtain ⟨k1,k2⟩:=jF h
    cases e2:D6 a.1 ns with
    | none =>
      rw [e2] at h
      have h:Dn c.A (C3 .zero)=0:=h
      unfold Dn at h
      rw [Qf RI] at h
      cases h
    | some y =>
      rw [e2] at k1 k2
      have k1:(C3 y).1=y:=k1
      unfold D6 at e2
      cases e4:a.1.right with
      | false=>rw [e4] at e2;cases e2
      | true =>
        rw [e4] at e2
        obtain ⟨a1,a2,a3,a4,a5⟩:=Q6 (show CK _=some y from e2)
        refine ⟨a,C3 y,rfl,k2,?_,?_,?_,?_,?_⟩
        ·unfold Az;rw [k1,a1]
        ·rw [k1,a3]
        ·rw [k1,a4]
        ·rw [k1,a2]
        ·rw [k1,a5]
theorem EC.GU {s:Sy} (h:EC s) {x:Tk} (hx:x∈BE s.t):∃ k:Nat,x.core=k∧k < s.k.length:=by
 obtain ⟨h1,i,hi⟩:=GD hx
 have h2:=(h.row x (List.mem_of_getElem? hi)).core h1
 have h3:=h.len
 exact ⟨x.core.toNat,by omega,by omega⟩
theorem EC.Vk {s:Sy} (h:EC s) {x:Tk} (hx:x∈BE s.t):CN s.cf.cores x:=by
 obtain ⟨h1,i,hi⟩:=GD hx
 exact h.row x (List.mem_of_getElem? hi)
def Js (k:Int) (i:Int):Int→List Int:=fun k'=>if k'=k then [i] else []
theorem Qd {s:Ch} {y:Tk} {lag:Int} (h:JW s.s (Js y.core y.id)) (hy:y∈BE s.s.t) (fK:y.st=1) (he:(FM s y lag).1=0):Co (FM s y lag).2.s:=by
 obtain ⟨k,hk,hlt⟩:=h.ok.GU hy
 unfold FM at he ⊢
 rw [hk] at he ⊢
 unfold EP at he ⊢
 generalize hj:Bi (AS s.s k) y.id y.w y.slice lag=J at he ⊢
 have e0:J.1=0:=by
  by_cases e:J.1=0
  ·exact e
  ·rw [if_neg e] at he;exact he
 rw [if_pos e0]
 have hR:=h.rep.at k
 have KC:CO J.2:=by rw [← hj];exact Nd hR _ _ _ _
 obtain ⟨r,j1,j2,j3,j4,_,j5,j6,_⟩:=rU (c:=AS s.s k) (id:=y.id) (q:=y.w) (ns:=y.slice) (lag:=lag) (by rw [hj];exact e0)
 rw [hj] at j1
 have hT:=h.tie k hlt
 have eE:Js y.core y.id k=[Az r]:=by unfold Js;rw [hk,if_pos rfl,j2]
 rw [eE] at hT
 obtain ⟨s1,hs1⟩:=hR
 obtain ⟨s2,hs2⟩:=KC
 have AN:=hs2.o
 rw [j1] at AN
 have ht:DS s.s.t k J.2.A.l (Rp.none.g.map Gn.id) []:=by
  rw [j1]
  exact cU hT hs1.o AN (by rw [j2];exact j6) hy ⟨j2.symm,hk,by rw [j5];exact fK,j3.symm,j4.symm⟩
 exact (inv_do (E:=fun _=>[]) (t1:=s.s.t) hlt h.ok h.ids h.rep h.inv (fun k' hk' hne=>by
  have:=h.tie k' hk'
  unfold Js at this
  rw [if_neg om] at this
  exact this) ⟨s2,hs2⟩ ht s.ev J.1 e0).1
theorem PG {s:Sy} (h:Co s) {x y:Tk} {k:Nat} (hk:x.core=k) (hx:x∈BE s.t) (hid:y.id=x.id) (hc:y.core=x.core) (KP:B0 y=true) (HK:CN s.cf.cores y) {J:Int × Cs} (KC:CO J.2) (e0:J.1=0) {a r:RT} (hf:Ah (AS s k).A.l x.id=some a) (hl:J.2.A.l=CF r (AS s k).A.l) (hr:Az r=Az a) (ht:Q1 k y r) (ev:List Ev) :
 Co (BR ⟨Bb (Bu s y) k (Cr (AS s k) J.1 J.2),ev⟩ k (BU J.1 J.2 .none)).s:=by
 obtain ⟨k',hk',hlt⟩:=h.ok.GU hx
 obtain rfl:k=k':=by omega
 obtain ⟨s1,hs1⟩:=h.rep.at k
 have ho:=KC
 obtain ⟨s2,hs2⟩:=ho
 have AN:=hs2.o
 rw [hl] at AN
 refine (inv_do (E:=fun _=>[]) (t1:=Ez s.t y) (r1 := .none) hlt (h.ok.CK HK) (h.ids.sets y) h.rep h.inv (fun k' hk2 hne=>?_) KC ?_ ev J.1 e0).1
 ·exact (h.tie k' hk2).other (k:=k) h.ids hx hid KP (.inl om) (.inl om)
 ·rw [hl]
  exact mP (h.tie k hlt) h.ids hs1.o AN (CA hf).1 hr ht KP
theorem On {s:Ch} (h:Co s.s) {x:Tk} (hx:x∈BE s.s.t) (hc:BP x=true):JW (B6 s x).2.s (Js x.core x.id)∧x∈BE (B6 s x).2.s.t:=by
 obtain ⟨k,hk,hlt⟩:=h.ok.GU hx
 unfold B6
 rw [hk]
 obtain ⟨a,ha,hai⟩:∃ a∈(AS s.s k).A.l,Az a=x.id:=by
  rcases (h.tie k hlt).bwd x hx hc hk (by simp) with q | q
  ·exact q
  ·cases q
 obtain ⟨s1,hs1⟩:=h.rep.at k
 have hf:Ah (AS s.s k).A.l x.id=some a:=by rw [← hai];exact Ct hs1.o ha
 have e0:(Ax (AS s.s k) x.id).1=0:=by unfold Ax;rw [hf];rfl
 obtain ⟨l1,_⟩:=leave_ok e0
 have KC:=Fy (h.rep.at k) x.id
 have ht:DS s.s.t k (Ax (AS s.s k) x.id).2.A.l (Rp.none.g.map Gn.id) (Js k x.id k):=by
  rw [l1]
  have:Js k x.id k=[x.id]:=if_pos rfl
  rw [this]
  exact Uo (h.tie k hlt)
 obtain ⟨i1,i2,_,_⟩:=inv_do (E:=Js k x.id) (t1:=s.s.t) (r1 := .none) hlt h.ok h.ids h.rep h.inv (fun k' hk' hne=>by
  have:=h.tie k' hk'
  unfold Js
  rw [if_neg om]
  exact this) KC ht s.ev _ e0
 refine ⟨i1,(i2 x ?_).2 hx⟩
 have hg:(BU (Ax (AS s.s k) x.id).1 (Ax (AS s.s k) x.id).2 .none).g=DY (Ax (AS s.s k) x.id).2:=by
  unfold BU;rw [if_pos e0];rfl
 rw [hg]
 intro hm
 obtain ⟨g,hg,Y3⟩:=List.mem_map.1 hm
 obtain ⟨s3,hs3⟩:=KC
 obtain ⟨_,_,h3,_⟩:=hs3.MM.gone g hg
 obtain ⟨b,hb,j7⟩:=List.mem_map.1 h3
 rw [l1] at hb
 exact (del_sub b hb).2 (by rw [j7,Y3])
theorem task_live {s:Sy} (h:BY 0 s.t) {id:Int} (he:Dd (BI s.t id)=0):BF s.t id∈BE s.t∧(BF s.t id).id=id:=by
 cases e:BI s.t id with
 | none=>rw [e] at he;cases he
 | some i =>
   obtain ⟨x,h1,h2,h3⟩:=gO h e
   obtain ⟨_,_,_,h4⟩:=HG h h1
   rw [h2] at h4
   rw [h4];exact ⟨h1,h2⟩
theorem Vj {t:List Tk} (h:BY 0 t) {x:Tk} (hx:x∈BE t):Dd (BI t x.id)=0:=by obtain ⟨i,h1,_⟩:=HG h hx;rw [h1];rfl
theorem inv_exit {s:Ch} (h:Co s.s) {x:Tk} (hx:x∈BE s.s.t):Co (Gc s x x.id).2.s∧(Gc s x x.id).1=0:=by
 have fin:∀ (u:Sy),(∃ E,JW u E∧∀ k:Nat,∀ i∈E k,i=x.id)→x∈BE u.t→(∀ k:Nat,x.core=k→BP x=true→k < u.k.length→∀ a∈(AS u k).A.l,Az a≠x.id)→Co { u with t:=FJ u.t x.id }:=by
  rintro u ⟨E,hE,UM⟩ hxu hno
  have L:=Zm hE.ids hxu
  refine ⟨hE.ok.rows (VH hE.ok.row x.id) (UR _ _),hE.ids.drop _,hE.rep,hE.inv,fun k hk=>⟨fun a ha=>?_,fun z hz hc OM _=>?_,fun i hi=>by cases hi⟩⟩
  ·obtain ⟨y,hy,ht⟩:=(hE.tie k hk).fwd a ha
   refine ⟨y,(L y).2 ⟨hy,fun e=>?_⟩,ht⟩
   have:=JS hE.ids hy hxu e
   subst this
   exact hno k ht.2.1 ht.comp hk a ha ht.1.symm
  ·obtain ⟨hz,hn⟩:=(L z).1 hz
   exact (hE.tie k hk).bwd z hz hc OM (fun m=>hn (UM k _ m))
 unfold Gc
 by_cases hc:BP x=true
 ·rw [if_pos hc]
  obtain ⟨i1,i2⟩:=On h hx hc
  refine ⟨fin _ ⟨_,i1,fun k i hi=>?_⟩ i2 fun k hk _ hlt a ha e=>?_,Vj i1.ids i2⟩
  ·unfold Js at hi
   split at hi
   ·simpa using hi
   ·cases hi
  ·obtain ⟨k',hk',hlt'⟩:=h.ok.GU hx
   obtain rfl:k=k':=by omega
   have e0:(Ax (AS s.s k) x.id).1=0:=by
    obtain ⟨b,hb,j7⟩:∃ a∈(AS s.s k).A.l,Az a=x.id:=by
     rcases (h.tie k hlt').bwd x hx hc hk (by simp) with q | q
     ·exact q
     ·cases q
    obtain ⟨s1,hs1⟩:=h.rep.at k
    unfold Ax
    rw [← j7,Ct hs1.o hb];rfl
   have Ia:AS (B6 s x).2.s k=Da (Ax (AS s.s k) x.id).2:=by
    unfold B6
    rw [hk]
    show AS (BR _ _ _).s k=_
    rw [Lu _ _ _ (h.ok.Sk _ _)]
    show AS (Bb s.s k _) k=_
    rw [Np hlt',if_pos rfl]
    exact if_pos e0
   rw [Ia] at ha
   obtain ⟨s3,hs3⟩:=Fy (h.rep.at k) x.id
   have:=TY hs3 a ha
   rw [(leave_ok e0).1] at this
   exact (del_sub a this).2 e
 ·rw [if_neg hc]
  exact ⟨fin s.s ⟨_,h,fun k i hi=>by cases hi⟩ hx fun k hk Yq=>absurd Yq hc,Vj h.ids hx⟩
theorem M6 (x:Int):F7 (IntKind.u32.wrap x):=by rw [wrap_u32];unfold F7;omega
theorem tied_of {s:Sy} {E:Int→List Int} (h:JW s E) {x:Tk} (hx:x∈BE s.t) {k:Nat} (hlt:k < s.k.length) {a:RT} (ha:a∈(AS s k).A.l) (e:Az a=x.id):Q1 k x a:=by
 obtain ⟨u,hu,ht⟩:=(h.tie k hlt).fwd a ha
 have:=JS h.ids hu hx (by rw [ht.1,e])
 subst this
 exact ht
theorem no_req {s:Sy} {E:Int→List Int} (h:JW s E) {x:Tk} (hx:x∈BE s.t) (hc:BP x=false):∀ k:Nat,k < s.k.length→∀ a∈(AS s k).A.l,Az a≠x.id:=fun k hlt a ha e=>by
 have:=(tied_of h hx hlt ha e).comp
 rw [hc] at this;cases this
theorem Qu {s:Sy} {E:Int→List Int} (h:JW s E) {x y:Tk} (hx:x∈BE s.t) (hid:y.id=x.id) (KP:B0 y=true) (HK:CN s.cf.cores y) (hE:∀ k:Nat,∀ i∈E k,i=x.id) (hno:∀ k:Nat,k < s.k.length→∀ a∈(AS s k).A.l,Az a≠x.id):JW (Bu s y) (Js y.core y.id)∧y∈BE (Bu s y).t:=by
 have L:=I0 h.ids hx hid KP
 refine ⟨⟨h.ok.CK HK,h.ids.sets y,h.rep,h.inv,fun k hk=>⟨fun a ha=>?_,fun z hz hc OM he=>?_,fun i hi=>by cases hi⟩⟩,(L y).2 (.inl rfl)⟩
 ·obtain ⟨u,hu,ht⟩:=(h.tie k hk).fwd a ha
  exact ⟨u,(L u).2 (.inr ⟨hu,fun e=>hno k hk a ha (by rw [← ht.1,e,hid])⟩),ht⟩
 ·rcases (L z).1 hz with rfl | ⟨hz,hn⟩
  ·unfold Js at he
   rw [if_pos OM.symm] at he
   exact absurd (by simp) he
  ·exact (h.tie k hk).bwd z hz hc OM (fun m=>hn (by rw [hE k _ m,hid]))
theorem Vm {s:Sy} {k i:Int} (h:JW s (Js k i)) {y:Tk} (hy:y∈BE s.t) (e:y.id=i) (hc:BP y=false):Co s :=
 ⟨h.ok,h.ids,h.rep,h.inv,fun k' hk=>⟨(h.tie k' hk).fwd,fun z hz PV OM _=>(h.tie k' hk).bwd z hz PV OM (fun m=>by
  unfold Js at m
  split at m
  ·have:z.id=i:=by simpa using m
   have:=JS h.ids hz hy (this.trans e.symm)
   subst this
   rw [hc] at PV;cases PV
  ·cases m),(h.tie k' hk).gone⟩⟩
theorem inv_plain {s:Sy} (h:Co s) {x y:Tk} (hx:x∈BE s.t) (hid:y.id=x.id) (KP:B0 y=true) (HK:CN s.cf.cores y) (hc:BP x=false) (pS:BP y=false):Co (Bu s y)∧y∈BE (Bu s y).t:=by
 obtain ⟨a,b⟩:=Qu h hx hid KP HK (fun k i hi=>by cases hi) (no_req h hx hc)
 exact ⟨Vm a b rfl pS,b⟩
theorem leave_no {s:Ch} (h:Co s.s) {x:Tk} (hx:x∈BE s.s.t) (hc:BP x=true):∀ k:Nat,k < (B6 s x).2.s.k.length→∀ a∈(AS (B6 s x).2.s k).A.l,Az a≠x.id:=fun k hlt a ha e=>by
 obtain ⟨i1,i2⟩:=On h hx hc
 have ht:=tied_of i1 i2 hlt ha e
 obtain ⟨k',hk',hlt'⟩:=h.ok.GU hx
 obtain rfl:k=k':=by have:=ht.2.1;omega
 have e0:(Ax (AS s.s k) x.id).1=0:=by
  obtain ⟨b,hb,j7⟩:∃ a∈(AS s.s k).A.l,Az a=x.id:=by
   rcases (h.tie k hlt').bwd x hx hc hk' (by simp) with q | q
   ·exact q
   ·cases q
  obtain ⟨s1,hs1⟩:=h.rep.at k
  unfold Ax
  rw [← j7,Ct hs1.o hb];rfl
 have Ia:AS (B6 s x).2.s k=Da (Ax (AS s.s k) x.id).2:=by
  unfold B6
  rw [hk']
  show AS (BR _ _ _).s k=_
  rw [Lu _ _ _ (h.ok.Sk _ _)]
  show AS (Bb s.s k _) k=_
  rw [Np hlt',if_pos rfl]
  exact if_pos e0
 rw [Ia] at ha
 obtain ⟨s3,hs3⟩:=Fy (h.rep.at k) x.id
 have:=TY hs3 a ha
 rw [(leave_ok e0).1] at this
 exact (del_sub a this).2 e
theorem Yx {s:Sy} {E:Int→List Int} (h:JW s E) {x:Tk} (hx:x∈BE s.t):x.st=1∨x.st=2∨x.st=3:=by
 have:=live_right h.ids hx
 unfold B0 at this
 rw [Bool.and_eq_true,decide_eq_true_iff,decide_eq_true_iff] at this
 omega
theorem UG (s:Ch) (x:Tk) (id:Int):(FB s x id).core=x.core:=by
 show (if (Bz (AS s.s x.core) id).1=true then { x with st:=3,lag:=GH s.s.cf (Bz (AS s.s x.core) id).2 x.slice } else { x with st:=2 }:Tk).core=_
 split <;> rfl
theorem cI (s:Ch) (x:Tk) (id:Int):(FB s x id).id=x.id:=by
 show (if (Bz (AS s.s x.core) id).1=true then { x with st:=3,lag:=GH s.s.cf (Bz (AS s.s x.core) id).2 x.slice } else { x with st:=2 }:Tk).id=_
 split <;> rfl
theorem gH (s:Ch) (x:Tk) (id:Int):(FB s x id).slice=x.slice:=by
 show (if (Bz (AS s.s x.core) id).1=true then { x with st:=3,lag:=GH s.s.cf (Bz (AS s.s x.core) id).2 x.slice } else { x with st:=2 }:Tk).slice=_
 split <;> rfl
theorem dV {s:Ch} (h:Co s.s) {x:Tk} (hx:x∈BE s.s.t) (he:(HE s x x.id).1=0):Co (HE s x x.id).2.s:=by
 unfold HE at he ⊢
 by_cases c1:x.st≠1
 ·rw [if_pos c1] at he;cases he
 rw [if_neg c1] at he ⊢
 have fK:x.st=1:=by omega
 obtain ⟨k,hk,hlt⟩:=h.ok.GU hx
 unfold EN at he ⊢
 have fW:(FB s x x.id).core=x.core:=UG _ _ _
 have YY:(FB s x x.id).id=x.id:=cI _ _ _
 have WZ:FB s x x.id=if (Bz (AS s.s k) x.id).1=true then { x with st:=3,lag:=GH s.s.cf (Bz (AS s.s k) x.id).2 x.slice } else { x with st:=2 }:=by unfold FB;rw [hk]
 rw [fW,hk] at he ⊢
 generalize FB s x x.id=y at *
 by_cases e0:(Be (AS s.s k) x.id).1=0
 ·rw [if_pos e0]
  obtain ⟨a,hf,uW,hcs⟩:=mY e0
  have KC:=NF (h.rep.at k) x.id
  obtain ⟨ha,hai⟩:=CA hf
  have ht:=tied_of h hx hlt ha hai
  have hro:=h.ok.Vk hx
  rcases hcs with ⟨q1,_,q2⟩ | ⟨q1,_,_,q2⟩
  ·rw [q1] at WZ
   have WZ:y={ x with st:=2 }:=WZ
   subst WZ
   exact PG h hk hx (y:={ x with st:=2 }) rfl rfl rfl (hro.st om om) KC e0 hf q2 rfl ⟨ht.1,ht.2.1,rfl,ht.2.2.2.1,ht.2.2.2.2⟩ s.ev
  ·rw [q1,if_pos rfl] at WZ
   have HK:CN s.s.cf.cores y:=by
    rw [WZ]
    exact ⟨hro.1,(by decide:(0:Int)≤3∧(3:Int) < 256),hro.2.2.1,hro.2.2.2.1,hro.2.2.2.2.1,Ky _ _ _,fun _=>hro.core om⟩
   have hys:y.st=3:=by rw [WZ]
   have KP:B0 y=true:=by unfold B0;rw [hys];rfl
   have pS:BP y=false:=by unfold BP;rw [hys];rfl
   refine (inv_do (E:=fun _=>[]) (t1:=Ez s.s.t y) (r1 := .none) hlt (h.ok.CK HK) (h.ids.sets y) h.rep h.inv (fun k' hk2 hne=>?_) KC ?_ s.ev _ e0).1
   ·exact (h.tie k' hk2).other (k:=k) h.ids hx YY KP (.inl om) (.inr pS)
   ·rw [q2]
    have L:=I0 h.ids hx YY KP
    have hd:=Uo (id:=x.id) (h.tie k hlt)
    refine ⟨fun b hb=>?_,fun z hz PV OM _=>?_,fun i hi=>by cases hi⟩
    ·obtain ⟨u,hu,hut⟩:=hd.fwd b hb
     exact ⟨u,(L u).2 (.inr ⟨hu,fun e=>(del_sub b hb).2 (by rw [← hut.1,e,YY])⟩),hut⟩
    ·rcases (L z).1 hz with rfl | ⟨hz,hn⟩
     ·rw [pS] at PV;cases PV
     ·exact hd.bwd z hz PV OM (by rw [← YY];simpa using hn)
 ·rw [if_neg e0] at he;exact absurd he e0
theorem kE {s:Ch} (h:Co s.s) {x:Tk} (hx:x∈BE s.s.t) (he:(FC s x x.id).1=0):Co (FC s x x.id).2.s:=by
 have hro:=h.ok.Vk hx
 have hst:=Yx h hx
 obtain ⟨k,hk,hlt⟩:=h.ok.GU hx
 have HK:CN s.s.cf.cores { x with st:=1 }:=hro.st om om
 unfold FC at he ⊢
 by_cases c1:x.st=1
 ·rw [if_pos c1] at he;cases he
 rw [if_neg c1] at he ⊢
 by_cases c3:x.st=3
 ·rw [if_pos c3] at he ⊢
  obtain ⟨i1,i2⟩:=Qu h hx (y:={ x with st:=1 }) rfl rfl HK (fun k i hi=>by cases hi) (no_req h hx (by unfold BP;rw [c3];rfl))
  exact Qd (s:=⟨Bu s.s { x with st:=1 },s.ev⟩) i1 i2 rfl he
 ·rw [if_neg c3] at he ⊢
  unfold EN at he ⊢
  have e:({ x with st:=1 }:Tk).core=x.core:=rfl
  rw [e,hk] at he ⊢
  by_cases e0:(CL (AS s.s k) x.id).1=0
  ·rw [if_pos e0]
   obtain ⟨a,hf,uW,q2⟩:=sI e0
   obtain ⟨ha,hai⟩:=CA hf
   have ht:=tied_of h hx hlt ha hai
   exact PG h hk hx (y:={ x with st:=1,core:=(k:Int) }) rfl hk.symm rfl (by rw [← hk];exact HK) (OX (h.rep.at k) x.id) e0 hf q2 rfl ⟨ht.1,rfl,rfl,ht.2.2.2.1,ht.2.2.2.2⟩ s.ev
  ·rw [if_neg e0] at he;exact absurd he e0
theorem ZE {s:Ch} (h:Co s.s) {x:Tk} (hx:x∈BE s.s.t) {w:Int} (he:(Dl s x x.id w).1=0):Co (Dl s x x.id w).2.s:=by
 have hro:=h.ok.Vk hx
 obtain ⟨k,hk,hlt⟩:=h.ok.GU hx
 have hw:F7 (IntKind.u32.wrap w):=M6 _
 have HK:CN s.s.cf.cores { x with w:=IntKind.u32.wrap w }:=⟨hro.1,hro.2.1,hro.2.2.1,hw,hro.2.2.2.2.1,hro.2.2.2.2.2.1,hro.2.2.2.2.2.2⟩
 have KP:B0 { x with w:=IntKind.u32.wrap w }=true:=(live_right h.ids hx:B0 x=true)
 unfold Dl at he ⊢
 by_cases c1:BC w 1048576≠0
 ·rw [if_pos c1] at he;exact absurd he c1
 rw [if_neg c1] at he ⊢
 cases hc:BP x with
 | false =>
   rw [if_pos rfl]
   exact (inv_plain h hx (y:={ x with w:=IntKind.u32.wrap w }) rfl KP HK hc hc).1
 | true =>
   rw [hc,if_neg (by simp)] at he
   rw [if_neg (by simp)]
   unfold EP at he ⊢
   rw [hk] at he ⊢
   by_cases e0:(Bk (AS s.s k) x.id (IntKind.u32.wrap w)).1=0
   ·rw [if_pos e0]
    obtain ⟨a,r,hf,q2,q3,q4,q5,q6,_⟩:=nI e0
    obtain ⟨ha,hai⟩:=CA hf
    have ht:=tied_of h hx hlt ha hai
    exact PG h hk hx (y:={ x with w:=IntKind.u32.wrap w,core:=(k:Int) }) rfl hk.symm KP (by rw [← hk];exact HK) (Mu (h.rep.at k) x.id _) e0 hf q2 q3 ⟨by rw [q3];exact ht.1,rfl,by rw [q6];exact ht.2.2.1,q4.symm,by rw [q5];exact ht.2.2.2.2⟩ s.ev
   ·rw [if_neg e0] at he;exact absurd he e0
theorem iN {s:Ch} (h:Co s.s) {x:Tk} (hx:x∈BE s.s.t) {ns:Int} (DZ:BV ns) (he:(EY s x x.id ns).1=0):Co (EY s x x.id ns).2.s:=by
 have hro:=h.ok.Vk hx
 obtain ⟨k,hk,hlt⟩:=h.ok.GU hx
 have HK:CN s.s.cf.cores { x with slice:=ns }:=⟨hro.1,hro.2.1,hro.2.2.1,hro.2.2.2.1,DZ,hro.2.2.2.2.2.1,hro.2.2.2.2.2.2⟩
 have KP:B0 { x with slice:=ns }=true:=(live_right h.ids hx:B0 x=true)
 unfold EY at he ⊢
 by_cases c1:BC ns (Dp s.s.cf.slice)≠0
 ·rw [if_pos c1] at he;exact absurd he c1
 rw [if_neg c1] at he ⊢
 cases hc:BP x with
 | false =>
   rw [if_pos rfl]
   exact (inv_plain h hx (y:={ x with slice:=ns }) rfl KP HK hc hc).1
 | true =>
   rw [hc,if_neg (by simp)] at he
   rw [if_neg (by simp)]
   unfold EP at he ⊢
   rw [hk] at he ⊢
   by_cases e0:(Bl (AS s.s k) x.id ns).1=0
   ·rw [if_pos e0]
    obtain ⟨a,r,hf,q2,q3,q4,q5,q6,_⟩:=kI e0
    obtain ⟨ha,hai⟩:=CA hf
    have ht:=tied_of h hx hlt ha hai
    exact PG h hk hx (y:={ x with slice:=ns,core:=(k:Int) }) rfl hk.symm KP (by rw [← hk];exact HK) (NT (h.rep.at k) x.id ns) e0 hf q2 q3 ⟨by rw [q3];exact ht.1,rfl,by rw [q6];exact ht.2.2.1,by rw [q4];exact ht.2.2.2.1,q5.symm⟩ s.ev
   ·rw [if_neg e0] at he;exact absurd he e0
theorem leave_cf (s:Ch) (h:EC s.s) (x:Tk):(B6 s x).2.s.cf=s.s.cf:=(ok_leave h x).2
theorem leave_in (s:Ch) (x:Tk):In64 (B6 s x).1:=Ky _ _ _
def GO (u:Ch) (x:Tk) (core lag:Int):Int × Ch:=if (ET x core lag).st=1 then FM ⟨Bu u.s (ET x core lag),u.ev⟩ (ET x core lag) (ET x core lag).lag else (0,⟨Bu u.s (ET x core lag),u.ev⟩)
theorem J8 {s:Ch} {x:Tk} {core:Int} (c1:Bx s.s.cf core≠0∨core=x.core):Cg s x core=(Bx s.s.cf core,s):=if_pos c1
theorem Kf {s:Ch} {x:Tk} {core:Int} (c1:¬ (Bx s.s.cf core≠0∨core=x.core)):Cg s x core=if BP x=true then GO (B6 s x).2 x core (B6 s x).1 else GO s x core x.lag:=by
 unfold Cg
 rw [if_neg c1]
 show GO (if BP x=true then B6 s x else (x.lag,s)).2 x core (if BP x=true then B6 s x else (x.lag,s)).1=_
 split <;> rfl
theorem Kg {s:Ch} {core w ns:Int} (c:DA s.s core w ns≠0):Br s core w ns=(DA s.s core w ns,0,s):=if_pos c
theorem Ka {s:Ch} {core w ns:Int} (c1:¬ DA s.s core w ns≠0) (c:E9 s.s.t (BZ core w ns)≠0):Br s core w ns=(E9 s.s.t (BZ core w ns),0,s):=by unfold Br;rw [if_neg c1,if_pos c]
def Jw (s:Ch) (core w ns:Int):Int × Ch:=FM ⟨{ s.s with t:=DN s.s.t (BZ core w ns) },s.ev⟩ { BZ core w ns with id:=Eo s.s.t (BZ core w ns) } 0
theorem NW {s:Ch} {core w ns:Int} (c1:¬ DA s.s core w ns≠0) (c:¬ E9 s.s.t (BZ core w ns)≠0):Br s core w ns=if (Jw s core w ns).1=0 then (0,Eo s.s.t (BZ core w ns),(Jw s core w ns).2) else ((Jw s core w ns).1,0,s):=by unfold Br;rw [if_neg c1,if_neg c];rfl
theorem YJ {s:Ch} (h:Co s.s) {x:Tk} (hx:x∈BE s.s.t) {core:Int} (F9:In64 core) (he:(Cg s x core).1=0):Co (Cg s x core).2.s:=by
 have hro:=h.ok.Vk hx
 have hst:=Yx h hx
 by_cases c1:Bx s.s.cf core≠0∨core=x.core
 ·rw [J8 c1];exact h
 rw [Kf c1] at he ⊢
 have hc0:0≤core∧core < s.s.cf.cores:=by
  have:Bx s.s.cf core=0:=by
   rcases Classical.em (Bx s.s.cf core=0) with q | q
   ·exact q
   ·exact absurd (.inl q) c1
  unfold Bx at this
  split at this
  ·cases this
  ·omega
 have fin:∀ (u:Ch) (lag:Int),In64 lag→(∃ E,JW u.s E∧∀ k:Nat,∀ i∈E k,i=x.id)→u.s.cf=s.s.cf→x∈BE u.s.t→(∀ k:Nat,k < u.s.k.length→∀ a∈(AS u.s k).A.l,Az a≠x.id) →
  (GO u x core lag).1=0→Co (GO u x core lag).2.s:=by
  rintro u lag H7 ⟨E,hE,UM⟩ UK hxu hno hq
  unfold GO at hq ⊢
  have tV:(ET x core lag).st=if x.st=2 then 3 else x.st:=rfl
  have HK:CN u.s.cf.cores (ET x core lag):=by
   rw [UK]
   refine ⟨hro.1,?_,F9,hro.2.2.2.1,hro.2.2.2.2.1,H7,fun _=>hc0⟩
   rw [tV];split <;> omega
  have KP:B0 (ET x core lag)=true:=by
   unfold B0
   rw [tV,Bool.and_eq_true,decide_eq_true_iff,decide_eq_true_iff]
   split <;> omega
  obtain ⟨i1,i2⟩:=Qu hE hxu (y:=ET x core lag) rfl KP HK UM hno
  by_cases c2:(ET x core lag).st=1
  ·rw [if_pos c2] at hq ⊢
   exact Qd (s:=⟨Bu u.s (ET x core lag),u.ev⟩) i1 i2 c2 hq
  ·rw [if_neg c2]
   refine Vm i1 i2 rfl ?_
   cases gL:BP (ET x core lag) with
   | false=>rfl
   | true =>
     rw [Q9] at gL
     rw [tV] at gL c2
     split at gL <;> split at c2 <;> omega
 cases hc:BP x with
 | true =>
   rw [hc,if_pos rfl] at he
   rw [if_pos rfl]
   obtain ⟨i1,i2⟩:=On h hx hc
   refine fin (B6 s x).2 (B6 s x).1 (leave_in s x) ⟨_,i1,fun k i hi=>?_⟩ (leave_cf s h.ok x) i2 (leave_no h hx hc) he
   unfold Js at hi
   split at hi
   ·simpa using hi
   ·cases hi
 | false =>
   rw [hc,if_neg (by simp)] at he
   rw [if_neg (by simp)]
   exact fin s x.lag hro.2.2.2.2.2.1 ⟨_,h,fun k i hi=>by cases hi⟩ rfl hx (no_req h hx hc) he
theorem iO {s:Ch} (h:Co s.s) {core w ns:Int} (F9:In64 core) (DZ:BV ns) (he:(Br s core w ns).1=0):Co (Br s core w ns).2.2.s:=by
 by_cases c1:DA s.s core w ns≠0
 ·rw [Kg c1] at he;exact absurd he c1
 by_cases c2:E9 s.s.t (BZ core w ns)≠0
 ·rw [Ka c1 c2] at he;exact absurd he c2
 rw [NW c1 c2] at he ⊢
 have VN:E9 s.s.t (BZ core w ns)=0:=by
  rcases Classical.em (E9 s.s.t (BZ core w ns)=0) with q | q
  ·exact q
  ·exact absurd q c2
 have hc0:0≤core∧core < s.s.cf.cores:=by
  have q:DA s.s core w ns=0:=by
   rcases Classical.em (DA s.s core w ns=0) with q | q
   ·exact q
   ·exact absurd q c1
  unfold DA Fh Bx at q
  by_cases k:core < 0∨core≥s.s.cf.cores
  ·rw [if_pos k] at q;cases q
  ·omega
 have HK:CN s.s.cf.cores (BZ core w ns):=⟨(by decide:In64 0),(by decide:(0:Int)≤1∧(1:Int) < 256),F9,M6 _,DZ,(by decide:In64 0),fun _=>hc0⟩
 have L:=fun z=>(UW h.ids VN z).1
 obtain ⟨_,hno,Le,hn2⟩:=UW h.ids VN (BZ core w ns)
 have eJ:Jw s core w ns=FM ⟨{ s.s with t:=DN s.s.t (BZ core w ns) },s.ev⟩ { BZ core w ns with id:=Eo s.s.t (BZ core w ns) } 0:=rfl
 generalize hn:Eo s.s.t (BZ core w ns)=n at *
 have UT:=h.ids.add (BZ core w ns)
 have aAu:EC { s.s with t:=DN s.s.t (BZ core w ns) }:=h.ok.rows (Ya h.ok.row h.ok.tl HK) (WW _ _)
 generalize Jw s core w ns=J at *
 have hj:FM ⟨{ s.s with t:=DN s.s.t (BZ core w ns) },s.ev⟩ { BZ core w ns with id:=n } 0=J:=eJ.symm
 have e0:J.1=0:=by
  by_cases e:J.1=0
  ·exact e
  ·rw [if_neg e] at he;exact he
 rw [if_pos e0]
 have hi:JW { s.s with t:=DN s.s.t (BZ core w ns) } (Js core n):=⟨aAu,UT,h.rep,h.inv,fun k hk=>⟨fun a ha=>?_,fun z hz hc OM wH=>?_,fun i hi=>by cases hi⟩⟩
 ·have:=Qd (s:=⟨{ s.s with t:=DN s.s.t (BZ core w ns) },s.ev⟩) (y:={ BZ core w ns with id:=n }) (lag:=0) hi ((L _).2 (.inl rfl)) rfl (by rw [hj];exact e0)
  rw [hj] at this
  exact this
 ·obtain ⟨u,hu,ht⟩:=(h.tie k hk).fwd a ha
  exact ⟨u,(L u).2 (.inr hu),ht⟩
 ·rcases (L z).1 hz with rfl | hz
  ·have aAg:(k:Int)=core:=OM.symm
   unfold Js at wH
   rw [if_pos aAg] at wH
   exact absurd (List.mem_singleton.2 rfl) wH
  ·exact (h.tie k hk).bwd z hz hc OM (by simp)
theorem Ty {ns:Int} (DZ:0≤ns):∀ (n k:Nat) (s:Ch),Co s.s→k+n=s.s.k.length→(Du n k s ns).1=0→Co (Du n k s ns).2.s
 | 0,k,s,h,_,_=>h
 | n+1,k,s,h,hk,he=>by
   unfold Du at he ⊢
   by_cases e0:(Aq (AS s.s k) ns).1=0
   ·have UI:(Aq (AS s.s k) ns).fst=0:=e0
    rw [if_pos UI] at he
    rw [if_pos UI]
    obtain ⟨t1,t2⟩:=bK (h.rep.at k) (h.inv (AS s.s k) (OU (show k < s.s.k.length by omega))) (ns:=ns) (h.tie k om)
    have i1:=(inv_do (E:=fun _=>[]) (s:=s.s) (t1:=s.s.t) (k:=k) (show k < s.s.k.length by omega) h.ok h.ids h.rep h.inv (fun k' hk' _=>h.tie k' hk') t2 t1 s.ev _ e0).1
    refine Ty DZ n (k+1) _ i1 ?_ he
    rw [(ok_absorb (s:=⟨Bb s.s k _,s.ev⟩) (h.ok.Sk _ _) _ _).2.2]
    show k+1+n=(s.s.k.set _ _).length
    rw [List.length_set];omega
   ·have UI:¬ (Aq (AS s.s k) ns).fst=0:=e0
    rw [if_neg UI] at he
    exact absurd he e0
theorem JP {s:Ch} (h:Co s.s) (id:Int) (f:Ch→Tk→Int × Ch) (hf:∀ x∈BE s.s.t,x.id=id→(f s x).1=0→Co (f s x).2.s) (he:(CJ s id f).1=0):Co (CJ s id f).2.s:=by
 unfold CJ at he ⊢
 by_cases c:Dd (BI s.s.t id)≠0
 ·rw [if_pos c] at he;exact absurd he c
 ·rw [if_neg c] at he ⊢
  obtain ⟨h1,h2⟩:=task_live h.ids (id:=id) (by
   rcases Classical.em (Dd (BI s.s.t id)=0) with q | q
   ·exact q
   ·exact absurd q c)
  exact hf _ h1 h2 he
theorem sM {s:Sy} (h:Co s) {a:C2} (ha:a.In) (he:(D9 s a).1=0):Co (D9 s a).2.s:=by
 unfold D9 at he ⊢
 by_cases c1:a.d % 12 < 2
 ·rw [if_pos c1] at he ⊢;exact iO (s:=⟨s,[]⟩) h ha.2.2.1 ha.2.2.2.2 he
 rw [if_neg c1] at he ⊢
 by_cases c2:a.d % 12=2
 ·rw [if_pos c2] at he ⊢;exact JP (s:=⟨s,[]⟩) h a.id _ (fun x hx e k=>by rw [← e];exact (inv_exit (s:=⟨s,[]⟩) h hx).1) he
 rw [if_neg c2] at he ⊢
 by_cases c3:a.d % 12 < 5
 ·rw [if_pos c3] at he ⊢;exact JP (s:=⟨s,[]⟩) h a.id _ (fun x hx e k=>by rw [← e] at k ⊢;exact dV (s:=⟨s,[]⟩) h hx k) he
 rw [if_neg c3] at he ⊢
 by_cases c4:a.d % 12 < 7
 ·rw [if_pos c4] at he ⊢;exact JP (s:=⟨s,[]⟩) h a.id _ (fun x hx e k=>by rw [← e] at k ⊢;exact kE (s:=⟨s,[]⟩) h hx k) he
 rw [if_neg c4] at he ⊢
 by_cases c5:a.d % 12=7
 ·rw [if_pos c5] at he ⊢;exact JP (s:=⟨s,[]⟩) h a.id _ (fun x hx e k=>by rw [← e] at k ⊢;exact ZE (s:=⟨s,[]⟩) h hx k) he
 rw [if_neg c5] at he ⊢
 by_cases c6:a.d % 12=8
 ·rw [if_pos c6] at he ⊢;exact JP (s:=⟨s,[]⟩) h a.id _ (fun x hx e k=>by rw [← e] at k ⊢;exact iN (s:=⟨s,[]⟩) h hx ha.2.2.2.2 k) he
 rw [if_neg c6] at he ⊢
 by_cases c7:a.d % 12=9
 ·rw [if_pos c7] at he ⊢;exact JP (s:=⟨s,[]⟩) h a.id _ (fun x hx e k=>YJ (s:=⟨s,[]⟩) h hx ha.2.2.1 k) he
 rw [if_neg c7] at he ⊢
 unfold GF at he ⊢
 by_cases c8:BC a.ns (Dp s.cf.tick)≠0
 ·have xN:BC a.ns (Dp (Ch.s ⟨s,[]⟩).cf.tick)≠0:=c8
  rw [if_pos xN] at he;exact absurd he c8
 ·have xN:¬ BC a.ns (Dp (Ch.s ⟨s,[]⟩).cf.tick)≠0:=c8
  rw [if_neg xN] at he ⊢
  exact Ty ha.2.2.2.2.1 _ 0 ⟨s,[]⟩ h (Nat.zero_add _) he
def Vt (m:Int) (l:List RT):Prop:=∀ a∈l,m≤a.1.slice
def tD (m:Int) (a:RT):Bool:=decide (a.1.left < m)
def under (m:Int) (l:List RT):Nat:=(l.filter (tD m)).length
theorem RM {m:Int} {l l':List RT} (p:l.Perm l'):under m l=under m l':=(p.filter _).length_eq
theorem RS (m:Int) (a:RT) (l:List RT):under m (a :: l)=(if a.1.left < m then 1 else 0)+under m l:=by
 unfold under
 rw [List.filter_cons]
 unfold tD
 by_cases h:a.1.left < m
 ·rw [if_pos (decide_eq_true h),if_pos h,List.length_cons,Nat.add_comm]
 ·rw [if_neg (by simpa using h),if_neg h,Nat.zero_add]
theorem cR {m:Int} {l l':List RT} (h:l.Sublist l'):under m l≤under m l':=(h.filter _).length_le
theorem nR (m:Int) (l:List RT):under m l≤l.length:=List.length_filter_le _ _
theorem ext_sub (A:As) (id:Int):(Fk A id).l.Sublist A.l:=by
 unfold Fk
 split
 ·exact List.filter_sublist
 ·exact List.Sublist.refl _
theorem SK:∀ (n:Nat) (A:As),(Cm n A).2.l.Sublist A.l
 | 0,A=>List.Sublist.refl _
 | n+1,A=>by
   unfold Cm
   cases A.l.find? (GB A) with
   | none=>exact List.Sublist.refl _
   | some a=>exact (SK n _).trans (ext_sub A _)
theorem set_sub (c:Cs):(Da c).A.l.Sublist c.A.l:=SK _ _
theorem cE {s:Ss} {c:Cs} {left m:Int} (h:BJ s c.A) (hI:KV c) (hr:c.run≠0) (l0:0≤left) (he:FV c left=0) (hm:Vt m c.A.l) :
 Vt m (Da (Df c left)).A.l∧(BX c left=left∨(BX c left < left∧((m≤BX c left∧under m (Da (Df c left)).A.l≤under m c.A.l)∨under m (Da (Df c left)).A.l+1≤under m c.A.l))):=by
 rcases hI with ⟨h1,_⟩ | ⟨a,ha,wS,hpos,uW,_⟩
 ·exact absurd h1 hr
 have hf:=Ct h.o ha
 have hg:DH c.A.l c.run=a.1:=by unfold DH;rw [wS,hf]
 obtain ⟨p1,_,p3,p4,_⟩:=Tp hg l0 he
 obtain ⟨f1,f2,_⟩:=Wp hg l0 he
 have hid:Az (D3 c left)=Az a:=p1
 have q1:(Df c left).A.l.Perm (D3 c left :: Dh (Az a) c.A.l):=by
  show (GX c.A (D3 c left)).l.Perm _
  rw [Ul he,← hid]
  exact KA h.o
 have q2:=del_perm h.o hf
 have hsub:=cR (m:=m) (set_sub (Df c left))
 rw [RM q1,RS] at hsub
 have hc:=RM (m:=m) q2
 rw [RS] at hc
 have Cx:=hm a ha
 have en:BX c left=if a.1.left < left then a.1.left else left:=by unfold BX EF;rw [hg]
 refine ⟨fun x hx=>?_,?_⟩
 ·have hx:=(set_sub (Df c left)).subset hx
  rcases List.mem_cons.1 (q1.mem_iff.1 hx) with rfl | k
  ·rw [f1];exact Cx
  ·exact hm x (q2.mem_iff.2 (List.mem_cons_of_mem _ k))
 ·by_cases k:a.1.left < left
  ·rw [if_pos k] at en
   rw [en]
   have e2:(D3 c left).1.left=a.1.slice:=by rw [f2,if_pos om]
   rw [e2,if_neg om] at hsub
   refine .inr ⟨k,?_⟩
   by_cases k2:a.1.left < m
   ·rw [if_pos k2] at hc;exact .inr om
   ·rw [if_neg k2] at hc;exact .inl ⟨by omega,by omega⟩
  ·rw [if_neg k] at en;exact .inl en
theorem mH {a n m:Int} (hm:1≤m) (h:m≤n):(a - n) / m+1≤a / m:=by
 have h1:(a - n) / m≤(a - m) / m:=Int.ediv_le_ediv om om
 have h2:(a - m) / m=a / m - 1:=by
  have:=Int.add_mul_ediv_right a (-1) (show m≠0 by omega)
  rw [show a+-1*m=a - m by omega] at this
  omega
 omega
theorem Vb {m:Int} (hm:1≤m):∀ (k:Nat) (left:Int) (c:Cs) (r:Rp),CO c→KV c→0≤left→left≤1099511627776→Vt m c.A.l →
 (((DV k left c r).2.2.p.length:Nat):Int)≤r.p.length+under m c.A.l+left / m+1∧Vt m (DV k left c r).2.1.A.l
 | 0,left,c,r,_,_,l0,_,hs=>⟨by show ((r.p.length:Nat):Int)≤_;have:=Int.ediv_nonneg l0 (show 0≤m by omega);omega,hs⟩
 | k+1,left,c,r,hR,hI,l0,l1,hs=>by
   have h0:=Int.ediv_nonneg l0 (show 0≤m by omega)
   unfold DV
   split
   ·rename_i hc
    split
    ·rename_i he
     obtain ⟨s,hs'⟩:=hR
     obtain ⟨s1,h1⟩:=PF hs' left
     have hst:=Mr (c:=c) (most:=left) ⟨l0,by omega⟩ he
     obtain ⟨a1,a2⟩:=cE hs' hI hc.2 l0 he hs
     have el:(IJ c left r).p.length=r.p.length+1:=by show (r.p ++ [MF c left]).length=_;simp
     rcases a2 with e | ⟨e1,e2⟩
     ·have e0:DV k (left - BX c left) (Da (Df c left)) (IJ c left r)=(0,Da (Df c left),IJ c left r):=by
       cases k with
       | zero=>rfl
       | succ k=>unfold DV;rw [if_neg om]
      rw [e0]
      refine ⟨?_,a1⟩
      show (((IJ c left r).p.length:Nat):Int)≤_
      omega
     ·obtain ⟨i1,i2⟩:=Vb hm k (left - BX c left) (Da (Df c left)) (IJ c left r) (NJ ⟨s1,h1⟩) (inv_set h1) om om a1
      refine ⟨?_,i2⟩
      rcases e2 with ⟨e2,e3⟩ | e3
      ·have:=mH (a:=left) hm e2
       omega
      ·have:(left - BX c left) / m≤left / m:=Int.ediv_le_ediv om om
       omega
    ·exact ⟨by show ((r.p.length:Nat):Int)≤_;omega,hs⟩
   ·exact ⟨by show ((r.p.length:Nat):Int)≤_;omega,hs⟩
theorem jL {m:Int} (hm:1≤m) {c:Cs} {ns:Int} (hR:CO c) (hI:KV c) (hs:Vt m c.A.l) (h0:0≤ns):(((Aq c ns).2.2.p.length:Nat):Int)≤33+ns / m∧Vt m (Aq c ns).2.1.A.l:=by
 have h2:=Int.ediv_nonneg h0 (show 0≤m by omega)
 unfold Aq
 split
 ·rename_i hc
  obtain ⟨h1,h3⟩:=Vb hm (ns.toNat+1) ns c .none hR hI h0 hc.2 hs
  obtain ⟨s,hs'⟩:=hR
  have e1:=hs'.le
  have e2:=nR m c.A.l
  have e3:Rp.none.p.length=0:=rfl
  exact ⟨by omega,h3⟩
 ·exact ⟨by show ((0:Nat):Int)≤_;omega,hs⟩
theorem Wv {c:Cf} (h:FK c=0):1≤c.cores∧c.cores≤8∧1≤c.tasks∧c.tasks≤32∧1≤c.tick∧c.tick≤1099511627776∧1≤c.slice∧c.slice≤1099511627776:=by
 unfold FK at h
 split at h
 ·cases h
 ·rename_i k
  unfold Fh at h
  have w:∀ {n e:Int},BC n e≠0∨(1≤n∧n≤e):=fun {n e}=>by
   unfold BC
   split
   ·exact .inl (by decide)
   ·exact .inr om
  split at h
  ·rename_i q;exact absurd h q
  ·rename_i q1
   unfold Fh at h
   split at h
   ·rename_i q;exact absurd h q
   ·rename_i q2
    unfold Fh at h
    split at h
    ·rename_i q;exact absurd h q
    ·rename_i q3
     unfold Fh at h
     split at h
     ·rename_i q;exact absurd h q
     ·rename_i q4
      have r1:=(w (n:=c.cores) (e:=8)).resolve_left q1
      have r2:=(w (n:=c.tasks) (e:=32)).resolve_left q2
      have r3:=(w (n:=c.tick) (e:=1099511627776)).resolve_left q3
      have r4:=(w (n:=c.slice) (e:=1099511627776)).resolve_left q4
      omega
theorem jR {s:Sy} {n:Nat} {c:Cs} (h:s.k=List.replicate n c) {k:Nat} (hk:k < s.k.length):AS s k=c:=by
 have:=OU hk
 rw [h] at this
 exact (List.mem_replicate.1 this).2
theorem inv_new {c:Cf} (hc:c.In) (h:FK c=0):Co (JC c):=by
 have k:=Wv h
 refine ⟨⟨hc,k.1,k.2.1,?_,fun x hx=>?_,?_⟩,BY.rep _ _,fun d hd=>?_,fun d hd=>?_,fun i hi=>?_⟩
 ·show ((List.replicate c.cores.toNat (EV c.origin)).length:Int)=c.cores
  rw [List.length_replicate];omega
 ·obtain rfl:=(List.mem_replicate.1 hx).2
  exact CN.zero _
 ·show (List.replicate (Es c.tasks) Tk.zero).length≤32
  rw [List.length_replicate];unfold Es;omega
 ·obtain rfl:=(List.mem_replicate.1 hd).2
  exact ⟨_,BJ.new _⟩
 ·obtain rfl:=(List.mem_replicate.1 hd).2
  exact KV.new _
 ·rw [jR (s:=JC c) rfl hi]
  refine ⟨fun a ha=>(by cases ha),fun x hx=>?_,fun i hi=>(by cases hi)⟩
  obtain ⟨h1,j,hj⟩:=GD hx
  obtain rfl:=(List.mem_replicate.1 (List.mem_of_getElem? hj)).2
  exact absurd rfl h1
def Bg (m:Int) (t:List Tk):Prop:=∀ x∈BE t,m≤x.slice
theorem T5 {m:Int} {t:List Tk} (h:Bg m t) {y:Tk} (hy:m≤y.slice) (i:Nat):Bg m (t.set i y):=fun x hx=>by
 obtain ⟨h1,j,hj⟩:=GD hx
 rcases List.mem_or_eq_of_mem_set (List.mem_of_getElem? hj) with q | rfl
 ·obtain ⟨j',hj'⟩:=List.getElem?_of_mem q
  exact h x (Ff.2 ⟨h1,j',hj'⟩)
 ·exact hy
theorem Ea {m:Int} {t:List Tk} (h:Bg m t) {y:Tk} (hy:Dd (BI t y.id)=0→m≤y.slice):Bg m (Ez t y):=by
 unfold Ez
 cases B0 y with
 | false=>exact h
 | true =>
   cases e:BI t y.id with
   | none=>exact h
   | some i=>exact T5 h (hy (by rw [e];rfl)) i
theorem Zi {m:Int} {t:List Tk} (h:Bg m t) {y:Tk} (hy:m≤y.slice):Bg m (DN t y):=by
 unfold DN
 cases B0 y with
 | false=>exact h
 | true =>
   cases DX t with
   | none=>exact h
   | some i=>exact T5 (y:={ y with id:=(i:Int)+1 }) h hy i
theorem QB {m:Int} {t:List Tk} (h:Bg m t) (id:Int):Bg m (FJ t id):=by
 unfold FJ
 cases BI t id with
 | none=>exact h
 | some i =>
   intro x hx
   obtain ⟨h1,j,hj⟩:=GD hx
   rcases List.mem_or_eq_of_mem_set (List.mem_of_getElem? hj) with q | rfl
   ·obtain ⟨j',hj'⟩:=List.getElem?_of_mem q
    exact h x (Ff.2 ⟨h1,j',hj'⟩)
   ·exact absurd rfl h1
theorem SH {m:Int} (k:Int):∀ (G:List Gn) (s:Ch),BY 0 s.s.t→Bg m s.s.t→Bg m (G.foldl (DO k) s).s.t
 | [],s,_,h=>h
 | g :: G,s,hI,h=>by
   refine SH k G (DO k s g) (hI.sets (D5 s.s g)) (Ea (y:=D5 s.s g) h fun he=>?_)
   by_cases e:Dd (BI s.s.t g.id)=0
   ·exact h (BF s.s.t g.id) (task_live hI e).1
   ·have ez:BF s.s.t g.id = .zero:=by
     cases q:BI s.s.t g.id with
     | none=>unfold BF;rw [q]
     | some i=>rw [q] at e;exact absurd rfl e
    have:(D5 s.s g).id=0:=by show (BF s.s.t g.id).id=0;rw [ez];rfl
    rw [this] at he
    unfold BI at he
    rw [if_neg om] at he
    cases he
theorem least_absorb {m:Int} {s:Ch} (hI:BY 0 s.s.t) (h:Bg m s.s.t) (k:Int) (r:Rp):Bg m (BR s k r).s.t:=by
 rw [My]
 exact SH k _ _ hI h
theorem WG (k:Int):∀ (G:List Gn) (s:Ch),BY 0 s.s.t→BY 0 (G.foldl (DO k) s).s.t
 | [],_,h=>h
 | g :: G,s,h=>WG k G (DO k s g) (h.sets (D5 s.s g))
theorem ids_absorb {s:Ch} (hI:BY 0 s.s.t) (k:Int) (r:Rp):BY 0 (BR s k r).s.t:=by
 rw [My]
 exact WG k _ _ hI
theorem Gz {m:Int} {s:Ch} (hI:BY 0 s.s.t) (h:Bg m s.s.t) (k:Int) (l:Int × Cs × Rp):Bg m (EP s k l).2.s.t:=by
 unfold EP
 split
 ·exact least_absorb (s:=⟨Bb s.s k _,s.ev⟩) hI h k _
 ·exact h
theorem OI {m:Int} {s:Ch} (hI:BY 0 s.s.t) (h:Bg m s.s.t) {y:Tk} (hy:m≤y.slice) (l:Int × Cs × Rp):Bg m (EN s y l).2.s.t:=by
 unfold EN
 split
 ·exact least_absorb (s:=⟨Bu (Bb s.s y.core _) y,s.ev⟩) (hI.sets y) (Ea h fun _=>hy) y.core _
 ·exact h
theorem least_leave {m:Int} {s:Ch} (hI:BY 0 s.s.t) (h:Bg m s.s.t) (x:Tk):Bg m (B6 s x).2.s.t∧BY 0 (B6 s x).2.s.t :=
 ⟨least_absorb (s:=⟨Bb s.s x.core _,s.ev⟩) hI h x.core _,ids_absorb (s:=⟨Bb s.s x.core _,s.ev⟩) hI x.core _⟩
theorem PU {m ns:Int}:∀ (n k:Nat) (s:Ch),BY 0 s.s.t→Bg m s.s.t→Bg m (Du n k s ns).2.s.t
 | 0,_,_,_,h=>h
 | n+1,k,s,hI,h=>by
   unfold Du
   by_cases e0:(Aq (AS s.s k) ns).1=0
   ·have UI:(Aq (AS s.s k) ns).fst=0:=e0
    rw [if_pos UI]
    exact PU n (k+1) _ (ids_absorb (s:=⟨Bb s.s k _,s.ev⟩) hI k _) (least_absorb (s:=⟨Bb s.s k _,s.ev⟩) hI h k _)
   ·have UI:¬ (Aq (AS s.s k) ns).fst=0:=e0
    rw [if_neg UI]
    exact h
def ZR (m:Int) (a:C2):Prop:=(a.d % 12 < 2∨a.d % 12=8)→1≤a.ns→m≤a.ns
theorem within_lo {n e:Int} (h:¬ BC n e≠0):1≤n∧n≤e:=by
 unfold BC at h
 split at h
 ·exact absurd (by decide) h
 ·omega
theorem HY {m:Int} {s:Ch} (hI:BY 0 s.s.t) (h:Bg m s.s.t) (id:Int) (f:Ch→Tk→Int × Ch) (hf:∀ x∈BE s.s.t,x.id=id→Bg m (f s x).2.s.t):Bg m (CJ s id f).2.s.t:=by
 unfold CJ
 split
 ·exact h
 ·rename_i c
  obtain ⟨h1,h2⟩:=task_live hI (id:=id) (by
   rcases Classical.em (Dd (BI s.s.t id)=0) with q | q
   ·exact q
   ·exact absurd q c)
  exact hf _ h1 h2
theorem jX {m:Int} {s:Sy} (hI:BY 0 s.t) (h:Bg m s.t) {a:C2} (ha:ZR m a):Bg m (D9 s a).2.s.t:=by
 unfold D9
 by_cases c1:a.d % 12 < 2
 ·rw [if_pos c1]
  show Bg m (Br ⟨s,[]⟩ a.core a.w a.ns).2.2.s.t
  by_cases q1:DA s a.core a.w a.ns≠0
  ·rw [Kg (s:=⟨s,[]⟩) q1];exact h
  by_cases q2:E9 s.t (BZ a.core a.w a.ns)≠0
  ·rw [Ka (s:=⟨s,[]⟩) q1 q2];exact h
  rw [NW (s:=⟨s,[]⟩) q1 q2]
  have DZ:1≤a.ns:=by
   unfold DA Fh at q1
   split at q1
   ·rename_i z;exact absurd z q1
   ·unfold Fh at q1
    split at q1
    ·rename_i z;exact absurd z q1
    ·unfold Fh at q1
     split at q1
     ·rename_i z;exact absurd z q1
     ·rename_i z;exact (within_lo z).1
  have hm:m≤(BZ a.core a.w a.ns).slice:=ha (.inl c1) DZ
  have hl:Bg m (Jw ⟨s,[]⟩ a.core a.w a.ns).2.s.t:=Gz (m:=m) (s:=⟨{ s with t:=DN s.t (BZ a.core a.w a.ns) },[]⟩) (hI.add (BZ a.core a.w a.ns)) (Zi h hm) _ _
  split
  ·exact hl
  ·exact h
 rw [if_neg c1]
 by_cases c2:a.d % 12=2
 ·rw [if_pos c2]
  refine HY (s:=⟨s,[]⟩) hI h a.id _ fun x hx e=>?_
  unfold Gc
  cases hc:BP x with
  | true=>rw [if_pos rfl];exact QB (least_leave hI h x).1 _
  | false=>rw [if_neg (by simp)];exact QB h _
 rw [if_neg c2]
 by_cases c3:a.d % 12 < 5
 ·rw [if_pos c3]
  refine HY (s:=⟨s,[]⟩) hI h a.id _ fun x hx e=>?_
  have hy:m≤(FB ⟨s,[]⟩ x a.id).slice:=by
   have:(FB ⟨s,[]⟩ x a.id).slice=x.slice:=gH _ _ _
   rw [this];exact h x hx
  show Bg m (HE ⟨s,[]⟩ x a.id).2.s.t
  unfold HE
  split
  ·exact h
  ·exact OI hI h hy _
 rw [if_neg c3]
 by_cases c4:a.d % 12 < 7
 ·rw [if_pos c4]
  refine HY (s:=⟨s,[]⟩) hI h a.id _ fun x hx e=>?_
  have hy:m≤({ x with st:=1 }:Tk).slice:=h x hx
  show Bg m (FC ⟨s,[]⟩ x a.id).2.s.t
  unfold FC
  split
  ·exact h
  ·split
   ·exact Gz (s:=⟨Bu s { x with st:=1 },[]⟩) (hI.sets { x with st:=1 }) (Ea h fun _=>hy) _ _
   ·exact OI hI h hy _
 rw [if_neg c4]
 by_cases c5:a.d % 12=7
 ·rw [if_pos c5]
  refine HY (s:=⟨s,[]⟩) hI h a.id _ fun x hx e=>?_
  have hy:m≤({ x with w:=IntKind.u32.wrap a.w }:Tk).slice:=h x hx
  show Bg m (Dl ⟨s,[]⟩ x a.id a.w).2.s.t
  unfold Dl
  split
  ·exact h
  ·split
   ·exact Ea h fun _=>hy
   ·exact Gz (s:=⟨Bu s { x with w:=IntKind.u32.wrap a.w },[]⟩) (hI.sets { x with w:=IntKind.u32.wrap a.w }) (Ea h fun _=>hy) _ _
 rw [if_neg c5]
 by_cases c6:a.d % 12=8
 ·rw [if_pos c6]
  refine HY (s:=⟨s,[]⟩) hI h a.id _ fun x hx e=>?_
  show Bg m (EY ⟨s,[]⟩ x a.id a.ns).2.s.t
  unfold EY
  split
  ·exact h
  ·rename_i q
   have hy:m≤({ x with slice:=a.ns }:Tk).slice:=ha (.inr c6) (within_lo q).1
   split
   ·exact Ea h fun _=>hy
   ·exact Gz (s:=⟨Bu s { x with slice:=a.ns },[]⟩) (hI.sets { x with slice:=a.ns }) (Ea h fun _=>hy) _ _
 rw [if_neg c6]
 by_cases c7:a.d % 12=9
 ·rw [if_pos c7]
  refine HY (s:=⟨s,[]⟩) hI h a.id _ fun x hx e=>?_
  show Bg m (Cg ⟨s,[]⟩ x a.core).2.s.t
  by_cases q:Bx s.cf a.core≠0∨a.core=x.core
  ·rw [J8 (s:=⟨s,[]⟩) q];exact h
  rw [Kf (s:=⟨s,[]⟩) q]
  have fin:∀ (u:Ch) (lag:Int),BY 0 u.s.t→Bg m u.s.t→Bg m (GO u x a.core lag).2.s.t:=fun u lag hIu hu=>by
   have hy:m≤(ET x a.core lag).slice:=h x hx
   unfold GO
   split
   ·exact Gz (s:=⟨Bu u.s (ET x a.core lag),u.ev⟩) (hIu.sets (ET x a.core lag)) (Ea hu fun _=>hy) _ _
   ·exact Ea hu fun _=>hy
  split
  ·obtain ⟨l1,l2⟩:=least_leave (s:=⟨s,[]⟩) hI h x
   exact fin _ _ l2 l1
  ·exact fin ⟨s,[]⟩ x.lag hI h
 rw [if_neg c7]
 show Bg m (GF ⟨s,[]⟩ a.ns).2.s.t
 unfold GF
 split
 ·exact h
 ·exact PU _ _ _ hI h
theorem least_core {m:Int} {s:Sy} (h:Co s) (hl:Bg m s.t) {k:Nat} (hk:k < s.k.length):Vt m (AS s k).A.l:=fun a ha=>by
 obtain ⟨x,hx,ht⟩:=(h.tie k hk).fwd a ha
 rw [← ht.2.2.2.2]
 exact hl x hx
theorem gG {m ns:Int} {s:Sy} (h:Co s) (hl:Bg m s.t) (hm:1≤m) (h0:0≤ns) (hn:ns / m≤300) {k:Nat} (hk:k < s.k.length):(Aq (AS s k) ns).2.2.p.length≤333:=by
 have:=(jL hm (h.rep.at k) (h.inv _ (OU hk)) (least_core h hl hk) h0).1
 omega
theorem iF (k:Int):∀ (G:List Gn) (s:Ch),(G.foldl (DO k) s).s.k=s.s.k∧(G.foldl (DO k) s).s.cf=s.s.cf
 | [],_=>⟨rfl,rfl⟩
 | g :: G,s=>iF k G (DO k s g)
theorem absorb_k (s:Ch) (k:Int) (r:Rp):(BR s k r).s.k=s.s.k∧(BR s k r).s.cf=s.s.cf:=by
 rw [My]
 exact iF k _ _
theorem ZC {s s':Sy} (h:s'.k=s.k) (j:Int):AS s' j=AS s j:=by unfold AS;rw [h]
theorem VQ {s:Sy} {k:Int} {j:Nat} (h0:0≤k) (h:(j:Int)≠k) (c:Cs):AS (Bb s k c) j=AS s j:=by
 unfold AS Bb
 show (s.k.set k.toNat c).getD j (EV 0)=s.k.getD j (EV 0)
 rw [List.getD_eq_getElem?_getD,List.getD_eq_getElem?_getD,List.getElem?_set,if_neg om]
def dF (l:List Ev):Prop:=∀ x∈l,x.ns=0∧x.gone=true
structure Calm (s s':Ch) (K:List Int):Prop where
 k:∀ j:Nat,(j:Int)∉K→AS s'.s j=AS s.s j
 e:dF s.ev→dF s'.ev
 cf:s'.s.cf=s.s.cf
theorem Calm.refl (s:Ch) (K:List Int):Calm s s K:=⟨fun _ _=>rfl,id,rfl⟩
theorem Calm.trans {s s1 s2:Ch} {K:List Int} (h:Calm s s1 K) (h':Calm s1 s2 K):Calm s s2 K:=⟨fun j hj=>(h'.k j hj).trans (h.k j hj),fun e=>h'.e (h.e e),h'.cf.trans h.cf⟩
theorem Calm.rows {s:Ch} (t:List Tk) (K:List Int):Calm s ⟨{ s.s with t:=t },s.ev⟩ K:=⟨fun _ _=>rfl,id,rfl⟩
theorem QF {s s1:Ch} {K:List Int} (h:Calm s s1 K) (k:Int) {r:Rp} (hr:r.p=[]):Calm s (BR s1 k r) K:=by
 refine ⟨fun j hj=>(ZC (absorb_k s1 k r).1 j).trans (h.k j hj),fun e x hx=>?_,(absorb_k s1 k r).2.trans h.cf⟩
 rw [OC,hr,List.map_nil,List.append_nil] at hx
 rcases List.mem_append.1 hx with q | q
 ·exact h.e e x q
 ·obtain ⟨g,_,rfl⟩:=List.mem_map.1 q
  exact ⟨rfl,rfl⟩
theorem calm_set {s:Ch} {k:Int} {K:List Int} (h0:0≤k) (hk:k∈K) (c:Cs) (t:List Tk):Calm s ⟨Bb { s.s with t:=t } k c,s.ev⟩ K :=
 ⟨fun j hj=>VQ (s:={ s.s with t:=t }) h0 (fun e=>hj (e ▸ hk)) c,id,rfl⟩
theorem Rs {e:Int} {c1:Cs}:(BU e c1 .none).p=[]:=by unfold BU;split <;> rfl
theorem Hr {s:Ch} {k:Int} {K:List Int} (h0:0≤k) (hk:k∈K) (l:Int × Cs):Calm s (EP s k (l.1,l.2,.none)).2 K:=by
 unfold EP
 split
 ·exact QF (calm_set h0 hk _ s.s.t) k Rs
 ·exact .refl _ _
theorem P9 {s:Ch} {y:Tk} {K:List Int} (h0:0≤y.core) (hk:y.core∈K) (l:Int × Cs):Calm s (EN s y (l.1,l.2,.none)).2 K:=by
 unfold EN
 split
 ·exact QF (calm_set h0 hk _ (Ez s.s.t y)) y.core Rs
 ·exact .refl _ _
theorem calm_leave {s:Ch} {x:Tk} {K:List Int} (h0:0≤x.core) (hk:x.core∈K):Calm s (B6 s x).2 K:=QF (calm_set h0 hk _ s.s.t) x.core Rs
theorem I6 {s:Ch} (id:Int) (f:Ch→Tk→Int × Ch) {K:List Int} (hf:Dd (BI s.s.t id)=0→Calm s (f s (BF s.s.t id)).2 K):Calm s (CJ s id f).2 K:=by
 unfold CJ
 split
 ·exact .refl _ _
 ·rename_i c
  refine hf ?_
  rcases Classical.em (Dd (BI s.s.t id)=0) with q | q
  ·exact q
  ·exact absurd q c
theorem VO {s:Sy} (h:EC s) (hI:BY 0 s.t) {a:C2} (hd:a.d % 12 < 10) {K:List Int} (h1:a.core∈K) (h2:Dd (BI s.t a.id)=0→1 < a.d % 12→(BF s.t a.id).core∈K):Calm ⟨s,[]⟩ (D9 s a).2 K:=by
 have hx:Dd (BI s.t a.id)=0→0≤(BF s.t a.id).core:=fun e=>by
  obtain ⟨k1,_⟩:=task_live hI e
  obtain ⟨k,hk,_⟩:=h.GU k1
  omega
 unfold D9
 by_cases c1:a.d % 12 < 2
 ·rw [if_pos c1]
  show Calm ⟨s,[]⟩ (Br ⟨s,[]⟩ a.core a.w a.ns).2.2 K
  by_cases q1:DA s a.core a.w a.ns≠0
  ·rw [Kg (s:=⟨s,[]⟩) q1];exact .refl _ _
  by_cases q2:E9 s.t (BZ a.core a.w a.ns)≠0
  ·rw [Ka (s:=⟨s,[]⟩) q1 q2];exact .refl _ _
  rw [NW (s:=⟨s,[]⟩) q1 q2]
  have h0:0≤a.core:=by
   unfold DA Fh at q1
   split at q1
   ·rename_i z;exact absurd z q1
   ·rename_i z
    unfold Bx at z
    split at z
    ·exact absurd (by decide) z
    ·omega
  split
  ·exact (Calm.rows (s:=⟨s,[]⟩) (DN s.t (BZ a.core a.w a.ns)) K).trans (Hr (k:=a.core) h0 h1 _)
  ·exact .refl _ _
 rw [if_neg c1]
 have hk:=fun e=>h2 e om
 by_cases c2:a.d % 12=2
 ·rw [if_pos c2]
  refine I6 (s:=⟨s,[]⟩) a.id _ fun e=>?_
  unfold Gc
  split
  ·exact (calm_leave (s:=⟨s,[]⟩) (hx e) (hk e)).trans (Calm.rows _ K)
  ·exact Calm.rows _ K
 rw [if_neg c2]
 by_cases c3:a.d % 12 < 5
 ·rw [if_pos c3]
  refine I6 (s:=⟨s,[]⟩) a.id _ fun e=>?_
  have hc:(FB ⟨s,[]⟩ (BF s.t a.id) a.id).core=(BF s.t a.id).core:=UG _ _ _
  show Calm ⟨s,[]⟩ (HE ⟨s,[]⟩ (BF s.t a.id) a.id).2 K
  unfold HE
  split
  ·exact .refl _ _
  ·exact P9 (by rw [hc];exact hx e) (by rw [hc];exact hk e) _
 rw [if_neg c3]
 by_cases c4:a.d % 12 < 7
 ·rw [if_pos c4]
  refine I6 (s:=⟨s,[]⟩) a.id _ fun e=>?_
  show Calm ⟨s,[]⟩ (FC ⟨s,[]⟩ (BF s.t a.id) a.id).2 K
  unfold FC
  split
  ·exact .refl _ _
  ·split
   ·exact (Calm.rows (s:=⟨s,[]⟩) _ K).trans (Hr (hx e) (hk e) _)
   ·exact P9 (y:={ BF s.t a.id with st:=1 }) (hx e) (hk e) _
 rw [if_neg c4]
 by_cases c5:a.d % 12=7
 ·rw [if_pos c5]
  refine I6 (s:=⟨s,[]⟩) a.id _ fun e=>?_
  show Calm ⟨s,[]⟩ (Dl ⟨s,[]⟩ (BF s.t a.id) a.id a.w).2 K
  unfold Dl
  split
  ·exact .refl _ _
  ·split
   ·exact Calm.rows _ K
   ·exact (Calm.rows (s:=⟨s,[]⟩) _ K).trans (Hr (hx e) (hk e) _)
 rw [if_neg c5]
 by_cases c6:a.d % 12=8
 ·rw [if_pos c6]
  refine I6 (s:=⟨s,[]⟩) a.id _ fun e=>?_
  show Calm ⟨s,[]⟩ (EY ⟨s,[]⟩ (BF s.t a.id) a.id a.ns).2 K
  unfold EY
  split
  ·exact .refl _ _
  ·split
   ·exact Calm.rows _ K
   ·exact (Calm.rows (s:=⟨s,[]⟩) _ K).trans (Hr (hx e) (hk e) _)
 rw [if_neg c6,if_pos (show a.d % 12=9 by omega)]
 refine I6 (s:=⟨s,[]⟩) a.id _ fun e=>?_
 show Calm ⟨s,[]⟩ (Cg ⟨s,[]⟩ (BF s.t a.id) a.core).2 K
 by_cases q:Bx s.cf a.core≠0∨a.core=(BF s.t a.id).core
 ·rw [J8 (s:=⟨s,[]⟩) q];exact .refl _ _
 rw [Kf (s:=⟨s,[]⟩) q]
 have h0:0≤a.core:=by
  rcases Int.lt_or_le a.core 0 with z | z
  ·exact absurd (.inl (by unfold Bx;rw [if_pos (.inl z)];decide)) q
  ·exact z
 have fin:∀ (u:Ch) (lag:Int),Calm ⟨s,[]⟩ u K→Calm ⟨s,[]⟩ (GO u (BF s.t a.id) a.core lag).2 K:=fun u lag hu=>by
  unfold GO
  split
  ·exact (hu.trans (Calm.rows (Ez u.s.t (ET (BF s.t a.id) a.core lag)) K)).trans (Hr (k:=a.core) h0 h1 _)
  ·exact hu.trans (Calm.rows (Ez u.s.t (ET (BF s.t a.id) a.core lag)) K)
 split
 ·exact fin _ _ (calm_leave (s:=⟨s,[]⟩) (hx e) (hk e))
 ·exact fin ⟨s,[]⟩ _ (.refl _ _)
end Go.Proofs.Q0
