/- A part of the proof: what its functions compute. -/
import Derived.Test.YtjiiakjheghcoaaGreatDoorGc9
set_option linter.unusedVariables false
set_option linter.unusedSimpArgs false
set_option maxRecDepth 100000
set_option maxHeartbeats 64000000
set_option linter.unusedSectionVars false
namespace Go.Proofs.Q0
open Go Go.RowKit
theorem X0 {c:Cf} (h:Ep c=0):1≤c.cores∧c.cores≤8∧1≤c.tasks∧c.tasks≤32∧1≤c.tick∧c.tick≤1099511627776∧1≤c.slice∧c.slice≤1099511627776:=by
 unfold Ep at h
 split at h
 ·cases h
 ·rename_i k
  unfold GR at h
  have w:∀ {n e:Int},Ar n e≠0∨(1≤n∧n≤e):=fun {n e}=>by
   unfold Ar
   split
   ·exact .inl (by decide)
   ·exact .inr om
  split at h
  ·rename_i q;exact absurd h q
  ·rename_i q1
   unfold GR at h
   split at h
   ·rename_i q;exact absurd h q
   ·rename_i q2
    unfold GR at h
    split at h
    ·rename_i q;exact absurd h q
    ·rename_i q3
     unfold GR at h
     split at h
     ·rename_i q;exact absurd h q
     ·rename_i q4
      have r1:=(w (n:=c.cores) (e:=8)).resolve_left q1
      have r2:=(w (n:=c.tasks) (e:=32)).resolve_left q2
      have r3:=(w (n:=c.tick) (e:=1099511627776)).resolve_left q3
      have r4:=(w (n:=c.slice) (e:=1099511627776)).resolve_left q4
      omega
theorem mQ {s:Sy} {n:Nat} {c:Cs} (h:s.k=List.replicate n c) {k:Nat} (hk:k < s.k.length):AF s k=c:=by
 have:=O0 hk
 rw [h] at this
 exact (List.mem_replicate.1 this).2
theorem inv_new {c:Cf} (hc:c.In) (h:Ep c=0):Cl (GN c):=by
 have k:=X0 h
 refine ⟨⟨hc,k.1,k.2.1,?_,fun x hx=>?_,?_⟩,Bb.rep _ _,fun d hd=>?_,fun d hd=>?_,fun i hi=>?_⟩
 ·show ((List.replicate c.cores.toNat (Dw c.origin)).length:Int)=c.cores
  rw [List.length_replicate];omega
 ·obtain rfl:=(List.mem_replicate.1 hx).2
  exact CV.zero _
 ·show (List.replicate (FU c.tasks) Tk.zero).length≤32
  rw [List.length_replicate];unfold FU;omega
 ·obtain rfl:=(List.mem_replicate.1 hd).2
  exact ⟨_,BR.new _⟩
 ·obtain rfl:=(List.mem_replicate.1 hd).2
  exact Km.new _
 ·rw [mQ (s:=GN c) rfl hi]
  refine ⟨fun a ha=>(by cases ha),fun x hx=>?_,fun i hi=>(by cases hi)⟩
  obtain ⟨h1,j,hj⟩:=Gq hx
  obtain rfl:=(List.mem_replicate.1 (List.mem_of_getElem? hj)).2
  exact absurd rfl h1
def Bo (m:Int) (t:List Tk):Prop:=∀ x∈Aj t,m≤x.slice
theorem UU {m:Int} {t:List Tk} (h:Bo m t) {y:Tk} (hy:m≤y.slice) (i:Nat):Bo m (t.set i y):=fun x hx=>by
 obtain ⟨h1,j,hj⟩:=Gq hx
 rcases List.mem_or_eq_of_mem_set (List.mem_of_getElem? hj) with q | rfl
 ·obtain ⟨j',hj'⟩:=List.getElem?_of_mem q
  exact h x (GQ.2 ⟨h1,j',hj'⟩)
 ·exact hy
theorem Ew {m:Int} {t:List Tk} (h:Bo m t) {y:Tk} (hy:DG (BI t y.id)=0→m≤y.slice):Bo m (Et t y):=by
 unfold Et
 cases Bd y with
 | false=>exact h
 | true =>
   cases e:BI t y.id with
   | none=>exact h
   | some i=>exact UU h (hy (by rw [e];rfl)) i
theorem dH {m:Int} {t:List Tk} (h:Bo m t) {y:Tk} (hy:m≤y.slice):Bo m (Dp t y):=by
 unfold Dp
 cases Bd y with
 | false=>exact h
 | true =>
   cases Ds t with
   | none=>exact h
   | some i=>exact UU (y:={ y with id:=(i:Int)+1 }) h hy i
theorem Qf {m:Int} {t:List Tk} (h:Bo m t) (id:Int):Bo m (Fl t id):=by
 unfold Fl
 cases BI t id with
 | none=>exact h
 | some i =>
   intro x hx
   obtain ⟨h1,j,hj⟩:=Gq hx
   rcases List.mem_or_eq_of_mem_set (List.mem_of_getElem? hj) with q | rfl
   ·obtain ⟨j',hj'⟩:=List.getElem?_of_mem q
    exact h x (GQ.2 ⟨h1,j',hj'⟩)
   ·exact absurd rfl h1
theorem Rw {m:Int} (k:Int):∀ (G:List Gn) (s:Ch),Bb 0 s.s.t→Bo m s.s.t→Bo m (G.foldl (DN k) s).s.t
 | [],s,_,h=>h
 | g :: G,s,hI,h=>by
   refine Rw k G (DN k s g) (hI.sets (Dx s.s g)) (Ew (y:=Dx s.s g) h fun he=>?_)
   by_cases e:DG (BI s.s.t g.id)=0
   ·exact h (AV s.s.t g.id) (task_live hI e).1
   ·have ez:AV s.s.t g.id = .zero:=by
     cases q:BI s.s.t g.id with
     | none=>unfold AV;rw [q]
     | some i=>rw [q] at e;exact absurd rfl e
    have:(Dx s.s g).id=0:=by show (AV s.s.t g.id).id=0;rw [ez];rfl
    rw [this] at he
    unfold BI at he
    rw [if_neg om] at he
    cases he
theorem least_absorb {m:Int} {s:Ch} (hI:Bb 0 s.s.t) (h:Bo m s.s.t) (k:Int) (r:Rp):Bo m (Ay s k r).s.t:=by
 rw [Nq]
 exact Rw k _ _ hI h
theorem XF (k:Int):∀ (G:List Gn) (s:Ch),Bb 0 s.s.t→Bb 0 (G.foldl (DN k) s).s.t
 | [],_,h=>h
 | g :: G,s,h=>XF k G (DN k s g) (h.sets (Dx s.s g))
theorem ids_absorb {s:Ch} (hI:Bb 0 s.s.t) (k:Int) (r:Rp):Bb 0 (Ay s k r).s.t:=by
 rw [Nq]
 exact XF k _ _ hI
theorem HX {m:Int} {s:Ch} (hI:Bb 0 s.s.t) (h:Bo m s.s.t) (k:Int) (l:Int × Cs × Rp):Bo m (Dg s k l).2.s.t:=by
 unfold Dg
 split
 ·exact least_absorb (s:=⟨BF s.s k _,s.ev⟩) hI h k _
 ·exact h
theorem PV {m:Int} {s:Ch} (hI:Bb 0 s.s.t) (h:Bo m s.s.t) {y:Tk} (hy:m≤y.slice) (l:Int × Cs × Rp):Bo m (Df s y l).2.s.t:=by
 unfold Df
 split
 ·exact least_absorb (s:=⟨Bk (BF s.s y.core _) y,s.ev⟩) (hI.sets y) (Ew h fun _=>hy) y.core _
 ·exact h
theorem least_leave {m:Int} {s:Ch} (hI:Bb 0 s.s.t) (h:Bo m s.s.t) (x:Tk):Bo m (BO s x).2.s.t∧Bb 0 (BO s x).2.s.t :=
 ⟨least_absorb (s:=⟨BF s.s x.core _,s.ev⟩) hI h x.core _,ids_absorb (s:=⟨BF s.s x.core _,s.ev⟩) hI x.core _⟩
theorem Q2 {m ns:Int}:∀ (n k:Nat) (s:Ch),Bb 0 s.s.t→Bo m s.s.t→Bo m (DI n k s ns).2.s.t
 | 0,_,_,_,h=>h
 | n+1,k,s,hI,h=>by
   unfold DI
   by_cases e0:(AX (AF s.s k) ns).1=0
   ·have Uu:(AX (AF s.s k) ns).fst=0:=e0
    rw [if_pos Uu]
    exact Q2 n (k+1) _ (ids_absorb (s:=⟨BF s.s k _,s.ev⟩) hI k _) (least_absorb (s:=⟨BF s.s k _,s.ev⟩) hI h k _)
   ·have Uu:¬ (AX (AF s.s k) ns).fst=0:=e0
    rw [if_neg Uu]
    exact h
def eU (m:Int) (a:CR):Prop:=(a.d % 12 < 2∨a.d % 12=8)→1≤a.ns→m≤a.ns
theorem within_lo {n e:Int} (h:¬ Ar n e≠0):1≤n∧n≤e:=by
 unfold Ar at h
 split at h
 ·exact absurd (by decide) h
 ·omega
theorem Hz {m:Int} {s:Ch} (hI:Bb 0 s.s.t) (h:Bo m s.s.t) (id:Int) (f:Ch→Tk→Int × Ch) (hf:∀ x∈Aj s.s.t,x.id=id→Bo m (f s x).2.s.t):Bo m (CG s id f).2.s.t:=by
 unfold CG
 split
 ·exact h
 ·rename_i c
  obtain ⟨h1,h2⟩:=task_live hI (id:=id) (by
   rcases Classical.em (DG (BI s.s.t id)=0) with q | q
   ·exact q
   ·exact absurd q c)
  exact hf _ h1 h2
theorem gG {m:Int} {s:Sy} (hI:Bb 0 s.t) (h:Bo m s.t) {a:CR} (ha:eU m a):Bo m (CS s a).2.s.t:=by
 unfold CS
 by_cases c1:a.d % 12 < 2
 ·rw [if_pos c1]
  show Bo m (B8 ⟨s,[]⟩ a.core a.w a.ns).2.2.s.t
  by_cases q1:DV s a.core a.w a.ns≠0
  ·rw [JO (s:=⟨s,[]⟩) q1];exact h
  by_cases q2:E9 s.t (BU a.core a.w a.ns)≠0
  ·rw [Jp (s:=⟨s,[]⟩) q1 q2];exact h
  rw [Lp (s:=⟨s,[]⟩) q1 q2]
  have Du:1≤a.ns:=by
   unfold DV GR at q1
   split at q1
   ·rename_i z;exact absurd z q1
   ·unfold GR at q1
    split at q1
    ·rename_i z;exact absurd z q1
    ·unfold GR at q1
     split at q1
     ·rename_i z;exact absurd z q1
     ·rename_i z;exact (within_lo z).1
  have hm:m≤(BU a.core a.w a.ns).slice:=ha (.inl c1) Du
  have hl:Bo m (Gv ⟨s,[]⟩ a.core a.w a.ns).2.s.t:=HX (m:=m) (s:=⟨{ s with t:=Dp s.t (BU a.core a.w a.ns) },[]⟩) (hI.add (BU a.core a.w a.ns)) (dH h hm) _ _
  split
  ·exact hl
  ·exact h
 rw [if_neg c1]
 by_cases c2:a.d % 12=2
 ·rw [if_pos c2]
  refine Hz (s:=⟨s,[]⟩) hI h a.id _ fun x hx e=>?_
  unfold Ey
  cases hc:BK x with
  | true=>rw [if_pos rfl];exact Qf (least_leave hI h x).1 _
  | false=>rw [if_neg (by simp)];exact Qf h _
 rw [if_neg c2]
 by_cases c3:a.d % 12 < 5
 ·rw [if_pos c3]
  refine Hz (s:=⟨s,[]⟩) hI h a.id _ fun x hx e=>?_
  have hy:m≤(ES ⟨s,[]⟩ x a.id).slice:=by
   have:(ES ⟨s,[]⟩ x a.id).slice=x.slice:=gX _ _ _
   rw [this];exact h x hx
  show Bo m (GA ⟨s,[]⟩ x a.id).2.s.t
  unfold GA
  split
  ·exact h
  ·exact PV hI h hy _
 rw [if_neg c3]
 by_cases c4:a.d % 12 < 7
 ·rw [if_pos c4]
  refine Hz (s:=⟨s,[]⟩) hI h a.id _ fun x hx e=>?_
  have hy:m≤({ x with st:=1 }:Tk).slice:=h x hx
  show Bo m (EX ⟨s,[]⟩ x a.id).2.s.t
  unfold EX
  split
  ·exact h
  ·split
   ·exact HX (s:=⟨Bk s { x with st:=1 },[]⟩) (hI.sets { x with st:=1 }) (Ew h fun _=>hy) _ _
   ·exact PV hI h hy _
 rw [if_neg c4]
 by_cases c5:a.d % 12=7
 ·rw [if_pos c5]
  refine Hz (s:=⟨s,[]⟩) hI h a.id _ fun x hx e=>?_
  have hy:m≤({ x with w:=IntKind.u32.wrap a.w }:Tk).slice:=h x hx
  show Bo m (DQ ⟨s,[]⟩ x a.id a.w).2.s.t
  unfold DQ
  split
  ·exact h
  ·split
   ·exact Ew h fun _=>hy
   ·exact HX (s:=⟨Bk s { x with w:=IntKind.u32.wrap a.w },[]⟩) (hI.sets { x with w:=IntKind.u32.wrap a.w }) (Ew h fun _=>hy) _ _
 rw [if_neg c5]
 by_cases c6:a.d % 12=8
 ·rw [if_pos c6]
  refine Hz (s:=⟨s,[]⟩) hI h a.id _ fun x hx e=>?_
  show Bo m (Dy ⟨s,[]⟩ x a.id a.ns).2.s.t
  unfold Dy
  split
  ·exact h
  ·rename_i q
   have hy:m≤({ x with slice:=a.ns }:Tk).slice:=ha (.inr c6) (within_lo q).1
   split
   ·exact Ew h fun _=>hy
   ·exact HX (s:=⟨Bk s { x with slice:=a.ns },[]⟩) (hI.sets { x with slice:=a.ns }) (Ew h fun _=>hy) _ _
 rw [if_neg c6]
 by_cases c7:a.d % 12=9
 ·rw [if_pos c7]
  refine Hz (s:=⟨s,[]⟩) hI h a.id _ fun x hx e=>?_
  show Bo m (CU ⟨s,[]⟩ x a.core).2.s.t
  by_cases q:Ci s.cf a.core≠0∨a.core=x.core
  ·rw [HD (s:=⟨s,[]⟩) q];exact h
  rw [IJ (s:=⟨s,[]⟩) q]
  have fin:∀ (u:Ch) (lag:Int),Bb 0 u.s.t→Bo m u.s.t→Bo m (Eo u x a.core lag).2.s.t:=fun u lag hIu hu=>by
   have hy:m≤(Dz x a.core lag).slice:=h x hx
   unfold Eo
   split
   ·exact HX (s:=⟨Bk u.s (Dz x a.core lag),u.ev⟩) (hIu.sets (Dz x a.core lag)) (Ew hu fun _=>hy) _ _
   ·exact Ew hu fun _=>hy
  split
  ·obtain ⟨l1,l2⟩:=least_leave (s:=⟨s,[]⟩) hI h x
   exact fin _ _ l2 l1
  ·exact fin ⟨s,[]⟩ x.lag hI h
 rw [if_neg c7]
 show Bo m (Ek ⟨s,[]⟩ a.ns).2.s.t
 unfold Ek
 split
 ·exact h
 ·exact Q2 _ _ _ hI h
theorem least_core {m:Int} {s:Sy} (h:Cl s) (hl:Bo m s.t) {k:Nat} (hk:k < s.k.length):Vb m (AF s k).A.l:=fun a ha=>by
 obtain ⟨x,hx,ht⟩:=(h.tie k hk).fwd a ha
 rw [← ht.2.2.2.2]
 exact hl x hx
theorem jG {m ns:Int} {s:Sy} (h:Cl s) (hl:Bo m s.t) (hm:1≤m) (h0:0≤ns) (hn:ns / m≤300) {k:Nat} (hk:k < s.k.length):(AX (AF s k) ns).2.2.p.length≤333:=by
 have:=(mP hm (h.rep.at k) (h.inv _ (O0 hk)) (least_core h hl hk) h0).1
 omega
theorem kA (k:Int):∀ (G:List Gn) (s:Ch),(G.foldl (DN k) s).s.k=s.s.k∧(G.foldl (DN k) s).s.cf=s.s.cf
 | [],_=>⟨rfl,rfl⟩
 | g :: G,s=>kA k G (DN k s g)
theorem absorb_k (s:Ch) (k:Int) (r:Rp):(Ay s k r).s.k=s.s.k∧(Ay s k r).s.cf=s.s.cf:=by
 rw [Nq]
 exact kA k _ _
theorem UF {s s':Sy} (h:s'.k=s.k) (j:Int):AF s' j=AF s j:=by unfold AF;rw [h]
theorem RH {s:Sy} {k:Int} {j:Nat} (h0:0≤k) (h:(j:Int)≠k) (c:Cs):AF (BF s k c) j=AF s j:=by
 unfold AF BF
 show (s.k.set k.toNat c).getD j (Dw 0)=s.k.getD j (Dw 0)
 rw [List.getD_eq_getElem?_getD,List.getD_eq_getElem?_getD,List.getElem?_set,if_neg om]
def mU (l:List Ev):Prop:=∀ x∈l,x.ns=0∧x.gone=true
structure Calm (s s':Ch) (K:List Int):Prop where
 k:∀ j:Nat,(j:Int)∉K→AF s'.s j=AF s.s j
 e:mU s.ev→mU s'.ev
 cf:s'.s.cf=s.s.cf
theorem qS {s s1:Ch} {K:List Int} (h:Calm s s1 K) (k:Int) {r:Rp} (hr:r.p=[]):Calm s (Ay s1 k r) K:=by
 refine ⟨fun j hj=>(UF (absorb_k s1 k r).1 j).trans (h.k j hj),fun e x hx=>?_,(absorb_k s1 k r).2.trans h.cf⟩
 rw [MB,hr,List.map_nil,List.append_nil] at hx
 rcases List.mem_append.1 hx with q | q
 ·exact h.e e x q
 ·obtain ⟨g,_,rfl⟩:=List.mem_map.1 q
  exact ⟨rfl,rfl⟩
theorem calm_set {s:Ch} {k:Int} {K:List Int} (h0:0≤k) (hk:k∈K) (c:Cs) (t:List Tk):Calm s ⟨BF { s.s with t:=t } k c,s.ev⟩ K :=
 ⟨fun j hj=>RH (s:={ s.s with t:=t }) h0 (fun e=>hj (e ▸ hk)) c,id,rfl⟩
theorem jT {e:Int} {c1:Cs}:(BH e c1 .none).p=[]:=by unfold BH;split <;> rfl
theorem bV {s:Ch} {x:Tk} {K:List Int} (h0:0≤x.core) (hk:x.core∈K):Calm s (BO s x).2 K:=qS (calm_set h0 hk _ s.s.t) x.core jT
end Go.Proofs.Q0
namespace Go.Proofs.Q0
open Go Go.RowKit
attribute [local irreducible] XS XC XA AZ AP Aa A1 A0 A8 Ad AW SE
structure Af (w0 w:World) (hb sb tb rb:Nat) (v ve:Value) (s':Ch) (L L':List Ce) (G Ge:List Nat) (rv:Value) (rp:Rp):Prop where
 p:M7 w rv rp
 c:C5 w hb sb tb rb v ve s' L' G Ge
 f:∀ k∈CJ hb sb tb rb L' G Ge,k∈CJ hb sb tb rb L G Ge∨w0.heap.size≤k
 o:AA (CJ hb sb tb rb L G Ge) w0 w
theorem M7.GL {w w':World} {rv:Value} {r:Rp} {F:List Nat} (h:M7 w rv r) (ho:AA F w w') (hF:∀ b∈F,∃ cs ty fz,w.heap[b]?=some (.cells cs ty fz)∧ty≠170∧ty≠168):M7 w' rv r:=by
 obtain ⟨vg,vp,Gg,Gp,rfl,p1,p2⟩:=h
 exact ⟨vg,vp,Gg,Gp,rfl,p1.keep ho (fun k hk hm=>by obtain ⟨cs,ty,fz,a,b,c⟩:=hF k hm;exact BX p1 a b hk),p2.keep ho (fun k hk hm=>by obtain ⟨cs,ty,fz,a,b,c⟩:=hF k hm;exact BX p2 a c hk)⟩
theorem Af.keep {w0 w w':World} {hb sb tb rb:Nat} {v ve:Value} {s':Ch} {L L':List Ce} {G Ge:List Nat} {rv:Value} {rp:Rp} (h:Af w0 w hb sb tb rb v ve s' L L' G Ge rv rp) (ho:AA [] w w'):Af w0 w' hb sb tb rb v ve s' L L' G Ge rv rp :=
 ⟨h.p.GL ho (by simp),h.c.only ho,h.f,h.o.step ho (by simp)⟩
theorem C5.aBX {w w':World} {hb sb tb rb:Nat} {v ve:Value} {s:Ch} {L:List Ce} {G Ge F:List Nat} (h:C5 w hb sb tb rb v ve s L G Ge) (ho:AA F w w') (hF:∀ b∈F,∃ cs ty fz,w.heap[b]?=some (.cells cs ty fz)∧r9 (.cells cs ty fz)=true):C5 w' hb sb tb rb v ve s L G Ge:=by
 have hd:∀ k∈CJ hb sb tb rb L G Ge,k∉F:=fun k hk hm=>by
  obtain ⟨cs,ty,fz,a,b⟩:=hF k hm
  exact h.at.not a b hk
 exact ⟨ho.block h.h (hd _ (by simp [CJ])),h.s.Ah ho (fun k hk=>hd k (by simp only [CJ,List.mem_cons,List.mem_append] at hk ⊢;exact .inr (.inl hk))),h.e.keep ho (fun k hk=>hd k (by simp [CJ,hk]))⟩
theorem Af.store {w0 w w':World} {hb sb tb rb:Nat} {v ve:Value} {s':Ch} {L L':List Ce} {G Ge:List Nat} {rv:Value} {rp:Rp} (h:Af w0 w hb sb tb rb v ve s' L L' G Ge rv rp) {b:Nat} {cs:Array Value} {ty:Nat} {fz:Nat × Nat} (ho:AA [b] w w') (hb':w.heap[b]?=some (.cells cs ty fz)) (h1:r9 (.cells cs ty fz)=true) (h2:ty≠170) (h3:ty≠168) (h4:w0.heap.size≤b):Af w0 w' hb sb tb rb v ve s' L L' G Ge rv rp :=
 ⟨h.p.GL ho (fun k hk=>by obtain rfl:=List.mem_singleton.1 hk;exact ⟨cs,ty,fz,hb',h2,h3⟩),h.c.aBX ho (fun k hk=>by obtain rfl:=List.mem_singleton.1 hk;exact ⟨cs,ty,fz,hb',h1⟩),h.f,h.o.step ho (fun k hk => .inr (by obtain rfl:=List.mem_singleton.1 hk;exact h4))⟩
theorem C2 {w0 w w':World} {hb sb tb rb:Nat} {v ve:Value} {s:Ch} {L:List Ce} {G Ge:List Nat} {n:Nat} {e:Ce} {rv:Value} {er:Int} {c1:Cs} {r1:Rp} (hO:C5 w hb sb tb rb v ve s L G Ge) (he:L[n]?=some e) (T:HY w e.cb e.F rv er e.c c1 r1 w') (hw:AA [] w0 w) :
 ∃ L',Af w0 w' hb sb tb rb v ve ⟨BF s.s n (Bh e.c er c1),s.ev⟩ L L' G Ge rv (BH er c1 r1):=by
 obtain ⟨I4,⟨F',hC',Cc⟩,Xr⟩:=T
 obtain ⟨_,_,_,_,_,hcb,_⟩:=(hO.s.c.c e (List.mem_of_getElem? he)).FB
 obtain ⟨L',h1,h2⟩:=Cj.put hO.s (k:=(n:Int)) (by rw [Int.toNat_natCast];exact he) hC' Cc Xr
 have n1:hb≠e.cb:=A3 hO.h hcb (by decide)
 have hz:=hw.size
 have sC:e.cb∈sb :: tb :: rb :: (G ++ E6 L):=by
  simp only [List.mem_cons,List.mem_append]
  exact .inr (.inr (.inr (.inr (EE.2 ⟨e,List.mem_of_getElem? he,(hO.s.c.c e (List.mem_of_getElem? he)).mem⟩))))
 refine ⟨L',I4,⟨Xr.block hO.h (by simpa using n1),h1,hO.e.keep Xr fun k hk hm=>by obtain rfl:=List.mem_singleton.1 hm;exact BX hO.e hcb (by decide) hk⟩,fun k hk=>?_,(hw.weaken (by simp)).step Xr fun k hk => .inl ?_⟩
 ·simp only [CJ,List.mem_cons,List.mem_append] at hk ⊢
  rcases hk with hk | hk | hk
  ·exact .inl (.inl hk)
  ·rcases h2 k (by simp only [List.mem_cons,List.mem_append];exact hk) with q | q
   ·simp only [List.mem_cons,List.mem_append] at q
    exact .inl (.inr (.inl q))
   ·exact .inr om
  ·exact .inl (.inr (.inr hk))
 ·obtain rfl:=List.mem_singleton.1 hk
  simp only [CJ,List.mem_cons,List.mem_append] at sC ⊢
  exact .inr (.inl sC)
theorem C5.aAL {w:World} {hb sb tb rb:Nat} {v ve:Value} {s:Ch} {L:List Ce} {G Ge:List Nat} (h:C5 w hb sb tb rb v ve s L G Ge) {b:Nat} {cs:Array Value} {fz:Nat × Nat} (h1:w.heap[b]?=some (.cells cs 51 fz)) (hne:b≠rb):b∉CJ hb sb tb rb L G Ge:=fun hm=>by
 obtain ⟨cap,rest,a1,a2,_⟩:=h.s.t
 simp only [CJ,List.mem_cons,List.mem_append] at hm
 rcases hm with rfl | (rfl | rfl | rfl | hm | hm) | hm
 ·exact A3 h1 h.h (by decide) rfl
 ·exact A3 h1 h.s.o (by decide) rfl
 ·exact A3 h1 a1 (by decide) rfl
 ·exact hne rfl
 ·exact BX h.s.c.a h1 (by decide) hm
 ·obtain ⟨x,hx,hk⟩:=EE.1 hm
  exact (h.s.c.c x hx).not h1 rfl hk
 ·exact BX h.e h1 (by decide) hm
theorem Ie {w0 w1:World} {F F1 F2:List Nat} (h:∀ k∈F1,k∈F∨w0.heap.size≤k) (h2:∀ k∈F2,k∈F1∨w1.heap.size≤k) (hz:w0.heap.size≤w1.heap.size):∀ k∈F2,k∈F∨w0.heap.size≤k:=fun k hk=>by
 rcases h2 k hk with q | q
 ·exact h k q
 ·exact .inr om
abbrev OA (x:Tk):Obj := .cells #[.int .i64 x.id,.int .u8 x.st,.int .i64 x.core,.int .u32 x.w,.int .u64 x.slice,.int .i64 x.lag] 51 (0,0)
theorem SH (hb:Nat) (s:Ch) (F:List Nat) (x:Tk) (w0:World) (h:Dv w0 hb s F) (hx:CV s.s.cf.cores x) (hn:x.st≠0) (hl:s.ev.length≤1000000) :
 AO Tryz.prog 66 #[.pointer (some ⟨hb,0,none⟩),Jr x] w0 fun v w'=>v = .int .i64 (BO s x).1∧tD w0 hb (BO s x).2 F w':=by
 obtain ⟨sb,tb,rb,v,ve,L,G,Ge,rfl,hO⟩:=h.FB
 obtain ⟨n,GH,hlt⟩:=hO.s.ok.at hx hn
 obtain ⟨e,he,hC,hce⟩:=hO.s.c.at hlt
 obtain ⟨g,cap,cur,rfl,hg,Fw⟩:=hO.s.c.ptr he
 have X5:=hO.s.c.len
 have Q6:=hx.1
 have hxs:=hx.2.2.2.2.1
 have hR:CI e.c:=hC.bW
 obtain ⟨_,_,_,_,_,hcb,_⟩:=hC.FB
 have eL:BO s x=(Fa s.s.cf (Bj (AF s.s x.core).A x.id) x.slice,Ay ⟨BF s.s x.core (Bh (AF s.s x.core) (Ab (AF s.s x.core) x.id).1 (Ab (AF s.s x.core) x.id).2),s.ev⟩ x.core (BH (Ab (AF s.s x.core) x.id).1 (Ab (AF s.s x.core) x.id).2 .none)):=rfl
 rw [GH,show AF s.s n=e.c from hce.symm] at eL
 rw [eL]
 obtain ⟨xi,xt,xc,xw,Cm,xl⟩:=x
 simp only at GH Q6 hxs
 subst GH
 simp only
 have hs:=(((St.nil w0).AE hg).AE hO.s.o).AE hO.h
 refine AR Tryz.func66 Tryz.ntmps66 (k:=?_)
 refine Ai ?_
 refine Ao ?_
 refine HP hs (k:=?_);clear hs;intro b3 w1 AK z1 hs
 refine Jc ?_
 have IZ:Cv (BH (Ab e.c xi).1 (Ab e.c xi).2 .none):=Cv.none.try (Fi hR xi)
 have hkn:=Hg (e:=(Ab e.c xi).1) (r1 := .none) (Fi hR xi)
 generalize hrp:BH (Ab e.c xi).1 (Ab e.c xi).2 .none=rp at IZ hkn
 refine Bg (fun (y:Nat × Nat × Value × Value × List Ce)=>[(0,.pointer (some ⟨hb,0,none⟩)),(3,.pointer (some ⟨b3,0,none⟩)),(5,.pointer (some ⟨y.1,0,none⟩)),(6,.pointer (some ⟨y.2.1,0,none⟩))])
  (fun y w=>w.heap[b3]?=some (OA ⟨xi,xt,n,xw,Cm,xl⟩)∧w.heap[y.1]?=some (HT (Bj e.c.A xi))∧w.heap[y.2.1]?=some (Kl y.2.2.1 y.2.2.2.1)∧Af w0 w hb sb tb rb (.slice (some ⟨g,0,none⟩) L.length cap) ve ⟨BF s.s n (Bh e.c (Ab e.c xi).1 (Ab e.c xi).2),s.ev⟩ L y.2.2.2.2 G Ge (.agg #[y.2.2.1,y.2.2.2.1]) rp) ?_ ?_
 ·refine IW [] hs (k:=?_);clear hs;intro hX w CP hs
  have BA:=AK.trans CP
  refine tks 0 9 ?_
  refine tk 9 hX (hr:=fun w' hH=>BJ AJ rfl rfl rfl (by show (0:Int)≤(n:Int);omega) (by show (n:Int) < _;omega)) (k:=?_)
  refine tk 10 hX (hr:=fun w' hH=>r_load AJ rfl rfl (hH rfl) (by repeat (first | exact At.head | (with_reducible apply At.tail))) (by simpa using Fw)) (k:=?_)
  refine tks 11 2 ?_
  have fin:∀ (b5 b6:Nat) (H:List CB),True:=fun _ _ _=>trivial
  refine l6 13 18 19 hX (h1:=?_) (h2:=?_) (h3:=?_)
  ·skip
   refine cl (h:=by exact J6 e.cb e.c e.F xi _ (hC.only BA) Q6) (k:=?_)
   rintro v1 w2 ⟨rv,rfl,T⟩
   have hf:=T.form
   rw [hrp] at hf
   obtain ⟨ag,cg,ap,cp,rfl⟩:=hf
   obtain ⟨L',hA⟩:=C2 (hO.only BA) he T BA
   rw [hrp] at hA
   replace hs:=hs.EC T.2.2 (fun k hk=>by obtain rfl:=List.mem_singleton.1 hk;exact hs.Es (BA.block hcb (by simp)))
   refine XS.nil ?_
   refine dn (k:=?_)
   refine tks 14 4 ?_
   refine HZ 18 19 hX (h1:=?_) (h2:=?_)
   ·skip
    refine Fg hs (k:=?_);clear hs;intro b5 w5 BY z5 hs
    have y5:w0.heap.size≤b5:=Nat.le_trans (AA.size hA.o) z5
    replace hA:=hA.keep BY
    refine XS.nil ?_
    refine dn (k:=?_)
    refine dt 19 hX (k:=?_)
    refine Fg hs (k:=?_);clear hs;intro b6 w6 Aq z6 hs
    have y6:w0.heap.size≤b6:=Nat.le_trans (AA.size hA.o) z6
    replace hA:=hA.keep Aq
    refine XS.nil ?_
    refine dn (k:=?_)
    refine dt 20 hX (k:=?_)
    have q5:=hs.get (b:=b5) (by repeat (first | exact At.head | (with_reducible apply At.tail)))
    refine Dq hs (k:=?_);clear hs;intro OH El hs
    replace hA:=hA.store El q5 rfl (by decide) (by decide) y5
    refine XS.nil ?_
    refine dn (k:=?_)
    refine dt 21 hX (k:=?_)
    have q6:=hs.get (b:=b6) (by repeat (first | exact At.head | (with_reducible apply At.tail)))
    refine Dq hs (k:=?_);clear hs;intro JX DA hs
    replace hA:=hA.store DA q6 rfl (by decide) (by decide) y6
    refine XS.nil ?_
    refine dn (k:=?_)
    refine tk 22 hX (k:=?_)
    refine en (k:=?_)
    have r3:=hs.get (b:=b3) (by repeat (first | exact At.head | (with_reducible apply At.tail)))
    have r5:=hs.get (b:=b5) (by repeat (first | exact At.head | (with_reducible apply At.tail)))
    have r6:=hs.get (b:=b6) (by repeat (first | exact At.head | (with_reducible apply At.tail)))
    exact AQ (b5,b6,.slice ag rp.g.length cg,.slice ap rp.p.length cp,L') Ae ⟨r3,r5,r6,hA⟩
   ·skip
    refine Fg hs (k:=?_);clear hs;intro b6 w6 Aq z6 hs
    have y6:w0.heap.size≤b6:=Nat.le_trans (AA.size hA.o) z6
    replace hA:=hA.keep Aq
    refine XS.nil ?_
    refine dn (k:=?_)
    refine dt 18 hX (k:=?_)
    refine Fg hs (k:=?_);clear hs;intro b5 w5 BY z5 hs
    have y5:w0.heap.size≤b5:=Nat.le_trans (AA.size hA.o) z5
    replace hA:=hA.keep BY
    refine XS.nil ?_
    refine dn (k:=?_)
    refine dt 20 hX (k:=?_)
    have q5:=hs.get (b:=b5) (by repeat (first | exact At.head | (with_reducible apply At.tail)))
    refine Dq hs (k:=?_);clear hs;intro OH El hs
    replace hA:=hA.store El q5 rfl (by decide) (by decide) y5
    refine XS.nil ?_
    refine dn (k:=?_)
    refine dt 21 hX (k:=?_)
    have q6:=hs.get (b:=b6) (by repeat (first | exact At.head | (with_reducible apply At.tail)))
    refine Dq hs (k:=?_);clear hs;intro JX DA hs
    replace hA:=hA.store DA q6 rfl (by decide) (by decide) y6
    refine XS.nil ?_
    refine dn (k:=?_)
    refine tk 22 hX (k:=?_)
    refine en (k:=?_)
    have r3:=hs.get (b:=b3) (by repeat (first | exact At.head | (with_reducible apply At.tail)))
    have r5:=hs.get (b:=b5) (by repeat (first | exact At.head | (with_reducible apply At.tail)))
    have r6:=hs.get (b:=b6) (by repeat (first | exact At.head | (with_reducible apply At.tail)))
    exact AQ (b5,b6,.slice ag rp.g.length cg,.slice ap rp.p.length cp,L') Ae ⟨r3,r5,r6,hA⟩
  ·skip
   refine Fg hs (k:=?_);clear hs;intro b5 w5 BY z5 hs
   have y5:w0.heap.size≤b5:=Nat.le_trans (AA.size BA) z5
   replace BA:=BA.trans BY
   refine XS.nil ?_
   refine dn (k:=?_)
   refine HZ 13 19 hX (h1:=?_) (h2:=?_)
   ·skip
    refine cl (h:=by exact J6 e.cb e.c e.F xi _ (hC.only BA) Q6) (k:=?_)
    rintro v1 w2 ⟨rv,rfl,T⟩
    have hf:=T.form
    rw [hrp] at hf
    obtain ⟨ag,cg,ap,cp,rfl⟩:=hf
    obtain ⟨L',hA⟩:=C2 (hO.only BA) he T BA
    rw [hrp] at hA
    replace hs:=hs.EC T.2.2 (fun k hk=>by obtain rfl:=List.mem_singleton.1 hk;exact hs.Es (BA.block hcb (by simp)))
    refine XS.nil ?_
    refine dn (k:=?_)
    refine tks 14 4 ?_
    refine dt 19 hX (k:=?_)
    refine Fg hs (k:=?_);clear hs;intro b6 w6 Aq z6 hs
    have y6:w0.heap.size≤b6:=Nat.le_trans (AA.size hA.o) z6
    replace hA:=hA.keep Aq
    refine XS.nil ?_
    refine dn (k:=?_)
    refine dt 20 hX (k:=?_)
    have q5:=hs.get (b:=b5) (by repeat (first | exact At.head | (with_reducible apply At.tail)))
    refine Dq hs (k:=?_);clear hs;intro OH El hs
    replace hA:=hA.store El q5 rfl (by decide) (by decide) y5
    refine XS.nil ?_
    refine dn (k:=?_)
    refine dt 21 hX (k:=?_)
    have q6:=hs.get (b:=b6) (by repeat (first | exact At.head | (with_reducible apply At.tail)))
    refine Dq hs (k:=?_);clear hs;intro JX DA hs
    replace hA:=hA.store DA q6 rfl (by decide) (by decide) y6
    refine XS.nil ?_
    refine dn (k:=?_)
    refine tk 22 hX (k:=?_)
    refine en (k:=?_)
    have r3:=hs.get (b:=b3) (by repeat (first | exact At.head | (with_reducible apply At.tail)))
    have r5:=hs.get (b:=b5) (by repeat (first | exact At.head | (with_reducible apply At.tail)))
    have r6:=hs.get (b:=b6) (by repeat (first | exact At.head | (with_reducible apply At.tail)))
    exact AQ (b5,b6,.slice ag rp.g.length cg,.slice ap rp.p.length cp,L') Ae ⟨r3,r5,r6,hA⟩
   ·skip
    refine Fg hs (k:=?_);clear hs;intro b6 w6 Aq z6 hs
    have y6:w0.heap.size≤b6:=Nat.le_trans (AA.size BA) z6
    replace BA:=BA.trans Aq
    refine XS.nil ?_
    refine dn (k:=?_)
    refine dt 13 hX (k:=?_)
    refine cl (h:=by exact J6 e.cb e.c e.F xi _ (hC.only BA) Q6) (k:=?_)
    rintro v1 w2 ⟨rv,rfl,T⟩
    have hf:=T.form
    rw [hrp] at hf
    obtain ⟨ag,cg,ap,cp,rfl⟩:=hf
    obtain ⟨L',hA⟩:=C2 (hO.only BA) he T BA
    rw [hrp] at hA
    replace hs:=hs.EC T.2.2 (fun k hk=>by obtain rfl:=List.mem_singleton.1 hk;exact hs.Es (BA.block hcb (by simp)))
    refine XS.nil ?_
    refine dn (k:=?_)
    refine tks 14 4 ?_
    refine dt 20 hX (k:=?_)
    have q5:=hs.get (b:=b5) (by repeat (first | exact At.head | (with_reducible apply At.tail)))
    refine Dq hs (k:=?_);clear hs;intro OH El hs
    replace hA:=hA.store El q5 rfl (by decide) (by decide) y5
    refine XS.nil ?_
    refine dn (k:=?_)
    refine dt 21 hX (k:=?_)
    have q6:=hs.get (b:=b6) (by repeat (first | exact At.head | (with_reducible apply At.tail)))
    refine Dq hs (k:=?_);clear hs;intro JX DA hs
    replace hA:=hA.store DA q6 rfl (by decide) (by decide) y6
    refine XS.nil ?_
    refine dn (k:=?_)
    refine tk 22 hX (k:=?_)
    refine en (k:=?_)
    have r3:=hs.get (b:=b3) (by repeat (first | exact At.head | (with_reducible apply At.tail)))
    have r5:=hs.get (b:=b5) (by repeat (first | exact At.head | (with_reducible apply At.tail)))
    have r6:=hs.get (b:=b6) (by repeat (first | exact At.head | (with_reducible apply At.tail)))
    exact AQ (b5,b6,.slice ag rp.g.length cg,.slice ap rp.p.length cp,L') Ae ⟨r3,r5,r6,hA⟩
  ·skip
   refine Fg hs (k:=?_);clear hs;intro b6 w6 Aq z6 hs
   have y6:w0.heap.size≤b6:=Nat.le_trans (AA.size BA) z6
   replace BA:=BA.trans Aq
   refine XS.nil ?_
   refine dn (k:=?_)
   refine HZ 13 18 hX (h1:=?_) (h2:=?_)
   ·skip
    refine cl (h:=by exact J6 e.cb e.c e.F xi _ (hC.only BA) Q6) (k:=?_)
    rintro v1 w2 ⟨rv,rfl,T⟩
    have hf:=T.form
    rw [hrp] at hf
    obtain ⟨ag,cg,ap,cp,rfl⟩:=hf
    obtain ⟨L',hA⟩:=C2 (hO.only BA) he T BA
    rw [hrp] at hA
    replace hs:=hs.EC T.2.2 (fun k hk=>by obtain rfl:=List.mem_singleton.1 hk;exact hs.Es (BA.block hcb (by simp)))
    refine XS.nil ?_
    refine dn (k:=?_)
    refine tks 14 4 ?_
    refine dt 18 hX (k:=?_)
    refine Fg hs (k:=?_);clear hs;intro b5 w5 BY z5 hs
    have y5:w0.heap.size≤b5:=Nat.le_trans (AA.size hA.o) z5
    replace hA:=hA.keep BY
    refine XS.nil ?_
    refine dn (k:=?_)
    refine dt 20 hX (k:=?_)
    have q5:=hs.get (b:=b5) (by repeat (first | exact At.head | (with_reducible apply At.tail)))
    refine Dq hs (k:=?_);clear hs;intro OH El hs
    replace hA:=hA.store El q5 rfl (by decide) (by decide) y5
    refine XS.nil ?_
    refine dn (k:=?_)
    refine dt 21 hX (k:=?_)
    have q6:=hs.get (b:=b6) (by repeat (first | exact At.head | (with_reducible apply At.tail)))
    refine Dq hs (k:=?_);clear hs;intro JX DA hs
    replace hA:=hA.store DA q6 rfl (by decide) (by decide) y6
    refine XS.nil ?_
    refine dn (k:=?_)
    refine tk 22 hX (k:=?_)
    refine en (k:=?_)
    have r3:=hs.get (b:=b3) (by repeat (first | exact At.head | (with_reducible apply At.tail)))
    have r5:=hs.get (b:=b5) (by repeat (first | exact At.head | (with_reducible apply At.tail)))
    have r6:=hs.get (b:=b6) (by repeat (first | exact At.head | (with_reducible apply At.tail)))
    exact AQ (b5,b6,.slice ag rp.g.length cg,.slice ap rp.p.length cp,L') Ae ⟨r3,r5,r6,hA⟩
   ·skip
    refine Fg hs (k:=?_);clear hs;intro b5 w5 BY z5 hs
    have y5:w0.heap.size≤b5:=Nat.le_trans (AA.size BA) z5
    replace BA:=BA.trans BY
    refine XS.nil ?_
    refine dn (k:=?_)
    refine dt 13 hX (k:=?_)
    refine cl (h:=by exact J6 e.cb e.c e.F xi _ (hC.only BA) Q6) (k:=?_)
    rintro v1 w2 ⟨rv,rfl,T⟩
    have hf:=T.form
    rw [hrp] at hf
    obtain ⟨ag,cg,ap,cp,rfl⟩:=hf
    obtain ⟨L',hA⟩:=C2 (hO.only BA) he T BA
    rw [hrp] at hA
    replace hs:=hs.EC T.2.2 (fun k hk=>by obtain rfl:=List.mem_singleton.1 hk;exact hs.Es (BA.block hcb (by simp)))
    refine XS.nil ?_
    refine dn (k:=?_)
    refine tks 14 4 ?_
    refine dt 20 hX (k:=?_)
    have q5:=hs.get (b:=b5) (by repeat (first | exact At.head | (with_reducible apply At.tail)))
    refine Dq hs (k:=?_);clear hs;intro OH El hs
    replace hA:=hA.store El q5 rfl (by decide) (by decide) y5
    refine XS.nil ?_
    refine dn (k:=?_)
    refine dt 21 hX (k:=?_)
    have q6:=hs.get (b:=b6) (by repeat (first | exact At.head | (with_reducible apply At.tail)))
    refine Dq hs (k:=?_);clear hs;intro JX DA hs
    replace hA:=hA.store DA q6 rfl (by decide) (by decide) y6
    refine XS.nil ?_
    refine dn (k:=?_)
    refine tk 22 hX (k:=?_)
    refine en (k:=?_)
    have r3:=hs.get (b:=b3) (by repeat (first | exact At.head | (with_reducible apply At.tail)))
    have r5:=hs.get (b:=b5) (by repeat (first | exact At.head | (with_reducible apply At.tail)))
    have r6:=hs.get (b:=b6) (by repeat (first | exact At.head | (with_reducible apply At.tail)))
    exact AQ (b5,b6,.slice ag rp.g.length cg,.slice ap rp.p.length cp,L') Ae ⟨r3,r5,r6,hA⟩
 ·rintro ⟨b5,b6,vg,vp,L'⟩ env w4 ⟨k3,k5,k6,hA⟩
  simp only at k5 k6 hA
  clear hs
  have Lz:=hA.c.h
  have hs:=((((St.nil w4).AE k3).AE k5).AE k6).AE Lz
  have WE:=hA.p
  obtain ⟨_,_,_,_,M5,_,_⟩:=hA.p
  cases M5
  refine Ja ?_
  have hoq:=hs.AB [] (by simp [k3,k5,k6,Lz]) (by simp [D0])
  refine cl (h:=by exact G0 hb _ _ n _ rp _ (hA.c.only hoq).at (WE.GL hoq (by simp)) IZ (by show s.ev.length+rp.p.length+rp.g.length≤_;have:=hkn.1;have:=hkn.2;have e1:Rp.none.p.length=0:=rfl;have e2:Rp.none.g.length=0:=rfl;omega)) (k:=?_)
  rintro v5 w5 ⟨F5,Og,lN,BY⟩
  have MG:=hoq.size
  have PN:=hA.o.size
  have aD:=hO.s.t.Rr.2
  have hAq:=hA.c.only hoq
  have Ox:=BY.block (hoq.block k3 (by simp)) (hAq.aAL (hoq.block k3 (by simp)) om)
  have k5':=BY.block (hoq.block k5 (by simp)) (hAq.at.not (hoq.block k5 (by simp)) rfl)
  have FA:AA (CJ hb sb tb rb L G Ge) w0 w5:=(hA.o.step hoq (by simp)).step BY hA.f
  have Mt:=Ie hA.f lN (show w0.heap.size≤_ by omega)
  have ecf:=(absorb_k ⟨BF s.s n (Bh e.c (Ab e.c xi).1 (Ab e.c xi).2),s.ev⟩ n rp).2
  obtain ⟨sb5,tb5,rb5,NF,ve5,L5,G5,Ge5,rfl,hO5⟩:=Og.FB
  have o5s:=hO5.s.o
  have o5h:=hO5.h
  have ok5:=hO5.s.ok.cf
  obtain ⟨s1,hs1⟩:=hR
  have IU:=NC hs1 xi
  rw [show (Ay ⟨BF s.s n (Bh e.c (Ab e.c xi).1 (Ab e.c xi).2),s.ev⟩ n rp).s.cf=s.s.cf from ecf] at o5s ok5
  clear hs
  have hs:=(((St.nil w5).AE k5').AE Ox).AE o5h |>.AE o5s
  refine Jb ?_
  refine dr [] hs (k:=?_);intro hX w hs
  refine tks 0 10 ?_
  refine dt 10 hX (k:=?_)
  refine AY hs (h:=by exact R9 s.s.cf (Bj e.c.A xi) Cm ok5 IU hxs _) (k:=?_);intro w' ho hs;refine Jb ?_
  refine dn (k:=?_)
  refine tk 11 hX (k:=?_)
  refine en (k:=?_)
  refine Jb ?_
  refine AG ?_
  have Aq:=hs.AB [] (by simp [k5',Ox,o5h,o5s]) (by simp [D0])
  exact ⟨rfl,_,Og.only Aq,Mt,FA.step Aq (by simp)⟩
def KP (w0:World) (hb:Nat) (e:Int) (s:Ch) (F:List Nat) (w':World):Prop:=(e=0→∃ F',Dv w' hb s F'∧∀ k∈F',k∈F∨w0.heap.size≤k)∧AA F w0 w'
theorem TW (cb:Nat) (c:Cs) (F:List Nat) (id q ns lag:Int) (w0:World) (h:Br w0 cb c F) (hid:In64 id) (hq:Fk q) (Du:BL ns) (IU:In64 lag) :
 AO Tryz.prog 93 #[.pointer (some ⟨cb,0,none⟩),.int .i64 id,.int .u32 q,.int .u64 ns,.int .i64 lag] w0 fun v w'=>∃ rv,v = .tuple #[rv,.int .i64 (Bc c id q ns lag).1]∧HY w0 cb F rv (Bc c id q ns lag).1 c (Bc c id q ns lag).2 .none w':=Rm cb c F id q ns lag w0 h hid hq Du IU
theorem C5.place {w:World} {hb sb tb rb:Nat} {v ve:Value} {s:Ch} {L:List Ce} {G Ge:List Nat} (hO:C5 w hb sb tb rb v ve s L G Ge) {x:Tk} (hx:CV s.s.cf.cores x) (hn:x.st≠0):∃ (n:Nat) (e:Ce) (g cap:Nat) (cur:List Value),x.core=n∧n < s.s.k.length∧L[n]?=some e∧Br w e.cb e.c e.F∧AF s.s n=e.c∧v = .slice (some ⟨g,0,none⟩) L.length cap∧w.heap[g]?=some (.cells cur.toArray T2 (0,0))∧cur[n]?=some (.pointer (some ⟨e.cb,0,none⟩))∧L.length=s.s.k.length∧CI e.c∧∃ a r k,w.heap[e.cb]?=some (FV a r k):=by
 obtain ⟨n,GH,hlt⟩:=hO.s.ok.at hx hn
 obtain ⟨e,he,hC,hce⟩:=hO.s.c.at hlt
 obtain ⟨g,cap,cur,hv,hg,Fw⟩:=hO.s.c.ptr he
 obtain ⟨_,_,_,_,_,hcb,_⟩:=hC.FB
 exact ⟨n,e,g,cap,cur,GH,hlt,he,hC,hce.symm,hv,hg,Fw,hO.s.c.len,hC.bW,_,_,_,hcb⟩
theorem PZ (hb:Nat) (s:Ch) (F:List Nat) (x:Tk) (lag:Int) (w0:World) (h:Dv w0 hb s F) (hx:CV s.s.cf.cores x) (hn:x.st≠0) (IU:In64 lag) (hl:s.ev.length≤1000000) :
 AO Tryz.prog 56 #[.pointer (some ⟨hb,0,none⟩),Jr x,.int .i64 lag] w0 fun v w'=>v = .int .i64 (E0 s x lag).1∧KP w0 hb (E0 s x lag).1 (E0 s x lag).2 F w':=by
 obtain ⟨sb,tb,rb,v,ve,L,G,Ge,rfl,hO⟩:=h.FB
 obtain ⟨n,e,g,cap,cur,GH,hlt,he,hC,hce,rfl,hg,Fw,X5,hR,_,_,_,hcb⟩:=hO.place hx hn
 have Q6:=hx.1
 have hxw:=hx.2.2.2.1
 have hxs:=hx.2.2.2.2.1
 have eL:E0 s x lag=if (Bc (AF s.s x.core) x.id x.w x.slice lag).1=0 then (0,Ay ⟨BF s.s x.core (Bh (AF s.s x.core) (Bc (AF s.s x.core) x.id x.w x.slice lag).1 (Bc (AF s.s x.core) x.id x.w x.slice lag).2),s.ev⟩ x.core (BH (Bc (AF s.s x.core) x.id x.w x.slice lag).1 (Bc (AF s.s x.core) x.id x.w x.slice lag).2 .none)) else ((Bc (AF s.s x.core) x.id x.w x.slice lag).1,s):=rfl
 rw [GH,hce] at eL
 rw [eL]
 obtain ⟨xi,xt,xc,xw,Cm,xl⟩:=x
 simp only at GH Q6 hxs hxw
 subst GH
 simp only
 have hs:=(((St.nil w0).AE hg).AE hO.s.o).AE hO.h
 refine AR Tryz.func56 Tryz.ntmps56 (k:=?_)
 refine Ai ?_
 refine Ao ?_
 refine HP hs (k:=?_);clear hs;intro b3 w1 AK z1 hs
 refine Jc ?_
 have IZ:Cv (BH (Bc e.c xi xw Cm lag).1 (Bc e.c xi xw Cm lag).2 .none):=Cv.none.try (Iu hR xi xw Cm lag)
 have hkn:=Hg (e:=(Bc e.c xi xw Cm lag).1) (r1 := .none) (Iu hR xi xw Cm lag)
 generalize hrp:BH (Bc e.c xi xw Cm lag).1 (Bc e.c xi xw Cm lag).2 .none=rp at IZ hkn
 refine Bg (fun (y:Nat × Value × Value × List Ce)=>[(0,.pointer (some ⟨hb,0,none⟩)),(4,.pointer (some ⟨b3,0,none⟩)),(7,.pointer (some ⟨y.1,0,none⟩)),(8,.int .i64 (Bc e.c xi xw Cm lag).1)])
  (fun y w=>w.heap[b3]?=some (OA ⟨xi,xt,n,xw,Cm,xl⟩)∧w.heap[y.1]?=some (Kl y.2.1 y.2.2.1)∧Af w0 w hb sb tb rb (.slice (some ⟨g,0,none⟩) L.length cap) ve ⟨BF s.s n (Bh e.c (Bc e.c xi xw Cm lag).1 (Bc e.c xi xw Cm lag).2),s.ev⟩ L y.2.2.2 G Ge (.agg #[y.2.1,y.2.2.1]) rp) ?_ ?_
 ·refine IW [] hs (k:=?_);clear hs;intro hX w CP hs
  have BA:=AK.trans CP
  refine tks 0 9 ?_
  refine tk 9 hX (hr:=fun w' hH=>BJ AJ rfl rfl rfl (by show (0:Int)≤(n:Int);omega) (by show (n:Int) < _;omega)) (k:=?_)
  refine tk 10 hX (hr:=fun w' hH=>r_load AJ rfl rfl (hH rfl) (by repeat (first | exact At.head | (with_reducible apply At.tail))) (by simpa using Fw)) (k:=?_)
  refine tks 11 7 ?_
  refine HZ 18 22 hX (h1:=?_) (h2:=?_)
  ·skip
   refine cl (h:=by exact TW e.cb e.c e.F xi xw Cm lag _ (hC.only BA) Q6 hxw hxs IU) (k:=?_)
   rintro v1 w2 ⟨rv,rfl,T⟩
   have hf:=T.form
   rw [hrp] at hf
   obtain ⟨ag,cg,ap,cp,rfl⟩:=hf
   obtain ⟨L',hA⟩:=C2 (hO.only BA) he T BA
   rw [hrp] at hA
   replace hs:=hs.EC T.2.2 (fun k hk=>by obtain rfl:=List.mem_singleton.1 hk;exact hs.Es (BA.block hcb (by simp)))
   refine XS.nil ?_
   refine dn (k:=?_)
   refine tks 19 3 ?_
   refine dt 22 hX (k:=?_)
   refine Fg hs (k:=?_);clear hs;intro b6 w6 Aq z6 hs
   have y6:w0.heap.size≤b6:=Nat.le_trans (AA.size hA.o) z6
   replace hA:=hA.keep Aq
   refine XS.nil ?_
   refine dn (k:=?_)
   refine dt 23 hX (k:=?_)
   have q6:=hs.get (b:=b6) (by repeat (first | exact At.head | (with_reducible apply At.tail)))
   refine Dq hs (k:=?_);clear hs;intro JX DA hs
   replace hA:=hA.store DA q6 rfl (by decide) (by decide) y6
   refine XS.nil ?_
   refine dn (k:=?_)
   refine tk 24 hX (k:=?_)
   refine en (k:=?_)
   have r3:=hs.get (b:=b3) (by repeat (first | exact At.head | (with_reducible apply At.tail)))
   have r6:=hs.get (b:=b6) (by repeat (first | exact At.head | (with_reducible apply At.tail)))
   exact AQ (b6,.slice ag rp.g.length cg,.slice ap rp.p.length cp,L') Ae ⟨r3,r6,hA⟩
  ·skip
   refine Fg hs (k:=?_);clear hs;intro b6 w6 Aq z6 hs
   have y6:w0.heap.size≤b6:=Nat.le_trans (AA.size BA) z6
   replace BA:=BA.trans Aq
   refine XS.nil ?_
   refine dn (k:=?_)
   refine dt 18 hX (k:=?_)
   refine cl (h:=by exact TW e.cb e.c e.F xi xw Cm lag _ (hC.only BA) Q6 hxw hxs IU) (k:=?_)
   rintro v1 w2 ⟨rv,rfl,T⟩
   have hf:=T.form
   rw [hrp] at hf
   obtain ⟨ag,cg,ap,cp,rfl⟩:=hf
   obtain ⟨L',hA⟩:=C2 (hO.only BA) he T BA
   rw [hrp] at hA
   replace hs:=hs.EC T.2.2 (fun k hk=>by obtain rfl:=List.mem_singleton.1 hk;exact hs.Es (BA.block hcb (by simp)))
   refine XS.nil ?_
   refine dn (k:=?_)
   refine tks 19 3 ?_
   refine dt 23 hX (k:=?_)
   have q6:=hs.get (b:=b6) (by repeat (first | exact At.head | (with_reducible apply At.tail)))
   refine Dq hs (k:=?_);clear hs;intro JX DA hs
   replace hA:=hA.store DA q6 rfl (by decide) (by decide) y6
   refine XS.nil ?_
   refine dn (k:=?_)
   refine tk 24 hX (k:=?_)
   refine en (k:=?_)
   have r3:=hs.get (b:=b3) (by repeat (first | exact At.head | (with_reducible apply At.tail)))
   have r6:=hs.get (b:=b6) (by repeat (first | exact At.head | (with_reducible apply At.tail)))
   exact AQ (b6,.slice ag rp.g.length cg,.slice ap rp.p.length cp,L') Ae ⟨r3,r6,hA⟩
 ·rintro ⟨b6,vg,vp,L'⟩ env w4 ⟨k3,k6,hA⟩
  simp only at k6 hA
  clear hs
  have Lz:=hA.c.h
  have hs:=(((St.nil w4).AE k3).AE k6).AE Lz
  have WE:=hA.p
  obtain ⟨_,_,_,_,M5,_,_⟩:=hA.p
  cases M5
  generalize Bc e.c xi xw Cm lag=J at *
  by_cases hJ:J.1=0
  ·rw [if_pos hJ]
   rw [hJ] at hA ⊢
   refine Je ?_
   have hoq:=hs.AB [] (by simp [k3,k6,Lz]) (by simp [D0])
   refine cl (h:=by exact G0 hb _ _ n _ rp _ (hA.c.only hoq).at (WE.GL hoq (by simp)) IZ (by show s.ev.length+rp.p.length+rp.g.length≤_;have:=hkn.1;have:=hkn.2;have e1:Rp.none.p.length=0:=rfl;have e2:Rp.none.g.length=0:=rfl;omega)) (k:=?_)
   rintro v5 w5 ⟨F5,Og,lN,BY⟩
   have PN:=hA.o.size
   have FA:AA (CJ hb sb tb rb L G Ge) w0 w5:=(hA.o.step hoq (by simp)).step BY hA.f
   have Mt:=Ie hA.f lN (show w0.heap.size≤_ by omega)
   clear hs
   have hs:=St.nil w5
   refine Ja ?_
   refine AG ?_
   have Aq:=hs.AD rfl
   exact ⟨rfl,fun _=>⟨_,Og.only Aq,Mt⟩,FA.step Aq (by simp)⟩
  ·rw [if_neg hJ]
   repeat' (first|refine Sa ?_|refine Ax rfl (fun hc=>?_) fun hc=>?_|fail)
   ·exact absurd (by simpa using hc) hJ
   ·refine AG ?_
    have Aq:=hs.AB [] (by simp [k3,k6,Lz]) (by simp [D0])
    exact ⟨rfl,fun q=>absurd q hJ,hA.o.step Aq (by simp)⟩
theorem iF (L:List Ce) (e:Ce):ptrs (L ++ [e])=ptrs L ++ [.pointer (some ⟨e.cb,0,none⟩)]:=by simp [ptrs]
theorem gN (L:List Ce) (e:Ce):E6 (L ++ [e])=E6 L ++ e.F:=by simp [E6]
theorem C0.none (w:World):C0 w (.slice none 0 0) [] [] []:=⟨.inl ⟨rfl,rfl,rfl,rfl⟩,rfl,fun x hx=>(by cases hx),fun i j x y hx=>(by simp at hx)⟩
theorem C0.lt {w:World} {v:Value} {l:List Cs} {L:List Ce} {G:List Nat} (h:C0 w v l L G):∀ k∈G ++ E6 L,k < w.heap.size:=fun k hk=>by
 rcases List.mem_append.1 hk with q | q
 ·exact h.a.lt k q
 ·obtain ⟨x,hx,q⟩:=EE.1 q
  exact (h.c x hx).lt k q
theorem C0.ap {w:World} {v:Value} {l:List Cs} {L:List Ce} {G:List Nat} (h:C0 w v l L G):∀ k∈E6 L,k∉G:=fun k hk hm=>by
 obtain ⟨x,hx,q⟩:=EE.1 hk
 obtain ⟨cs,hc⟩:=Lu h.a k hm
 exact (h.c x hx).not hc rfl q
structure En (w0 w:World) (sb tb rb:Nat) (cf:Cf) (t:List Tk) (l:List Cs) (v:Value) (L:List Ce) (G:List Nat):Prop where
 o:w.heap[sb]?=some (T4 tb cf v)
 t:De w tb rb t
 c:C0 w v l L G
 f:∀ k∈sb :: tb :: rb :: (G ++ E6 L),w0.heap.size≤k
 w:AA [] w0 w
theorem En.keep {w0 w w':World} {sb tb rb:Nat} {cf:Cf} {t:List Tk} {l:List Cs} {v:Value} {L:List Ce} {G:List Nat} (h:En w0 w sb tb rb cf t l v L G) (ho:AA [] w w'):En w0 w' sb tb rb cf t l v L G :=
 ⟨ho.block h.o (by simp),h.t.only ho,h.c.Ah ho (by simp),h.f,h.w.trans ho⟩
theorem En.grow {w0 w w1 w2:World} {sb tb rb:Nat} {cf:Cf} {t:List Tk} {l:List Cs} {v v':Value} {L:List Ce} {G G':List Nat} (h:En w0 w sb tb rb cf t l v L G) {e:Ce} (hc:Br w e.cb e.c e.F) (hd:∀ k∈e.F,k∉E6 L) (hf:∀ k∈e.F,w0.heap.size≤k)
 (ha:B7 w1 T2 1 v' (L.length+1) (ptrs L ++ [.pointer (some ⟨e.cb,0,none⟩)]) G') (hG:∀ k∈G',k∈G∨w.heap.size≤k) (ho:AA G w w1) (AM:AA [sb] w1 w2) (yH:w2.heap[sb]?=some (T4 tb cf v')):En w0 w2 sb tb rb cf t (l ++ [e.c]) v' (L ++ [e]) G':=by
 obtain ⟨cap,rest,a1,a2,_⟩:=h.t
 have hz:=h.w.size
 have n1:tb∉G:=fun hm=>BX h.c.a a1 (by decide) hm
 have n2:rb∉G:=fun hm=>BX h.c.a a2 (by decide) hm
 have n3:sb∉G:=fun hm=>BX h.c.a h.o (by decide) hm
 have o1:=ho.block h.o n3
 have t1:=h.t.keep ho n1 n2
 have m1:sb≠tb:=A3 h.o a1 (by decide)
 have m2:sb≠rb:=A3 h.o a2 (by decide)
 have aAX:∀ x∈L,Br w1 x.cb x.c x.F:=fun x hx=>(h.c.c x hx).Ah ho fun k hk=>h.c.ap k (EE.2 ⟨x,hx,hk⟩)
 have hce:Br w1 e.cb e.c e.F:=hc.Ah ho fun k hk hm=>by
  obtain ⟨cs,hcs⟩:=Lu h.c.a k hm
  exact hc.not hcs rfl hk
 have hb:=lt_of_block h.o
 refine ⟨yH,t1.keep AM (by simpa using Ne.symm m1) (by simpa using Ne.symm m2),?_,fun k hk=>?_,(h.w.step ho fun k hk => .inr (h.f k (by simp [hk]))).step AM fun k hk => .inr (by obtain rfl:=List.mem_singleton.1 hk;exact h.f _ (by simp))⟩
 ·have nsb:∀ {x:Ce},Br w1 x.cb x.c x.F→sb∉x.F:=fun {x} hx=>hx.not o1 rfl
  have c1:C0 w2 (.slice Option.none 0 0) l L []∨True := .inr trivial
  have base:C0 w2 v' (l ++ [e.c]) (L ++ [e]) G':=by
   refine ⟨?_,by rw [List.map_append,h.c.l];rfl,fun x hx=>?_,fun i j x y hx hy hne k hk hm=>?_⟩
   ·rw [List.length_append,iF]
    exact ha.keep AM fun k hk hm=>by obtain rfl:=List.mem_singleton.1 hm;exact BX ha o1 (by decide) hk
   ·have hx1:Br w1 x.cb x.c x.F:=by
     rcases List.mem_append.1 hx with q | q
     ·exact aAX x q
     ·obtain rfl:=List.mem_singleton.1 q;exact hce
    exact hx1.Ah AM fun k hk hm=>by obtain rfl:=List.mem_singleton.1 hm;exact nsb hx1 hk
   ·rw [List.getElem?_append] at hx hy
    have one:∀ (a:Nat) (z:Ce),([e]:List Ce)[a]?=some z→a=0∧z=e:=fun a z hz=>by
     cases a with
     | zero=>cases hz;exact ⟨rfl,rfl⟩
     | succ a=>simp at hz
    split at hx
    ·split at hy
     ·exact h.c.d i j x y hx hy hne k hk hm
     ·obtain ⟨_,rfl⟩:=one _ _ hy
      exact hd k hm (EE.2 ⟨x,List.mem_of_getElem? hx,hk⟩)
    ·obtain ⟨e1,rfl⟩:=one _ _ hx
     split at hy
     ·exact hd k hk (EE.2 ⟨y,List.mem_of_getElem? hy,hm⟩)
     ·obtain ⟨e2,rfl⟩:=one _ _ hy
      omega
  exact base
 ·have Zq:=h.f
  simp only [List.mem_cons,List.mem_append,gN] at hk Zq
  rcases hk with rfl | rfl | rfl | hk | hk | hk
  ·exact Zq _ (.inl rfl)
  ·exact Zq _ (.inr (.inl rfl))
  ·exact Zq _ (.inr (.inr (.inl rfl)))
  ·rcases hG k hk with q | q
   ·exact Zq k (.inr (.inr (.inr (.inl q))))
   ·omega
  ·exact Zq k (.inr (.inr (.inr (.inr hk))))
  ·exact hf k hk
theorem YZ (sb:Nat) (s:Sy) (F:List Nat) (w0:World) (h:Cj w0 sb s F):AO Tryz.prog 14 #[.pointer (some ⟨sb,0,none⟩)] w0 fun v w'=>(∃ sb' F',v = .pointer (some ⟨sb',0,none⟩)∧Cj w' sb' s F'∧∀ k∈F',w0.heap.size≤k)∧AA [] w0 w':=by
 obtain ⟨tb,rb,vc,L,G,rfl,hO⟩:=h
 have h1:=hO.o
 have hs:=(St.nil w0).AE h1
 have hlen:=hO.ok.len
 have hlo:=hO.ok.lo
 have hhi:=hO.ok.hi
 have hL:=hO.c.len
 have h0:0 < s.k.length:=by omega
 obtain ⟨x0,hx0,_,_⟩:=hO.c.at h0
 obtain ⟨g,cap,cur,rfl,hg,_⟩:=hO.c.ptr hx0
 have Fw:∀ (i:Nat) (x:Ce),L[i]?=some x→cur[i]?=some (.pointer (some ⟨x.cb,0,none⟩)):=fun i x hx=>by
  obtain ⟨g',cap',cur',e,hg',NB⟩:=hO.c.ptr hx
  cases e
  rw [hg] at hg'
  simp only [Option.some.injEq,Obj.cells.injEq] at hg'
  have:=congrArg Array.toList hg'.1
  simp only at this
  rw [this];exact NB
 refine AR Tryz.func14 Tryz.ntmps14 (k:=?_)
 refine Jd ?_
 refine dr [] hs (k:=?_);intro hX w hs
 refine tks 0 4 ?_
 refine tks 5 4 ?_
 refine dt 4 hX (k:=?_)
 have Hq:=hs.AB [] (by simp [h1]) (by simp [D0])
 refine cl (h:=by exact cE tb rb s.t _ (hO.t.only Hq)) (k:=?_)
 rintro v w1 ⟨⟨Em,rb',rfl,Bv,n1,n2,n3⟩,AK⟩;replace hs:=hs.AN AK
 have Jq:=Hq.size
 have kq:=hs.get (b:=sb) (o:=T4 tb s.cf (.slice (some ⟨g,0,none⟩) L.length cap)) (by repeat (first | exact At.head | (with_reducible apply At.tail)))
 have BB:=hs.AB [] (by simp [h1]) (by simp [D0])
 have tM:=BB.size
 clear hs
 have hs:=(St.nil w1).AE kq
 refine Jb ?_
 refine dn (k:=?_)
 refine tk 9 hX (k:=?_)
 refine dt 10 hX (k:=?_)
 refine bx hs (k:=?_);clear hs;intro sb' w2 MF hs
 refine XS.nil ?_
 have zN:=hs.new _ List.mem_cons_self rfl
 simp only at zN
 refine dn (k:=?_)
 refine tk 11 hX (k:=?_)
 refine en (k:=?_)
 refine Ja ?_
 have Bn:=hs.AB [] (by simp [kq]) (by simp [D0])
 have mk0:En w0 _ sb' Em rb' s.cf s.t [] (.slice none 0 0) [] []:=⟨hs.get (b:=sb') (by repeat (first | exact At.head | (with_reducible apply At.tail))),Bv.only Bn,C0.none _,fun k hk=>by
  simp only [List.mem_cons,List.nil_append,show E6 []=[] from rfl,List.not_mem_nil,or_false] at hk
  rcases hk with rfl | rfl | rfl <;> omega,BB.trans Bn⟩
 refine BS (fun (_:Value × List Ce × List Nat)=>[(3,.pointer (some ⟨sb',0,none⟩))]) (fun y w=>En w0 w sb' Em rb' s.cf s.t s.k y.1 y.2.1 y.2.2) ?_ ?_
 ·refine BG (fun (x:Nat × Value × List Ce × List Nat)=>[(3,.pointer (some ⟨sb',0,none⟩)),(22,.slice (some ⟨g,0,none⟩) L.length cap),(23,.int .i64 (L.length:Nat)),(24,.int .i64 (x.1:Nat))])
   (fun x w=>x.1≤L.length∧En w0 w sb' Em rb' s.cf s.t (s.k.take x.1) x.2.1 x.2.2.1 x.2.2.2) (fun x=>L.length - x.1) (0,.slice none 0 0,[],[]) Ae ⟨Nat.zero_le _,mk0⟩ fun x env wl ⟨hi,hM⟩=>?_
  obtain ⟨i,v5,L5,G5⟩:=x
  simp only at hi hM
  clear hs
  have iV:=hM.w.block hg (by simp)
  have hs:=((St.nil wl).AE iV).AE hM.o
  repeat' (first|refine Sa ?_|refine Ax rfl (fun hc=>?_) fun hc=>?_|fail)
  ·have hlt:i < L.length:=by omega
   have Qu:i < s.k.length:=by omega
   obtain ⟨x,hx,hC,hce⟩:=hO.c.at Qu
   have ei:=Dl (m:=L.length) hlt om
   have et:s.k.take (i+1)=s.k.take i ++ [x.c]:=by
    rw [C4 Qu,hce,List.getD_eq_getElem?_getD,List.getElem?_eq_getElem Qu];rfl
   have y7:=hM.c.len
   rw [List.length_take] at y7
   refine ix (h0:=(by omega)) (h1:=(by omega)) (k:=?_)
   refine lb (hc:=(by simpa using Fw i x hx)) (k:=?_)
   refine Jc ?_
   refine dr [11] hs (k:=?_);intro hX w hs
   refine tks 0 6 ?_
   refine dt 6 hX (k:=?_)
   have BA:=hs.AB [] (by simp [iV,hM.o]) (by simp [D0])
   refine cl (h:=by exact SV x.cb x.c x.F _ (hC.only (hM.w.trans BA))) (k:=?_)
   rintro v6 w6 ⟨⟨Rt,F6,rfl,nR,X8⟩,Aq⟩;replace hs:=hs.AN Aq
   have Qi:=hM.keep (hs.AB [] (by simp [iV,hM.o]) (by simp [D0]))
   have l7:=(hM.w.trans BA).size
   have Wp:=hM.c.lt
   have K2:=BA.size
   have jJ:=Qi.o
   have y8:=Qi.w.block hg (by simp)
   clear hs
   have hs:=((St.nil w6).AE y8).AE jJ
   refine Jb ?_
   refine dn (k:=?_)
   refine dt 7 hX (k:=?_)
   refine bs hs (k:=?_);clear hs;intro b7 w7 Ze hs
   refine XS.nil ?_
   refine dn (k:=?_)
   refine dt 8 hX (k:=?_)
   have Cb:=hs.AB [] (by simp [jJ,y8]) (by simp [D0])
   have On:=Qi.keep Cb
   have aCg:=Cb.size
   refine CO AJ rfl rfl rfl rfl rfl rfl rfl (by decide) (lit_cells (news:=[.pointer (some ⟨Rt,0,none⟩)]) (hs.get At.head)) (by simp [Value.oneCell']) On.c.a om om ?_
   intro v8 w8 ⟨G8,gU,oT⟩ Eb
   obtain ⟨a8,cp8,rfl⟩:=BZ gU
   have k8:=Eb.block (hs.get (b:=sb') (o:=T4 Em s.cf v5) (by repeat (first | exact At.head | (with_reducible apply At.tail)))) (fun hm=>BX On.c.a On.o (by decide) hm)
   have kg8:=Eb.block (Cb.block y8 (by simp)) (fun hm=>by
    have:=On.f g (by simp [hm])
    have:=lt_of_block hg
    omega)
   clear hs
   have hs:=((St.nil w8).AE kg8).AE k8
   refine XS.nil ?_
   refine dn (k:=?_)
   refine tks 9 2 ?_
   refine dt 11 hX (k:=?_)
   refine st hs (k:=?_);clear hs;intro w9 hs
   refine XS.nil ?_
   refine dn (k:=?_)
   refine en (k:=?_)
   refine Ja ?_
   have hG:En w0 _ sb' Em rb' s.cf s.t (s.k.take i ++ [x.c]) _ (L5 ++ [⟨Rt,x.c,F6⟩]) G8 :=
    On.grow (e:=⟨Rt,x.c,F6⟩) (nR.only Cb) (fun k hk hm=>by
     have:=X8 k hk
     have:=Wp k (List.mem_append_right _ hm)
     omega) (fun k hk=>by have:=X8 k hk;omega) gU oT Eb (hs.AB [sb'] (by simp [kg8]) (by simp [D0])) (hs.get (b:=sb') (by repeat (first | exact At.head | (with_reducible apply At.tail))))
   refine A4 (i+1,.slice a8 (L5.length+1) cp8,L5 ++ [⟨Rt,x.c,F6⟩],G8) (by show L.length - (i+1) < L.length - i;omega) (by (repeat (first | exact Ak | (apply Ac;first | exact rfl | exact congrArg (Value.int .i64) ei)))) ⟨by show i+1≤_;omega,?_⟩
   show En w0 _ sb' Em rb' s.cf s.t (s.k.take (i+1)) _ _ G8
   rw [et]
   exact hG
  ·have e:i=s.k.length:=by omega
   subst e
   rw [List.take_length] at hM
   exact Au (v5,L5,G5) Ae hM
 ·rintro ⟨v5,L5,G5⟩ env w hM
  simp only at hM
  clear hs
  have hs:=St.nil w
  refine Ja ?_
  refine AG ?_
  have hM2:=hM.keep (hs.AD rfl)
  exact ⟨⟨sb',_,rfl,⟨Em,rb',v5,L5,G5,rfl,hM2.o,hM2.t,hM2.c,hO.ok⟩,hM2.f⟩,hM2.w⟩
theorem MZ (c:Cf) (hc0:c.In) (w0:World):AO Tryz.prog 9 #[QX c] w0 fun v w'=>((Ep c≠0∧v = .tuple #[.pointer none,.int .i64 (Ep c)])∨(Ep c=0∧∃ sb F,v = .tuple #[.pointer (some ⟨sb,0,none⟩),.int .i64 0]∧Cj w' sb (GN c) F∧∀ k∈F,w0.heap.size≤k))∧AA [] w0 w':=by
 have hs:=St.nil w0
 refine AR Tryz.func9 Tryz.ntmps9 (k:=?_)
 refine Ai ?_
 refine Ao ?_
 refine bx hs (k:=?_);clear hs;intro b1 w1 Jq hs
 refine Ja ?_
 refine cl (h:=by exact VB c hc0 _) (k:=?_)
 by_cases e0:Ep c=0
 ·have hck:=X0 e0
  have aCP:=(inv_new hc0 e0).ok
  rw [e0]
  rintro v w' ⟨rfl,ho⟩;replace hs:=hs.AN ho;refine Jd ?_
  have g1:=hs.new (b1,true) (by simp) rfl
  simp only at g1
  refine dr [] hs (k:=?_);intro hX w hs
  refine tks 0 2 ?_
  refine tk 3 hX (k:=?_)
  refine dt 2 hX (k:=?_)
  have Hq:=hs.AD rfl
  refine cl (h:=by exact Vi c.tasks _) (k:=?_)
  rintro v w2 ⟨⟨Em,rb',rfl,Bv,n1,n2,n3⟩,AK⟩;replace hs:=hs.AN AK
  have Jq:=Hq.size
  have kq:=hs.get (b:=b1) (by repeat (first | exact At.head | (with_reducible apply At.tail)))
  have BB:=hs.AD rfl
  have tM:=BB.size
  clear hs
  have hs:=(St.nil w2).AE kq
  refine Jb ?_
  refine dn (k:=?_)
  refine tk 4 hX (k:=?_)
  refine dt 5 hX (k:=?_)
  refine bx hs (k:=?_);clear hs;intro sb' w3 OF hs
  refine XS.nil ?_
  have zN:=hs.new _ List.mem_cons_self rfl
  simp only at zN
  refine dn (k:=?_)
  refine tk 6 hX (k:=?_)
  refine en (k:=?_)
  refine Ja ?_
  have Bn:=hs.AB [] (by simp [kq]) (by simp [D0])
  have kc:=hs.get (b:=b1) (by repeat (first | exact At.head | (with_reducible apply At.tail)))
  have mk0:En w0 _ sb' Em rb' c (List.replicate (FU c.tasks) .zero) [] (.slice none 0 0) [] []:=⟨hs.get (b:=sb') (by repeat (first | exact At.head | (with_reducible apply At.tail))),Bv.only Bn,C0.none _,fun k hk=>by
   simp only [List.mem_cons,List.nil_append,show E6 []=[] from rfl,List.not_mem_nil,or_false] at hk
   rcases hk with rfl | rfl | rfl <;> omega,BB.trans Bn⟩
  obtain ⟨m,hm⟩:∃ m:Nat,c.cores=m:=⟨c.cores.toNat,by omega⟩
  rw [hm]
  refine BS (fun (_:Value × List Ce × List Nat)=>[(5,.pointer (some ⟨sb',0,none⟩))]) (fun y w=>En w0 w sb' Em rb' c (List.replicate (FU c.tasks) .zero) (List.replicate m (Dw c.origin)) y.1 y.2.1 y.2.2) ?_ ?_
  ·refine BG (fun (x:Nat × Value × List Ce × List Nat)=>[(1,.pointer (some ⟨b1,0,none⟩)),(5,.pointer (some ⟨sb',0,none⟩)),(18,.int .i64 (m:Nat)),(19,.int .i64 (x.1:Nat))])
    (fun x w=>x.1≤m∧w.heap[b1]?=some (.cells #[.int .i64 c.cores,.int .i64 c.tasks,.int .u64 c.tick,.int .u64 c.slice,.int .u64 c.origin] 24 (0,0))∧En w0 w sb' Em rb' c (List.replicate (FU c.tasks) .zero) (List.replicate x.1 (Dw c.origin)) x.2.1 x.2.2.1 x.2.2.2) (fun x=>m - x.1) (0,.slice none 0 0,[],[]) Ae ⟨Nat.zero_le _,kc,mk0⟩ fun x env wl ⟨hi,hB,hM⟩=>?_
   obtain ⟨i,v5,L5,G5⟩:=x
   simp only at hi hM
   clear hs
   have hs:=((St.nil wl).AE hB).AE hM.o
   repeat' (first|refine Sa ?_|refine Ax rfl (fun hc=>?_) fun hc=>?_|fail)
   ·have hlt:i < m:=by omega
    have ei:=Dl (m:=m) hlt om
    have y7:=hM.c.len
    rw [List.length_replicate] at y7
    refine dr [12] hs (k:=?_);intro hX w hs
    refine tks 0 7 ?_
    refine dt 7 hX (k:=?_)
    have BA:=hs.AB [] (by simp [hB,hM.o]) (by simp [D0])
    refine cl (h:=by exact X3 c.origin hc0.2.2.2.2 _) (k:=?_)
    rintro v6 w6 ⟨⟨Rt,F6,rfl,nR,X8⟩,Aq⟩;replace hs:=hs.AN Aq
    have Qi:=hM.keep (hs.AB [] (by simp [hB,hM.o]) (by simp [D0]))
    have l7:=(hM.w.trans BA).size
    have Wp:=hM.c.lt
    have K2:=BA.size
    have jJ:=Qi.o
    have kB:=hs.get (b:=b1) (by repeat (first | exact At.head | (with_reducible apply At.tail)))
    clear hs
    have hs:=((St.nil w6).AE kB).AE jJ
    refine Jb ?_
    refine dn (k:=?_)
    refine dt 8 hX (k:=?_)
    refine bs hs (k:=?_);clear hs;intro b7 w7 Ze hs
    refine XS.nil ?_
    refine dn (k:=?_)
    refine dt 9 hX (k:=?_)
    have Cb:=hs.AB [] (by simp [jJ,kB]) (by simp [D0])
    have On:=Qi.keep Cb
    have aCg:=Cb.size
    refine CO AJ rfl rfl rfl rfl rfl rfl rfl (by decide) (lit_cells (news:=[.pointer (some ⟨Rt,0,none⟩)]) (hs.get At.head)) (by simp [Value.oneCell']) On.c.a om om ?_
    intro v8 w8 ⟨G8,gU,oT⟩ Eb
    obtain ⟨a8,cp8,rfl⟩:=BZ gU
    have k8:=Eb.block (hs.get (b:=sb') (o:=T4 Em c v5) (by repeat (first | exact At.head | (with_reducible apply At.tail)))) (fun hm=>BX On.c.a On.o (by decide) hm)
    have k9:=Eb.block (hs.get (b:=b1) (by repeat (first | exact At.head | (with_reducible apply At.tail)))) (fun hm=>BX On.c.a (hs.get (b:=b1) (by repeat (first | exact At.head | (with_reducible apply At.tail)))) (by decide) hm)
    clear hs
    have hs:=((St.nil w8).AE k9).AE k8
    refine XS.nil ?_
    refine dn (k:=?_)
    refine tks 10 2 ?_
    refine dt 12 hX (k:=?_)
    refine st hs (k:=?_);clear hs;intro w9 hs
    refine XS.nil ?_
    refine dn (k:=?_)
    refine en (k:=?_)
    refine Ja ?_
    have hG:En w0 _ sb' Em rb' c (List.replicate (FU c.tasks) .zero) (List.replicate i (Dw c.origin) ++ [Dw c.origin]) _ (L5 ++ [⟨Rt,Dw c.origin,F6⟩]) G8 :=
     On.grow (e:=⟨Rt,Dw c.origin,F6⟩) (nR.only Cb) (fun k hk hm=>by
      have:=X8 k hk
      have:=Wp k (List.mem_append_right _ hm)
      omega) (fun k hk=>by have:=X8 k hk;omega) gU oT Eb (hs.AB [sb'] (by simp [k9]) (by simp [D0])) (hs.get (b:=sb') (by repeat (first | exact At.head | (with_reducible apply At.tail))))
    refine A4 (i+1,.slice a8 (L5.length+1) cp8,L5 ++ [⟨Rt,Dw c.origin,F6⟩],G8) (by show m - (i+1) < m - i;omega) (by (repeat (first | exact Ak | (apply Ac;first | exact rfl | exact congrArg (Value.int .i64) ei)))) ⟨by show i+1≤_;omega,hs.get (b:=b1) (by repeat (first | exact At.head | (with_reducible apply At.tail))),?_⟩
    show En w0 _ sb' Em rb' c _ (List.replicate (i+1) (Dw c.origin)) _ _ G8
    rw [List.replicate_succ']
    exact hG
   ·have e:i=m:=by omega
    subst e
    exact Au (v5,L5,G5) Ae hM
  ·rintro ⟨v5,L5,G5⟩ env w hM
   simp only at hM
   clear hs
   have hs:=St.nil w
   refine Ja ?_
   refine AG ?_
   have hM2:=hM.keep (hs.AD rfl)
   have em:c.cores.toNat=m:=by omega
   exact ⟨.inr ⟨rfl,sb',_,rfl,⟨Em,rb',v5,L5,G5,rfl,hM2.o,hM2.t,by
    show C0 _ v5 (List.replicate c.cores.toNat (Dw c.origin)) L5 G5
    rw [em];exact hM2.c,aCP⟩,hM2.f⟩,hM2.w⟩
 ·generalize Ep c=e at *
  rintro v w' ⟨rfl,ho⟩;replace hs:=hs.AN ho;repeat' (first|refine Sa ?_|refine xc_cond rfl (fun hc=>?_) fun hc=>?_|fail)
  ·refine AG ?_
   exact ⟨.inl ⟨e0,rfl⟩,hs.AD rfl⟩
  ·exact absurd (by simpa using hc) e0
def uO (w0 w:World) (fid:Nat) (caps:List Value) (E:List Nat) (Qx:World→Prop) (s:Sy) (l:Int × Ch):Prop :=
 ∀ hb F,Dv w hb ⟨s,[]⟩ F→(∀ k∈F,w0.heap.size≤k) →
  AO Tryz.prog fid (.pointer (some ⟨hb,0,none⟩) :: caps).toArray w fun v w'=>v = .int .i64 l.1∧Qx w'∧(l.1=0→∃ F',Dv w' hb l.2 F'∧∀ k∈F',k∈F∨w.heap.size≤k)∧AA (F ++ E) w w'
def EH (w0:World) (sb:Nat) (F E:List Nat) (ve:Value) (s:Sy) (l:Int × Ch) (w':World):Prop :=
 (∃ G,ZL w' ve (Dt s l).1 G)∧(∃ F',Cj w' sb (Dt s l).2 F'∧∀ k∈F',k∈F∨w0.heap.size≤k)∧AA (sb :: E) w0 w'
theorem Qv (sb:Nat) (s:Sy) (F:List Nat) (w0:World) (h:Cj w0 sb s F) (fid:Nat) (caps:List Value) (E:List Nat) (Qx:World→Prop) (l:Int × Ch)
 (hQ:∀ w w' G,Qx w→AA G w w'→(∀ k∈E,k∉G)→Qx w') (hE:∀ k∈E,k∉F∧k < w0.heap.size) (Vu:∀ w,AA [] w0 w→uO w0 w fid caps E Qx s l) :
 AO Tryz.prog 50 #[.pointer (some ⟨sb,0,none⟩),.func (.func fid) #[] caps.toArray] w0 fun v w'=>∃ ve,v = .tuple #[ve,.int .i64 l.1]∧Qx w'∧EH w0 sb F E ve s l w':=by
 have hS:=h
 obtain ⟨tb,rb,vc,L,G,rfl,hO⟩:=h
 have h1:=hO.o
 have lsb:=lt_of_block h1
 have hs:=(St.nil w0).AE h1
 refine AR Tryz.func50 Tryz.ntmps50 (k:=?_)
 refine Jd ?_
 have ho:=hs.AB [] (by simp [h1]) (by simp [D0])
 refine cl (h:=by exact YZ sb s _ _ (hS.only ho)) (k:=?_)
 rintro v w1 ⟨⟨sb',F',rfl,FW,Cc⟩,AK⟩;replace hs:=hs.AN AK
 have BB:=hs.AB [] (by simp [h1]) (by simp [D0])
 have k1:=hs.get At.head
 have zA:=ho.size
 clear hs
 have hs:=(St.nil w1).AE k1
 refine vs (k:=?_)
 refine HP hs (k:=?_);clear hs;intro hb w2 AM z2 hs
 refine Ja ?_
 have AT:=hs.AB [] (fun e he => .inr (.inr (hs.hold e he))) (by simp [D0])
 have kh:=hs.get (b:=hb) (by repeat (first | exact At.head | (with_reducible apply At.tail)))
 have EI:=FW.only AM
 have mI:Dv w2 hb ⟨s,[]⟩ (hb :: (F' ++ [])):=⟨sb',F',_,[],rfl,kh,EI,.inl ⟨rfl,rfl,rfl,rfl⟩⟩
 have zB:=BB.size
 have zC:=AM.size
 have EM:∀ k∈hb :: (F' ++ []),w0.heap.size≤k:=fun k hk=>by
  simp only [List.append_nil,List.mem_cons] at hk
  rcases hk with rfl | hk
  ·omega
  ·have:=Cc k hk;omega
 have Bn:=BB.trans AM
 refine cl (h:=by exact Vu _ Bn hb _ mI EM) (k:=?_)
 rintro v w3 ⟨rfl,hX,hres,Aw⟩
 have m1:sb∉(hb :: (F' ++ [])) ++ E:=fun hm=>by
  rcases List.mem_append.1 hm with q | q
  ·have:=EM sb q;omega
  ·exact (hE sb q).1 (by simp)
 have j1:=Aw.block (hs.get (b:=sb) (by repeat (first | exact At.head | (with_reducible apply At.tail)))) m1
 have E8:AA (sb :: E) w0 w3:=((Bn.weaken (by simp)).step Aw (fun k hk=>by
  rcases List.mem_append.1 hk with q | q
  ·exact .inr (EM k q)
  ·exact .inl (by simp [q])))
 have zD:=E8.size
 clear hs
 have etr:Dt s l=if l.1=0 then (l.2.ev,l.2.s) else ([],s):=rfl
 obtain ⟨tr,htr⟩:∃ tr,tr=Dt s l:=⟨_,rfl⟩
 rw [← htr] at etr
 generalize l.2=s1 at *
 generalize l.1=e at *
 have T0:∀ (ve:Value) (w':World),EH w0 sb (sb :: tb :: rb :: (G ++ E6 L)) E ve s l w'=((∃ G,ZL w' ve (Dt s l).1 G)∧(∃ F',Cj w' sb (Dt s l).2 F'∧∀ k∈F',k∈(sb :: tb :: rb :: (G ++ E6 L))∨w0.heap.size≤k)∧AA (sb :: E) w0 w'):=fun _ _=>rfl
 simp only [T0]
 by_cases he:e=0
 ·subst he
  obtain ⟨F3,WW,NI⟩:=hres rfl
  have pN:∀ k∈F3,w0.heap.size≤k:=fun k hk=>by
   rcases NI k hk with q | q
   ·exact EM k q
   ·have:=Bn.size;omega
  obtain ⟨sb3,tb3,zF,v3,ve3,L3,G3,Ge3,rfl,H8⟩:=WW.FB
  have o3h:=H8.h
  have o3s:=H8.s.o
  have n3:sb3≠sb:=by have:=pN sb3 (by simp [CJ]);omega
  obtain ⟨ae,ce,rfl⟩:=BZ H8.e
  obtain ⟨a3,c3,rfl⟩:=BZ H8.s.c.a
  have o3h:=H8.h
  have o3s:=H8.s.o
  have hs:=(((St.nil w3).AE j1).AH o3s (by simpa using n3)).AE o3h
  repeat' (first|refine Sd ?_|(refine AU hs (k:=?_);intro w hs)|fail)
  refine AG ?_
  have Aq:AA [sb] w3 _:=hs.AB [sb] (by simp [o3s,o3h]) (by simp [D0])
  have hd:∀ k∈CJ hb sb3 tb3 zF L3 G3 Ge3,k∉[sb]:=fun k hk hm=>by
   obtain rfl:=List.mem_singleton.1 hm
   have:=pN _ hk;omega
  have et:Dt s l=(s1.ev,s1.s):=by rw [← htr,etr];exact if_pos rfl
  have tE:∀ k∈sb :: tb3 :: zF :: (G3 ++ E6 L3),k∈sb :: tb :: rb :: (G ++ E6 L)∨w0.heap.size≤k:=fun k hk=>by
   rcases List.mem_cons.1 hk with rfl | hk
   ·exact .inl (by simp)
   ·exact .inr (pN k (by simp only [CJ,List.mem_cons,List.mem_append] at hk ⊢;exact .inr (.inl (.inr hk))))
  have UT:=H8.s
  refine ⟨_,rfl,hQ _ _ _ hX Aq (fun k hk hm=>by obtain rfl:=List.mem_singleton.1 hm;exact (hE _ hk).1 (by simp)),?_,?_,E8.step Aq (fun k hk => .inl (by obtain rfl:=List.mem_singleton.1 hk;simp))⟩
  ·rw [et]
   exact ⟨Ge3,H8.e.keep Aq (fun k hk=>hd k (by simp [CJ,hk]))⟩
  ·rw [et]
   exact ⟨_,⟨tb3,zF,_,L3,G3,rfl,hs.get (b:=sb) (by repeat (first | exact At.head | (with_reducible apply At.tail))),UT.t.keep Aq (hd _ (by simp [CJ])) (hd _ (by simp [CJ])),UT.c.Ah Aq (fun k hk=>hd k (by simp only [CJ,List.mem_cons,List.mem_append] at hk ⊢;exact .inr (.inl (.inr (.inr (.inr hk)))))),UT.ok⟩,tE⟩
 ·have hs:=(St.nil w3).AE j1
  have et:Dt s l=([],s):=by rw [← htr,etr];exact if_neg he
  repeat' (first|refine Sa ?_|refine xc_cond rfl (fun hc=>?_) fun hc=>?_|fail)
  ·refine AG ?_
   have Aq:=hs.AB [] (by simp [j1]) (by simp [D0])
   refine ⟨_,rfl,hQ _ _ _ hX Aq (by simp),?_,?_,E8.step Aq (by simp)⟩
   ·rw [et];exact ⟨[],.inl ⟨rfl,rfl,rfl,rfl⟩⟩
   ·rw [et]
    refine ⟨_,((hS.only Bn).Ah Aw (fun k hk hm=>?_)).only Aq,fun k hk => .inl hk⟩
    rcases List.mem_append.1 hm with q | q
    ·have:=EM k q
     have:=hS.lt k hk
     omega
    ·exact (hE k q).1 hk
  ·exact absurd (by simpa using hc) he
def QM (w:World) (E:List Nat) (fid:Nat) (caps:List Value) (Qx:World→Prop) (f:Ch→Tk→Int × Ch) (s:Sy) (id:Int):Prop :=
 ∀ hb F,Dv w hb ⟨s,[]⟩ F→(∀ k∈F,k∉E)→DG (BI s.t id)=0 →
  AO Tryz.prog fid (.pointer (some ⟨hb,0,none⟩) :: Jr (AV s.t id) :: caps).toArray w fun v w'=>v = .int .i64 (f ⟨s,[]⟩ (AV s.t id)).1∧KP w hb (f ⟨s,[]⟩ (AV s.t id)).1 (f ⟨s,[]⟩ (AV s.t id)).2 F w'
theorem j7 (b1 b2:Nat) (id:Int) (fid:Nat) (caps:List Value) (s:Sy) (fu:Ch→Tk→Int × Ch) (wb w0:World) (hid:In64 id) (hw0:AA [] wb w0) (B1:wb.heap[b1]?=some (.cells #[.int .i64 id] 3 (0,0))) (B2:wb.heap[b2]?=some (.cells #[.func (.func fid) #[] caps.toArray] 139 (0,0)))
 (Vu:∀ w,AA [] wb w→QM w (List.range wb.heap.size) fid caps (fun _=>True) fu s id) :
 uO wb w0 99 [.pointer (some ⟨b1,0,none⟩),.pointer (some ⟨b2,0,none⟩)] [] (fun _=>True) s (CG ⟨s,[]⟩ id fu):=by
 intro hb F hC hF
 have FX:=hC
 obtain ⟨sb,tb,rb,v,ve,L,G,Ge,rfl,hO⟩:=hC.FB
 have oh:=hO.h
 have os:=hO.s.o
 have tK:=hw0.block B1 (by simp)
 have sH:=hw0.block B2 (by simp)
 have eW:CG ⟨s,[]⟩ id fu=if DG (BI s.t id)≠0 then (DG (BI s.t id),⟨s,[]⟩) else fu ⟨s,[]⟩ (AV s.t id):=rfl
 rw [eW]
 generalize hq:AV s.t id=q
 have hs:=((((St.nil w0).AE os).AE oh).AE tK).AE sH
 refine AR Tryz.func99 Tryz.ntmps99 (k:=?_)
 refine Ja ?_
 refine dr [] hs (k:=?_);intro hX w hs
 refine tks 0 8 ?_
 refine HO 12 5 hs (k:=?_);intro f X w hp;have hs:=hp.st
 apply BM 8 12 (f:=f) (X:=X) hX hp;exact rfl;exact rfl;(apply AS AJ;exact rfl);kernel_rfl;kernel_rfl;kernel_rfl;kernel_rfl;(intro X Y;(repeat (first | exact A6 | refine A5 ?_ (by exact rfl))));(intro w' hs;first|exact AI hs.hold|exact AI hs.hold.tail|exact A9 rfl);intro f X w hp;have hs:=hp.st
 have ho:=hs.AB [] (by simp [oh,os,tK,sH]) (by simp [D0])
 refine cl (h:=by exact Oi tb rb s.t id _ (hO.s.t.only ho) hid) (k:=?_)
 rw [hq]
 rintro v w' ⟨rfl,ho⟩;replace hp:=hp.only ho;replace hs:=hp.st;refine Jb ?_
 refine dn (k:=?_)
 refine tk 9 hX (hc:=by cases f <;> kernel_rfl) (k:=?_)
 refine tk 10 hX (hc:=by cases f <;> kernel_rfl) (k:=?_)
 refine tk 11 hX (hc:=by cases f <;> kernel_rfl) (k:=?_)
 apply Bi 12 (f:=f) (X:=X) hX hp;exact rfl;(apply AS AJ;exact rfl);kernel_rfl;kernel_rfl;(intro X Y;(repeat (first | exact A6 | refine A5 ?_ (by exact rfl))));(intro w' hs;first|exact AI hs.hold|exact AI hs.hold.tail|exact A9 rfl);intro b w hI hs
 refine dt 13 hX (k:=?_)
 repeat' (first|refine Nx.h ?_|(refine AU hs (k:=?_);intro w hs)|fail)
 refine dn (k:=?_)
 refine tk 14 hX (k:=?_)
 refine en (k:=?_)
 by_cases he:DG (BI s.t id)=0
 ·rw [he,if_neg (by simp)]
  refine Jd ?_
  have hoq:=hs.AB [] (by simp [oh,os,tK,sH]) (by simp [D0])
  have:=Vu _ (hw0.trans hoq) hb _ (FX.only hoq) (fun k hk hm=>by have:=hF k hk;have:=List.mem_range.1 hm;omega) he
  rw [hq] at this
  refine cl (h:=by exact this) (k:=?_)
  rintro v5 w5 ⟨rfl,hL,BY⟩
  have hz:=hoq.size
  clear hs
  have hs:=St.nil w5
  refine Jc ?_
  refine AG ?_
  have Aq:=hs.AD rfl
  refine ⟨rfl,trivial,fun e0=>?_,((hoq.weaken (by simp)).step BY (fun k hk => .inl (by simpa using hk))).step Aq (by simp)⟩
  obtain ⟨F',h1,h2⟩:=hL e0
  exact ⟨F',h1.only Aq,fun k hk=>by
   rcases h2 k hk with q | q
   ·exact .inl q
   ·exact .inr om⟩
 ·rw [if_pos he]
  generalize DG (BI s.t id)=e at *
  repeat' (first|refine Sa ?_|refine xc_cond rfl (fun hc=>?_) fun hc=>?_|fail)
  ·refine AG ?_
   have Aq:=hs.AB [] (by simp [oh,os,tK,sH]) (by simp [D0])
   exact ⟨rfl,trivial,fun z=>absurd z he,Aq.weaken (by simp)⟩
  ·exact absurd (by simpa using hc) he
theorem JA (sb:Nat) (s:Sy) (F:List Nat) (id:Int) (fid:Nat) (caps:List Value) (f:Ch→Tk→Int × Ch) (w0:World) (h:Cj w0 sb s F) (hid:In64 id)
 (Vu:∀ wb w,AA [] w0 wb→AA [] wb w→QM w (List.range wb.heap.size) fid caps (fun _=>True) f s id) :
 AO Tryz.prog 64 #[.pointer (some ⟨sb,0,none⟩),.int .i64 id,.func (.func fid) #[] caps.toArray] w0 fun v w'=>∃ ve,v = .tuple #[ve,.int .i64 (CG ⟨s,[]⟩ id f).1]∧EH w0 sb F [] ve s (CG ⟨s,[]⟩ id f) w':=by
 have hs:=St.nil w0
 refine AR Tryz.func64 Tryz.ntmps64 (k:=?_)
 refine Ai ?_
 refine Ao ?_
 refine HP hs (k:=?_);clear hs;intro b4 w1 AK z1 hs
 refine HP hs (k:=?_);clear hs;intro b5 w2 AM z2 hs
 refine Ja ?_
 have BB:=AK.trans AM
 have k4:=hs.get (b:=b4) (by repeat (first | exact At.head | (with_reducible apply At.tail)))
 have k5:=hs.get (b:=b5) (by repeat (first | exact At.head | (with_reducible apply At.tail)))
 refine cl (h:=by exact Qv sb s F _ (h.only BB) 99 [.pointer (some ⟨b4,0,none⟩),.pointer (some ⟨b5,0,none⟩)] [] (fun _=>True) (CG ⟨s,[]⟩ id f) (fun _ _ _ _ _ _=>trivial) (by simp) (fun w hw=>j7 b4 b5 id fid caps s f _ w hid hw k4 k5 (fun w' hw'=>Vu _ w' BB hw'))) (k:=?_)
 rintro v w3 ⟨ve,rfl,_,⟨Gt,sI⟩,⟨F',hS',Cc⟩,AT⟩
 obtain ⟨ae,ce,rfl⟩:=BZ sI
 have zA:=BB.size
 clear hs
 have hs:=St.nil w3
 refine Jc ?_
 refine AG ?_
 have Aw:=hs.AD rfl
 exact ⟨_,rfl,⟨Gt,sI.keep Aw (by simp)⟩,⟨F',hS'.only Aw,fun k hk=>by
  rcases Cc k hk with q | q
  ·exact .inl q
  ·exact .inr om⟩,((BB.weaken (by simp)).step AT (fun k hk => .inl hk)).step Aw (by simp)⟩
theorem C5.JW {w w':World} {hb sb tb rb:Nat} {v ve:Value} {s:Ch} {L:List Ce} {G Ge:List Nat} (h:C5 w hb sb tb rb v ve s L G Ge) {t:List Tk} (ht:De w' tb rb t) (ho:AA [rb] w w') (hok:Eh { s.s with t:=t }):C5 w' hb sb tb rb v ve ⟨{ s.s with t:=t },s.ev⟩ L G Ge:=by
 obtain ⟨cap,rest,a1,a2,_⟩:=h.s.t
 exact ⟨ho.block h.h (by simpa using A3 h.h a2 (by decide)),h.s.rows ht ho hok,h.e.keep ho fun k hk hm=>by obtain rfl:=List.mem_singleton.1 hm;exact BX h.e a2 (by decide) hk⟩
theorem St.I2 {wb w:World} {D:Ctx} {b4:Nat} {o:Obj} {nw:Bool} {H:List CB} (h:St wb D ((b4,o,nw) :: H) w) {b:Nat} {cs:Array Value} {ty:Nat} {fz:Nat × Nat} (hne:b4≠b) (hb:w.heap[b]?=some (.cells cs ty fz)) (hn:(H.all fun e=>Tw ty e.2.1)=true:=by rfl):b∉((b4,o,nw) :: H).map (·.1):=fun hm=>by
 rcases List.mem_cons.1 hm with q | q
 ·exact hne q.symm
 ·obtain ⟨e,he,rfl⟩:=List.mem_map.1 q
  have h1:=List.all_eq_true.1 hn e he
  have h2:=h.at_ e (List.mem_cons_of_mem _ he)
  rw [hb] at h2
  rw [← Option.some.inj h2] at h1
  simp [Tw] at h1
theorem QM.of {w:World} {E:List Nat} {fid:Nat} {caps:List Value} {f:Ch→Tk→Int × Ch} {s:Sy} {id:Int} (h:∀ hb F,Dv w hb ⟨s,[]⟩ F→DG (BI s.t id)=0→CV s.cf.cores (AV s.t id)→(AV s.t id).st≠0 →
 AO Tryz.prog fid (.pointer (some ⟨hb,0,none⟩) :: Jr (AV s.t id) :: caps).toArray w fun v w'=>v = .int .i64 (f ⟨s,[]⟩ (AV s.t id)).1∧KP w hb (f ⟨s,[]⟩ (AV s.t id)).1 (f ⟨s,[]⟩ (AV s.t id)).2 F w'):QM w E fid caps (fun _=>True) f s id:=fun hb F hC _ he=>by
 obtain ⟨sb,tb,rb,v,ve,L,G,Ge,rfl,hO⟩:=hC.FB
 exact h hb _ hC he (ok_task hO.s.ok.row id) (task_st he)
theorem iT (b2 hb:Nat) (s:Sy) (F:List Nat) (x:Tk) (id:Int) (w0:World) (h:Dv w0 hb ⟨s,[]⟩ F) (hid:In64 id) (B2:w0.heap[b2]?=some (.cells #[.int .i64 id] 3 (0,0))) (hx:CV s.cf.cores x) (hn:x.st≠0) :
 AO Tryz.prog 65 #[.pointer (some ⟨hb,0,none⟩),Jr x,.pointer (some ⟨b2,0,none⟩)] w0 fun v w'=>v = .int .i64 (Ey ⟨s,[]⟩ x id).1∧KP w0 hb (Ey ⟨s,[]⟩ x id).1 (Ey ⟨s,[]⟩ x id).2 F w':=by
 have FX:=h
 have eX:Ey ⟨s,[]⟩ x id=(DG (BI (if BK x=true then (BO ⟨s,[]⟩ x).2 else ⟨s,[]⟩).s.t id),⟨{ (if BK x=true then (BO ⟨s,[]⟩ x).2 else ⟨s,[]⟩).s with t:=Fl (if BK x=true then (BO ⟨s,[]⟩ x).2 else ⟨s,[]⟩).s.t id },(if BK x=true then (BO ⟨s,[]⟩ x).2 else ⟨s,[]⟩).ev⟩):=rfl
 rw [eX]
 have hs:=(St.nil w0).AE B2
 refine AR Tryz.func65 Tryz.ntmps65 (k:=?_)
 refine Ai ?_
 refine Ao ?_
 refine HP hs (k:=?_);clear hs;intro b4 w1 AK z1 hs
 refine Ja ?_
 refine cl (h:=by exact Hp x _) (k:=?_)
 rintro v w2 ⟨rfl,AM⟩
 replace hs:=hs.JR AM
 have BB:=AK.trans AM
 have zA:=BB.size
 refine XS.nil ?_
 refine ET ?_
 generalize FW:(if BK x=true then (BO ⟨s,[]⟩ x).2 else (⟨s,[]⟩:Ch))=S1
 refine Bg (fun (_:List Nat)=>[(0,.pointer (some ⟨hb,0,none⟩)),(2,.pointer (some ⟨b2,0,none⟩))]) (fun F1 w=>w.heap[b2]?=some (.cells #[.int .i64 id] 3 (0,0))∧Dv w hb S1 F1∧(∀ k∈F1,k∈F∨w0.heap.size≤k)∧AA F w0 w) ?_ ?_
 ·cases hc:BK x with
  | false =>
    rw [hc,if_neg (by simp)] at FW
    subst FW
    refine Jg ?_
    exact AQ F Ae ⟨hs.get (b:=b2) (by repeat (first | exact At.head | (with_reducible apply At.tail))),FX.only BB,fun k hk => .inl hk,BB.weaken (by simp)⟩
  | true =>
    rw [hc,if_pos rfl] at FW
    subst FW
    refine Ji ?_
    refine cl (h:=by exact SH hb ⟨s,[]⟩ F x _ (FX.only BB) hx hn (by simp)) (k:=?_)
    rintro v w3 ⟨rfl,F3,WW,NI,AT⟩
    have k2:=AT.block (hs.get (b:=b2) (by repeat (first | exact At.head | (with_reducible apply At.tail)))) ((FX.only BB).not (hs.get (b:=b2) (by repeat (first | exact At.head | (with_reducible apply At.tail)))) rfl)
    clear hs
    have hs:=St.nil w3
    refine Jb ?_
    exact AQ F3 Ae ⟨k2,WW,fun k hk=>by
     rcases NI k hk with q | q
     ·exact .inl q
     ·exact .inr om,(BB.weaken (by simp)).step AT (fun k hk => .inl hk)⟩
 ·rintro F1 env w4 ⟨k2,Zh,tE,Aw⟩
  obtain ⟨sb,tb,rb,v,ve,L,G,Ge,rfl,hO⟩:=Zh.FB
  clear hs
  have hs:=((St.nil w4).AE k2).AE hO.s.o |>.AE hO.h
  refine Jb ?_
  refine IW [] hs (k:=?_);clear hs;intro hX w CP hs
  replace hO:=hO.only CP
  refine tks 0 8 ?_
  refine dt 8 hX (k:=?_)
  refine cl (h:=by exact Ub tb rb S1.s.t id _ hO.s.t hid) (k:=?_)
  rintro v12 w12 ⟨rfl,GD,By⟩
  have I1:=hO.s.t
  obtain ⟨KS,IY,M9,Ex,_⟩:=I1
  replace hs:=hs.EC By (fun k hk=>by obtain rfl:=List.mem_singleton.1 hk;exact hs.Es Ex)
  have K4:=hO.JW GD By (hO.s.ok.rows (Xi hO.s.ok.row _) (VW _ _))
  have zD:=CP.size
  have z4:=Aw.size
  refine XS.nil ?_
  refine dn (k:=?_)
  refine tk 9 hX (k:=?_)
  refine en (k:=?_)
  refine Jb ?_
  refine AG ?_
  have Aq:=hs.AB [] (fun e he => .inr (.inr (hs.hold e he))) (by simp [D0])
  exact ⟨rfl,fun _=>⟨_,K4.at,tE⟩,((Aw.step CP (by simp)).step By (fun k hk=>by
   obtain rfl:=List.mem_singleton.1 hk
   exact tE _ (by simp [CJ])))⟩
theorem C5.FN {w w':World} {hb sb tb rb:Nat} {v ve:Value} {s:Ch} {L:List Ce} {G Ge:List Nat} (h:C5 w hb sb tb rb v ve s L G Ge) {b:Nat} {cs:Array Value} {fz:Nat × Nat} (ho:AA [b] w w') (hb':w.heap[b]?=some (.cells cs 51 fz)) (hne:b≠rb):C5 w' hb sb tb rb v ve s L G Ge:=by
 have hn:=h.aAL hb' hne
 have hd:∀ k∈CJ hb sb tb rb L G Ge,k∉[b]:=fun k hk hm=>by obtain rfl:=List.mem_singleton.1 hm;exact hn hk
 exact ⟨ho.block h.h (hd _ (by simp [CJ])),h.s.Ah ho (fun k hk=>hd k (by simp only [CJ,List.mem_cons,List.mem_append] at hk ⊢;exact .inr (.inl hk))),h.e.keep ho (fun k hk=>hd k (by simp [CJ,hk]))⟩
theorem Yk (b2 b3 hb:Nat) (s:Sy) (F:List Nat) (x:Tk) (id q:Int) (w0:World) (h:Dv w0 hb ⟨s,[]⟩ F) (hid:In64 id) (B2:w0.heap[b2]?=some (.cells #[.int .u64 q] 22 (0,0))) (B3:w0.heap[b3]?=some (.cells #[.int .i64 id] 3 (0,0))) (hx:CV s.cf.cores x) (hn:x.st≠0) :
 AO Tryz.prog 74 #[.pointer (some ⟨hb,0,none⟩),Jr x,.pointer (some ⟨b2,0,none⟩),.pointer (some ⟨b3,0,none⟩)] w0 fun v w'=>v = .int .i64 (DQ ⟨s,[]⟩ x id q).1∧KP w0 hb (DQ ⟨s,[]⟩ x id q).1 (DQ ⟨s,[]⟩ x id q).2 F w':=by
 obtain ⟨sb,tb,rb,v,ve,L,G,Ge,rfl,hO⟩:=h.FB
 have aD:=hO.s.t.Rr.2
 have eX:DQ ⟨s,[]⟩ x id q=if Ar q 1048576≠0 then (Ar q 1048576,⟨s,[]⟩) else if BK x=false then (0,⟨Bk s { x with w:=IntKind.u32.wrap q },[]⟩) else Dg ⟨Bk s { x with w:=IntKind.u32.wrap q },[]⟩ x.core ((Be (AF s x.core) id (IntKind.u32.wrap q)).1,(Be (AF s x.core) id (IntKind.u32.wrap q)).2,.none):=rfl
 rw [eX]
 have hs:=(((St.nil w0).AE B2).AE B3).AE hO.s.o |>.AE hO.h
 have Am:AA (CJ hb sb tb rb L G Ge) w0 w0:=(AA.refl [] w0).weaken (by simp)
 refine AR Tryz.func74 Tryz.ntmps74 (k:=?_)
 refine Ai ?_
 refine Ao ?_
 refine HP hs (k:=?_);clear hs;intro b5 w1 AK z1 hs
 replace hO:=hO.only AK
 replace Am:=Am.step AK (by simp)
 have GY:b5≠rb:=by omega
 refine Jc ?_
 refine IW [] hs (k:=?_);clear hs;intro hX w CP hs
 replace hO:=hO.only CP
 replace Am:=Am.step CP (by simp)
 refine tks 0 8 ?_
 refine dt 8 hX (k:=?_)
 refine cl (h:=by exact Om s.cf q _) (k:=?_)
 rintro v2 w2 ⟨rfl,AM⟩
 replace hs:=hs.JR AM
 replace hO:=hO.only AM
 replace Am:=Am.step AM (by simp)
 refine XS.nil ?_
 refine dn (k:=?_)
 refine tk 9 hX (k:=?_)
 refine en (k:=?_)
 by_cases he:Ar q 1048576≠0
 ·rw [if_pos he]
  generalize Ar q 1048576=ee at *
  repeat' (first|refine Sa ?_|(refine st hs (k:=?_);intro w hs)|refine xc_cond rfl (fun hc=>?_) fun hc=>?_|fail)
  ·refine AG ?_
   exact ⟨rfl,fun z=>absurd z he,Am.step (hs.AB [] (fun e he => .inr (.inr (hs.hold e he))) (by simp [D0])) (by simp)⟩
  ·exact absurd (by simpa using hc) he
 have XK:Ar q 1048576=0:=by
  rcases Classical.em (Ar q 1048576=0) with z | z
  ·exact z
  ·exact absurd z he
 rw [if_neg he,XK]
 have hy:CV s.cf.cores { x with w:=IntKind.u32.wrap q }:=⟨hx.1,hx.2.1,hx.2.2.1,LJ _,hx.2.2.2.2⟩
 have jU:({ x with w:=IntKind.u32.wrap q }:Tk).st≠0:=hn
 have kN:BK { x with w:=IntKind.u32.wrap q }=BK x:=rfl
 have tV:({ x with w:=IntKind.u32.wrap q }:Tk).core=x.core:=rfl
 have hwu:Fk (IntKind.u32.wrap q):=LJ _
 have z2:=Am.size
 have hH:=hs.hold
 have Ef:=hs.get At.head
 repeat' (first|refine Sd ?_|(refine st hs (k:=?_);intro w hs)|fail)
 have AT:=hs.AB [b5] (fun e he=>by
  rcases List.mem_cons.1 he with rfl | he
  ·exact .inr (.inl (by simp))
  ·exact .inr (.inr (hH e (List.mem_cons_of_mem _ he)))) (by simp [D0])
 replace hs:=hs.FH
 simp only [List.map_cons,List.map_nil] at hs
 replace hO:=hO.FN AT Ef GY
 replace Am:=Am.step AT (fun k hk => .inr (by obtain rfl:=List.mem_singleton.1 hk;omega))
 clear hH Ef
 refine IW [] hs (k:=?_);clear hs;intro hX w CP hs
 replace hO:=hO.only CP
 replace Am:=Am.step CP (by simp)
 refine tks 0 8 ?_
 refine dt 8 hX (k:=?_)
 refine cl (h:=by exact Fv tb rb _ (({ x with w:=IntKind.u32.wrap q })) _ hO.s.t hy.1) (k:=?_)
 rintro v12 w12 ⟨rfl,GD,By⟩
 have I1:=hO.s.t
 obtain ⟨KS,IY,M9,Ex,_⟩:=I1
 replace hs:=hs.EC By (fun k hk=>by obtain rfl:=List.mem_singleton.1 hk;exact hs.I2 GY Ex)
 replace hO:=hO.JW GD By (hO.s.ok.Bu hy)
 replace Am:=Am.step By (fun k hk => .inl (by obtain rfl:=List.mem_singleton.1 hk;simp [CJ]))
 refine XS.nil ?_
 refine dn (k:=?_)
 refine en (k:=?_)
 refine Ja ?_
 refine cl (h:=by exact Hp { x with w:=IntKind.u32.wrap q } _) (k:=?_)
 rintro v13 Jt ⟨rfl,J9⟩
 replace hs:=hs.JR J9
 replace hO:=hO.only J9
 replace Am:=Am.step J9 (by simp)
 rw [kN]
 cases Zm:BK x with
 | false =>
   rw [if_pos rfl]
   refine Je ?_
   refine AG ?_
   have Aq:=hs.AB [] (fun e he => .inr (.inr (hs.hold e he))) (by simp [D0])
   exact ⟨rfl,fun _=>⟨_,(hO.only Aq).at,fun k hk => .inl hk⟩,Am.step Aq (by simp)⟩
 | true =>
   rw [if_neg (by simp)]
   have Ki:=hO.place (x:={ x with w:=IntKind.u32.wrap q }) hy jU
   obtain ⟨n,e,g,cap,cur,GH,hlt,he,hC,hce,rfl,hg,Fw,X5,hR,_,_,_,hcb⟩:=Ki
   rw [tV] at GH
   have KL:AF s n=e.c:=hce
   rw [GH,KL]
   obtain ⟨xi,xt,xc,xw,Cm,xl⟩:=x
   simp only at GH
   subst GH
   simp only at hs
   have k5:=hs.get (b:=b5) (by repeat (first | exact At.head | (with_reducible apply At.tail)))
   have k3:=hs.get (b:=b3) (by repeat (first | exact At.head | (with_reducible apply At.tail)))
   clear hs
   have hs:=((((St.nil Jt).AE k3).AE hg).AE hO.s.o).AE hO.h |>.AE k5
   refine Jl ?_
   have IZ:Cv (BH (Be e.c id (IntKind.u32.wrap q)).1 (Be e.c id (IntKind.u32.wrap q)).2 .none):=Cv.none.try (Kw hR id _)
   have hkn:=Hg (e:=(Be e.c id (IntKind.u32.wrap q)).1) (r1 := .none) (Kw hR id (IntKind.u32.wrap q))
   have eC:Dg ⟨Bk s { id:=xi,st:=xt,core:=n,w:=IntKind.u32.wrap q,slice:=Cm,lag:=xl },[]⟩ n ((Be e.c id (IntKind.u32.wrap q)).1,(Be e.c id (IntKind.u32.wrap q)).2,.none)=if (Be e.c id (IntKind.u32.wrap q)).1=0 then (0,Ay ⟨BF (Bk s { id:=xi,st:=xt,core:=n,w:=IntKind.u32.wrap q,slice:=Cm,lag:=xl }) n (Bh e.c (Be e.c id (IntKind.u32.wrap q)).1 (Be e.c id (IntKind.u32.wrap q)).2),[]⟩ n (BH (Be e.c id (IntKind.u32.wrap q)).1 (Be e.c id (IntKind.u32.wrap q)).2 .none)) else ((Be e.c id (IntKind.u32.wrap q)).1,⟨Bk s { id:=xi,st:=xt,core:=n,w:=IntKind.u32.wrap q,slice:=Cm,lag:=xl },[]⟩):=by rw [← KL];rfl
   rw [eC]
   generalize hrp:BH (Be e.c id (IntKind.u32.wrap q)).1 (Be e.c id (IntKind.u32.wrap q)).2 .none=rp at IZ hkn
   refine Bg (fun (y:Nat × Value × Value × List Ce)=>[(0,.pointer (some ⟨hb,0,none⟩)),(5,.pointer (some ⟨b5,0,none⟩)),(8,.pointer (some ⟨y.1,0,none⟩)),(9,.int .i64 (Be e.c id (IntKind.u32.wrap q)).1)])
    (fun y w=>w.heap[b5]?=some (OA { id:=xi,st:=xt,core:=n,w:=IntKind.u32.wrap q,slice:=Cm,lag:=xl })∧w.heap[y.1]?=some (Kl y.2.1 y.2.2.1)∧Af Jt w hb sb tb rb (.slice (some ⟨g,0,none⟩) L.length cap) ve ⟨BF (Bk s { id:=xi,st:=xt,core:=n,w:=IntKind.u32.wrap q,slice:=Cm,lag:=xl }) n (Bh e.c (Be e.c id (IntKind.u32.wrap q)).1 (Be e.c id (IntKind.u32.wrap q)).2),[]⟩ L y.2.2.2 G Ge (.agg #[y.2.1,y.2.2.1]) rp) ?_ ?_
   ·skip
    refine IW [] hs (k:=?_);clear hs;intro hX w BA hs
    refine tks 0 9 ?_
    refine tk 9 hX (hr:=fun w' hH=>BJ AJ rfl rfl rfl (by show (0:Int)≤(n:Int);omega) (by show (n:Int) < _;omega)) (k:=?_)
    refine tk 10 hX (hr:=fun w' hH=>r_load AJ rfl rfl (hH rfl) (by repeat (first | exact At.head | (with_reducible apply At.tail))) (by simpa using Fw)) (k:=?_)
    refine tks 11 3 ?_
    refine HZ 14 18 hX (h1:=?_) (h2:=?_)
    ·skip
     refine cl (h:=by exact SN e.cb e.c e.F id (IntKind.u32.wrap q) _ (hC.only BA) hid hwu) (k:=?_)
     rintro v1 w2 ⟨rv,rfl,T⟩
     have hf:=T.form
     rw [hrp] at hf
     obtain ⟨ag,cg,ap,cp,rfl⟩:=hf
     obtain ⟨L',hA⟩:=C2 (hO.only BA) he T BA
     rw [hrp] at hA
     replace hs:=hs.EC T.2.2 (fun k hk=>by obtain rfl:=List.mem_singleton.1 hk;exact hs.Es (BA.block hcb (by simp)))
     refine XS.nil ?_
     refine dn (k:=?_)
     refine tks 15 3 ?_
     refine dt 18 hX (k:=?_)
     refine Fg hs (k:=?_);clear hs;intro b6 w6 Aq z6 hs
     have y6:(Jt).heap.size≤b6:=Nat.le_trans (AA.size hA.o) z6
     replace hA:=hA.keep Aq
     refine XS.nil ?_
     refine dn (k:=?_)
     refine dt 19 hX (k:=?_)
     have q6:=hs.get (b:=b6) (by repeat (first | exact At.head | (with_reducible apply At.tail)))
     refine Dq hs (k:=?_);clear hs;intro JX DA hs
     replace hA:=hA.store DA q6 rfl (by decide) (by decide) y6
     refine XS.nil ?_
     refine dn (k:=?_)
     refine tk 20 hX (k:=?_)
     refine en (k:=?_)
     have r3:=hs.get (b:=b5) (by repeat (first | exact At.head | (with_reducible apply At.tail)))
     have r6:=hs.get (b:=b6) (by repeat (first | exact At.head | (with_reducible apply At.tail)))
     exact AQ (b6,.slice ag rp.g.length cg,.slice ap rp.p.length cp,L') Ae ⟨r3,r6,hA⟩
    ·skip
     refine Fg hs (k:=?_);clear hs;intro b6 w6 Aq z6 hs
     have y6:(Jt).heap.size≤b6:=Nat.le_trans (AA.size BA) z6
     replace BA:=BA.trans Aq
     refine XS.nil ?_
     refine dn (k:=?_)
     refine dt 14 hX (k:=?_)
     refine cl (h:=by exact SN e.cb e.c e.F id (IntKind.u32.wrap q) _ (hC.only BA) hid hwu) (k:=?_)
     rintro v1 w2 ⟨rv,rfl,T⟩
     have hf:=T.form
     rw [hrp] at hf
     obtain ⟨ag,cg,ap,cp,rfl⟩:=hf
     obtain ⟨L',hA⟩:=C2 (hO.only BA) he T BA
     rw [hrp] at hA
     replace hs:=hs.EC T.2.2 (fun k hk=>by obtain rfl:=List.mem_singleton.1 hk;exact hs.Es (BA.block hcb (by simp)))
     refine XS.nil ?_
     refine dn (k:=?_)
     refine tks 15 3 ?_
     refine dt 19 hX (k:=?_)
     have q6:=hs.get (b:=b6) (by repeat (first | exact At.head | (with_reducible apply At.tail)))
     refine Dq hs (k:=?_);clear hs;intro JX DA hs
     replace hA:=hA.store DA q6 rfl (by decide) (by decide) y6
     refine XS.nil ?_
     refine dn (k:=?_)
     refine tk 20 hX (k:=?_)
     refine en (k:=?_)
     have r3:=hs.get (b:=b5) (by repeat (first | exact At.head | (with_reducible apply At.tail)))
     have r6:=hs.get (b:=b6) (by repeat (first | exact At.head | (with_reducible apply At.tail)))
     exact AQ (b6,.slice ag rp.g.length cg,.slice ap rp.p.length cp,L') Ae ⟨r3,r6,hA⟩
   ·skip
    rintro ⟨b6,vg,vp,L'⟩ env Mz ⟨k3,k6,hA⟩
    simp only at k6 hA
    clear hs
    have Lz:=hA.c.h
    have hs:=(((St.nil Mz).AE k3).AE k6).AE Lz
    have WE:=hA.p
    obtain ⟨_,_,_,_,M5,_,_⟩:=hA.p
    cases M5
    have tU:=Am.size
    generalize (Be e.c id (IntKind.u32.wrap q))=J at *
    by_cases hJ:J.1=0
    ·rw [if_pos hJ]
     rw [hJ] at hA ⊢
     refine Je ?_
     have hoq:=hs.AB [] (by simp [k3,k6,Lz]) (by simp [D0])
     refine cl (h:=by exact G0 hb _ _ n _ rp _ (hA.c.only hoq).at (WE.GL hoq (by simp)) IZ (by have:=hkn.1;have:=hkn.2;have e1:Rp.none.p.length=0:=rfl;have e2:Rp.none.g.length=0:=rfl;have e3:([]:List Ev).length=0:=rfl;simp only at *;omega)) (k:=?_)
     rintro v25 w25 ⟨tT,Na,Ns,KE⟩
     have PN:=hA.o.size
     have FA:=Am.step ((hA.o.step hoq (by simp)).step KE hA.f) (fun k hk => .inl hk)
     have Mt:=Ie hA.f Ns (show (Jt).heap.size≤_ by omega)
     clear hs
     have hs:=St.nil w25
     refine Ja ?_
     refine AG ?_
     have DH:=hs.AD rfl
     exact ⟨rfl,fun _=>⟨_,Na.only DH,fun k hk=>by
      rcases Mt k hk with q | q
      ·exact .inl q
      ·exact .inr om⟩,FA.step DH (by simp)⟩
    ·rw [if_neg hJ]
     repeat' (first|refine Sa ?_|refine Ax rfl (fun hc=>?_) fun hc=>?_|fail)
     ·exact absurd (by simpa using hc) hJ
     ·refine AG ?_
      have DH:=hs.AB [] (by simp [k3,k6,Lz]) (by simp [D0])
      exact ⟨rfl,fun q=>absurd q hJ,(Am.step (hA.o.step DH (by simp)) (fun k hk => .inl hk))⟩
theorem YT (b2 b3 hb:Nat) (s:Sy) (F:List Nat) (x:Tk) (id q:Int) (w0:World) (h:Dv w0 hb ⟨s,[]⟩ F) (hid:In64 id) (hq:BL q) (B2:w0.heap[b2]?=some (.cells #[.int .u64 q] 22 (0,0))) (B3:w0.heap[b3]?=some (.cells #[.int .i64 id] 3 (0,0))) (hx:CV s.cf.cores x) (hn:x.st≠0) :
 AO Tryz.prog 76 #[.pointer (some ⟨hb,0,none⟩),Jr x,.pointer (some ⟨b2,0,none⟩),.pointer (some ⟨b3,0,none⟩)] w0 fun v w'=>v = .int .i64 (Dy ⟨s,[]⟩ x id q).1∧KP w0 hb (Dy ⟨s,[]⟩ x id q).1 (Dy ⟨s,[]⟩ x id q).2 F w':=by
 obtain ⟨sb,tb,rb,v,ve,L,G,Ge,rfl,hO⟩:=h.FB
 have aD:=hO.s.t.Rr.2
 have eX:Dy ⟨s,[]⟩ x id q=if Ar q (DO s.cf.slice)≠0 then (Ar q (DO s.cf.slice),⟨s,[]⟩) else if BK x=false then (0,⟨Bk s { x with slice:=q },[]⟩) else Dg ⟨Bk s { x with slice:=q },[]⟩ x.core ((Bf (AF s x.core) id q).1,(Bf (AF s x.core) id q).2,.none):=rfl
 rw [eX]
 have hs:=(((St.nil w0).AE B2).AE B3).AE hO.s.o |>.AE hO.h
 have Am:AA (CJ hb sb tb rb L G Ge) w0 w0:=(AA.refl [] w0).weaken (by simp)
 refine AR Tryz.func76 Tryz.ntmps76 (k:=?_)
 refine Ai ?_
 refine Ao ?_
 refine HP hs (k:=?_);clear hs;intro b5 w1 AK z1 hs
 replace hO:=hO.only AK
 replace Am:=Am.step AK (by simp)
 have GY:b5≠rb:=by omega
 refine Jc ?_
 refine IW [] hs (k:=?_);clear hs;intro hX w CP hs
 replace hO:=hO.only CP
 replace Am:=Am.step CP (by simp)
 refine tks 0 8 ?_
 refine dt 8 hX (k:=?_)
 refine cl (h:=by exact PR s.cf q _) (k:=?_)
 rintro v2 w2 ⟨rfl,AM⟩
 replace hs:=hs.JR AM
 replace hO:=hO.only AM
 replace Am:=Am.step AM (by simp)
 refine XS.nil ?_
 refine dn (k:=?_)
 refine tk 9 hX (k:=?_)
 refine en (k:=?_)
 by_cases he:Ar q (DO s.cf.slice)≠0
 ·rw [if_pos he]
  generalize Ar q (DO s.cf.slice)=ee at *
  repeat' (first|refine Sa ?_|(refine st hs (k:=?_);intro w hs)|refine xc_cond rfl (fun hc=>?_) fun hc=>?_|fail)
  ·refine AG ?_
   exact ⟨rfl,fun z=>absurd z he,Am.step (hs.AB [] (fun e he => .inr (.inr (hs.hold e he))) (by simp [D0])) (by simp)⟩
  ·exact absurd (by simpa using hc) he
 have XK:Ar q (DO s.cf.slice)=0:=by
  rcases Classical.em (Ar q (DO s.cf.slice)=0) with z | z
  ·exact z
  ·exact absurd z he
 rw [if_neg he,XK]
 have hy:CV s.cf.cores { x with slice:=q }:=⟨hx.1,hx.2.1,hx.2.2.1,hx.2.2.2.1,hq,hx.2.2.2.2.2⟩
 have jU:({ x with slice:=q }:Tk).st≠0:=hn
 have kN:BK { x with slice:=q }=BK x:=rfl
 have tV:({ x with slice:=q }:Tk).core=x.core:=rfl
 have z2:=Am.size
 have hH:=hs.hold
 have Ef:=hs.get At.head
 repeat' (first|refine Sd ?_|(refine st hs (k:=?_);intro w hs)|fail)
 have AT:=hs.AB [b5] (fun e he=>by
  rcases List.mem_cons.1 he with rfl | he
  ·exact .inr (.inl (by simp))
  ·exact .inr (.inr (hH e (List.mem_cons_of_mem _ he)))) (by simp [D0])
 replace hs:=hs.FH
 simp only [List.map_cons,List.map_nil] at hs
 replace hO:=hO.FN AT Ef GY
 replace Am:=Am.step AT (fun k hk => .inr (by obtain rfl:=List.mem_singleton.1 hk;omega))
 clear hH Ef
 refine IW [] hs (k:=?_);clear hs;intro hX w CP hs
 replace hO:=hO.only CP
 replace Am:=Am.step CP (by simp)
 refine tks 0 8 ?_
 refine dt 8 hX (k:=?_)
 refine cl (h:=by exact Fv tb rb _ (({ x with slice:=q })) _ hO.s.t hy.1) (k:=?_)
 rintro v12 w12 ⟨rfl,GD,By⟩
 have I1:=hO.s.t
 obtain ⟨KS,IY,M9,Ex,_⟩:=I1
 replace hs:=hs.EC By (fun k hk=>by obtain rfl:=List.mem_singleton.1 hk;exact hs.I2 GY Ex)
 replace hO:=hO.JW GD By (hO.s.ok.Bu hy)
 replace Am:=Am.step By (fun k hk => .inl (by obtain rfl:=List.mem_singleton.1 hk;simp [CJ]))
 refine XS.nil ?_
 refine dn (k:=?_)
 refine en (k:=?_)
 refine Ja ?_
 refine cl (h:=by exact Hp { x with slice:=q } _) (k:=?_)
 rintro v13 Jt ⟨rfl,J9⟩
 replace hs:=hs.JR J9
 replace hO:=hO.only J9
 replace Am:=Am.step J9 (by simp)
 rw [kN]
 cases Zm:BK x with
 | false =>
   rw [if_pos rfl]
   refine Je ?_
   refine AG ?_
   have Aq:=hs.AB [] (fun e he => .inr (.inr (hs.hold e he))) (by simp [D0])
   exact ⟨rfl,fun _=>⟨_,(hO.only Aq).at,fun k hk => .inl hk⟩,Am.step Aq (by simp)⟩
 | true =>
   rw [if_neg (by simp)]
   have Ki:=hO.place (x:={ x with slice:=q }) hy jU
   obtain ⟨n,e,g,cap,cur,GH,hlt,he,hC,hce,rfl,hg,Fw,X5,hR,_,_,_,hcb⟩:=Ki
   rw [tV] at GH
   have KL:AF s n=e.c:=hce
   rw [GH,KL]
   obtain ⟨xi,xt,xc,xw,Cm,xl⟩:=x
   simp only at GH
   subst GH
   simp only at hs
   have k5:=hs.get (b:=b5) (by repeat (first | exact At.head | (with_reducible apply At.tail)))
   have k3:=hs.get (b:=b3) (by repeat (first | exact At.head | (with_reducible apply At.tail)))
   have k2:=hs.get (b:=b2) (by repeat (first | exact At.head | (with_reducible apply At.tail)))
   clear hs
   have hs:=(((((St.nil Jt).AE k2).AE k3).AE hg).AE hO.s.o).AE hO.h |>.AE k5
   refine Jl ?_
   have IZ:Cv (BH (Bf e.c id q).1 (Bf e.c id q).2 .none):=Cv.none.try (LH hR id q)
   have hkn:=Hg (e:=(Bf e.c id q).1) (r1 := .none) (LH hR id q)
   have eC:Dg ⟨Bk s { id:=xi,st:=xt,core:=n,w:=xw,slice:=q,lag:=xl },[]⟩ n ((Bf e.c id q).1,(Bf e.c id q).2,.none)=if (Bf e.c id q).1=0 then (0,Ay ⟨BF (Bk s { id:=xi,st:=xt,core:=n,w:=xw,slice:=q,lag:=xl }) n (Bh e.c (Bf e.c id q).1 (Bf e.c id q).2),[]⟩ n (BH (Bf e.c id q).1 (Bf e.c id q).2 .none)) else ((Bf e.c id q).1,⟨Bk s { id:=xi,st:=xt,core:=n,w:=xw,slice:=q,lag:=xl },[]⟩):=by rw [← KL];rfl
   rw [eC]
   generalize hrp:BH (Bf e.c id q).1 (Bf e.c id q).2 .none=rp at IZ hkn
   refine Bg (fun (y:Nat × Value × Value × List Ce)=>[(0,.pointer (some ⟨hb,0,none⟩)),(5,.pointer (some ⟨b5,0,none⟩)),(8,.pointer (some ⟨y.1,0,none⟩)),(9,.int .i64 (Bf e.c id q).1)])
    (fun y w=>w.heap[b5]?=some (OA { id:=xi,st:=xt,core:=n,w:=xw,slice:=q,lag:=xl })∧w.heap[y.1]?=some (Kl y.2.1 y.2.2.1)∧Af Jt w hb sb tb rb (.slice (some ⟨g,0,none⟩) L.length cap) ve ⟨BF (Bk s { id:=xi,st:=xt,core:=n,w:=xw,slice:=q,lag:=xl }) n (Bh e.c (Bf e.c id q).1 (Bf e.c id q).2),[]⟩ L y.2.2.2 G Ge (.agg #[y.2.1,y.2.2.1]) rp) ?_ ?_
   ·skip
    refine IW [] hs (k:=?_);clear hs;intro hX w BA hs
    refine tks 0 9 ?_
    refine tk 9 hX (hr:=fun w' hH=>BJ AJ rfl rfl rfl (by show (0:Int)≤(n:Int);omega) (by show (n:Int) < _;omega)) (k:=?_)
    refine tk 10 hX (hr:=fun w' hH=>r_load AJ rfl rfl (hH rfl) (by repeat (first | exact At.head | (with_reducible apply At.tail))) (by simpa using Fw)) (k:=?_)
    refine tks 11 2 ?_
    refine HZ 13 17 hX (h1:=?_) (h2:=?_)
    ·skip
     refine cl (h:=by exact U8 e.cb e.c e.F id q _ (hC.only BA) hid hq) (k:=?_)
     rintro v1 w2 ⟨rv,rfl,T⟩
     have hf:=T.form
     rw [hrp] at hf
     obtain ⟨ag,cg,ap,cp,rfl⟩:=hf
     obtain ⟨L',hA⟩:=C2 (hO.only BA) he T BA
     rw [hrp] at hA
     replace hs:=hs.EC T.2.2 (fun k hk=>by obtain rfl:=List.mem_singleton.1 hk;exact hs.Es (BA.block hcb (by simp)))
     refine XS.nil ?_
     refine dn (k:=?_)
     refine tks 14 3 ?_
     refine dt 17 hX (k:=?_)
     refine Fg hs (k:=?_);clear hs;intro b6 w6 Aq z6 hs
     have y6:(Jt).heap.size≤b6:=Nat.le_trans (AA.size hA.o) z6
     replace hA:=hA.keep Aq
     refine XS.nil ?_
     refine dn (k:=?_)
     refine dt 18 hX (k:=?_)
     have q6:=hs.get (b:=b6) (by repeat (first | exact At.head | (with_reducible apply At.tail)))
     refine Dq hs (k:=?_);clear hs;intro JX DA hs
     replace hA:=hA.store DA q6 rfl (by decide) (by decide) y6
     refine XS.nil ?_
     refine dn (k:=?_)
     refine tk 19 hX (k:=?_)
     refine en (k:=?_)
     have r3:=hs.get (b:=b5) (by repeat (first | exact At.head | (with_reducible apply At.tail)))
     have r6:=hs.get (b:=b6) (by repeat (first | exact At.head | (with_reducible apply At.tail)))
     exact AQ (b6,.slice ag rp.g.length cg,.slice ap rp.p.length cp,L') Ae ⟨r3,r6,hA⟩
    ·skip
     refine Fg hs (k:=?_);clear hs;intro b6 w6 Aq z6 hs
     have y6:(Jt).heap.size≤b6:=Nat.le_trans (AA.size BA) z6
     replace BA:=BA.trans Aq
     refine XS.nil ?_
     refine dn (k:=?_)
     refine dt 13 hX (k:=?_)
     refine cl (h:=by exact U8 e.cb e.c e.F id q _ (hC.only BA) hid hq) (k:=?_)
     rintro v1 w2 ⟨rv,rfl,T⟩
     have hf:=T.form
     rw [hrp] at hf
     obtain ⟨ag,cg,ap,cp,rfl⟩:=hf
     obtain ⟨L',hA⟩:=C2 (hO.only BA) he T BA
     rw [hrp] at hA
     replace hs:=hs.EC T.2.2 (fun k hk=>by obtain rfl:=List.mem_singleton.1 hk;exact hs.Es (BA.block hcb (by simp)))
     refine XS.nil ?_
     refine dn (k:=?_)
     refine tks 14 3 ?_
     refine dt 18 hX (k:=?_)
     have q6:=hs.get (b:=b6) (by repeat (first | exact At.head | (with_reducible apply At.tail)))
     refine Dq hs (k:=?_);clear hs;intro JX DA hs
     replace hA:=hA.store DA q6 rfl (by decide) (by decide) y6
     refine XS.nil ?_
     refine dn (k:=?_)
     refine tk 19 hX (k:=?_)
     refine en (k:=?_)
     have r3:=hs.get (b:=b5) (by repeat (first | exact At.head | (with_reducible apply At.tail)))
     have r6:=hs.get (b:=b6) (by repeat (first | exact At.head | (with_reducible apply At.tail)))
     exact AQ (b6,.slice ag rp.g.length cg,.slice ap rp.p.length cp,L') Ae ⟨r3,r6,hA⟩
   ·skip
    rintro ⟨b6,vg,vp,L'⟩ env Mz ⟨k3,k6,hA⟩
    simp only at k6 hA
    clear hs
    have Lz:=hA.c.h
    have hs:=(((St.nil Mz).AE k3).AE k6).AE Lz
    have WE:=hA.p
    obtain ⟨_,_,_,_,M5,_,_⟩:=hA.p
    cases M5
    have tU:=Am.size
    generalize (Bf e.c id q)=J at *
    by_cases hJ:J.1=0
    ·rw [if_pos hJ]
     rw [hJ] at hA ⊢
     refine Je ?_
     have hoq:=hs.AB [] (by simp [k3,k6,Lz]) (by simp [D0])
     refine cl (h:=by exact G0 hb _ _ n _ rp _ (hA.c.only hoq).at (WE.GL hoq (by simp)) IZ (by have:=hkn.1;have:=hkn.2;have e1:Rp.none.p.length=0:=rfl;have e2:Rp.none.g.length=0:=rfl;have e3:([]:List Ev).length=0:=rfl;simp only at *;omega)) (k:=?_)
     rintro v25 w25 ⟨tT,Na,Ns,KE⟩
     have PN:=hA.o.size
     have FA:=Am.step ((hA.o.step hoq (by simp)).step KE hA.f) (fun k hk => .inl hk)
     have Mt:=Ie hA.f Ns (show (Jt).heap.size≤_ by omega)
     clear hs
     have hs:=St.nil w25
     refine Ja ?_
     refine AG ?_
     have DH:=hs.AD rfl
     exact ⟨rfl,fun _=>⟨_,Na.only DH,fun k hk=>by
      rcases Mt k hk with q | q
      ·exact .inl q
      ·exact .inr om⟩,FA.step DH (by simp)⟩
    ·rw [if_neg hJ]
     repeat' (first|refine Sa ?_|refine Ax rfl (fun hc=>?_) fun hc=>?_|fail)
     ·exact absurd (by simpa using hc) hJ
     ·refine AG ?_
      have DH:=hs.AB [] (by simp [k3,k6,Lz]) (by simp [D0])
      exact ⟨rfl,fun q=>absurd q hJ,(Am.step (hA.o.step DH (by simp)) (fun k hk => .inl hk))⟩
theorem bO (b2 hb:Nat) (s:Sy) (F:List Nat) (x:Tk) (id:Int) (w0:World) (h:Dv w0 hb ⟨s,[]⟩ F) (hid:In64 id) (B2:w0.heap[b2]?=some (.cells #[.int .i64 id] 3 (0,0))) (hx:CV s.cf.cores x) (hn:x.st≠0) :
 AO Tryz.prog 72 #[.pointer (some ⟨hb,0,none⟩),Jr x,.pointer (some ⟨b2,0,none⟩)] w0 fun v w'=>v = .int .i64 (EX ⟨s,[]⟩ x id).1∧KP w0 hb (EX ⟨s,[]⟩ x id).1 (EX ⟨s,[]⟩ x id).2 F w':=by
 obtain ⟨sb,tb,rb,v,ve,L,G,Ge,rfl,hO⟩:=h.FB
 have aD:=hO.s.t.Rr.2
 have eX:EX ⟨s,[]⟩ x id=if x.st=1 then (6,⟨s,[]⟩) else if x.st=3 then E0 ⟨Bk s { x with st:=1 },[]⟩ { x with st:=1 } x.lag else Df ⟨s,[]⟩ { x with st:=1 } ((CE (AF s x.core) id).1,(CE (AF s x.core) id).2,.none):=rfl
 rw [eX]
 have hs:=((St.nil w0).AE B2).AE hO.s.o |>.AE hO.h
 have Am:AA (CJ hb sb tb rb L G Ge) w0 w0:=(AA.refl [] w0).weaken (by simp)
 refine AR Tryz.func72 Tryz.ntmps72 (k:=?_)
 refine Ai ?_
 refine Ao ?_
 refine HP hs (k:=?_);clear hs;intro b4 w1 AK z1 hs
 replace hO:=hO.only AK
 replace Am:=Am.step AK (by simp)
 have GY:b4≠rb:=by omega
 have hy:CV s.cf.cores { x with st:=1 }:=hx.st hn om
 have jU:({ x with st:=1 }:Tk).st≠0:=(by decide:(1:Int)≠0)
 have tV:({ x with st:=1 }:Tk).core=x.core:=rfl
 have hxl:=hx.2.2.2.2.2.1
 have z2:=Am.size
 have hH:=hs.hold
 have Ef:=hs.get At.head
 have stop1:∀ (w':World) (H':List CB),St w1 D0 ((b4,.cells #[.int .i64 x.id,.int .u8 1,.int .i64 x.core,.int .u32 x.w,.int .u64 x.slice,.int .i64 x.lag] 51 (0,0),false) :: H') w'→(∀ e∈H',w1.heap[e.1]?=some e.2.1)→AA [b4] w1 w':=fun w' H' h hh=>h.AB [b4] (fun e he=>by
  rcases List.mem_cons.1 he with rfl | he
  ·exact .inr (.inl (by simp))
  ·exact .inr (.inr (hh e he))) (by simp [D0])
 by_cases s1:x.st=1
 ·rw [if_pos s1]
  obtain ⟨xi,xt,xc,xw,Cm,xl⟩:=x
  simp only at s1
  subst s1
  repeat' (first|refine Sc ?_|(refine st hs (k:=?_);intro w hs)|fail)
  refine AG ?_
  have Aq:=stop1 _ _ hs (fun e he=>hH e (List.mem_cons_of_mem _ he))
  exact ⟨rfl,fun z=>absurd z (show ¬ (6:Int)=0 by decide),Am.step Aq (fun k hk => .inr (by obtain rfl:=List.mem_singleton.1 hk;omega))⟩
 rw [if_neg s1]
 by_cases s3:x.st=3
 ·rw [if_pos s3]
  obtain ⟨xi,xt,xc,xw,Cm,xl⟩:=x
  simp only at s3
  subst s3
  clear hH Ef
  have hH:=hs.hold
  have Ef:=hs.get At.head
  repeat' (first|refine vs (k:=?_)|refine Ao ?_|refine Nx.h ?_|refine FY ?_|refine FD ?_|(refine st hs (k:=?_);intro w hs)|fail)
  have AT:=hs.AB [b4] (fun e he=>by
   rcases List.mem_cons.1 he with rfl | he
   ·exact .inr (.inl (by simp))
   ·exact .inr (.inr (hH e (List.mem_cons_of_mem _ he)))) (by simp [D0])
  replace hs:=hs.FH
  simp only [List.map_cons,List.map_nil] at hs
  replace hO:=hO.FN AT Ef GY
  replace Am:=Am.step AT (fun k hk => .inr (by obtain rfl:=List.mem_singleton.1 hk;omega))
  clear hH Ef
  refine IW [] hs (k:=?_);clear hs;intro hX w CP hs
  replace hO:=hO.only CP
  replace Am:=Am.step CP (by simp)
  refine tks 0 8 ?_
  refine dt 8 hX (k:=?_)
  refine cl (h:=by exact Fv tb rb _ (({ id:=xi,st:=1,core:=xc,w:=xw,slice:=Cm,lag:=xl }:Tk)) _ hO.s.t hy.1) (k:=?_)
  rintro v12 w12 ⟨rfl,GD,By⟩
  have I1:=hO.s.t
  obtain ⟨KS,IY,M9,Ex,_⟩:=I1
  replace hs:=hs.EC By (fun k hk=>by obtain rfl:=List.mem_singleton.1 hk;exact hs.I2 GY Ex)
  replace hO:=hO.JW GD By (hO.s.ok.Bu hy)
  replace Am:=Am.step By (fun k hk => .inl (by obtain rfl:=List.mem_singleton.1 hk;simp [CJ]))
  refine XS.nil ?_
  refine dn (k:=?_)
  refine en (k:=?_)
  have EM:∀ k∈CJ hb sb tb rb L G Ge,k∈CJ hb sb tb rb L G Ge∨w0.heap.size≤k:=fun k hk => .inl hk
  refine Ja ?_
  refine cl (h:=by exact PZ hb ⟨Bk s { id:=xi,st:=1,core:=xc,w:=xw,slice:=Cm,lag:=xl },[]⟩ _ { id:=xi,st:=1,core:=xc,w:=xw,slice:=Cm,lag:=xl } xl _ hO.at hy jU hxl (by simp)) (k:=?_)
  rintro v25 w25 ⟨rfl,pS,KE⟩
  have aBk:=Am.size
  replace Am:=Am.step KE (fun k hk => .inl hk)
  clear hs
  have hs:=St.nil w25
  refine Jc ?_
  refine AG ?_
  have DH:=hs.AD rfl
  refine ⟨rfl,fun e0=>?_,Am.step DH (by simp)⟩
  obtain ⟨F',h1,h2⟩:=pS e0
  exact ⟨F',h1.only DH,fun k hk=>by
   rcases h2 k hk with q | q
   ·exact .inl q
   ·exact .inr om⟩
 rw [if_neg s3]
 have Ki:=hO.place (x:=x) hx hn
 obtain ⟨n,e,g,cap,cur,GH,hlt,he,hC,hce,rfl,hg,Fw,X5,hR,_,_,_,hcb⟩:=Ki
 have KL:AF s n=e.c:=hce
 have eC:∀ y:Tk,y.core=(n:Int)→Df ⟨s,[]⟩ y ((CE e.c id).1,(CE e.c id).2,.none)=if (CE e.c id).1=0 then (0,Ay ⟨Bk (BF s n (Bh e.c (CE e.c id).1 (CE e.c id).2)) y,[]⟩ n (BH (CE e.c id).1 (CE e.c id).2 .none)) else ((CE e.c id).1,⟨s,[]⟩):=fun y hy=>by
  unfold Df
  rw [hy,← KL]
 rw [GH,KL,eC { id:=x.id,st:=1,core:=(n:Int),w:=x.w,slice:=x.slice,lag:=x.lag } rfl]
 obtain ⟨xi,xt,xc,xw,Cm,xl⟩:=x
 simp only at GH s1 s3
 subst GH
 have IZ:Cv (BH (CE e.c id).1 (CE e.c id).2 .none):=Cv.none.try (MD hR id)
 have hkn:=Hg (e:=(CE e.c id).1) (r1 := .none) (MD hR id)
 generalize hrp:BH (CE e.c id).1 (CE e.c id).2 .none=rp at IZ hkn
 repeat' (first|refine Sa ?_|(refine st hs (k:=?_);intro w hs)|refine Ax rfl (fun hc=>?_) fun hc=>?_|fail)
 ·exact absurd (by simpa using hc) s1
 ·exact absurd (by simpa using hc) s3
 have AT:=stop1 _ _ hs (fun e he=>hH e (List.mem_cons_of_mem _ he))
 replace hO:=hO.FN AT Ef GY
 replace Am:=Am.step AT (fun k hk => .inr (by obtain rfl:=List.mem_singleton.1 hk;omega))
 have hnc:∀ k∈e.F,k∉[b4]:=fun k hk hm=>by
  obtain rfl:=List.mem_singleton.1 hm
  have:=hC.lt _ hk
  exact (hC.not Ef rfl) hk
 replace hC:=hC.Ah AT hnc
 replace hcb:=AT.block hcb (fun hm=>hnc _ hC.mem hm)
 replace hg:=AT.block hg (by simpa using A3 hg Ef (by decide))
 have k5:=hs.get (b:=b4) (by repeat (first | exact At.head | (with_reducible apply At.tail)))
 have k3:=hs.get (b:=b2) (by repeat (first | exact At.head | (with_reducible apply At.tail)))
 clear hs hH Ef stop1
 obtain ⟨Jt,rfl⟩:∃ z,z=w:=⟨_,rfl⟩
 have hs:=((((St.nil Jt).AE k3).AE hg).AE hO.s.o).AE hO.h |>.AE k5
 refine Bg (fun (y:Nat × Value × Value × List Ce)=>[(0,.pointer (some ⟨hb,0,none⟩)),(4,.pointer (some ⟨b4,0,none⟩)),(7,.pointer (some ⟨y.1,0,none⟩)),(8,.int .i64 (CE e.c id).1)])
  (fun y w=>w.heap[b4]?=some (OA { id:=xi,st:=1,core:=n,w:=xw,slice:=Cm,lag:=xl })∧w.heap[y.1]?=some (Kl y.2.1 y.2.2.1)∧Af Jt w hb sb tb rb (.slice (some ⟨g,0,none⟩) L.length cap) ve ⟨BF s n (Bh e.c (CE e.c id).1 (CE e.c id).2),[]⟩ L y.2.2.2 G Ge (.agg #[y.2.1,y.2.2.1]) rp) ?_ ?_
 ·skip
  refine IW [] hs (k:=?_);clear hs;intro hX w BA hs
  refine tks 0 9 ?_
  refine tk 9 hX (hr:=fun w' hH=>BJ AJ rfl rfl rfl (by show (0:Int)≤(n:Int);omega) (by show (n:Int) < _;omega)) (k:=?_)
  refine tk 10 hX (hr:=fun w' hH=>r_load AJ rfl rfl (hH rfl) (by repeat (first | exact At.head | (with_reducible apply At.tail))) (by simpa using Fw)) (k:=?_)
  refine tk 11 hX (k:=?_)
  refine HZ 12 16 hX (h1:=?_) (h2:=?_)
  ·skip
   refine cl (h:=by exact Wj e.cb e.c e.F id _ (hC.only BA) hid) (k:=?_)
   rintro v1 w2 ⟨rv,rfl,T⟩
   have hf:=T.form
   rw [hrp] at hf
   obtain ⟨ag,cg,ap,cp,rfl⟩:=hf
   obtain ⟨L',hA⟩:=C2 (hO.only BA) he T BA
   rw [hrp] at hA
   replace hs:=hs.EC T.2.2 (fun k hk=>by obtain rfl:=List.mem_singleton.1 hk;exact hs.Es (BA.block hcb (by simp)))
   refine XS.nil ?_
   refine dn (k:=?_)
   refine tks 13 3 ?_
   refine dt 16 hX (k:=?_)
   refine Fg hs (k:=?_);clear hs;intro b6 w6 Aq z6 hs
   have y6:(Jt).heap.size≤b6:=Nat.le_trans (AA.size hA.o) z6
   replace hA:=hA.keep Aq
   refine XS.nil ?_
   refine dn (k:=?_)
   refine dt 17 hX (k:=?_)
   have q6:=hs.get (b:=b6) (by repeat (first | exact At.head | (with_reducible apply At.tail)))
   refine Dq hs (k:=?_);clear hs;intro JX DA hs
   replace hA:=hA.store DA q6 rfl (by decide) (by decide) y6
   refine XS.nil ?_
   refine dn (k:=?_)
   refine tk 18 hX (k:=?_)
   refine en (k:=?_)
   have r3:=hs.get (b:=b4) (by repeat (first | exact At.head | (with_reducible apply At.tail)))
   have r6:=hs.get (b:=b6) (by repeat (first | exact At.head | (with_reducible apply At.tail)))
   exact AQ (b6,.slice ag rp.g.length cg,.slice ap rp.p.length cp,L') Ae ⟨r3,r6,hA⟩
  ·skip
   refine Fg hs (k:=?_);clear hs;intro b6 w6 Aq z6 hs
   have y6:(Jt).heap.size≤b6:=Nat.le_trans (AA.size BA) z6
   replace BA:=BA.trans Aq
   refine XS.nil ?_
   refine dn (k:=?_)
   refine dt 12 hX (k:=?_)
   refine cl (h:=by exact Wj e.cb e.c e.F id _ (hC.only BA) hid) (k:=?_)
   rintro v1 w2 ⟨rv,rfl,T⟩
   have hf:=T.form
   rw [hrp] at hf
   obtain ⟨ag,cg,ap,cp,rfl⟩:=hf
   obtain ⟨L',hA⟩:=C2 (hO.only BA) he T BA
   rw [hrp] at hA
   replace hs:=hs.EC T.2.2 (fun k hk=>by obtain rfl:=List.mem_singleton.1 hk;exact hs.Es (BA.block hcb (by simp)))
   refine XS.nil ?_
   refine dn (k:=?_)
   refine tks 13 3 ?_
   refine dt 17 hX (k:=?_)
   have q6:=hs.get (b:=b6) (by repeat (first | exact At.head | (with_reducible apply At.tail)))
   refine Dq hs (k:=?_);clear hs;intro JX DA hs
   replace hA:=hA.store DA q6 rfl (by decide) (by decide) y6
   refine XS.nil ?_
   refine dn (k:=?_)
   refine tk 18 hX (k:=?_)
   refine en (k:=?_)
   have r3:=hs.get (b:=b4) (by repeat (first | exact At.head | (with_reducible apply At.tail)))
   have r6:=hs.get (b:=b6) (by repeat (first | exact At.head | (with_reducible apply At.tail)))
   exact AQ (b6,.slice ag rp.g.length cg,.slice ap rp.p.length cp,L') Ae ⟨r3,r6,hA⟩
 ·rintro ⟨b6,vg,vp,L'⟩ env Mz ⟨k3,k6,hA⟩
  simp only at k6 hA
  clear hs hO
  have tU:=Am.size
  have hp:=hA.p
  obtain ⟨_,_,_,_,M5,_,_⟩:=hA.p
  cases M5
  have hO:=hA.c
  replace Am:=Am.step hA.o (fun k hk => .inl hk)
  have XD:∀ k∈CJ hb sb tb rb L' G Ge,k∈CJ hb sb tb rb L G Ge∨w0.heap.size≤k:=fun k hk=>by
   rcases hA.f k hk with q | q
   ·exact .inl q
   ·exact .inr om
  generalize CE e.c id=J at *
  have hs:=((((St.nil Mz).AE k6).AE hO.s.o).AE hO.h).AE k3
  by_cases hJ:J.1=0
  ·rw [if_pos hJ]
   rw [hJ] at hO ⊢
   refine Jd ?_
   refine IW [] hs (k:=?_);clear hs;intro hX w CP hs
   replace hO:=hO.only CP
   replace Am:=Am.step CP (by simp)
   refine tks 0 8 ?_
   refine dt 8 hX (k:=?_)
   refine cl (h:=by exact Fv tb rb _ (({ id:=xi,st:=1,core:=n,w:=xw,slice:=Cm,lag:=xl }:Tk)) _ hO.s.t hy.1) (k:=?_)
   rintro v12 w12 ⟨rfl,GD,By⟩
   have I1:=hO.s.t
   obtain ⟨KS,IY,M9,Ex,_⟩:=I1
   replace hs:=hs.EC By (fun k hk=>by obtain rfl:=List.mem_singleton.1 hk;exact hs.I2 GY Ex)
   replace hO:=hO.JW GD By (hO.s.ok.Bu hy)
   replace Am:=Am.step By (fun k hk => .inl (by obtain rfl:=List.mem_singleton.1 hk;simp [CJ]))
   refine XS.nil ?_
   refine dn (k:=?_)
   refine en (k:=?_)
   replace hp:=(hp.GL CP (by simp)).GL By (fun k hk=>⟨_,_,_,by obtain rfl:=List.mem_singleton.1 hk;exact Ex,by decide,by decide⟩)
   refine Ja ?_
   have Vl:=Am.size
   refine cl (h:=by exact G0 hb _ _ n _ rp _ hO.at hp IZ (by have:=hkn.1;have:=hkn.2;have e1:Rp.none.p.length=0:=rfl;have e2:Rp.none.g.length=0:=rfl;have e3:([]:List Ev).length=0:=rfl;simp only at *;omega)) (k:=?_)
   rintro v25 w25 ⟨tT,Na,Ns,KE⟩
   replace Am:=Am.step KE XD
   have Mt:=Ie XD Ns Vl
   clear hs
   have hs:=St.nil w25
   refine Ja ?_
   refine AG ?_
   have DH:=hs.AD rfl
   exact ⟨rfl,fun _=>⟨_,Na.only DH,Mt⟩,Am.step DH (by simp)⟩
  ·rw [if_neg hJ]
   generalize J.1=ee at *
   repeat' (first|refine Sa ?_|refine xc_cond rfl (fun hc=>?_) fun hc=>?_|fail)
   ·refine AG ?_
    have DH:=hs.AB [] (fun e he => .inr (.inr (hs.hold e he))) (by simp [D0])
    exact ⟨rfl,fun q=>absurd q hJ,Am.step DH (by simp)⟩
   ·exact absurd (by simpa using hc) hJ
theorem gH {c:Cs} (h:CI c) (id:Int):A7 (CA c id).2:=by
 obtain ⟨s,hs⟩:=h
 have h1:=NC hs id
 unfold CA
 cases A2 c.A.l id with
 | none=>exact OW
 | some a =>
   show A7 (if a.1.asleep=true then (false,(0:Int)) else if Cq c.A id < 0 then (false,Bj c.A id) else (true,Bj c.A id)).2
   split
   ·exact OW
   ·split <;> exact h1
theorem Yf (b2 hb:Nat) (s:Sy) (F:List Nat) (x:Tk) (id:Int) (w0:World) (h:Dv w0 hb ⟨s,[]⟩ F) (hid:In64 id) (B2:w0.heap[b2]?=some (.cells #[.int .i64 id] 3 (0,0))) (hx:CV s.cf.cores x) (hn:x.st≠0) :
 AO Tryz.prog 68 #[.pointer (some ⟨hb,0,none⟩),Jr x,.pointer (some ⟨b2,0,none⟩)] w0 fun v w'=>v = .int .i64 (GA ⟨s,[]⟩ x id).1∧KP w0 hb (GA ⟨s,[]⟩ x id).1 (GA ⟨s,[]⟩ x id).2 F w':=by
 obtain ⟨sb,tb,rb,v,ve,L,G,Ge,rfl,hO⟩:=h.FB
 have aD:=hO.s.t.Rr.2
 obtain ⟨n,e,g,cap,cur,GH,hlt,he,hC,hce,rfl,hg,Fw,X5,hR,_,_,_,hcb⟩:=hO.place hx hn
 have KL:AF s n=e.c:=hce
 have eX:GA ⟨s,[]⟩ x id=if x.st≠1 then (6,⟨s,[]⟩) else Df ⟨s,[]⟩ (if (CA (AF s x.core) id).1=true then { x with st:=3,lag:=Fa s.cf (CA (AF s x.core) id).2 x.slice } else { x with st:=2 }) ((B9 (AF s x.core) id).1,(B9 (AF s x.core) id).2,.none):=rfl
 rw [eX]
 have eC:∀ y:Tk,y.core=(n:Int)→Df ⟨s,[]⟩ y ((B9 e.c id).1,(B9 e.c id).2,.none)=if (B9 e.c id).1=0 then (0,Ay ⟨Bk (BF s n (Bh e.c (B9 e.c id).1 (B9 e.c id).2)) y,[]⟩ n (BH (B9 e.c id).1 (B9 e.c id).2 .none)) else ((B9 e.c id).1,⟨s,[]⟩):=fun y hy=>by
  unfold Df
  rw [hy,← KL]
 have hs:=(((St.nil w0).AE B2).AE hg).AE hO.s.o |>.AE hO.h
 have Am:AA (CJ hb sb tb rb L G Ge) w0 w0:=(AA.refl [] w0).weaken (by simp)
 refine AR Tryz.func68 Tryz.ntmps68 (k:=?_)
 refine Ai ?_
 refine Ao ?_
 refine HP hs (k:=?_);clear hs;intro b4 w1 AK z1 hs
 replace hO:=hO.only AK
 replace Am:=Am.step AK (by simp)
 replace hC:=hC.only AK
 replace hcb:=AK.block hcb (by simp)
 have GY:b4≠rb:=by omega
 obtain ⟨xi,xt,xc,xw,Cm,xl⟩:=x
 simp only at GH hn
 subst GH
 simp only
 by_cases s1:xt≠1
 ·rw [if_pos s1]
  repeat' (first|refine Sa ?_|refine xc_cond rfl (fun hc=>?_) fun hc=>?_|fail)
  ·refine AG ?_
   exact ⟨rfl,fun z=>absurd z (show ¬ (6:Int)=0 by decide),Am.step (hs.AB [] (fun e he => .inr (.inr (hs.hold e he))) (by simp [D0])) (by simp)⟩
  ·exact absurd (by simpa using hc) s1
 obtain rfl:xt=1:=by omega
 rw [if_neg (by simp),KL]
 have IZ:Cv (BH (B9 e.c id).1 (B9 e.c id).2 .none):=Cv.none.try (Kz hR id)
 have hkn:=Hg (e:=(B9 e.c id).1) (r1 := .none) (Kz hR id)
 have hsx:=gH hR id
 rw [eC _ (by split <;> rfl)]
 generalize hrp:BH (B9 e.c id).1 (B9 e.c id).2 .none=rp at IZ hkn
 refine Jd ?_
 refine Bg (fun (y:Nat × Nat × Value × Value × List Ce)=>[(0,.pointer (some ⟨hb,0,none⟩)),(4,.pointer (some ⟨b4,0,none⟩)),(6,.bool (CA e.c id).1),(7,.pointer (some ⟨y.1,0,none⟩)),(8,.pointer (some ⟨y.2.1,0,none⟩)),(9,.int .i64 (B9 e.c id).1)])
  (fun y w=>w.heap[b4]?=some (OA ⟨xi,1,n,xw,Cm,xl⟩)∧w.heap[y.1]?=some (HT (CA e.c id).2)∧w.heap[y.2.1]?=some (Kl y.2.2.1 y.2.2.2.1)∧Af w1 w hb sb tb rb (.slice (some ⟨g,0,none⟩) L.length cap) ve ⟨BF s n (Bh e.c (B9 e.c id).1 (B9 e.c id).2),[]⟩ L y.2.2.2.2 G Ge (.agg #[y.2.2.1,y.2.2.2.1]) rp) ?_ ?_
 ·refine IW [] hs (k:=?_);clear hs;intro hX w BA hs
  refine tks 0 9 ?_
  refine tk 9 hX (hr:=fun w' hH=>BJ AJ rfl rfl rfl (by show (0:Int)≤(n:Int);omega) (by show (n:Int) < _;omega)) (k:=?_)
  refine tk 10 hX (hr:=fun w' hH=>r_load AJ rfl rfl (hH rfl) (by repeat (first | exact At.head | (with_reducible apply At.tail))) (by simpa using Fw)) (k:=?_)
  refine tk 11 hX (k:=?_)
  refine l6 12 18 19 hX (h1:=?_) (h2:=?_) (h3:=?_)
  ·skip
   refine cl (h:=by exact J1 e.cb e.c e.F id _ (hC.only BA) hid) (k:=?_)
   rintro v1 w2 ⟨rv,rfl,T⟩
   have hf:=T.form
   rw [hrp] at hf
   obtain ⟨ag,cg,ap,cp,rfl⟩:=hf
   obtain ⟨L',hA⟩:=C2 (hO.only BA) he T BA
   rw [hrp] at hA
   replace hs:=hs.EC T.2.2 (fun k hk=>by obtain rfl:=List.mem_singleton.1 hk;exact hs.Es (BA.block hcb (by simp)))
   refine XS.nil ?_
   refine dn (k:=?_)
   refine tks 13 5 ?_
   refine HZ 18 19 hX (h1:=?_) (h2:=?_)
   ·skip
    refine Fg hs (k:=?_);clear hs;intro b5 w5 BY z5 hs
    have y5:(w1).heap.size≤b5:=Nat.le_trans (AA.size hA.o) z5
    replace hA:=hA.keep BY
    refine XS.nil ?_
    refine dn (k:=?_)
    refine dt 19 hX (k:=?_)
    refine Fg hs (k:=?_);clear hs;intro b6 w6 Aq z6 hs
    have y6:(w1).heap.size≤b6:=Nat.le_trans (AA.size hA.o) z6
    replace hA:=hA.keep Aq
    refine XS.nil ?_
    refine dn (k:=?_)
    refine tk 20 hX (k:=?_)
    refine dt 21 hX (k:=?_)
    have q5:=hs.get (b:=b5) (by repeat (first | exact At.head | (with_reducible apply At.tail)))
    refine Dq hs (k:=?_);clear hs;intro OH El hs
    replace hA:=hA.store El q5 rfl (by decide) (by decide) y5
    refine XS.nil ?_
    refine dn (k:=?_)
    refine dt 22 hX (k:=?_)
    have q6:=hs.get (b:=b6) (by repeat (first | exact At.head | (with_reducible apply At.tail)))
    refine Dq hs (k:=?_);clear hs;intro JX DA hs
    replace hA:=hA.store DA q6 rfl (by decide) (by decide) y6
    refine XS.nil ?_
    refine dn (k:=?_)
    refine tk 23 hX (k:=?_)
    refine en (k:=?_)
    have r3:=hs.get (b:=b4) (by repeat (first | exact At.head | (with_reducible apply At.tail)))
    have r5:=hs.get (b:=b5) (by repeat (first | exact At.head | (with_reducible apply At.tail)))
    have r6:=hs.get (b:=b6) (by repeat (first | exact At.head | (with_reducible apply At.tail)))
    exact AQ (b5,b6,.slice ag rp.g.length cg,.slice ap rp.p.length cp,L') Ae ⟨r3,r5,r6,hA⟩
   ·skip
    refine Fg hs (k:=?_);clear hs;intro b6 w6 Aq z6 hs
    have y6:(w1).heap.size≤b6:=Nat.le_trans (AA.size hA.o) z6
    replace hA:=hA.keep Aq
    refine XS.nil ?_
    refine dn (k:=?_)
    refine dt 18 hX (k:=?_)
    refine Fg hs (k:=?_);clear hs;intro b5 w5 BY z5 hs
    have y5:(w1).heap.size≤b5:=Nat.le_trans (AA.size hA.o) z5
    replace hA:=hA.keep BY
    refine XS.nil ?_
    refine dn (k:=?_)
    refine tk 20 hX (k:=?_)
    refine dt 21 hX (k:=?_)
    have q5:=hs.get (b:=b5) (by repeat (first | exact At.head | (with_reducible apply At.tail)))
    refine Dq hs (k:=?_);clear hs;intro OH El hs
    replace hA:=hA.store El q5 rfl (by decide) (by decide) y5
    refine XS.nil ?_
    refine dn (k:=?_)
    refine dt 22 hX (k:=?_)
    have q6:=hs.get (b:=b6) (by repeat (first | exact At.head | (with_reducible apply At.tail)))
    refine Dq hs (k:=?_);clear hs;intro JX DA hs
    replace hA:=hA.store DA q6 rfl (by decide) (by decide) y6
    refine XS.nil ?_
    refine dn (k:=?_)
    refine tk 23 hX (k:=?_)
    refine en (k:=?_)
    have r3:=hs.get (b:=b4) (by repeat (first | exact At.head | (with_reducible apply At.tail)))
    have r5:=hs.get (b:=b5) (by repeat (first | exact At.head | (with_reducible apply At.tail)))
    have r6:=hs.get (b:=b6) (by repeat (first | exact At.head | (with_reducible apply At.tail)))
    exact AQ (b5,b6,.slice ag rp.g.length cg,.slice ap rp.p.length cp,L') Ae ⟨r3,r5,r6,hA⟩
  ·skip
   refine Fg hs (k:=?_);clear hs;intro b5 w5 BY z5 hs
   have y5:(w1).heap.size≤b5:=Nat.le_trans (AA.size BA) z5
   replace BA:=BA.trans BY
   refine XS.nil ?_
   refine dn (k:=?_)
   refine HZ 12 19 hX (h1:=?_) (h2:=?_)
   ·skip
    refine cl (h:=by exact J1 e.cb e.c e.F id _ (hC.only BA) hid) (k:=?_)
    rintro v1 w2 ⟨rv,rfl,T⟩
    have hf:=T.form
    rw [hrp] at hf
    obtain ⟨ag,cg,ap,cp,rfl⟩:=hf
    obtain ⟨L',hA⟩:=C2 (hO.only BA) he T BA
    rw [hrp] at hA
    replace hs:=hs.EC T.2.2 (fun k hk=>by obtain rfl:=List.mem_singleton.1 hk;exact hs.Es (BA.block hcb (by simp)))
    refine XS.nil ?_
    refine dn (k:=?_)
    refine tks 13 5 ?_
    refine dt 19 hX (k:=?_)
    refine Fg hs (k:=?_);clear hs;intro b6 w6 Aq z6 hs
    have y6:(w1).heap.size≤b6:=Nat.le_trans (AA.size hA.o) z6
    replace hA:=hA.keep Aq
    refine XS.nil ?_
    refine dn (k:=?_)
    refine tk 20 hX (k:=?_)
    refine dt 21 hX (k:=?_)
    have q5:=hs.get (b:=b5) (by repeat (first | exact At.head | (with_reducible apply At.tail)))
    refine Dq hs (k:=?_);clear hs;intro OH El hs
    replace hA:=hA.store El q5 rfl (by decide) (by decide) y5
    refine XS.nil ?_
    refine dn (k:=?_)
    refine dt 22 hX (k:=?_)
    have q6:=hs.get (b:=b6) (by repeat (first | exact At.head | (with_reducible apply At.tail)))
    refine Dq hs (k:=?_);clear hs;intro JX DA hs
    replace hA:=hA.store DA q6 rfl (by decide) (by decide) y6
    refine XS.nil ?_
    refine dn (k:=?_)
    refine tk 23 hX (k:=?_)
    refine en (k:=?_)
    have r3:=hs.get (b:=b4) (by repeat (first | exact At.head | (with_reducible apply At.tail)))
    have r5:=hs.get (b:=b5) (by repeat (first | exact At.head | (with_reducible apply At.tail)))
    have r6:=hs.get (b:=b6) (by repeat (first | exact At.head | (with_reducible apply At.tail)))
    exact AQ (b5,b6,.slice ag rp.g.length cg,.slice ap rp.p.length cp,L') Ae ⟨r3,r5,r6,hA⟩
   ·skip
    refine Fg hs (k:=?_);clear hs;intro b6 w6 Aq z6 hs
    have y6:(w1).heap.size≤b6:=Nat.le_trans (AA.size BA) z6
    replace BA:=BA.trans Aq
    refine XS.nil ?_
    refine dn (k:=?_)
    refine dt 12 hX (k:=?_)
    refine cl (h:=by exact J1 e.cb e.c e.F id _ (hC.only BA) hid) (k:=?_)
    rintro v1 w2 ⟨rv,rfl,T⟩
    have hf:=T.form
    rw [hrp] at hf
    obtain ⟨ag,cg,ap,cp,rfl⟩:=hf
    obtain ⟨L',hA⟩:=C2 (hO.only BA) he T BA
    rw [hrp] at hA
    replace hs:=hs.EC T.2.2 (fun k hk=>by obtain rfl:=List.mem_singleton.1 hk;exact hs.Es (BA.block hcb (by simp)))
    refine XS.nil ?_
    refine dn (k:=?_)
    refine tks 13 5 ?_
    refine tk 20 hX (k:=?_)
    refine dt 21 hX (k:=?_)
    have q5:=hs.get (b:=b5) (by repeat (first | exact At.head | (with_reducible apply At.tail)))
    refine Dq hs (k:=?_);clear hs;intro OH El hs
    replace hA:=hA.store El q5 rfl (by decide) (by decide) y5
    refine XS.nil ?_
    refine dn (k:=?_)
    refine dt 22 hX (k:=?_)
    have q6:=hs.get (b:=b6) (by repeat (first | exact At.head | (with_reducible apply At.tail)))
    refine Dq hs (k:=?_);clear hs;intro JX DA hs
    replace hA:=hA.store DA q6 rfl (by decide) (by decide) y6
    refine XS.nil ?_
    refine dn (k:=?_)
    refine tk 23 hX (k:=?_)
    refine en (k:=?_)
    have r3:=hs.get (b:=b4) (by repeat (first | exact At.head | (with_reducible apply At.tail)))
    have r5:=hs.get (b:=b5) (by repeat (first | exact At.head | (with_reducible apply At.tail)))
    have r6:=hs.get (b:=b6) (by repeat (first | exact At.head | (with_reducible apply At.tail)))
    exact AQ (b5,b6,.slice ag rp.g.length cg,.slice ap rp.p.length cp,L') Ae ⟨r3,r5,r6,hA⟩
  ·skip
   refine Fg hs (k:=?_);clear hs;intro b6 w6 Aq z6 hs
   have y6:(w1).heap.size≤b6:=Nat.le_trans (AA.size BA) z6
   replace BA:=BA.trans Aq
   refine XS.nil ?_
   refine dn (k:=?_)
   refine HZ 12 18 hX (h1:=?_) (h2:=?_)
   ·skip
    refine cl (h:=by exact J1 e.cb e.c e.F id _ (hC.only BA) hid) (k:=?_)
    rintro v1 w2 ⟨rv,rfl,T⟩
    have hf:=T.form
    rw [hrp] at hf
    obtain ⟨ag,cg,ap,cp,rfl⟩:=hf
    obtain ⟨L',hA⟩:=C2 (hO.only BA) he T BA
    rw [hrp] at hA
    replace hs:=hs.EC T.2.2 (fun k hk=>by obtain rfl:=List.mem_singleton.1 hk;exact hs.Es (BA.block hcb (by simp)))
    refine XS.nil ?_
    refine dn (k:=?_)
    refine tks 13 5 ?_
    refine dt 18 hX (k:=?_)
    refine Fg hs (k:=?_);clear hs;intro b5 w5 BY z5 hs
    have y5:(w1).heap.size≤b5:=Nat.le_trans (AA.size hA.o) z5
    replace hA:=hA.keep BY
    refine XS.nil ?_
    refine dn (k:=?_)
    refine tk 20 hX (k:=?_)
    refine dt 21 hX (k:=?_)
    have q5:=hs.get (b:=b5) (by repeat (first | exact At.head | (with_reducible apply At.tail)))
    refine Dq hs (k:=?_);clear hs;intro OH El hs
    replace hA:=hA.store El q5 rfl (by decide) (by decide) y5
    refine XS.nil ?_
    refine dn (k:=?_)
    refine dt 22 hX (k:=?_)
    have q6:=hs.get (b:=b6) (by repeat (first | exact At.head | (with_reducible apply At.tail)))
    refine Dq hs (k:=?_);clear hs;intro JX DA hs
    replace hA:=hA.store DA q6 rfl (by decide) (by decide) y6
    refine XS.nil ?_
    refine dn (k:=?_)
    refine tk 23 hX (k:=?_)
    refine en (k:=?_)
    have r3:=hs.get (b:=b4) (by repeat (first | exact At.head | (with_reducible apply At.tail)))
    have r5:=hs.get (b:=b5) (by repeat (first | exact At.head | (with_reducible apply At.tail)))
    have r6:=hs.get (b:=b6) (by repeat (first | exact At.head | (with_reducible apply At.tail)))
    exact AQ (b5,b6,.slice ag rp.g.length cg,.slice ap rp.p.length cp,L') Ae ⟨r3,r5,r6,hA⟩
   ·skip
    refine Fg hs (k:=?_);clear hs;intro b5 w5 BY z5 hs
    have y5:(w1).heap.size≤b5:=Nat.le_trans (AA.size BA) z5
    replace BA:=BA.trans BY
    refine XS.nil ?_
    refine dn (k:=?_)
    refine dt 12 hX (k:=?_)
    refine cl (h:=by exact J1 e.cb e.c e.F id _ (hC.only BA) hid) (k:=?_)
    rintro v1 w2 ⟨rv,rfl,T⟩
    have hf:=T.form
    rw [hrp] at hf
    obtain ⟨ag,cg,ap,cp,rfl⟩:=hf
    obtain ⟨L',hA⟩:=C2 (hO.only BA) he T BA
    rw [hrp] at hA
    replace hs:=hs.EC T.2.2 (fun k hk=>by obtain rfl:=List.mem_singleton.1 hk;exact hs.Es (BA.block hcb (by simp)))
    refine XS.nil ?_
    refine dn (k:=?_)
    refine tks 13 5 ?_
    refine tk 20 hX (k:=?_)
    refine dt 21 hX (k:=?_)
    have q5:=hs.get (b:=b5) (by repeat (first | exact At.head | (with_reducible apply At.tail)))
    refine Dq hs (k:=?_);clear hs;intro OH El hs
    replace hA:=hA.store El q5 rfl (by decide) (by decide) y5
    refine XS.nil ?_
    refine dn (k:=?_)
    refine dt 22 hX (k:=?_)
    have q6:=hs.get (b:=b6) (by repeat (first | exact At.head | (with_reducible apply At.tail)))
    refine Dq hs (k:=?_);clear hs;intro JX DA hs
    replace hA:=hA.store DA q6 rfl (by decide) (by decide) y6
    refine XS.nil ?_
    refine dn (k:=?_)
    refine tk 23 hX (k:=?_)
    refine en (k:=?_)
    have r3:=hs.get (b:=b4) (by repeat (first | exact At.head | (with_reducible apply At.tail)))
    have r5:=hs.get (b:=b5) (by repeat (first | exact At.head | (with_reducible apply At.tail)))
    have r6:=hs.get (b:=b6) (by repeat (first | exact At.head | (with_reducible apply At.tail)))
    exact AQ (b5,b6,.slice ag rp.g.length cg,.slice ap rp.p.length cp,L') Ae ⟨r3,r5,r6,hA⟩
 ·rintro ⟨b5,b6,vg,vp,L'⟩ env Mz ⟨k3,k5,k6,hA⟩
  simp only at k5 k6 hA
  clear hs hO
  have tU:=Am.size
  have hp:=hA.p
  obtain ⟨_,_,_,_,M5,_,_⟩:=hA.p
  cases M5
  have hO:=hA.c
  replace Am:=Am.step hA.o (fun k hk => .inl hk)
  have XD:∀ k∈CJ hb sb tb rb L' G Ge,k∈CJ hb sb tb rb L G Ge∨w0.heap.size≤k:=fun k hk=>by
   rcases hA.f k hk with q | q
   ·exact .inl q
   ·exact .inr om
  generalize B9 e.c id=J at *
  have hs:=(((((St.nil Mz).AE k5).AE k6).AE hO.s.o).AE hO.h).AE k3
  by_cases hJ:J.1=0
  ·rw [if_pos hJ]
   rw [hJ] at hO ⊢
   have aCN:=Am.size
   have hH:=hs.hold
   have Ef:=hs.get At.head
   cases hsy:(CA e.c id).1 with
   | false =>
     rw [if_neg (by simp)]
     have hy:CV s.cf.cores { id:=xi,st:=2,core:=n,w:=xw,slice:=Cm,lag:=xl }:=hx.st hn om
     repeat' (first|refine Sd ?_|(refine st hs (k:=?_);intro w hs)|fail)
     have AT:=hs.AB [b4] (fun e he=>by
      rcases List.mem_cons.1 he with rfl | he
      ·exact .inr (.inl (by simp))
      ·exact .inr (.inr (hH e (List.mem_cons_of_mem _ he)))) (by simp [D0])
     replace hs:=hs.FH
     simp only [List.map_cons,List.map_nil] at hs
     replace hO:=hO.FN AT Ef GY
     replace Am:=Am.step AT (fun k hk => .inr (by obtain rfl:=List.mem_singleton.1 hk;omega))
     replace hp:=hp.GL AT (fun k hk=>⟨_,_,_,by obtain rfl:=List.mem_singleton.1 hk;exact Ef,by decide,by decide⟩)
     clear hH Ef
     refine IW [] hs (k:=?_);clear hs;intro hX w CP hs
     replace hO:=hO.only CP
     replace Am:=Am.step CP (by simp)
     refine tks 0 8 ?_
     refine dt 8 hX (k:=?_)
     refine cl (h:=by exact Fv tb rb _ (({ id:=xi,st:=2,core:=n,w:=xw,slice:=Cm,lag:=xl }:Tk)) _ hO.s.t hy.1) (k:=?_)
     rintro v12 w12 ⟨rfl,GD,By⟩
     have I1:=hO.s.t
     obtain ⟨KS,IY,M9,Ex,_⟩:=I1
     replace hs:=hs.EC By (fun k hk=>by obtain rfl:=List.mem_singleton.1 hk;exact hs.I2 GY Ex)
     replace hO:=hO.JW GD By (hO.s.ok.Bu hy)
     replace Am:=Am.step By (fun k hk => .inl (by obtain rfl:=List.mem_singleton.1 hk;simp [CJ]))
     refine XS.nil ?_
     refine dn (k:=?_)
     refine en (k:=?_)
     replace hp:=(hp.GL CP (by simp)).GL By (fun k hk=>⟨_,_,_,by obtain rfl:=List.mem_singleton.1 hk;exact Ex,by decide,by decide⟩)
     refine Ja ?_
     have Vl:=Am.size
     refine cl (h:=by exact G0 hb _ _ n _ rp _ hO.at hp IZ (by have:=hkn.1;have:=hkn.2;have e1:Rp.none.p.length=0:=rfl;have e2:Rp.none.g.length=0:=rfl;have e3:([]:List Ev).length=0:=rfl;simp only at *;omega)) (k:=?_)
     rintro v25 w25 ⟨tT,Na,Ns,KE⟩
     replace Am:=Am.step KE XD
     have Mt:=Ie XD Ns Vl
     clear hs
     have hs:=St.nil w25
     refine Ja ?_
     refine AG ?_
     have DH:=hs.AD rfl
     exact ⟨rfl,fun _=>⟨_,Na.only DH,Mt⟩,Am.step DH (by simp)⟩
   | true =>
     rw [if_pos rfl]
     have hy:CV s.cf.cores { id:=xi,st:=3,core:=n,w:=xw,slice:=Cm,lag:=Fa s.cf (CA e.c id).2 Cm }:=⟨hx.1,(by decide:(0:Int)≤3∧(3:Int) < 256),hx.2.2.1,hx.2.2.2.1,hx.2.2.2.2.1,Lh _ _ _,fun _=>hx.core (by decide:(1:Int)≠0)⟩
     repeat' (first|refine vs (k:=?_)|refine Ao ?_|refine Nx.h ?_|refine FY ?_|refine FD ?_|(refine st hs (k:=?_);intro w hs)|fail)
     have AT:=hs.AB [b4] (fun e he=>by
      rcases List.mem_cons.1 he with rfl | he
      ·exact .inr (.inl (by simp))
      ·exact .inr (.inr (hH e (List.mem_cons_of_mem _ he)))) (by simp [D0])
     replace hs:=hs.FH
     simp only [List.map_cons,List.map_nil] at hs
     replace hO:=hO.FN AT Ef GY
     replace Am:=Am.step AT (fun k hk => .inr (by obtain rfl:=List.mem_singleton.1 hk;omega))
     replace hp:=hp.GL AT (fun k hk=>⟨_,_,_,by obtain rfl:=List.mem_singleton.1 hk;exact Ef,by decide,by decide⟩)
     clear hH Ef
     have hH:=hs.hold
     have Ef:=hs.get At.head
     refine drT [] hs (k:=?_);intro hX w hs
     refine tks 0 9 ?_
     refine dt 9 hX (k:=?_)
     refine Jc ?_
     refine dn (k:=?_)
     refine tk 11 hX (k:=?_)
     refine dt 10 hX (k:=?_)
     refine AY hs (h:=by exact R9 s.cf (CA e.c id).2 Cm hO.s.ok.cf hsx hx.2.2.2.2.1 _) (k:=?_);intro w' ho hs;refine Jb ?_
     refine dn (k:=?_)
     refine dt 12 hX (k:=?_)
     repeat' (first|refine Nx.h ?_|(refine st hs (k:=?_);intro w hs)|fail)
     refine dn (k:=?_)
     refine tk 13 hX (k:=?_)
     refine dt 14 hX (k:=?_)
     repeat' (first|refine Nx.h ?_|(refine st hs (k:=?_);intro w hs)|fail)
     refine dn (k:=?_)
     refine en (k:=?_)
     refine Jb ?_
     have AT:=hs.AB [b4] (fun e he=>by
      rcases List.mem_cons.1 he with rfl | he
      ·exact .inr (.inl (by simp))
      ·exact .inr (.inr (hH e (List.mem_cons_of_mem _ he)))) (by simp [D0])
     replace hs:=hs.FH
     simp only [List.map_cons,List.map_nil] at hs
     replace hO:=hO.FN AT Ef GY
     replace Am:=Am.step AT (fun k hk => .inr (by obtain rfl:=List.mem_singleton.1 hk;omega))
     replace hp:=hp.GL AT (fun k hk=>⟨_,_,_,by obtain rfl:=List.mem_singleton.1 hk;exact Ef,by decide,by decide⟩)
     clear hH Ef
     refine IW [] hs (k:=?_);clear hs;intro hX w CP hs
     replace hO:=hO.only CP
     replace Am:=Am.step CP (by simp)
     refine tks 0 8 ?_
     refine dt 8 hX (k:=?_)
     refine cl (h:=by exact Fv tb rb _ (({ id:=xi,st:=3,core:=n,w:=xw,slice:=Cm,lag:=Fa s.cf (CA e.c id).2 Cm }:Tk)) _ hO.s.t hy.1) (k:=?_)
     rintro v12 w12 ⟨rfl,GD,By⟩
     have I1:=hO.s.t
     obtain ⟨KS,IY,M9,Ex,_⟩:=I1
     replace hs:=hs.EC By (fun k hk=>by obtain rfl:=List.mem_singleton.1 hk;exact hs.I2 GY Ex)
     replace hO:=hO.JW GD By (hO.s.ok.Bu hy)
     replace Am:=Am.step By (fun k hk => .inl (by obtain rfl:=List.mem_singleton.1 hk;simp [CJ]))
     refine XS.nil ?_
     refine dn (k:=?_)
     refine en (k:=?_)
     replace hp:=(hp.GL CP (by simp)).GL By (fun k hk=>⟨_,_,_,by obtain rfl:=List.mem_singleton.1 hk;exact Ex,by decide,by decide⟩)
     refine Ja ?_
     have Vl:=Am.size
     refine cl (h:=by exact G0 hb _ _ n _ rp _ hO.at hp IZ (by have:=hkn.1;have:=hkn.2;have e1:Rp.none.p.length=0:=rfl;have e2:Rp.none.g.length=0:=rfl;have e3:([]:List Ev).length=0:=rfl;simp only at *;omega)) (k:=?_)
     rintro v25 w25 ⟨tT,Na,Ns,KE⟩
     replace Am:=Am.step KE XD
     have Mt:=Ie XD Ns Vl
     clear hs
     have hs:=St.nil w25
     refine Ja ?_
     refine AG ?_
     have DH:=hs.AD rfl
     exact ⟨rfl,fun _=>⟨_,Na.only DH,Mt⟩,Am.step DH (by simp)⟩
  ·rw [if_neg hJ]
   generalize J.1=ee at *
   repeat' (first|refine Sa ?_|(refine st hs (k:=?_);intro w hs)|refine xc_cond rfl (fun hc=>?_) fun hc=>?_|fail)
   ·refine AG ?_
    have DH:=hs.AB [] (fun e he => .inr (.inr (hs.hold e he))) (by simp [D0])
    exact ⟨rfl,fun q=>absurd q hJ,Am.step DH (by simp)⟩
   all_goals exact absurd (by simpa using ‹(ee != 0)=false›) hJ
def Rk (s:Ch) (k:Nat) (ns:Int):Ch:=Ay ⟨BF s.s k (Bh (AF s.s k) (AX (AF s.s k) ns).1 (AX (AF s.s k) ns).2.1),s.ev⟩ k (BH (AX (AF s.s k) ns).1 (AX (AF s.s k) ns).2.1 (AX (AF s.s k) ns).2.2)
theorem lY {n k:Nat} {s:Ch} {ns:Int} (h:(AX (AF s.s k) ns).1=0):DI (n+1) k s ns=DI n (k+1) (Rk s k ns) ns:=by
 have h':(AX (AF s.s k) ns).fst=0:=h
 rw [DI]
 exact if_pos h'
theorem bL {n k:Nat} {s:Ch} {ns:Int} (h:(AX (AF s.s k) ns).1≠0):DI (n+1) k s ns=((AX (AF s.s k) ns).1,s):=by
 have h':¬ (AX (AF s.s k) ns).fst=0:=h
 rw [DI]
 exact if_neg h'
theorem dW (b1 hb:Nat) (s:Sy) (ns:Int) (wb w0:World) (Du:BL ns) (hw0:AA [] wb w0) (B1w:wb.heap[b1]?=some (.cells #[.int .u64 ns] 22 (0,0))) (hbd:ns≤1099511627776→∀ k:Nat,k < s.k.length→(AX (AF s k) ns).2.2.p.length≤1000000) :
 uO wb w0 57 [.pointer (some ⟨b1,0,none⟩)] [] (fun _=>True) s (Ek ⟨s,[]⟩ ns):=by
 intro hb F h hF
 have B1:=hw0.block B1w (by simp)
 have FX:=h
 obtain ⟨sb,tb,rb,v,ve,L,G,Ge,rfl,hO⟩:=h.FB
 have hhi:=hO.s.ok.hi
 have hlen:=hO.s.ok.len
 have hlo:=hO.s.ok.lo
 have X5:=hO.s.c.len
 have h0:0 < (Ch.s ⟨s,[]⟩).k.length:=by show 0 < s.k.length;have:((s.k.length:Nat):Int)=s.cf.cores:=hlen;have:1≤s.cf.cores:=hlo;omega
 obtain ⟨x0,hx0,_,_⟩:=hO.s.c.at h0
 obtain ⟨g,cap,aDA,rfl,_,_⟩:=hO.s.c.ptr hx0
 have hh:=hO.h
 have os:=hO.s.o
 have hs:=((St.nil w0).AE B1).AE os |>.AE hh
 have eX:Ek ⟨s,[]⟩ ns=if Ar ns (DO s.cf.tick)≠0 then (Ar ns (DO s.cf.tick),⟨s,[]⟩) else DI s.k.length 0 ⟨s,[]⟩ ns:=rfl
 rw [eX]
 refine AR Tryz.func57 Tryz.ntmps57 (k:=?_)
 refine Ja ?_
 refine dr [] hs (k:=?_);intro hX w hs
 refine tks 0 8 ?_
 refine dt 8 hX (k:=?_)
 refine AY hs (h:=by exact kR s.cf ns _) (k:=?_);intro w' ho hs;refine Jb ?_
 refine dn (k:=?_)
 refine tk 9 hX (k:=?_)
 refine en (k:=?_)
 by_cases he:Ar ns (DO s.cf.tick)≠0
 ·rw [if_pos he]
  generalize Ar ns (DO s.cf.tick)=ee at *
  repeat' (first|refine Sa ?_|refine xc_cond rfl (fun hc=>?_) fun hc=>?_|fail)
  ·refine AG ?_
   exact ⟨rfl,trivial,fun z=>absurd z he,(hs.AB [] (by simp [B1,os,hh]) (by simp [D0])).weaken (by simp)⟩
  ·exact absurd (by simpa using hc) he
 have Lx:ns≤1099511627776:=by
  have:=(within_lo he).2
  unfold DO at this
  split at this <;> omega
 replace hbd:=hbd Lx
 have XK:Ar ns (DO s.cf.tick)=0:=by
  rcases Classical.em (Ar ns (DO s.cf.tick)=0) with z | z
  ·exact z
  ·exact absurd z he
 rw [if_neg he,XK]
 refine Jd ?_
 have BB:=hs.AB [] (by simp [B1,os,hh]) (by simp [D0])
 have hlS:s.k.length≤8:=by have:((s.k.length:Nat):Int)=s.cf.cores:=hlen;have:s.cf.cores≤8:=hhi;omega
 have hLs:L.length=s.k.length:=X5
 refine BS (fun (_:Ch × List Ce × Value × List Nat)=>[]) (fun y w=>DI s.k.length 0 ⟨s,[]⟩ ns=(0,y.1)∧C5 w hb sb tb rb (.slice (some ⟨g,0,none⟩) L.length cap) y.2.2.1 y.1 y.2.1 G y.2.2.2∧(∀ i∈CJ hb sb tb rb y.2.1 G y.2.2.2,i∈CJ hb sb tb rb L G Ge∨w0.heap.size≤i)∧AA (CJ hb sb tb rb L G Ge) w0 w) ?_ ?_
 ·refine BG (fun (x:Nat × Ch × List Ce × Value × List Nat)=>[(0,.pointer (some ⟨hb,0,none⟩)),(1,.pointer (some ⟨b1,0,none⟩)),(27,.slice (some ⟨g,0,none⟩) L.length cap),(28,.int .i64 (L.length:Nat)),(29,.int .i64 (x.1:Nat))])
   (fun x w=>x.1≤L.length∧DI s.k.length 0 ⟨s,[]⟩ ns=DI (s.k.length - x.1) x.1 x.2.1 ns∧w.heap[b1]?=some (.cells #[.int .u64 ns] 22 (0,0))∧C5 w hb sb tb rb (.slice (some ⟨g,0,none⟩) L.length cap) x.2.2.2.1 x.2.1 x.2.2.1 G x.2.2.2.2∧(∀ i∈CJ hb sb tb rb x.2.2.1 G x.2.2.2.2,i∈CJ hb sb tb rb L G Ge∨w0.heap.size≤i)∧AA (CJ hb sb tb rb L G Ge) w0 w∧x.2.1.s.k.length=s.k.length∧(∀ j:Nat,x.1≤j→AF x.2.1.s j=AF s j)∧x.2.1.ev.length≤x.1*2000000)
   (fun x=>L.length - x.1) (0,⟨s,[]⟩,L,ve,Ge) Ae ⟨Nat.zero_le _,rfl,BB.block B1 (by simp),hO.only BB,fun i hi => .inl hi,BB.weaken (by simp),rfl,fun _ _=>rfl,Nat.zero_le _⟩ fun x env wl ⟨hi,hT,hB,hC,U6,Ue,IZ,Ju,Zp⟩=>?_
  obtain ⟨i,S,Li,vi,Gi⟩:=x
  simp only at hi hT hC U6 IZ Ju Zp
  clear hs
  have hs:=((St.nil wl).AE hB).AE hC.h
  repeat' (first|refine Sa ?_|refine Ax rfl (fun hc=>?_) fun hc=>?_|fail)
  ·have hlt:i < L.length:=by omega
   have aBr:i < S.s.k.length:=by omega
   obtain ⟨x,hx,hCx,hce⟩:=hC.s.c.at aBr
   obtain ⟨g',cap',cur,ev',hg,Fw⟩:=hC.s.c.ptr hx
   have hg':g'=g∧L.length=Li.length:=by
    simp only [Value.slice.injEq,Option.some.injEq,Addr.mk.injEq] at ev'
    exact ⟨ev'.1.1.symm,ev'.2.1⟩
   obtain ⟨hgg,hLL⟩:=hg'
   rw [hgg] at hg
   have ei:=Dl (m:=L.length) hlt om
   have hR:CI x.c:=hCx.bW
   have ec:AF S.s i=x.c:=hce.symm
   have ecs:AF s i=x.c:=by rw [← Ju i (Nat.le_refl _)];exact ec
   have VS:=hbd i om
   rw [ecs] at VS
   obtain ⟨_,_,_,_,_,hcb,_⟩:=hCx.FB
   have hgk:Cv (BH (AX x.c ns).1 (AX x.c ns).2.1 (AX x.c ns).2.2):=(YN hR ns).try (Ot hR ns)
   have hkn:=Hg (e:=(AX x.c ns).1) (r1:=(AX x.c ns).2.2) (Ot hR ns)
   have hkg:(AX x.c ns).2.2.g.length≤32:=by obtain ⟨s1,hs1⟩:=hR;exact (tick_bounds hs1 ns).2
   have Uq:Rk S i ns=Ay ⟨BF S.s i (Bh x.c (AX x.c ns).1 (AX x.c ns).2.1),S.ev⟩ i (BH (AX x.c ns).1 (AX x.c ns).2.1 (AX x.c ns).2.2):=by unfold Rk;rw [ec]
   have hst:s.k.length - i=(s.k.length - (i+1))+1:=by omega
   rw [hst] at hT
   have hgw:wl.heap[g]?=some (.cells cur.toArray T2 (0,0)):=hg
   replace hs:=hs.AE hgw
   refine ix (h0:=(by omega)) (h1:=(by omega)) (k:=?_)
   refine lb (hc:=(by simpa using Fw)) (k:=?_)
   refine Ja ?_
   have BA:=hs.AB [] (by simp [hB,hC.h,hgw]) (by simp [D0])
   refine cl (h:=by exact jZ x.cb x.c x.F ns _ (hCx.only BA) Du) (k:=?_)
   rintro v2 w2 ⟨rv,rfl,T⟩
   have hf:=T.form
   obtain ⟨ag,cg,ap,cp,rfl⟩:=hf
   obtain ⟨L',hA⟩:=C2 (hC.only BA) hx T BA
   have kI:=T.2.2.block (BA.block hB (by simp)) (by simpa using A3 (BA.block hB (by simp)) (BA.block hcb (by simp)) (by decide))
   clear hs
   have hs:=((St.nil w2).AE kI).AE hA.c.h
   by_cases hJ:(AX x.c ns).1=0
   ·rw [lY (by rw [ec];exact hJ),Uq] at hT
    rw [hJ] at hA hT hgk hkn ⊢
    have aBu:(Ay ⟨BF S.s i (Bh x.c 0 (AX x.c ns).2.1),S.ev⟩ i (BH 0 (AX x.c ns).2.1 (AX x.c ns).2.2)).ev.length≤(i+1)*2000000:=by
     rw [MB]
     simp only [List.length_append,List.length_map]
     have:=hkn.1;have:=hkn.2
     omega
    have hk2:=(absorb_k ⟨BF S.s i (Bh x.c 0 (AX x.c ns).2.1),S.ev⟩ i (BH 0 (AX x.c ns).2.1 (AX x.c ns).2.2)).1
    generalize hrp:BH 0 (AX x.c ns).2.1 (AX x.c ns).2.2=rp at *
    generalize Bh x.c 0 (AX x.c ns).2.1=c' at *
    repeat' (first|refine Sd ?_|(refine AU hs (k:=?_);intro w hs)|(refine al hs (k:=?_);intro b w hz hs)|fail)
    have hoq:=hs.AB [] (by simp [kI,hA.c.h]) (by simp [D0])
    refine cl (h:=by exact Qb hb sb tb rb _ vi _ L' G Gi i _ rp _ (hA.c.only hoq) (hA.p.GL hoq (by simp)) hgk (by have:=hkn.1;have:=hkn.2;show S.ev.length+_+_≤_;omega)) (k:=?_)
    rintro v5 w5 ⟨ve5,Ge5,Og,aCS,BY⟩
    have hB5:=BY.block (hoq.block kI (by simp)) ((hA.c.only hoq).at.not (hoq.block kI (by simp)) rfl)
    have PN:=hA.o.size
    have hzL:=Ue.size
    have FA:=Ue.step ((hA.o.step hoq (by simp)).step BY hA.f) U6
    clear hs
    have hs:=St.nil w5
    refine Ja ?_
    have Aq:=hs.AD rfl
    refine A4 (i+1,_,L',ve5,Ge5) (by show L.length - (i+1) < L.length - i;omega) (by (repeat (first | exact Ak | (apply Ac;first | exact rfl | exact congrArg (Value.int .i64) ei)))) ⟨by show i+1≤_;omega,hT,Aq.block hB5 (by simp),Og.only Aq,fun j hj=>?_,FA.step Aq (by simp),?_,fun j hj=>?_,aBu⟩
    ·have key:j∈CJ hb sb tb rb L' G Gi∨w0.heap.size≤j:=by
      simp only [CJ,List.mem_cons,List.mem_append] at hj ⊢
      rcases hj with hj | hj | hj
      ·exact .inl (.inl hj)
      ·exact .inl (.inr (.inl hj))
      ·rcases aCS j hj with q | q
       ·exact .inl (.inr (.inr q))
       ·exact .inr (by have:=hoq.size;omega)
     rcases key with q | q
     ·rcases hA.f j q with z | z
      ·exact U6 j z
      ·exact .inr om
     ·exact .inr q
    ·show (Ay _ i rp).s.k.length=_
     rw [hk2]
     show (S.s.k.set _ _).length=_
     rw [List.length_set];exact IZ
    ·show AF (Ay _ i rp).s j=_
     have hj':i+1≤j:=hj
     rw [UF hk2,RH (k:=(i:Int)) om (show ((j:Nat):Int)≠(i:Int) by omega)]
     exact Ju j om
   ·rw [bL (by rw [ec];exact hJ),ec] at hT
    rw [hT]
    generalize (AX x.c ns).1=ee at *
    repeat' (first|refine Sa ?_|(refine AU hs (k:=?_);intro w hs)|(refine al hs (k:=?_);intro b w hz hs)|refine xc_cond rfl (fun hc=>?_) fun hc=>?_|fail)
    ·refine AG ?_
     have Aq:=hs.AB [] (by simp [kI,hA.c.h]) (by simp [D0])
     exact ⟨rfl,trivial,fun q=>absurd q hJ,((Ue.step (hA.o.step Aq (by simp)) U6)).weaken (by simp)⟩
    ·exact absurd (by simpa using hc) hJ
  ·have e:i=s.k.length:=by omega
   subst e
   rw [Nat.sub_self] at hT
   exact Au (S,Li,vi,Gi) Ae ⟨hT,hC,U6,Ue⟩
 ·rintro ⟨S,Li,vi,Gi⟩ env w ⟨hT,hC,U6,Ue⟩
  simp only at hT hC U6
  rw [hT]
  clear hs
  have hs:=St.nil w
  refine Ja ?_
  refine AG ?_
  have Aq:=hs.AD rfl
  exact ⟨rfl,trivial,fun _=>⟨_,(hC.only Aq).at,U6⟩,(Ue.step Aq (by simp)).weaken (by simp)⟩
end Go.Proofs.Q0
