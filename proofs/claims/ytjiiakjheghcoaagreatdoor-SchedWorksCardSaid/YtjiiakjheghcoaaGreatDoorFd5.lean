/- A part of the proof: what its functions compute. -/
import Derived.Test.YtjiiakjheghcoaaGreatDoorFd4
import Derived.Ground.NamesProg
import Derived.Shelf.LaysM
import Derived.Shelf.Strconv.Itoa1
import Derived.Shelf.Strconv.Itoa2
import Derived.Shelf.SlIterI.Nil
import Derived.Shelf.SortM.Plain
import Derived.Shelf.SortM.SortNone
import Derived.Ground.GgzProg
import Derived.Ground.SlgmProg
import Derived.Shelf.SlMaps.Clone
import Derived.Ground.SlmcProg
import Derived.Test.YtjiiakjheghcoaaGreatDoorProg
import Derived.Lib.Walk
import Derived.Lib.ItoaMem
import Derived.WalkKit
import Derived.BigCall
import Derived.BigGuard
set_option linter.unusedVariables false
set_option linter.unusedSimpArgs false
set_option maxRecDepth 100000
set_option maxHeartbeats 64000000
set_option linter.unusedSectionVars false
namespace Go.Proofs.Q0
open Go Go.RowKit Tryz
attribute [local irreducible] XS XC XA AY AR A9 A1 A0 Aa Ae AW SE
def Pz (m:Mn) (q lag:Int):Int:=m.a*q - lag*(m.w+q)
def HL (m:Mn) (clock q lag:Int):Option Pt :=
 if m.right=true∧Eo q=true then (if m.n=0 then some ⟨clock,0,q⟩ else if Ac (m.a*q)∧Ac (Pz m q lag) then Oj m.b (Pz m q lag / m.w) q else none) else none
theorem Zf {q:Int} (h:q < 1∨1048576 < q):¬ Eo q=true:=fun h'=>by have:=Er.1 h';omega
theorem Ur (m:Mn) (clock q lag:Int) (hm:m.In) (hq:Fb q) (hl:In64 lag) (w0:World):AO prog 130 #[mv m,.int .u64 clock,.int .u32 q,.int .i64 lag] w0 fun v w'=>v=rT (HL m clock q lag)∧AB [] w0 w':=by
 have hs:=St.nil w0;refine AS func130 ntmps130 ?_
 repeat' (first|refine Sa ?_|(refine al hs ?_;intro b w hz hs)|(refine bx hs ?_;intro b w hz hs)|fail)
 refine AZ hs (h:=by exact FR m _) ?_;intro w' ho hs;repeat' (first|refine Se ?_|(refine AV hs ?_;intro w hs)|((with_reducible apply BV);exact rfl;exact rfl;intro c hc;(fail_if_success have:true=c:=hc);(fail_if_success have:false=c:=hc);cases c)|refine Aw rfl (fun hc=>?_) fun hc=>?_|fail)
 ·refine AG ?_;refine ⟨?_,hs.AE rfl⟩;have:HL m clock q lag=none:=by unfold HL;rw [if_neg (fun h=>Zf (.inr om) h.2)]
  rw [this];rfl
 ·refine AG ?_;refine ⟨?_,hs.AE rfl⟩;have h1:m.right=true:=by simpa using ‹(!m.right)=false›
  have h2:=of_decide_eq_false ‹decide (q < 1)=false›;have:HL m clock q lag=some ⟨clock,0,q⟩:=by unfold HL;rw [if_pos ⟨h1,Er.2 om⟩,if_pos (by assumption)]
  rw [this];rfl
 ·have h1:m.right=true:=by simpa using ‹(!m.right)=false›
  have h2:=of_decide_eq_false ‹decide (q < 1)=false›;have h3:¬ m.n=0:=by assumption
  have h4:Eo q=true:=Er.2 om;have h5:=Cm.1 h1;have h6:=Er.1 h4;obtain ⟨hl0,KU⟩:=hl;have e1:IntKind.i64.wrap q=q:=KH ⟨by omega,by omega⟩;have e2:IntKind.i64.wrap (IntKind.i64.wrap m.w+IntKind.i64.wrap q)=m.w+q:=by rw [e1,KH (x:=m.w) ⟨by omega,by omega⟩,KH ⟨by omega,by omega⟩]
  have h7:=mul_rng (w:=m.w+q) (s:=lag) (W:=34603008) (S:=9223372036854775808) om om om om;have e3:=aDU lag (m.w+q);have h8:Ac (lag*(m.w+q)):=by unfold Ac;rw [e3];omega
  have Yq:HL m clock q lag=if Ac (m.a*q)∧Ac (Pz m q lag) then Oj m.b (Pz m q lag / m.w) q else none:=by unfold HL;rw [if_pos ⟨h1,h4⟩,if_neg h3]
  refine cl (h:=by exact bT m.a (IntKind.i64.wrap q) hm.2.1 (by rw [e1];exact ⟨by omega,by omega⟩) _) (k:=?_);rw [e1]
  rintro v w' ⟨rfl,ho⟩;replace hs:=hs.AP ho;repeat' (first|refine Sb ?_|(refine AV hs ?_;intro w hs)|(refine al hs ?_;intro b w hz hs)|fail)
  refine dr [] hs ?_;intro hX w hs;refine tk 0 hX ?_;refine tks 2 6 ?_;refine E4 53 (congrArg (Value.int .i64) e2) ?_;refine Gq 12 12 hs ?_;intro f X w hp;have hs:=hp.st;apply BI 1 12 (f:=f) (X:=X) hX hp;exact rfl;exact rfl;(apply AT AJ;exact rfl);kernel_rfl;kernel_rfl;kernel_rfl;kernel_rfl;(intro X Y;(repeat (first | exact A4 | refine A5 ?_ (by exact rfl))));(intro w' hs;first|exact AI hs.hold|exact AI hs.hold.tail|exact Ab rfl);intro f X w hp;have hs:=hp.st;refine cl (h:=by exact Fp lag hl0 KU _) ?_;rintro v w' ⟨rfl,ho⟩;replace hp:=hp.only ho;replace hs:=hp.st;refine Jn ?_;apply BI 8 12 (f:=f) (X:=X) hX hp;exact rfl;exact rfl;(apply AT AJ;exact rfl);kernel_rfl;kernel_rfl;kernel_rfl;kernel_rfl;(intro X Y;(repeat (first | exact A4 | refine A5 ?_ (by exact rfl))));(intro w' hs;first|exact AI hs.hold|exact AI hs.hold.tail|exact Ab rfl);intro f X w hp;have hs:=hp.st;refine cl (h:=by exact Wt lag (m.w+q) (by unfold Ac;omega) om om h8 _) (k:=?_);rintro v w' ⟨rfl,ho⟩;replace hp:=hp.only ho;replace hs:=hp.st;refine Jn ?_;refine tk 9 hX (hc:=by cases f <;> kernel_rfl) (k:=?_);refine tk 10 hX (hc:=by cases f <;> kernel_rfl) (k:=?_);refine tk 11 hX (hc:=by cases f <;> kernel_rfl) (k:=?_);apply Bb 12 (f:=f) (X:=X) hX hp;exact rfl;(apply AT AJ;exact rfl);kernel_rfl;kernel_rfl;(intro X Y;(repeat (first | exact A4 | refine A5 ?_ (by exact rfl))));(intro w' hs;first|exact AI hs.hold|exact AI hs.hold.tail|exact Ab rfl);intro b w hI hs;refine dt 13 hX ?_
  repeat' (first|refine Nx.h ?_|(refine AV hs ?_;intro w hs)|fail)
  refine dn ?_;refine tk 14 hX ?_;refine en ?_;refine Ja ?_;refine AZ hs (h:=by exact VL (tot (m.a*q)) (lag*(m.w+q)) (tot_in _) h8 _) ?_;intro w' ho hs;repeat' (first|refine Se ?_|(refine AV hs ?_;intro w hs)|(refine al hs ?_;intro b w hz hs)|((with_reducible apply BV);exact rfl;exact rfl;intro c hc;(fail_if_success have:true=c:=hc);(fail_if_success have:false=c:=hc);cases c)|refine xc_cond rfl (fun hc=>?_) fun hc=>?_|fail)
  ·have h9:Ac (m.a*q):=by simpa using ‹(!decide (Ac (m.a*q)))=false›
   have e4:tot (m.a*q)=m.a*q:=if_pos h9;refine AG ?_;refine ⟨?_,hs.AE rfl⟩;rw [e4] at hc;have h10:¬ Ac (Pz m q lag):=by unfold Pz;simpa using hc
   rw [Yq,if_neg (fun h=>h10 h.2)];rfl
  ·have h9:Ac (m.a*q):=by simpa using ‹(!decide (Ac (m.a*q)))=false›
   have e4:tot (m.a*q)=m.a*q:=if_pos h9;rw [e4] at hc;have h10:Ac (Pz m q lag):=by unfold Pz;simpa using hc
   have e5:tot (tot (m.a*q) - lag*(m.w+q))=Pz m q lag:=by rw [e4];exact if_pos h10
   refine cl (h:=by exact OH (tot (tot (m.a*q) - lag*(m.w+q))) m.w (tot_in _) om om _) ?_;rw [e5]
   rintro v w' ⟨rfl,ho⟩;replace hs:=hs.AP ho;repeat' (first|refine Sa ?_|(refine AV hs ?_;intro w hs)|(refine al hs ?_;intro b w hz hs)|fail)
   refine AZ hs (h:=by exact Xj m.b (Pz m q lag / m.w) q (div_in h10 om) _) ?_;intro w' ho hs;repeat' (first|refine Sb ?_|(refine AV hs ?_;intro w hs)|fail)
   refine AG ?_;refine ⟨?_,hs.AE rfl⟩;rw [Yq,if_pos ⟨h9,h10⟩];rfl
  ·refine AG ?_;refine ⟨?_,hs.AE rfl⟩;have h9:¬ Ac (m.a*q):=by simpa using hc
   rw [Yq,if_neg (fun h=>h9 h.1)];rfl
 ·refine AG ?_;refine ⟨?_,hs.AE rfl⟩;have:HL m clock q lag=none:=by unfold HL;rw [if_neg (fun h=>Zf (.inl (by simpa using hc)) h.2)]
  rw [this];rfl
 ·refine AG ?_;refine ⟨?_,hs.AE rfl⟩;have:HL m clock q lag=none:=by unfold HL;rw [if_neg (fun h=>absurd h.1 (by simpa using hc))]
  rw [this];rfl
def Pp (m:Mn) (p:Pt) (q:Int):Int:=m.a*(q - p.w)
def U7 (m:Mn) (p:Pt) (q:Int):Int:=dist p m.b+Pp m p q / m.w
def Ga (m:Mn) (p:Pt) (q:Int):Option Pt :=
 if m.right=true∧m.n≠0∧p.right=true∧Eo q=true∧Ac (Pp m p q)∧Ac (U7 m p q) then Oj m.b (U7 m p q) q else none
theorem UD (m:Mn) (p:Pt) (q:Int) (hm:m.In) (hp':p.In) (hq:Fb q) (w0:World):AO prog 112 #[mv m,pv p,.int .u32 q] w0 fun v w'=>v=rT (Ga m p q)∧AB [] w0 w':=by
 have hs:=St.nil w0;refine AS func112 ntmps112 ?_
 repeat' (first|refine Sa ?_|(refine al hs ?_;intro b w hz hs)|(refine bx hs ?_;intro b w hz hs)|fail)
 refine AZ hs (h:=by exact FR m _) ?_;intro w' ho hs;repeat' (first|refine Se ?_|(refine AV hs ?_;intro w hs)|((with_reducible apply BV);exact rfl;exact rfl;intro c hc;(fail_if_success have:true=c:=hc);(fail_if_success have:false=c:=hc);cases c)|fail)
 ·refine AZ hs (h:=by exact FG p _) ?_;intro w' ho hs;repeat' (first|refine Se ?_|(refine AV hs ?_;intro w hs)|((with_reducible apply BV);exact rfl;exact rfl;intro c hc;(fail_if_success have:true=c:=hc);(fail_if_success have:false=c:=hc);cases c)|fail)
  ·refine AZ hs (h:=by exact FG ⟨0,0,q⟩ _) ?_;intro w' ho hs;repeat' (first|refine Sa ?_|(refine AV hs ?_;intro w hs)|refine xc_cond rfl (fun hc=>?_) fun hc=>?_|fail)
   ·refine AG ?_;refine ⟨?_,hs.AE rfl⟩
    have:Ga m p q=none:=by
     unfold Ga;rw [if_neg (fun h=>?_)];have h1:(⟨0,0,q⟩:Pt).right=false:=by simpa using hc
     have h2:=Er.1 h.2.2.2.1;have h3:(⟨0,0,q⟩:Pt).right=true:=Eh.2 ⟨h2.1,h2.2,by show (0:Int) < q;omega⟩;rw [h1] at h3;cases h3
    rw [this];rfl
   ·have h1:m.right=true:=by simpa using ‹(!m.right)=false›
    have h2:p.right=true:=by simpa using ‹(!p.right)=false›
    have h3:m.n≠0:=by simpa using ‹(m.n == 0)=false›
    have sQ:(⟨0,0,q⟩:Pt).right=true:=by simpa using hc
    have h4:Eo q=true:=by have:=Eh.1 sQ;exact Er.2 ⟨this.1,this.2.1⟩
    have h5:=Cm.1 h1;have h6:=Eh.1 h2;have h6':=Er.1 h4;have e1:IntKind.i64.wrap (IntKind.i64.wrap q - IntKind.i64.wrap p.w)=q - p.w:=by rw [KH (x:=q) ⟨by omega,by omega⟩,KH (x:=p.w) ⟨by omega,by omega⟩,KH ⟨by omega,by omega⟩]
    refine cl (h:=by exact bT m.a (IntKind.i64.wrap (IntKind.i64.wrap q - IntKind.i64.wrap p.w)) hm.2.1 (by rw [e1];exact ⟨by omega,by omega⟩) _) (k:=?_);rw [e1]
    rintro v w' ⟨rfl,ho⟩;replace hs:=hs.AP ho;repeat' (first|refine Sa ?_|(refine AV hs ?_;intro w hs)|(refine al hs ?_;intro b w hz hs)|refine xc_cond rfl (fun hc=>?_) fun hc=>?_|fail)
    ·refine AG ?_;refine ⟨?_,hs.AE rfl⟩;have h8:¬ Ac (Pp m p q):=by unfold Pp;simpa using hc
     have:Ga m p q=none:=by unfold Ga;rw [if_neg (fun h=>h8 h.2.2.2.2.1)]
     rw [this];rfl
    ·have h8:Ac (Pp m p q):=by unfold Pp;simpa using hc
     have e2:tot (m.a*(q - p.w))=Pp m p q:=if_pos h8;refine cl (h:=by exact OH (tot (m.a*(q - p.w))) m.w (tot_in _) om om _) ?_;rw [e2]
     rintro v w' ⟨rfl,ho⟩;replace hs:=hs.AP ho;repeat' (first|refine Sb ?_|(refine AV hs ?_;intro w hs)|(refine al hs ?_;intro b w hz hs)|fail)
     refine dr [] hs ?_;intro hX w hs;refine tks 0 3 ?_;refine tk 4 hX ?_;refine Gq 9 13 hs ?_;intro f X w hp;have hs:=hp.st;apply BI 3 9 (f:=f) (X:=X) hX hp;exact rfl;exact rfl;(apply AT AJ;exact rfl);kernel_rfl;kernel_rfl;kernel_rfl;kernel_rfl;(intro X Y;(repeat (first | exact A4 | refine A5 ?_ (by exact rfl))));(intro w' hs;first|exact AI hs.hold|exact AI hs.hold.tail|exact Ab rfl);intro f X w hp;have hs:=hp.st;refine cl (h:=by exact N7 p m.b hp' _) ?_;rintro v w' ⟨rfl,ho⟩;replace hp:=hp.only ho;replace hs:=hp.st;refine Jn ?_;apply BI 5 9 (f:=f) (X:=X) hX hp;exact rfl;exact rfl;(apply AT AJ;exact rfl);kernel_rfl;kernel_rfl;kernel_rfl;kernel_rfl;(intro X Y;(repeat (first | exact A4 | refine A5 ?_ (by exact rfl))));(intro w' hs;first|exact AI hs.hold|exact AI hs.hold.tail|exact Ab rfl);intro f X w hp;have hs:=hp.st;refine cl (h:=by exact dP (dist p m.b) (Pp m p q / m.w) (dist_in hp' _) (div_in h8 om) _) ?_;rintro v w' ⟨rfl,ho⟩;replace hp:=hp.only ho;replace hs:=hp.st;refine Jn ?_;refine tk 6 hX (hc:=by cases f <;> kernel_rfl) (k:=?_);refine tk 7 hX (hc:=by cases f <;> kernel_rfl) (k:=?_);refine tk 8 hX (hc:=by cases f <;> kernel_rfl) (k:=?_);apply Bb 9 (f:=f) (X:=X) hX hp;exact rfl;(apply AT AJ;exact rfl);kernel_rfl;kernel_rfl;(intro X Y;(repeat (first | exact A4 | refine A5 ?_ (by exact rfl))));(intro w' hs;first|exact AI hs.hold|exact AI hs.hold.tail|exact Ab rfl);intro b w hI hs;refine dt 10 hX ?_
     repeat' (first|refine Nx.h ?_|(refine AV hs ?_;intro w hs)|fail)
     refine dn ?_;refine tk 11 hX ?_;refine en ?_
     repeat' (first|refine Sa ?_|(refine AV hs ?_;intro w hs)|refine xc_cond rfl (fun hc=>?_) fun hc=>?_|fail)
     ·refine AG ?_;refine ⟨?_,hs.AE rfl⟩;have h9:¬ Ac (U7 m p q):=by unfold U7;simpa using hc
      have:Ga m p q=none:=by unfold Ga;rw [if_neg (fun h=>h9 h.2.2.2.2.2)]
      rw [this];rfl
     ·have h9:Ac (U7 m p q):=by unfold U7;simpa using hc
      have e3:tot (dist p m.b+Pp m p q / m.w)=U7 m p q:=if_pos h9;refine cl (h:=by exact Xj m.b (tot (dist p m.b+Pp m p q / m.w)) q (tot_in _) _) ?_;rw [e3]
      rintro v w' ⟨rfl,ho⟩;replace hs:=hs.AP ho;repeat' (first|refine Sb ?_|(refine AV hs ?_;intro w hs)|fail)
      refine AG ?_;refine ⟨?_,hs.AE rfl⟩;have:Ga m p q=Oj m.b (U7 m p q) q:=by unfold Ga;rw [if_pos ⟨h1,h3,h2,h4,h8,h9⟩]
      rw [this];rfl
  ·refine AG ?_;refine ⟨?_,hs.AE rfl⟩;have:Ga m p q=none:=by unfold Ga;rw [if_neg (fun h=>absurd h.2.2.1 (by simpa using hc))]
   rw [this];rfl
 ·refine AG ?_;refine ⟨?_,hs.AE rfl⟩;have:Ga m p q=none:=by unfold Ga;rw [if_neg (fun h=>h.2.1 (by simpa using hc))]
  rw [this];rfl
 ·refine AG ?_;refine ⟨?_,hs.AE rfl⟩;have:Ga m p q=none:=by unfold Ga;rw [if_neg (fun h=>absurd h.1 (by simpa using hc))]
  rw [this];rfl
end Go.Proofs.Q0
namespace Go.Proofs.Q0
open Go Go.RowKit Tryz
open IB (IT DF Bi)
attribute [local irreducible] XS XC XA AY AR A9 A1 A0 Aa Ae AW SE
structure Qs where
 m:Mn
 t:RB IT
 f:Int→Option IT
 n:Nat
 c:Int
abbrev Lc (m:Mn) (tb mb:Nat) (c:Int):Obj := .cells #[.int .u64 m.b,.int .i64 (m.a / 18446744073709551616),.int .u64 (m.a % 18446744073709551616),.int .u64 m.w,.int .i64 m.n,.pointer (some ⟨tb,0,none⟩),.map (some mb),.int .u64 c] 114 (0,0)
def vals (f:Int→Option IT):Int→Option Value:=fun i=>(f i).map fun a=>iv a.1
def Ka (f:Int→Option IT) (i:Int) (a:Option IT):Int→Option IT:=fun j=>bif decide (j=i) then a else f j
theorem XM (f:Int→Option IT) (i:Int) (a:Option IT):F4 (vals f) i (a.map fun a=>iv a.1)=vals (Ka f i a):=by
 funext j;unfold F4 vals Ka;cases decide (j=i) <;> rfl
theorem F9 (f:Int→Option IT) (i:Int):(vals f i).isSome=(f i).isSome:=by unfold vals;cases f i <;> rfl
def DE (w:World) (qb:Nat) (s:Qs) (F:List Nat):Prop :=
 ∃ tb mb Ft,F=qb :: mb :: Ft∧w.heap[qb]?=some (Lc s.m tb mb s.c)∧CB w mb (vals s.f) s.n∧IB.Cb w tb s.t Ft∧s.m.In∧BY s.c
theorem DE.Ai {w w':World} {qb:Nat} {s:Qs} {F G:List Nat} (h:DE w qb s F) (ho:AB G w w') (hd:∀ k∈F,k∉G):DE w' qb s F:=by
 obtain ⟨tb,mb,Ft,rfl,h1,h2,h3,h4⟩:=h;exact ⟨tb,mb,Ft,rfl,ho.block h1 (hd qb AA),h2.keep ho (hd mb AA),h3.Ai ho (fun k hk=>hd k (by simp [hk])),h4⟩
theorem DE.only {w w':World} {qb:Nat} {s:Qs} {F:List Nat} (h:DE w qb s F) (ho:AB [] w w'):DE w' qb s F:=h.Ai ho AA
theorem DE.lt {w:World} {qb:Nat} {s:Qs} {F:List Nat} (h:DE w qb s F):∀ k∈F,k < w.heap.size:=by
 obtain ⟨tb,mb,Ft,rfl,h1,h2,h3,h4⟩:=h;intro k hk;simp only [aCu] at hk;rcases hk with rfl | rfl | hk
 ·exact lt_of_block h1
 ·exact h2.lt
 ·exact h3.lt k hk
theorem DE.not {w:World} {qb:Nat} {s:Qs} {F:List Nat} (h:DE w qb s F) {b:Nat} {cs:Array Value} {ty:Nat} {fz:Nat × Nat} (hb:w.heap[b]?=some (.cells cs ty fz)) (h1:ty≠276) (h2:ty≠199) (h3:ty≠114):b∉F:=fun hm=>by
 obtain ⟨tb,mb,Ft,rfl,k1,k2,k3,k4⟩:=h;simp only [aCu] at hm;rcases hm with rfl | rfl | hm
 ·exact A3 hb k1 h3 rfl
 ·exact k2.ne hb rfl
 ·exact k3.not hb h1 h2 hm
theorem lS {w:World} {qb tb:Nat} {t:RB IT} {Ft:List Nat} (h:IB.Cb w tb t Ft) {cs:Array Value} {fz:Nat × Nat} (hb:w.heap[qb]?=some (.cells cs 114 fz)):qb∉Ft:=h.not hb (by decide) (by decide)
theorem WC {w:World} {mb tb c:Nat} {t:RB IT} {Ft:List Nat} {f:Int→Option Value} (h:IB.Cb w tb t Ft) (hM:CB w mb f c):mb∉Ft:=fun hm=>by
 obtain ⟨p,fp,rfl,k1,k2,k3⟩:=h;rcases aCu.1 hm with rfl | hm
 ·exact hM.ne k1 rfl
 ·obtain ⟨cs',lM,k4⟩:=k2.nodes mb hm;exact hM.ne k4 rfl
def F7 (s:Qs):Int:=bif decide (s.t.list.length=0) then s.c else (I9 s.m).getD 0
theorem Tf {s:Qs} (h:BY s.c):BY (F7 s):=by
 unfold F7;cases decide (s.t.list.length=0)
 ·rw [cond_false];unfold I9;split
  ·exact Vs _ _
  ·decide
 ·exact h
def LB (s:Qs):Qs:={ s with m:=(JE s.m (F7 s)).getD .zero }
theorem TS {o:Option Mn} (h:∀ m,o=some m→m.In):(o.getD .zero).In:=by
 cases o with
 | none=>decide
 | some m=>exact h m rfl
theorem L1 (qb:Nat) (s:Qs) (F:List Nat) (w0:World) (h:DE w0 qb s F):AO prog 44 #[.pointer (some ⟨qb,0,none⟩)] w0 fun v w'=>v = .int .i64 (s.t.list.length:Nat)∧AB [] w0 w':=by
 obtain ⟨tb,mb,Ft,rfl,h1,h2,h3,h4⟩:=h;have hs:=(St.nil w0).AH h1 AA;refine AS func44 ntmps44 ?_;refine Jd ?_;have ho:=hs.AD [] (by simp [h1]) sD;refine AZ hs (h:=by exact IB.lE tb s.t Ft _ (h3.only ho)) ?_;intro w' ho hs;refine Jc ?_;refine AG ?_;exact ⟨rfl,hs.AD [] (by simp [h1]) sD⟩
theorem TF (qb:Nat) (s:Qs) (F:List Nat) (w0:World) (h:DE w0 qb s F) (hlen:s.t.list.length≤1000000):AO prog 208 #[.pointer (some ⟨qb,0,none⟩)] w0 fun v w'=>(∃ G,B6 w' 64 7 v s.t.list.length (Bi s.t.list) G∧∀ k∈G,w0.heap.size≤k)∧AB [] w0 w':=by
 obtain ⟨tb,mb,Ft,rfl,h1,h2,h3,h4⟩:=h;have hs:=(St.nil w0).AH h1 AA;refine AS func208 ntmps208 ?_;refine Jd ?_;have ho:=hs.AD [] (by simp [h1]) sD;refine cl (h:=by exact IB.OY tb s.t Ft _ (h3.only ho) hlen) ?_;rintro v w' ⟨⟨G,hG,hn⟩,ho'⟩;replace hs:=hs.AP ho';have hz:=ho.size;refine Jc ?_;refine AG ?_;exact ⟨⟨G,hG,fun k hk=>by have:=hn k hk;omega⟩,hs.AD [] (by simp [h1]) sD⟩
theorem Nc (qb:Nat) (s:Qs) (F:List Nat) (w0:World) (h:DE w0 qb s F):AO prog 20 #[.pointer (some ⟨qb,0,none⟩)] w0 fun v w'=>v = .int .u64 (F7 s)∧AB [] w0 w':=by
 have hq:=h;obtain ⟨tb,mb,Ft,rfl,h1,h2,h3,h4⟩:=h;have hs:=(St.nil w0).AH h1 AA;refine AS func20 ntmps20 ?_;refine Jd ?_;have ho:=hs.AD [] (by simp [h1]) sD;refine AZ hs (h:=by exact L1 qb s _ _ (hq.only ho)) ?_;intro w' ho hs;repeat' (first|refine Sa ?_|refine Aw rfl (fun hc=>?_) fun hc=>?_|fail)
 ·refine AG ?_;refine ⟨?_,hs.AD [] (by simp [h1]) sD⟩;have e:s.t.list.length=0:=by omega
  unfold F7;rw [decide_eq_true e];rfl
 ·refine AZ hs (h:=by exact O7 s.m h4.1 _) ?_;intro w' ho hs;refine Ja ?_;refine AG ?_;refine ⟨?_,hs.AD [] (by simp [h1]) sD⟩;have e:¬ s.t.list.length=0:=by omega
  unfold F7;rw [decide_eq_false e];rfl
theorem Qb (qb:Nat) (s:Qs) (F:List Nat) (w0:World) (h:DE w0 qb s F):AO prog 222 #[.pointer (some ⟨qb,0,none⟩)] w0 fun v w'=>DE w' qb (LB s) F∧AB [qb] w0 w':=by
 have hq:=h;obtain ⟨tb,mb,Ft,rfl,h1,h2,h3,h4,h5⟩:=h;have hs:=(St.nil w0).AH h1 AA;refine AS func222 ntmps222 ?_
 skip
 refine dr [13] hs ?_;intro hX w hs;refine tks 0 6 ?_;refine dt 6 hX ?_;have ho:=hs.AD [] (by simp [h1]) sD;refine AZ hs (h:=by exact Nc qb s _ _ (hq.only ho)) ?_;intro w' ho hs;refine Jn ?_;refine dt 7 hX ?_;refine AZ hs (h:=by exact cJ s.m (F7 s) h4 _) ?_;intro w' ho hs;refine Jn ?_;refine tks 8 5 ?_;refine dt 13 hX ?_
 repeat' (first|refine Nx.h ?_|(refine AV hs ?_;intro w hs)|fail)
 refine dn ?_;refine en ?_
 skip
 refine JO ?_;have AN:=hs.AD [qb] AA sD;exact ⟨⟨tb,mb,Ft,rfl,hs.get At.head,h2.keep AN (fun hm=>by obtain rfl:=List.mem_singleton.1 hm;exact h2.ne h1 rfl),h3.Ai AN (fun k hk hm=>by obtain rfl:=List.mem_singleton.1 hm;exact lS h3 h1 hk),TS (fun m e=>u9 h4 (Tf h5) e),h5⟩,AN⟩
abbrev q9 (a:It):Obj := .cells #[.int .u64 a.p.t,.int .u32 a.p.r,.int .u32 a.p.w,.int .i64 a.id,.int .u64 a.d.t,.int .u32 a.d.r,.int .u32 a.d.w] 64 (0,0)
def FY (s:Qs) (a:IT):Mn:=bif decide (s.t.list.length=0) then ⟨a.1.p.t,0,0,0⟩ else s.m
def H9 (s:Qs) (a:IT):Qs:=⟨(ER (FY s a) a.1.p).getD .zero,IB.RB.insert s.t a,Ka s.f a.1.id (some a),if (s.f a.1.id).isSome then s.n else s.n+1,s.c⟩
def LX (s:Qs) (a:IT):Qs:=LB (H9 s a)
theorem vE {s:Qs} {a:IT} (h:s.m.In):(FY s a).In:=by
 unfold FY;cases decide (s.t.list.length=0)
 ·exact h
 ·exact ⟨a.2.1.1,Ot,oG,S6⟩
structure QP (w:World) (qb tb mb:Nat) (Ft:List Nat) (s:Qs):Prop where
 q:w.heap[qb]?=some (Lc s.m tb mb s.c)
 M:CB w mb (vals s.f) s.n
 T:IB.Cb w tb s.t Ft
theorem QP.qm {w:World} {qb tb mb:Nat} {Ft:List Nat} {s:Qs} (h:QP w qb tb mb Ft s):qb≠mb:=h.M.ne h.q
theorem QP.qT {w:World} {qb tb mb:Nat} {Ft:List Nat} {s:Qs} (h:QP w qb tb mb Ft s):qb∉Ft:=lS h.T h.q
theorem QP.mT {w:World} {qb tb mb:Nat} {Ft:List Nat} {s:Qs} (h:QP w qb tb mb Ft s):mb∉Ft:=WC h.T h.M
theorem QP.only {w w':World} {qb tb mb:Nat} {Ft:List Nat} {s:Qs} (h:QP w qb tb mb Ft s) (ho:AB [] w w'):QP w' qb tb mb Ft s:=⟨ho.block h.q AA,h.M.keep ho AA,h.T.only ho⟩
theorem QP.own {w w':World} {qb tb mb:Nat} {Ft:List Nat} {s:Qs} {m:Mn} {c:Int} (h:QP w qb tb mb Ft s) (ho:AB [qb] w w') (hq:w'.heap[qb]?=some (Lc m tb mb c)):QP w' qb tb mb Ft { s with m:=m,c:=c } :=
 ⟨hq,h.M.keep ho (fun hm=>h.qm (List.mem_singleton.1 hm).symm),h.T.Ai ho (fun k hk hm=>by obtain rfl:=List.mem_singleton.1 hm;exact h.qT hk)⟩
theorem Xf (qb:Nat) (s:Qs) (F:List Nat) (a:IT) (w0:World) (h:DE w0 qb s F) (hlen:s.t.list.length+1≤1000000) (hn:s.n < 1000000) :
 AO prog 200 #[.pointer (some ⟨qb,0,none⟩),iv a.1] w0 fun v w'=>∃ F',DE w' qb (LX s a) F'∧(∀ k∈F',k∈F∨w0.heap.size≤k)∧AB F w0 w':=by
 have hq:=h;obtain ⟨tb,mb,Ft,rfl,h1,h2,h3,h4,h5⟩:=h;have hs:=(St.nil w0).AH h1 AA;have Vt:=lt_of_block h1;have ltF:=hq.lt;have hin:=vE (s:=s) (a:=a) h4;refine AS func200 ntmps200 ?_;refine Ah ?_;refine Aq ?_;refine bx hs ?_;intro bq wq Lp hs;refine XS.nil ?_;refine Dw ?_;refine Ah ?_;have Ir:=hs.new (bq,true) AA rfl;simp only at Ir;have qV:QP w0 qb tb mb Ft s:=⟨h1,h2,h3⟩;refine B9 (fun _:Unit=>[(0,.pointer (some ⟨qb,0,none⟩)),(3,.pointer (some ⟨bq,0,none⟩))]) (fun _ w=>QP w qb tb mb Ft { s with m:=FY s a }∧AB [qb] w0 w∧w.heap[bq]?=some (q9 a.1)) ?_ ?_
 ·refine Ja ?_;have ho:=hs.AD [] (by simp [h1]) sD;refine AZ hs (h:=by exact L1 qb s _ _ (hq.only ho)) ?_;intro w' ho hs;repeat' (first|refine Sa ?_|(refine AV hs ?_;intro w hs)|refine Aw rfl (fun hc=>?_) fun hc=>?_|fail)
  ·have e:s.t.list.length=0:=by omega
   have AN:=hs.AD [qb] AA sD;have e2:FY s a=⟨a.1.p.t,0,0,0⟩:=by unfold FY;rw [decide_eq_true e];rfl
   rw [e2];exact AQ () Ad ⟨qV.own AN (hs.get (At.tail At.head)),AN,hs.get At.head⟩
  ·have e:¬ s.t.list.length=0:=by omega
   have AN:=hs.AD [] (by simp [h1]) sD;have e2:FY s a=s.m:=by unfold FY;rw [decide_eq_false e];rfl
   rw [e2];exact AQ () Ad ⟨qV.only AN,AN.weaken AA,hs.get At.head⟩
 clear hs;rintro _ env wA ⟨hP,BF,hQ⟩;have n1:bq≠qb:=A3 hQ hP.q (by decide);have hs:=((St.nil wA).AH hP.q AA).AH hQ (by simpa using n1);refine Jb ?_;refine dr [13] hs ?_;intro hX w hs;refine tks 0 7 ?_;refine dt 7 hX ?_;refine AZ hs (h:=by exact XQ (FY s a) a.1.p hin a.2.1 _) ?_;intro w' ho hs;refine Jn ?_;refine tks 8 5 ?_;refine dt 13 hX ?_
 repeat' (first|refine Nx.h ?_|(refine AV hs ?_;intro w hs)|fail)
 refine dn ?_;refine en ?_;refine Jb ?_;have AN:=hs.AD [qb] (by simp [hQ]) sD;have US:=hP.own AN (hs.get (At.tail At.head));have QM:=hs.get At.head;have Bd:=BF.step AN (fun k hk => .inl hk);clear hs;have hs:=((St.nil _).AH US.q AA).AH QM (by simpa using n1);refine dr [] hs ?_;intro hX w hs;refine tks 0 6 ?_;refine dt 6 hX ?_;have AU:=hs.AD [] (by simp [US.q,QM]) sD;have KO:=US.only AU;have Ff:=hs.get At.head;have EM:=Bd.step AU AA;refine cl (h:=by exact IB.Fx tb s.t Ft a _ KO.T hlen) ?_;rintro v w4 ⟨rfl,F',V7,C0,Ar⟩;have hz:=EM.size;have jJ:=KO.M.keep Ar KO.mT;have mB:=Ar.block KO.q KO.qT;have gD:=Ar.block Ff (KO.T.not Ff (by decide) (by decide));have nF:∀ k∈F',k∈Ft∨w0.heap.size≤k:=fun k hk=>by rcases C0 k hk with h | h;exact .inl h;exact .inr om
 have CG:AB (qb :: mb :: Ft) w0 w4:=(EM.weaken AA).step Ar (fun k hk => .inl (by simp [hk]));clear hs;have hs:=((St.nil w4).AH mB AA).AH gD (by simpa using n1);refine Jn ?_;refine en ?_;refine Jb ?_;refine dr [] hs ?_;intro hX w hs;refine tks 0 7 ?_;refine dt 7 hX ?_;have BL:=hs.AD [] (by simp [mB,gD]) sD;have SG:=jJ.keep BL AA;have X2:=V7.only BL;have xK:=hs.get (At.tail At.head);refine OW (e:=64) (v:=iv a.1) SG a.2.2.1 (by show s.n < maxLen;unfold maxLen;omega) (by kernel_rfl) (k:=?_);intro w6 Q7 Ao;have hbm:=SG.ne (hs.get At.head);have fX:=SG.ne xK;have yE:=WC X2 SG
 replace hs:=hs.call Ao (fun k hk hm=>by
  obtain rfl:=List.mem_singleton.1 hk;simp only [aC2,aDD,aCu,aC1,or_false] at hm;rcases hm with rfl | rfl
  ·exact hbm rfl
  ·exact fX rfl) sD
 have Vi:=hs.get (At.tail At.head);have vT:=X2.Ai Ao (fun k hk hm=>by obtain rfl:=List.mem_singleton.1 hm;exact yE hk);have EB:AB (qb :: mb :: Ft) w0 w6:=(CG.step BL AA).step Ao (fun k hk => .inl (by obtain rfl:=List.mem_singleton.1 hk;simp))
 have qA:CB w6 mb (vals (Ka s.f a.1.id (some a))) (if (s.f a.1.id).isSome then s.n else s.n+1):=by
  rw [← XM,← F9];exact Q7
 have xW:DE w6 qb (H9 s a) (qb :: mb :: F'):=⟨tb,mb,F',rfl,Vi,qA,vT,TS (fun m e=>TN hin e),h5⟩;have jX:=EB.size;have fC:=hs.get At.head;clear hs;have hs:=((St.nil w6).AH Vi AA).AH fC (by simpa using n1);refine Jn ?_;refine en ?_;refine Ja ?_;have C8:=hs.AD [] (by simp [Vi,fC]) sD;refine cl (h:=by exact Qb qb (H9 s a) _ _ (xW.only C8)) ?_;rintro v w8 ⟨hA8,E9⟩;have hs:=St.nil w8;refine Jb ?_;refine JO ?_;refine ⟨_,hA8,fun k hk=>?_,((EB.step C8 AA).step E9 (fun k hk => .inl (by obtain rfl:=List.mem_singleton.1 hk;simp)))⟩;simp only [aCu] at hk;rcases hk with rfl | rfl | hk
 ·exact .inl AA
 ·exact .inl AA
 ·rcases nF k hk with h | h
  ·exact .inl (by simp [h])
  ·exact .inr h
def X3 (a:IT) (t:RB IT):RB IT:=bif RB.has IB.Cy a t then RB.blacken ((IB.RO a t).getD .nil) else t
def GX (a:IT) (t:RB IT):Prop:=RB.has IB.Cy a t=true→IB.RO a t=some ((IB.RO a t).getD .nil)∧((IB.RO a t).getD .nil).list.length+1=t.list.length
def Eg (s:Qs) (a:IT):Qs:=⟨(Fu s.m a.1.p).getD .zero,X3 a s.t,Ka s.f a.1.id none,if (s.f a.1.id).isSome then s.n - 1 else s.n,F7 s⟩
def FD (s:Qs) (a:IT):Qs:=LB (Eg s a)
theorem XE (qb:Nat) (s:Qs) (F:List Nat) (a:IT) (w0:World) (h:DE w0 qb s F) (hlen:s.t.list.length≤1000000) (hd:GX a s.t) :
 AO prog 199 #[.pointer (some ⟨qb,0,none⟩),iv a.1] w0 fun v w'=>∃ F',DE w' qb (FD s a) F'∧(∀ k∈F',k∈F∨w0.heap.size≤k)∧AB F w0 w':=by
 have hq:=h;obtain ⟨tb,mb,Ft,rfl,h1,h2,h3,h4,h5⟩:=h;have hs:=(St.nil w0).AH h1 AA;have Vt:=lt_of_block h1;have ltF:=hq.lt;have qV:QP w0 qb tb mb Ft s:=⟨h1,h2,h3⟩;refine AS func199 ntmps199 ?_;refine Ah ?_;refine Aq ?_;refine bx hs ?_;intro bq wq Lp hs;refine Ja ?_;have Ir:=hs.new (bq,true) AA rfl;simp only at Ir;have ho:=hs.AD [] (by simp [h1]) sD;refine AZ hs (h:=by exact Nc qb s _ _ (hq.only ho)) ?_;intro w' ho hs;repeat' (first|refine Sb ?_|(refine st hs ?_;intro w hs)|fail)
 refine dr [13] hs ?_;intro hX w hs;refine tks 0 7 ?_;refine dt 7 hX ?_;refine AZ hs (h:=by exact fS s.m a.1.p h4 a.2.1 _) ?_;intro w' ho hs;refine Jn ?_;refine tks 8 5 ?_;refine dt 13 hX ?_
 repeat' (first|refine Nx.h ?_|(refine AV hs ?_;intro w hs)|fail)
 refine dn ?_;refine en ?_;refine Jb ?_;have AN:=hs.AD [qb] AA sD;have US:=qV.own AN (hs.get (At.tail At.head));have QM:=hs.get At.head;have n1:bq≠qb:=A3 QM US.q (by decide);clear hs;have hs:=((St.nil _).AH US.q AA).AH QM (by simpa using n1);refine dr [] hs ?_;intro hX w hs;refine tks 0 6 ?_;refine dt 6 hX ?_;have AU:=hs.AD [] (by simp [US.q,QM]) sD;have KO:=US.only AU;have Ff:=hs.get At.head;have EM:=AN.step AU AA;refine cl (h:=by exact IB.V4 tb s.t Ft a _ _ KO.T hd hlen) ?_;rintro v w4 ⟨rfl,F',V7,C0,Ar⟩;have hz:=EM.size;have jJ:=KO.M.keep Ar KO.mT;have mB:=Ar.block KO.q KO.qT;have gD:=Ar.block Ff (KO.T.not Ff (by decide) (by decide));have nF:∀ k∈F',k∈Ft∨w0.heap.size≤k:=fun k hk=>by rcases C0 k hk with h | h;exact .inl h;exact .inr om
 have CG:AB (qb :: mb :: Ft) w0 w4:=(EM.weaken AA).step Ar (fun k hk => .inl (by simp [hk]));clear hs;have hs:=((St.nil w4).AH mB AA).AH gD (by simpa using n1);refine Jn ?_;refine en ?_;refine Jb ?_;refine dr [] hs ?_;intro hX w hs;refine tks 0 6 ?_;refine dt 6 hX ?_;have BL:=hs.AD [] (by simp [mB,gD]) sD;have SG:=jJ.keep BL AA;have X2:=V7.only BL;have xK:=hs.get (At.tail At.head);refine Ut (e:=64) SG a.2.2.1 (by kernel_rfl) ?_;intro w6 Q7 Ao;have hbm:=SG.ne (hs.get At.head);have fX:=SG.ne xK;have yE:=WC X2 SG
 replace hs:=hs.call Ao (fun k hk hm=>by
  obtain rfl:=List.mem_singleton.1 hk;simp only [aC2,aDD,aCu,aC1,or_false] at hm;rcases hm with rfl | rfl
  ·exact hbm rfl
  ·exact fX rfl) sD
 have Vi:=hs.get (At.tail At.head);have vT:=X2.Ai Ao (fun k hk hm=>by obtain rfl:=List.mem_singleton.1 hm;exact yE hk);have EB:AB (qb :: mb :: Ft) w0 w6:=(CG.step BL AA).step Ao (fun k hk => .inl (by obtain rfl:=List.mem_singleton.1 hk;simp))
 have qA:CB w6 mb (vals (Ka s.f a.1.id none)) (if (s.f a.1.id).isSome then s.n - 1 else s.n):=by
  rw [← XM,← F9];exact Q7
 have xW:DE w6 qb (Eg s a) (qb :: mb :: F'):=⟨tb,mb,F',rfl,Vi,qA,vT,TS (fun m e=>tZ h4 e),Tf h5⟩;have jX:=EB.size;have fC:=hs.get At.head;clear hs;have hs:=((St.nil w6).AH Vi AA).AH fC (by simpa using n1);refine Jn ?_;refine en ?_;refine Ja ?_;have C8:=hs.AD [] (by simp [Vi,fC]) sD;refine cl (h:=by exact Qb qb (Eg s a) _ _ (xW.only C8)) ?_;rintro v w8 ⟨hA8,E9⟩;have hs:=St.nil w8;refine Jb ?_;refine JO ?_;refine ⟨_,hA8,fun k hk=>?_,((EB.step C8 AA).step E9 (fun k hk => .inl (by obtain rfl:=List.mem_singleton.1 hk;simp)))⟩;simp only [aCu] at hk;rcases hk with rfl | rfl | hk
 ·exact .inl AA
 ·exact .inl AA
 ·rcases nF k hk with h | h
  ·exact .inl (by simp [h])
  ·exact .inr h
theorem NP (f:Int→Option IT) (i:Int):(vals f i).getD (iv .zero)=iv (match f i with | some a=>a.1 | none => .zero):=by unfold vals;cases f i <;> rfl
def KZ (s:Qs) (id:Int):Qs:=match s.f id with | some a=>FD s a | none=>s
theorem SZ (qb:Nat) (s:Qs) (F:List Nat) (id:Int) (w0:World) (h:DE w0 qb s F) (hid:In64 id) (hlen:s.t.list.length≤1000000) (hd:∀ a,s.f id=some a→GX a s.t) :
 AO prog 181 #[.pointer (some ⟨qb,0,none⟩),.int .i64 id] w0 fun v w'=>v = .tuple #[iv (match s.f id with | some a=>a.1 | none => .zero),.int .i64 (if (s.f id).isSome then 0 else 14)]∧∃ F',DE w' qb (KZ s id) F'∧(∀ k∈F',k∈F∨w0.heap.size≤k)∧AB F w0 w':=by
 have hq:=h;obtain ⟨tb,mb,Ft,rfl,h1,h2,h3,h4,h5⟩:=h;have hs:=(St.nil w0).AH h1 AA;refine AS func181 ntmps181 ?_;refine Ah ?_;refine Aq ?_;refine al hs ?_;intro b4 w hz hs;have g4:=hs.new (b4,true) AA rfl;simp only at g4;refine Jd ?_;have ho:=hs.AD [] (by simp [h1]) sD;refine Ju (e:=64) (z:=iv .zero) (h2.keep ho AA) hid (by kernel_rfl) (by kernel_rfl) ?_;rw [NP,F9];unfold KZ;cases hf:s.f id with
 | none =>
   repeat' (first|refine Sc ?_|(refine AV hs ?_;intro w hs)|(refine al hs ?_;intro b w hz hs)|fail)
   refine AG ?_;have ho:=hs.AD [] (by simp [h1]) sD;exact ⟨rfl,_,hq.only ho,fun k hk => .inl hk,ho.weaken AA⟩
 | some a =>
   refine vs ?_;refine vs ?_;refine vs ?_;refine al hs ?_;intro b6 w6 jX hs;have g6:=hs.new (b6,true) AA rfl;simp only at g6;have Nu:b6≠b4:=by have:=hs.nd;simp only [aC2,aC6,aCu,not_or] at this;exact this.1.1
   repeat' (first|refine Sd ?_|(refine AV hs ?_;intro w hs)|fail)
   have ho:=hs.AD [] (by simp [h1]) sD;have JX:=hq.only ho;refine cl (h:=by exact XE qb s _ a _ JX hlen (hd a hf)) ?_;rintro v w7 ⟨F',hA,C0,C8⟩;have k4:=C8.block (hs.get (At.tail At.head)) (JX.not (hs.get (At.tail At.head)) (by decide) (by decide) (by decide));have k6:=C8.block (hs.get At.head) (JX.not (hs.get At.head) (by decide) (by decide) (by decide));have ZC:=ho.size;clear hs;have hs:=((St.nil w7).AH k4 AA).AH k6 (by simpa using Nu)
   repeat' (first|refine Sa ?_|(refine AV hs ?_;intro w hs)|fail)
   refine AG ?_;have E9:=hs.AD [b4] (by simp [k6]) sD;refine ⟨rfl,F',hA.Ai E9 (fun k hk hm=>by obtain rfl:=List.mem_singleton.1 hm;exact hA.not k4 (by decide) (by decide) (by decide) hk),fun k hk=>?_,((ho.weaken AA).step C8 (fun k hk => .inl hk)).step E9 (fun k hk => .inr (by obtain rfl:=List.mem_singleton.1 hk;exact g4))⟩;rcases C0 k hk with h | h
   ·exact .inl h
   ·exact .inr om
end Go.Proofs.Q0
namespace Go.Proofs.Q0
open IB (IT)
namespace RB
variable {α : Type} {lt : α → α → Bool} {S : α → Prop} {x : α}
theorem Oc (x:α):∀ l:List α,(IZ lt x l).Perm (x :: l)
 | [] => .refl _
 | y :: l=>by
   unfold IZ;cases lt x y
   ·exact ((Oc x l).cons y).trans (.swap _ _ _)
   ·exact .refl _
theorem Wf (ho:Cw lt S) (hx:S x):∀ {l:List α},(∀ z∈l,S z)→Ki lt l→x∉l→Ki lt (IZ lt x l)
 | [],_,_,_=>List.pairwise_singleton _ _
 | y :: l,hS,h,hn=>by
   obtain ⟨h1,h2⟩:=List.pairwise_cons.1 h;have hy:=hS y aCw;unfold IZ;cases e:lt x y
   ·have Lh:lt y x=true:=by
     cases e':lt y x
     ·exact absurd (ho.tri x y hx hy e e') (fun h=>hn (by rw [h];exact aCw))
     ·rfl
    refine List.pairwise_cons.2 ⟨fun z hz=>?_,Wf ho hx (fun z hz=>hS z (aCy _ hz)) h2 (fun hm=>hn (aCy _ hm))⟩;rcases aCu.1 ((Oc x l).mem_iff.1 hz) with rfl | hz
    ·exact Lh
    ·exact h1 z hz
   ·refine List.pairwise_cons.2 ⟨fun z hz=>?_,h⟩;rcases aCu.1 hz with rfl | hz
    ·exact e
    ·exact ho.tr x y z hx hy (hS z (aCy _ hz)) e (h1 z hz)
theorem jV (ho:Cw lt S) {l:List α} (hS:∀ z∈l,S z) (h:Ki lt l):l.Nodup:=by
 refine List.Pairwise.imp_of_mem (fun {a b} ha hb hab e=>?_) h;subst e;rw [ho.irr a (hS a ha)] at hab;cases hab
theorem lX [DecidableEq α] {l:List α} (h:l.Nodup) (hx:x∈l):l.Perm (x :: sans x l):=by
 induction l with
 | nil=>cases hx
 | cons y l ih =>
   obtain ⟨h1,h2⟩:=aC6.1 h;by_cases e:y=x
   ·subst e;rw [UU,KL (fun z hz he=>h1 (by rw [← he];exact hz))]
   ·rw [Um e];exact ((ih h2 ((aCu.1 hx).resolve_left (fun h=>e h.symm))).cons y).trans (.swap _ _ _)
end RB
theorem aAT {L:List IT} {b lo:Int} (h:∀ x∈L,Kf b lo x.1) (hm:Ib lo) (hi:∀ x∈L,∀ y∈L,x.1.id=y.1.id→x=y):Cw IB.Cy (·∈L):=by
 have o:=ahead_ord (b:=b) (lo:=lo) (S:=fun z=>∃ y∈L,y.1=z) hm (by rintro _ ⟨y,hy,rfl⟩;exact h y hy) (by rintro _ _ ⟨y,hy,rfl⟩ ⟨z,hz,rfl⟩ e;rw [hi y hy z hz e]);exact ⟨fun a ha=>o.irr a.1 ⟨a,ha,rfl⟩,fun a b c ha hb hc=>o.tr a.1 b.1 c.1 ⟨a,ha,rfl⟩ ⟨b,hb,rfl⟩ ⟨c,hc,rfl⟩,fun a b ha hb k1 k2=>Subtype.ext (o.tri a.1 b.1 ⟨a,ha,rfl⟩ ⟨b,hb,rfl⟩ k1 k2)⟩
theorem aCN {L:List IT} {b lo:Int} (h:∀ x∈L,Kf b lo x.1) (hm:Ib lo) (hi:∀ x∈L,∀ y∈L,x.1.id=y.1.id→x=y):Cw (fun x y:IT=>due x.1 y.1) (·∈L):=by
 have o:=uM (b:=b) (lo:=lo) (S:=fun z=>∃ y∈L,y.1=z) hm (by rintro _ ⟨y,hy,rfl⟩;exact h y hy) (by rintro _ _ ⟨y,hy,rfl⟩ ⟨z,hz,rfl⟩ e;rw [hi y hy z hz e]);exact ⟨fun a ha=>o.irr a.1 ⟨a,ha,rfl⟩,fun a b c ha hb hc=>o.tr a.1 b.1 c.1 ⟨a,ha,rfl⟩ ⟨b,hb,rfl⟩ ⟨c,hc,rfl⟩,fun a b ha hb k1 k2=>Subtype.ext (o.tri a.1 b.1 ⟨a,ha,rfl⟩ ⟨b,hb,rfl⟩ k1 k2)⟩
theorem u6 {a:IT} {t:RB IT} {S:IT→Prop} (ho:Cw IB.Cy S) (hg:RB.Good t) (hs:RB.Ki IB.Cy t.list) (hS:∀ z∈t.list,S z) (ha:a∈t.list):∃ t',IB.RO a t=some t'∧(∃ h,RB.Ok t' h)∧t'.list=RB.sans a t.list:=by
 cases t with
 | nil=>cases ha
 | node l y r c =>
   obtain ⟨hc,h,hk⟩:=hg;obtain rfl:c=false:=hc;obtain ⟨h',rfl,hl,hr,Us⟩:=hk.MO
   have hq:∃ h',RB.Ok (.node l y r (IB.MG l r false)) h'∧(IB.MG l r false=true∨l.red=true):=by
    unfold IB.MG;rw [Us];cases e:l.red
    ·exact ⟨_,.red hl hr e Us,.inl rfl⟩
    ·exact ⟨_,.black hl hr Us,.inr rfl⟩
   obtain ⟨h2,hok,hc⟩:=hq;obtain ⟨t1,e1,e2⟩:=RB.VU ho (RB.node l y r false).list.length (.node l y r (IB.MG l r false)) h2 hok rfl hc (aC5 _) ⟨hs,hS,ha⟩;exact ⟨t1,e1,⟨_,e2.ok⟩,e2.list⟩
end Go.Proofs.Q0
namespace Go.Proofs.Q0
open Go Go.RowKit Tryz
open IB (IT DF Bi)
attribute [local irreducible] XS XC XA AY AR A9 A1 A0 Aa Ae AW SE
def Ho (c:Int):Qs:=⟨.zero,.nil,fun _=>none,0,c⟩
theorem Vq (c:Int) (hc:BY c) (w0:World):AO prog 98 #[.int .u64 c] w0 fun v w'=>(∃ qb F,v = .pointer (some ⟨qb,0,none⟩)∧DE w' qb (Ho c) F∧∀ k∈F,w0.heap.size≤k)∧AB [] w0 w':=by
 have hs:=St.nil w0;refine AS func98 ntmps98 ?_;refine Ja ?_;refine cl (h:=by exact IB.Pv [] (.slice none 0 0) AA _ (Cu.nil _ _ _)) ?_;rintro v w1 ⟨⟨tb,Ft,rfl,hT,hFt⟩,ho⟩;replace hs:=hs.AP ho;have AL:=hs.AE rfl;have J0:=AL.size;refine UO ?_;intro mb w2 AN hM hmb;clear hs;have hs:=St.nil w2;refine vs ?_;refine vs ?_;refine bx hs ?_;intro qb w3 hz hs;have Yx:=hs.new (qb,true) AA rfl;simp only at Yx;have Mz:=AN.size;have Nt:=hM.keep (hs.AE rfl) AA;have Fv:=(hT.only AN).only (hs.AE rfl);have jJ:CB w3 mb (vals (fun _=>none)) 0:=Nt;have l9:=hs.get At.head;have AU:=(AL.trans AN).trans (hs.AE rfl);have hA:DE w3 qb (Ho c) (qb :: mb :: Ft):=⟨tb,mb,Ft,rfl,l9,jJ,Fv,(by decide:Mn.zero.In),hc⟩
 have hnew:∀ k∈qb :: mb :: Ft,w0.heap.size≤k:=fun k hk=>by
  simp only [aCu] at hk;rcases hk with rfl | rfl | hk
  ·omega
  ·omega
  ·have:=hFt k hk;omega
 refine Jc ?_;refine AG ?_;exact ⟨⟨qb,_,rfl,hA,hnew⟩,AU⟩
def Ls (s:Qs) (id:Int):Int:=match s.f id with | some a=>C1 ((Fe s.m a.1.p).getD 0) 0 | none=>0
def Xn (s:Qs) (id:Int):Int:=match s.f id with | some a=>(Wr s.m a.1.p).getD 0 | none=>0
def O0 (b:Bool):Int:=bif b then 0 else 14
theorem Lu (qb:Nat) (s:Qs) (F:List Nat) (id:Int) (w0:World) (h:DE w0 qb s F) (hid:In64 id):AO prog 104 #[.pointer (some ⟨qb,0,none⟩),.int .i64 id] w0 fun v w'=>v = .tuple #[.int .i64 (Ls s id),.int .i64 (O0 (s.f id).isSome)]∧AB [] w0 w':=by
 obtain ⟨tb,mb,Ft,rfl,h1,h2,h3,h4,h5⟩:=h;have hs:=(St.nil w0).AH h1 AA;refine AS func104 ntmps104 ?_;refine Jd ?_;have ho:=hs.AD [] (by simp [h1]) sD;refine Ju (e:=64) (z:=iv .zero) (h2.keep ho AA) hid (by kernel_rfl) (by kernel_rfl) ?_;rw [NP,F9];unfold Ls;cases hf:s.f id with
 | none =>
   repeat' (first|refine Sc ?_|(refine AV hs ?_;intro w hs)|(refine al hs ?_;intro b w hz hs)|fail)
   refine AG ?_;exact ⟨rfl,hs.AD [] (by simp [h1]) sD⟩
 | some a =>
   repeat' (first|refine Sd ?_|(refine AV hs ?_;intro w hs)|(refine al hs ?_;intro b w hz hs)|fail)
   refine dr [] hs ?_;intro hX w hs;refine tks 0 6 ?_;refine dt 6 hX ?_;refine AZ hs (h:=by exact UN s.m a.1.p h4 a.2.1 _) ?_;intro w' ho hs;refine Jn ?_;refine tks 7 5 ?_;refine en ?_;refine Ja ?_;refine AG ?_;exact ⟨rfl,hs.AD [] (by simp [h1]) sD⟩
theorem Vo (qb:Nat) (s:Qs) (F:List Nat) (id:Int) (w0:World) (h:DE w0 qb s F) (hid:In64 id):AO prog 48 #[.pointer (some ⟨qb,0,none⟩),.int .i64 id] w0 fun v w'=>v = .tuple #[wv (Xn s id),.int .i64 (O0 (s.f id).isSome)]∧AB [] w0 w':=by
 obtain ⟨tb,mb,Ft,rfl,h1,h2,h3,h4,h5⟩:=h;have hs:=(St.nil w0).AH h1 AA;refine AS func48 ntmps48 ?_
 repeat' (first|refine Sd ?_|(refine al hs ?_;intro b w hz hs)|fail)
 have ho:=hs.AD [] (by simp [h1]) sD;refine Ju (e:=64) (z:=iv .zero) (h2.keep ho AA) hid (by kernel_rfl) (by kernel_rfl) ?_;rw [NP,F9];unfold Xn;cases hf:s.f id with
 | none =>
   repeat' (first|refine Sc ?_|(refine AV hs ?_;intro w hs)|(refine al hs ?_;intro b w hz hs)|fail)
   refine AG ?_;exact ⟨rfl,hs.AD [] (by simp [h1]) sD⟩
 | some a =>
   repeat' (first|refine Sd ?_|(refine AV hs ?_;intro w hs)|(refine al hs ?_;intro b w hz hs)|fail)
   refine dr [] hs ?_;intro hX w hs;refine tks 0 6 ?_;refine Gq 10 8 hs ?_;intro f X w hp;have hs:=hp.st;apply BI 6 10 (f:=f) (X:=X) hX hp;exact rfl;exact rfl;(apply AT AJ;exact rfl);kernel_rfl;kernel_rfl;kernel_rfl;kernel_rfl;(intro X Y;(repeat (first | exact A4 | refine A5 ?_ (by exact rfl))));(intro w' hs;first|exact AI hs.hold|exact AI hs.hold.tail|exact Ab rfl);intro f X w hp;have hs:=hp.st;refine cl (h:=by exact Qn s.m a.1.p h4 a.2.1 _) ?_;rintro v w' ⟨rfl,ho⟩;replace hp:=hp.only ho;replace hs:=hp.st;refine Jn ?_;refine tk 7 hX (hc:=by cases f <;> kernel_rfl) (k:=?_);refine tk 8 hX (hc:=by cases f <;> kernel_rfl) (k:=?_);refine tk 9 hX (hc:=by cases f <;> kernel_rfl) (k:=?_);apply Bb 10 (f:=f) (X:=X) hX hp;exact rfl;(apply AT AJ;exact rfl);kernel_rfl;kernel_rfl;(intro X Y;(repeat (first | exact A4 | refine A5 ?_ (by exact rfl))));(intro w' hs;first|exact AI hs.hold|exact AI hs.hold.tail|exact Ab rfl);intro b w hI hs;refine dt 11 hX ?_
   repeat' (first|refine Nx.h ?_|(refine AV hs ?_;intro w hs)|fail)
   refine dn ?_;refine tk 12 hX ?_;refine en ?_
   repeat' (first|refine Sa ?_|(refine AV hs ?_;intro w hs)|fail)
   refine AG ?_;exact ⟨rfl,hs.AD [] (by simp [h1]) sD⟩
abbrev aAy (qb:Nat):Obj := .cells #[.pointer (some ⟨qb,0,none⟩)] 76 (0,0)
theorem gA (qb tb mb bb:Nat) (m:Mn) (c:Int) (a:IT) (w0:World) (hm:m.In) (h1:w0.heap[qb]?=some (Lc m tb mb c)) (h2:w0.heap[bb]?=some (aAy qb)):AO prog 229 #[iv a.1,.pointer (some ⟨bb,0,none⟩)] w0 fun v w'=>v = .bool (elig m a.1.p)∧AB [] w0 w':=by
 have n1:=A3 h2 h1 (by decide);have hs:=((St.nil w0).AH h1 AA).AH h2 (by simpa using n1);refine AS func229 ntmps229 ?_;refine Ah ?_;refine Aq ?_;refine bx hs ?_;intro bq wq Lp hs;refine Jc ?_;refine dr [] hs ?_;intro hX w hs;refine tks 0 6 ?_;refine dt 6 hX ?_;refine AZ hs (h:=by exact RX m a.1.p hm a.2.1 _) ?_;intro w' ho hs;refine Jn ?_;refine tk 7 hX ?_;refine en ?_;refine Jb ?_;refine AG ?_;exact ⟨rfl,hs.AD [] (by simp [h1,h2]) sD⟩
def Lv (s:Qs):Option IT:=IB.DU (fun a=>elig s.m a.1.p) s.t none
theorem PU (qb:Nat) (s:Qs) (F:List Nat) (w0:World) (h:DE w0 qb s F):AO prog 210 #[.pointer (some ⟨qb,0,none⟩)] w0 fun v w'=>v = .tuple #[iv (IB.JA (Lv s)),.bool (Lv s).isSome]∧AB [] w0 w':=by
 obtain ⟨tb,mb,Ft,rfl,h1,h2,h3,h4,h5⟩:=h;have hs:=(St.nil w0).AH h1 AA;refine AS func210 ntmps210 ?_;refine Ah ?_;refine Aq ?_;refine bx hs ?_;intro bb w hz hs;refine al hs ?_;intro b2 w hz hs;refine Jd ?_;have ho:=hs.AD [] (by simp [h1]) sD;have hq:=hs.get (At.tail (At.tail At.head));have hb:=hs.get (At.tail At.head);refine AZ hs (h:=by exact IB.OV tb s.t Ft _ (h3.only ho) 229 [.pointer (some ⟨bb,0,none⟩)] (fun a=>elig s.m a.1.p) (fun y w _ hw=>gA qb tb mb bb s.m s.c y w h4 (hw.block hq AA) (hw.block hb AA))) ?_;intro w' ho hs;repeat' (first|refine Sb ?_|(refine AV hs ?_;intro w hs)|fail)
 refine AG ?_;exact ⟨rfl,hs.AD [] (by simp [h1]) sD⟩
end Go.Proofs.Q0
namespace Go.Proofs.Q0
open Go Go.RowKit Tryz
attribute [local irreducible] XS XC XA AY AR A9 A1 A0 Aa Ae AW SE
def within (base:Int) (l:List It):Bool:=decide (spr base l≤4611686018427387904)
theorem Kt (base:Int) (l:List It) (sl:Value) (hm:l.length≤1000000) (w0:World) (hP:JU w0 sl l) :
 AO prog 198 #[.int .u64 base,sl] w0 fun v w'=>v = .bool (within base l)∧AB [] w0 w':=by
 obtain ⟨ad,cap,rfl,hD⟩:=id hP;have hs:=St.nil w0;refine AS func198 ntmps198 ?_;refine Ja ?_;refine AZ hs (h:=by exact Ru base l _ hm _ (hP.only (hs.AE rfl))) ?_;intro w' ho hs;refine Jc ?_;refine AG ?_;exact ⟨rfl,hs.AE rfl⟩
theorem fQ (w0:World):AO prog 262 #[.int .u64 0,.slice none 0 0] w0 fun v w'=>v = .int .u64 4611686018427387904∧AB [] w0 w':=by
 have hs:=St.nil w0;refine AS func262 ntmps262 ?_;refine Ja ?_;refine cl (h:=by exact Kt 0 [] _ AA _ (Cu.nil _ _ _)) ?_;rw [show within 0 []=true from by decide];rintro v w' ⟨rfl,ho⟩;replace hs:=hs.AP ho;refine Jd ?_;refine cl (h:=by exact Ru 0 [] _ AA _ (Cu.nil _ _ _)) ?_;rw [show spr 0 []=0 from by decide];rintro v w' ⟨rfl,ho⟩;replace hs:=hs.AP ho;refine Jc ?_;refine AG ?_;exact ⟨rfl,hs.AE rfl⟩
end Go.Proofs.Q0
namespace Go.Proofs.Q0
open Go Go.RowKit Tryz
open IB (IT DF Bi)
attribute [local irreducible] XS XC XA AY AR A9 A1 A0 Aa Ae AW SE
def KC (s:Qs) (a:IT):Int:=bif decide (s.t.list.length=0) then a.1.p.t else F7 s
def plain (l:List IT):List It:=l.map (·.1)
def EA (s:Qs) (a:IT):Int :=
 bif !a.1.right then 2 else bif (s.f a.1.id).isSome then 13 else bif decide (s.t.list.length=32) then 7 else bif !within (KC s a) (plain (s.t.list ++ [a])) then 8 else 0
def DO (s:Qs) (a:IT):Qs:=bif decide (EA s a=0) then LX s a else s
theorem Oy (qb:Nat) (s:Qs) (F:List Nat) (a:IT) (w0:World) (h:DE w0 qb s F) (hlen:s.t.list.length+1≤1000000) (hn:s.n < 1000000) :
 AO prog 171 #[.pointer (some ⟨qb,0,none⟩),iv a.1] w0 fun v w'=>v = .int .i64 (EA s a)∧∃ F',DE w' qb (DO s a) F'∧(∀ k∈F',k∈F∨w0.heap.size≤k)∧AB F w0 w':=by
 have hq:=h;obtain ⟨tb,mb,Ft,rfl,h1,h2,h3,h4,h5⟩:=h;have hs:=(St.nil w0).AH h1 AA;have same:∀ w',AB [] w0 w'→∃ F',DE w' qb s F'∧(∀ k∈F',k∈qb :: mb :: Ft∨w0.heap.size≤k)∧AB (qb :: mb :: Ft) w0 w':=fun w' ho=>⟨_,hq.only ho,fun k hk => .inl hk,ho.weaken AA⟩;refine AS func171 ntmps171 ?_;refine Ah ?_;refine Aq ?_;refine bx hs ?_;intro bq wq Lp hs;refine Jd ?_;have Ir:=hs.new (bq,true) AA rfl;simp only at Ir;have ho:=hs.AD [] (by simp [h1]) sD;refine AZ hs (h:=by exact Nc qb s _ _ (hq.only ho)) ?_;intro w' ho hs;refine vs ?_;refine XS.nil ?_;refine Dw ?_;refine Ah ?_;refine B9 (fun _:Unit=>[(0,.pointer (some ⟨qb,0,none⟩)),(3,.pointer (some ⟨bq,0,none⟩)),(4,.int .i64 0),(5,.int .u64 (KC s a))]) (fun _ w=>St w0 D0 [(bq,q9 a.1,true),(qb,Lc s.m tb mb s.c,false)] w) ?_ ?_
 ·refine Ja ?_;have ho:=hs.AD [] (by simp [h1]) sD;refine AZ hs (h:=by exact L1 qb s _ _ (hq.only ho)) ?_;intro w' ho hs;repeat' (first|refine Sa ?_|refine Aw rfl (fun hc=>?_) fun hc=>?_|fail)
  ·have e:KC s a=a.1.p.t:=by unfold KC;rw [decide_eq_true (show s.t.list.length=0 by omega)];rfl
   rw [e];exact AQ () Ad hs
  ·have e:KC s a=F7 s:=by unfold KC;rw [decide_eq_false (show ¬ s.t.list.length=0 by omega)];rfl
   rw [e];exact AQ () Ad hs
 clear hs ho;rintro _ env w hs;refine Jb ?_;refine dr [] hs ?_;intro hX w hs;refine tks 0 6 ?_;refine Gq 10 6 hs ?_;intro f X w hp;have hs:=hp.st;apply BI 6 10 (f:=f) (X:=X) hX hp;exact rfl;exact rfl;(first | (apply AT AJ;exact rfl) | (apply EL AJ;exact rfl;exact rfl;exact rfl;exact rfl;exact rfl;(intro X;((repeat (first | exact CZ.nil | (apply CZ.one;exact rfl;(conv=>lhs;whnf);exact rfl;(repeat (first | exact Ak.nil | apply Ak.skip | apply Ak.cons))) | (apply CZ.agg;exact rfl;exact rfl;exact rfl;(repeat (first | exact Ak.nil | apply Ak.skip | apply Ak.cons)))))))));kernel_rfl;kernel_rfl;kernel_rfl;kernel_rfl;(intro X Y;(repeat (first | exact A4 | refine A5 ?_ (by exact rfl))));(intro w' hs;first|exact AI hs.hold|exact AI hs.hold.tail|exact Ab rfl);intro f X w hp;have hs:=hp.st;have ho:=hs.AD [] (by simp [h1]) sD;refine Ju (e:=64) (z:=iv .zero) (h2.keep ho AA) a.2.2.1 (by kernel_rfl) (by kernel_rfl) ?_;rw [NP,F9];generalize hx:(match s.f a.1.id with | some a=>a.1 | none=>It.zero)=x;refine Jn ?_;refine tk 7 hX (hc:=by cases f <;> kernel_rfl) (k:=?_);refine tk 8 hX (hc:=by cases f <;> kernel_rfl) (k:=?_);refine tk 9 hX (hc:=by cases f <;> kernel_rfl) (k:=?_);apply Bb 10 (f:=f) (X:=X) hX hp;exact rfl;(first | (apply AT AJ;exact rfl) | (apply EL AJ;exact rfl;exact rfl;exact rfl;exact rfl;exact rfl;(intro X;((repeat (first | exact CZ.nil | (apply CZ.one;exact rfl;(conv=>lhs;whnf);exact rfl;(repeat (first | exact Ak.nil | apply Ak.skip | apply Ak.cons))) | (apply CZ.agg;exact rfl;exact rfl;exact rfl;(repeat (first | exact Ak.nil | apply Ak.skip | apply Ak.cons)))))))));kernel_rfl;kernel_rfl;(intro X Y;(repeat (first | exact A4 | refine A5 ?_ (by exact rfl))));(intro w' hs;first|exact AI hs.hold|exact AI hs.hold.tail|exact Ab rfl);intro b w hI hs;refine dt 11 hX ?_
 repeat' (first|refine Nx.h ?_|(refine AV hs ?_;intro w hs)|fail)
 refine dn ?_;refine tk 12 hX ?_;refine en ?_;replace hs:=hs.Bx;refine Ja ?_;refine AZ hs (h:=by exact N1 a.1 _) ?_;intro w' ho hs;repeat' (first|refine Sa ?_|refine xc_cond rfl (fun hc=>?_) fun hc=>?_|fail)
 ·refine AG ?_;have ho:=hs.AD [] (by simp [h1]) sD;have e:EA s a=2:=by unfold EA;rw [show (!a.1.right)=true by simpa using hc];rfl
  refine ⟨by rw [e];rfl,?_⟩;unfold DO;rw [e];exact same _ ho
 ·refine AG ?_;have ho:=hs.AD [] (by simp [h1]) sD;have e:EA s a=13:=by unfold EA;rw [show (!a.1.right)=false by assumption,hc];rfl
  refine ⟨by rw [e];rfl,?_⟩;unfold DO;rw [e];exact same _ ho
 ·have r1:(!a.1.right)=false:=by assumption
  have r2:(s.f a.1.id).isSome=false:=by simpa using hc
  have ho:=hs.AD [] (by simp [h1]) sD;refine AZ hs (h:=by exact L1 qb s _ _ (hq.only ho)) ?_;intro w' ho hs;repeat' (first|refine Sa ?_|refine Aw rfl (fun hc=>?_) fun hc=>?_|fail)
  ·refine AG ?_;have ho:=hs.AD [] (by simp [h1]) sD;have e:EA s a=7:=by unfold EA;rw [r1,r2,decide_eq_true (show s.t.list.length=32 by omega)];rfl
   refine ⟨by rw [e];rfl,?_⟩;unfold DO;rw [e];exact same _ ho
  ·have r3:¬ s.t.list.length=32:=by omega
   refine dr [] hs ?_;intro hX w hs;refine tks 0 2 ?_;refine tk 3 hX ?_;refine pX 4 43 a.1.cells hs ?_;intro f X w hp;have hs:=hp.st;apply BI 2 4 (f:=f) (X:=X) hX hp;exact rfl;exact rfl;(first | (apply AT AJ;exact rfl) | (apply EL AJ;exact rfl;exact rfl;exact rfl;exact rfl;exact rfl;(intro X;((repeat (first | exact CZ.nil | (apply CZ.one;exact rfl;(conv=>lhs;whnf);exact rfl;(repeat (first | exact Ak.nil | apply Ak.skip | apply Ak.cons))) | (apply CZ.agg;exact rfl;exact rfl;exact rfl;(repeat (first | exact Ak.nil | apply Ak.skip | apply Ak.cons)))))))));kernel_rfl;kernel_rfl;kernel_rfl;kernel_rfl;(intro X Y;(repeat (first | exact A4 | refine A5 ?_ (by exact rfl))));(intro w' hs;first|exact AI hs.hold|exact AI hs.hold.tail|exact Ab rfl);intro f X w hp;have hs:=hp.st;have ho:=hs.AD [] (by simp [h1]) sD;have J3:=lt_of_block (hs.get At.head);refine cl (h:=by exact TF qb s _ _ (hq.only ho) om) ?_;rintro v1 w1 ⟨⟨G,hG,DV⟩,AL⟩;have hz:=ho.size;replace hp:=(⟨hp.core.only AL,hG,fun _ _ ho h=>h.keep ho AA⟩:Et w0 D0 _ _ _ (fun w=>B6 w 64 7 v1 s.t.list.length (Bi s.t.list) G) _ _ _);replace hs:=hp.st;have IY:∀ k∈G,w0.heap.size≤k:=fun k hk=>by have:=DV k hk;omega
   refine Jn ?_;apply Bb 4 (f:=f) (X:=X) hX hp;exact rfl;(first | (apply AT AJ;exact rfl) | (apply EL AJ;exact rfl;exact rfl;exact rfl;exact rfl;exact rfl;(intro X;((repeat (first | exact CZ.nil | (apply CZ.one;exact rfl;(conv=>lhs;whnf);exact rfl;(repeat (first | exact Ak.nil | apply Ak.skip | apply Ak.cons))) | (apply CZ.agg;exact rfl;exact rfl;exact rfl;(repeat (first | exact Ak.nil | apply Ak.skip | apply Ak.cons)))))))));kernel_rfl;kernel_rfl;(intro X Y;(repeat (first | exact A4 | refine A5 ?_ (by exact rfl))));(intro w' hs;first|exact AI hs.hold|exact AI hs.hold.tail|exact Ab rfl);intro b w hI hs;refine dt 5 hX ?_;have hb4:=hs.get At.head;have AN:=hs.AD [] (by simp [h1]) sD;refine CF AJ rfl rfl rfl rfl rfl rfl rfl (by decide) (lit_cells (news:=a.1.cells) hb4) (by simp [Value.oneCell']) hI om om ?_;intro v2 w2 ⟨G',KQ,Qm⟩ AU;have ZU:bq∉G:=fun hm=>by have:=DV bq hm;omega
   have hqG:qb∉G:=IB.Mc hI (by decide) (hs.get (At.tail (At.tail At.head)))
   replace hs:=hs.Bx.call AU (fun k hk hm=>by
    simp only [aC2,aDD,aCu,aC1,or_false] at hm;rcases hm with rfl | rfl
    ·exact ZU hk
    ·exact hqG hk) sD
   have yG:AB [] w0 w2:=(hs.AD (G ++ []) (by simp [h1]) sD).mono (fun k hk hm=>by
    rw [aDP] at hm;have:=IY k hm;omega)
   have hL:JU w2 v2 (plain (s.t.list ++ [a])):=IB.Od (G:=G') (by
    rw [IB.MK,aCv];exact KQ)
   refine Jn ?_;refine dt 6 hX ?_;refine cl (h:=by exact Kt (KC s a) (plain (s.t.list ++ [a])) v2 (by simp [plain];omega) _ hL) (k:=?_);generalize hwi:within (KC s a) (plain (s.t.list ++ [a]))=wi;rintro v3 w3 ⟨rfl,Ar⟩;replace hs:=hs.AP Ar;have aY:=yG.trans Ar;refine Jn ?_;refine tks 7 2 ?_;refine en ?_;cases wi
   ·refine Je ?_;refine AG ?_;have e:EA s a=8:=by unfold EA;rw [r1,r2,decide_eq_false r3,hwi];rfl
    refine ⟨by rw [e];rfl,?_⟩;unfold DO;rw [e];exact same _ aY
   ·have e:EA s a=0:=by unfold EA;rw [r1,r2,decide_eq_false r3,hwi];rfl
    refine Jd ?_;refine cl (h:=by exact Xf qb s _ a _ (hq.only aY) hlen hn) ?_;rintro v w5 ⟨F',hA,C0,BL⟩;have hz5:=aY.size;clear hs;have hs:=St.nil w5;refine Ja ?_;refine AG ?_;refine ⟨by rw [e];rfl,?_⟩;unfold DO;rw [e];exact ⟨F',hA.only (hs.AE rfl),fun k hk=>by rcases C0 k hk with h | h;exact .inl h;exact .inr om,((aY.weaken AA).step BL (fun k hk => .inl hk)).step (hs.AE rfl) AA⟩
end Go.Proofs.Q0
namespace Go.Proofs.Q0
open IB (IT)
structure QI (s:Qs):Prop where
 good:RB.Good s.t
 srt:RB.Ki IB.Cy s.t.list
 f:∀ i a,s.f i=some a↔a∈s.t.list∧a.1.id=i
 n:s.n=s.t.list.length
 len:s.t.list.length≤32
 cen:s.t.list≠[]→LK s.m (plain s.t.list)
 nil:s.t.list=[]→s.m.a=0∧s.m.w=0∧s.m.n=0
theorem QI.inj {s:Qs} (h:QI s):∀ x∈s.t.list,∀ y∈s.t.list,x.1.id=y.1.id→x=y:=fun x hx y hy e=>by
 have h1:=(h.f _ x).2 ⟨hx,rfl⟩;have h2:=(h.f _ y).2 ⟨hy,e.symm⟩;rw [h1] at h2;exact aDo h2
theorem plain_ne {l:List IT} (h:l≠[]):plain l≠[]:=fun e=>h (List.map_eq_nil_iff.1 e)
theorem plain_perm {l l':List IT} (h:l.Perm l'):(plain l).Perm (plain l'):=h.map _
theorem plain_win {l:List IT} {b lo:Int} (h:Cg b lo (plain l)):∀ x∈l,Kf b lo x.1:=fun x hx=>h.2.2 _ (aDF hx)
theorem QI.win {s:Qs} (h:QI s):∃ lo,Cg s.m.b lo (plain s.t.list):=by
 by_cases e:s.t.list=[]
 ·rw [e];exact ⟨0,by unfold Ib;omega,by simp [plain],by simp [plain]⟩
 ·exact (h.cen e).all
theorem QI.ord {s:Qs} (h:QI s):Cw IB.Cy (·∈s.t.list):=by
 obtain ⟨lo,k⟩:=h.win;exact aAT (plain_win k) k.1 h.inj
theorem To {s:Qs} (h:s.t.list≠[]):F7 s=(I9 s.m).getD 0:=by
 unfold F7;rw [decide_eq_false (fun e=>h (aDp e)),cond_false]
theorem XR {s:Qs} (h:s.t.list=[]):F7 s=s.c:=by
 unfold F7;rw [h];rfl
theorem QI.now {s:Qs} (h:QI s) (e:s.t.list≠[]):F7 s=s.m.b:=by
 rw [To e,(h.cen e).now (plain_ne e)];rfl
theorem L6 {s:Qs} {a:IT} (h:s.t.list=[]):FY s a=⟨a.1.p.t,0,0,0⟩:=by unfold FY;rw [h];rfl
theorem LA {s:Qs} {a:IT} (h:s.t.list≠[]):FY s a=s.m:=by
 unfold FY;rw [decide_eq_false (fun e=>h (aDp e)),cond_false]
theorem QI.pre {s:Qs} (h:QI s) (a:IT):Kg (FY s a) (plain s.t.list):=by
 by_cases e:s.t.list=[]
 ·rw [L6 e,e];exact ⟨rfl,rfl,rfl⟩
 ·rw [LA e];exact (h.cen e).is
theorem eU {f:Int→Option IT} {L L':List IT} {a:IT} (h:∀ i x,f i=some x↔x∈L∧x.1.id=i) (hn:f a.1.id=none) (hp:L'.Perm (a :: L)):∀ i x,Ka f a.1.id (some a) i=some x↔x∈L'∧x.1.id=i:=fun i x=>by
 unfold Ka;rw [hp.mem_iff,aCu];by_cases e:i=a.1.id
 ·rw [decide_eq_true e,cond_true];constructor
  ·rintro ⟨⟩;exact ⟨.inl rfl,e.symm⟩
  ·rintro ⟨rfl | hx,hi⟩
   ·rfl
   ·rw [(h a.1.id x).2 ⟨hx,by omega⟩] at hn;cases hn
 ·rw [decide_eq_false e,cond_false,h i x];constructor
  ·exact fun ⟨h1,h2⟩=>⟨.inr h1,h2⟩
  ·rintro ⟨rfl | hx,hi⟩
   ·exact absurd hi.symm e
   ·exact ⟨hx,hi⟩
theorem QI.put {s:Qs} (h:QI s) {a:IT} {lo:Int} (hn:s.f a.1.id=none) (hw:Cg (FY s a).b lo (a.1 :: plain s.t.list)):QI (LX s a)∧(LX s a).t.list.Perm (a :: s.t.list)∧(LX s a).c=s.c:=by
 have hna:a∉s.t.list:=fun hm=>by rw [(h.f _ a).2 ⟨hm,rfl⟩] at hn;cases hn
 have hid:∀ x∈s.t.list,x.1.id≠a.1.id:=fun x hx e=>by rw [(h.f _ x).2 ⟨hx,e⟩] at hn;cases hn
 have ho:Cw IB.Cy (·∈a :: s.t.list):=aAT (b:=(FY s a).b) (lo:=lo) (fun x hx=>by
  rcases aCu.1 hx with rfl | hx
  ·exact hw.head
  ·exact plain_win hw.tail x hx) hw.1 (fun x hx y hy e=>by
  rcases aCu.1 hx with h1 | h1 <;> rcases aCu.1 hy with h2 | h2
  ·rw [h1,h2]
  ·rw [h1] at e;exact absurd e.symm (hid y h2)
  ·rw [h2] at e;exact absurd e (hid x h1)
  ·exact h.inj x h1 y h2 e)
 have oA:RB.has IB.Cy a s.t=false:=by
  have:=RB.PX ho (x:=a) aCw s.t h.srt (fun z hz=>aCy _ hz);cases e:RB.has IB.Cy a s.t
  ·rfl
  ·exact absurd (this.1 e) hna
 have ht:(H9 s a).t=RB.blacken (RB.ins IB.Cy s.t a):=by show IB.RB.insert s.t a=_;unfold IB.RB.insert;rw [oA];rfl
 have hl:(H9 s a).t.list=RB.IZ IB.Cy a s.t.list:=by rw [ht,RB.Iu,RB.RZ ho aCw s.t h.srt (fun z hz=>aCy _ hz)]
 have hp:(H9 s a).t.list.Perm (a :: s.t.list):=by rw [hl];exact RB.Oc _ _
 obtain ⟨m',e1,e2,e3⟩:=kA hw (h.pre a);have em:(H9 s a).m=m':=by show (ER _ _).getD .zero=_;rw [e1];rfl
 have hne:(H9 s a).t.list≠[]:=fun e=>by rw [e] at hp;exact absurd hp.length_eq AA
 obtain ⟨m2,e4,e5⟩:=Oa (m:=m') (lo:=lo) (l:=a.1 :: plain s.t.list) (by rw [e2];exact hw) e3 AA
 have ec:LX s a={ H9 s a with m:=m2 }:=by
  unfold LX LB;rw [To hne,em,e4];rfl
 have nW:=hw.2.1;simp only [plain,aCx,aC0] at nW;refine ⟨?_,by rw [ec];exact hp,by rw [ec];rfl⟩;rw [ec]
 exact {
  good:=by show RB.Good (H9 s a).t;rw [ht];exact RB.Good.ins h.good
  srt:=by show RB.Ki _ (H9 s a).t.list;rw [hl];exact RB.Wf ho aCw (fun z hz=>aCy _ hz) h.srt hna
  f:=eU h.f hn hp
  n:=by
   show (if (s.f a.1.id).isSome then s.n else s.n+1)=(H9 s a).t.list.length;rw [hn,hp.length_eq,h.n];rfl
  len:=by show (H9 s a).t.list.length≤32;rw [hp.length_eq];exact nW
  cen:=fun _=>e5.perm (plain_perm hp.symm)
  nil:=fun e=>absurd e hne }
theorem QI.cut {s:Qs} (h:QI s) {a:IT} (ha:a∈s.t.list):QI (FD s a)∧(FD s a).t.list=RB.sans a s.t.list∧s.t.list.Perm (a :: RB.sans a s.t.list)∧(FD s a).c=F7 s∧GX a s.t:=by
 have hne:s.t.list≠[]:=fun e=>by rw [e] at ha;cases ha
 obtain ⟨t1,d1,d2,d3⟩:=u6 h.ord h.good h.srt (fun z hz=>hz) ha;have oA:RB.has IB.Cy a s.t=true:=(RB.PX h.ord (x:=a) ha s.t h.srt (fun z hz=>hz)).2 ha;have hnd:=RB.jV h.ord (fun z hz=>hz) h.srt;have hp:=RB.lX hnd ha;have ht:(Eg s a).t=RB.blacken t1:=by show X3 a s.t=_;unfold X3;rw [oA,d1];rfl
 have hl:(Eg s a).t.list=RB.sans a s.t.list:=by rw [ht,RB.Iu,d3]
 have hC:=h.cen hne;obtain ⟨lo,hw⟩:=hC.all;have hw2:Cg s.m.b lo (a.1 :: plain (RB.sans a s.t.list)):=hw.perm (plain_perm hp);have hm2:Kg s.m (a.1 :: plain (RB.sans a s.t.list)):=hC.is.perm (plain_perm hp);obtain ⟨e1,e2⟩:=uC hw2 hm2;have em:(Eg s a).m=Fh s.m a.1.p:=by show (Fu _ _).getD .zero=_;rw [e1];rfl
 have hok:GX a s.t:=fun _=>⟨by rw [d1];rfl,by rw [d1];show t1.list.length+1=_;rw [d3,hp.length_eq];rfl⟩;have hmem:∀ x,x∈RB.sans a s.t.list↔x∈s.t.list∧x≠a:=fun x=>by unfold RB.sans;rw [List.mem_filter];simp
 have xE:RB.Ki IB.Cy (RB.sans a s.t.list):=List.Pairwise.filter _ h.srt;have hlen:=hp.length_eq;simp only [aCx] at hlen;have hfa:s.f a.1.id=some a:=(h.f _ a).2 ⟨ha,rfl⟩
 have hf:∀ i x,Ka s.f a.1.id none i=some x↔x∈RB.sans a s.t.list∧x.1.id=i:=fun i x=>by
  unfold Ka;rw [hmem];by_cases e:i=a.1.id
  ·rw [decide_eq_true e,cond_true];constructor
   ·rintro ⟨⟩
   ·rintro ⟨⟨k1,k2⟩,k3⟩;exact absurd (h.inj x k1 a ha om) k2
  ·rw [decide_eq_false e,cond_false,h.f i x];constructor
   ·exact fun ⟨h1,h2⟩=>⟨⟨h1,fun e'=>e (by rw [← h2,e'])⟩,h2⟩
   ·exact fun ⟨h1,h2⟩=>⟨h1.1,h2⟩
 have hn:(if (s.f a.1.id).isSome then s.n - 1 else s.n)=(RB.sans a s.t.list).length:=by rw [hfa,h.n];simp only [Option.isSome_some,if_true];omega
 have hg:RB.Good (Eg s a).t:=by rw [ht];obtain ⟨k,d2⟩:=d2;exact ⟨RB.Q0 _,d2.blacken⟩
 by_cases hz:RB.sans a s.t.list=[]
 ·have e3:JE (Fh s.m a.1.p) (F7 s)=some ⟨F7 s,0,0,0⟩:=by
   have i1:=e2.a;have i2:=e2.w;have i3:=e2.n;rw [hz] at i1 i2 i3;simp only [plain,aDD,C4,CI,aDA] at i1 i2 i3;unfold JE;rw [i1,i2,i3];simp only [Int.zero_mul,Int.sub_zero];exact if_pos ⟨by rw [Cm];left;exact ⟨i3,i2,i1⟩,Ot⟩
  have ec:FD s a={ Eg s a with m:=⟨F7 s,0,0,0⟩ }:=by
   unfold FD LB;rw [XR (hl.trans hz),em,show (Eg s a).c=F7 s from rfl,e3];rfl
  refine ⟨?_,by rw [ec];exact hl,hp,by rw [ec];rfl,hok⟩;rw [ec];exact { good:=hg,srt:=by show RB.Ki _ (Eg s a).t.list;rw [hl];exact xE,f:=by show ∀ i x,Ka s.f a.1.id none i=some x↔x∈(Eg s a).t.list∧_;rw [hl];exact hf,n:=by show (if _ then _ else _)=(Eg s a).t.list.length;rw [hl];exact hn,len:=by show (Eg s a).t.list.length≤32;rw [hl,hz];simp,cen:=fun k=>absurd (hl.trans hz) k,nil:=fun _=>⟨rfl,rfl,rfl⟩ }
 ·obtain ⟨m2,e4,e5⟩:=Oa (m:=Fh s.m a.1.p) (lo:=lo) (l:=plain (RB.sans a s.t.list)) hw2.tail e2 (plain_ne hz)
  have ec:FD s a={ Eg s a with m:=m2 }:=by
   unfold FD LB;rw [To (by rw [hl];exact hz),em,e4];rfl
  refine ⟨?_,by rw [ec];exact hl,hp,by rw [ec];rfl,hok⟩;rw [ec];exact { good:=hg,srt:=by show RB.Ki _ (Eg s a).t.list;rw [hl];exact xE,f:=by show ∀ i x,Ka s.f a.1.id none i=some x↔x∈(Eg s a).t.list∧_;rw [hl];exact hf,n:=by show (if _ then _ else _)=(Eg s a).t.list.length;rw [hl];exact hn,len:=by show (Eg s a).t.list.length≤32;rw [hl];have:=h.len;omega,cen:=fun _=>by show LK m2 (plain (Eg s a).t.list);rw [hl];exact e5,nil:=fun k=>absurd (hl.symm.trans k) hz }
theorem QI.new (c:Int):QI (Ho c) where
 good:=RB.Good.nil
 srt:=List.Pairwise.nil
 f i a:=by constructor;rintro ⟨⟩;rintro ⟨h,_⟩;cases h
 n:=rfl
 len:=by simp [Ho,RB.list]
 cen h:=absurd rfl h
 nil _:=⟨rfl,rfl,rfl⟩
end Go.Proofs.Q0
namespace Go.Proofs.Q0
open Go Go.RowKit Tryz
attribute [local irreducible] XS XC XA AY AR A9 A1 A0 Aa Ae AW SE
structure Rq where
 i:It
 left:Int
 slice:Int
 asleep:Bool
deriving DecidableEq
abbrev Rq.cells (r:Rq):List Value:=[.int .u64 r.i.p.t,.int .u32 r.i.p.r,.int .u32 r.i.p.w,.int .i64 r.i.id,.int .u64 r.i.d.t,.int .u32 r.i.d.r,.int .u32 r.i.d.w,.int .u64 r.left,.int .u64 r.slice,.bool r.asleep]
def rv (r:Rq):Value := .agg #[.int .u64 r.i.p.t,.int .u32 r.i.p.r,.int .u32 r.i.p.w,.int .i64 r.i.id,.int .u64 r.i.d.t,.int .u32 r.i.d.r,.int .u32 r.i.d.w,.int .u64 r.left,.int .u64 r.slice,.bool r.asleep]
def Rq.In (r:Rq):Prop:=r.i.In∧BY r.left∧BY r.slice
instance aCU (r:Rq):Decidable r.In:=by unfold Rq.In;infer_instance
def Rq.zero:Rq:=⟨.zero,0,0,false⟩
def EZ (n:Int):Bool:=decide (1≤n) && decide (n≤1099511627776)
theorem Nd {n:Int}:EZ n=true↔1≤n∧n≤1099511627776:=by unfold EZ;simp
theorem TI (n:Int) (w0:World):AO prog 191 #[.int .u64 n] w0 fun v w'=>v = .bool (EZ n)∧AB [] w0 w':=by
 have hs:=St.nil w0;refine AS func191 ntmps191 ?_
 repeat' (first|refine Sf ?_|((with_reducible apply BV);exact rfl;exact rfl;intro c hc;(fail_if_success have:true=c:=hc);(fail_if_success have:false=c:=hc);cases c)|fail)
 all_goals (refine AG ?_)
 all_goals refine ⟨?_,hs.AE rfl⟩
 all_goals clear hs
 ·have h1:decide (1≤n)=false:=hc;unfold EZ;rw [h1];rfl
 ·have h1:decide (1≤n)=true:=hc;unfold EZ;rw [h1];rfl
def Xq (p:Pt) (n:Int):Pt:=(M1 p (n*1048576)).getD .zero
theorem aAE {o:Option Pt} (h:∀ p,o=some p→p.In):(o.getD .zero).In:=by
 cases o with
 | none=>decide
 | some p=>exact h p rfl
theorem tS (p:Pt) (n:Int):(Xq p n).In:=aAE fun q h=>(at_some h).1
theorem VY (p:Pt) (n:Int) (hp':p.In) (h0:0≤n) (h1:n≤1099511627776) (w0:World):AO prog 192 #[pv p,.int .u64 n] w0 fun v w'=>v=pv (Xq p n)∧AB [] w0 w':=by
 have e:IntKind.u64.wrap (n*1048576)=n*1048576:=by rw [wrap_u64];omega
 have hs:=St.nil w0;refine AS func192 ntmps192 ?_
 repeat' (first|refine Sa ?_|(refine al hs ?_;intro b w hz hs)|(refine bx hs ?_;intro b w hz hs)|fail)
 refine cl (h:=by exact RM p (IntKind.u64.wrap (n*1048576)) hp' (by rw [e];exact ⟨by omega,by omega⟩) _) (k:=?_);rw [e]
 rintro v w' ⟨rfl,ho⟩;replace hs:=hs.AP ho;repeat' (first|refine Sa ?_|(refine AV hs ?_;intro w hs)|(refine al hs ?_;intro b w hz hs)|fail)
 refine AG ?_;exact ⟨rfl,hs.AE rfl⟩
def Rq.right (r:Rq):Bool:=r.i.right && EZ r.left && EZ r.slice && decide (Xq r.i.p r.left=r.i.d)
theorem aA8 (p q:Pt):(DQ (.int .u64 p.t) (.int .u64 q.t) && (DQ (.int .u32 p.r) (.int .u32 q.r) && DQ (.int .u32 p.w) (.int .u32 q.w)))=decide (p=q):=by
 show ((p.t == q.t) && ((p.r == q.r) && (p.w == q.w)))=_;obtain ⟨a,b,c⟩:=p;obtain ⟨a',b',c'⟩:=q;simp only [Pt.mk.injEq];by_cases h1:a=a' <;> by_cases h2:b=b' <;> by_cases h3:c=c' <;> simp [h1,h2,h3]
theorem JF (r:Rq) (hr:r.In) (w0:World):AO prog 146 #[rv r] w0 fun v w'=>v = .bool r.right∧AB [] w0 w':=by
 have hs:=St.nil w0;refine AS func146 ntmps146 ?_
 repeat' (first|refine Sa ?_|(refine bx hs ?_;intro b w hz hs)|fail)
 refine dr [] hs ?_;intro hX w hs;refine tks 0 2 ?_;refine dt 2 hX ?_;refine AZ hs (h:=by exact N1 r.i _) ?_;intro w' ho hs;refine Jn ?_;refine tk 3 hX ?_;refine TW 6 rfl ?_;intro c q1;cases c
 ·refine pt 4 hX ?_;refine pt 5 hX ?_;refine pt 6 hX ?_;refine tks 7 2 ?_;refine pt 9 hX ?_;refine pt 10 hX ?_;refine pt 11 hX ?_;refine tks 12 2 ?_;refine pt 14 hX ?_;refine pt 15 hX ?_;refine pt 16 hX ?_;refine pt 17 hX ?_;refine pt 18 hX ?_;refine pt 19 hX ?_;refine pt 20 hX ?_;refine pt 21 hX ?_;refine pt 22 hX ?_;refine pt 23 hX ?_;refine tks 24 2 ?_;refine en ?_;refine Jb ?_;refine AG ?_;refine ⟨?_,hs.AE rfl⟩;unfold Rq.right;rw [q1];rfl
 ·refine tks 4 2 ?_;refine dt 6 hX ?_;refine AZ hs (h:=by exact TI r.left _) ?_;intro w' ho hs;refine Jn ?_;refine tks 7 2 ?_;refine TW 11 rfl ?_;intro c q2;cases c
  ·refine pt 9 hX ?_;refine pt 10 hX ?_;refine pt 11 hX ?_;refine tks 12 2 ?_;refine pt 14 hX ?_;refine pt 15 hX ?_;refine pt 16 hX ?_;refine pt 17 hX ?_;refine pt 18 hX ?_;refine pt 19 hX ?_;refine pt 20 hX ?_;refine pt 21 hX ?_;refine pt 22 hX ?_;refine pt 23 hX ?_;refine tks 24 2 ?_;refine en ?_;refine Jb ?_;refine AG ?_;refine ⟨?_,hs.AE rfl⟩;unfold Rq.right;rw [q1,q2];rfl
  ·refine tks 9 2 ?_;refine dt 11 hX ?_;refine AZ hs (h:=by exact TI r.slice _) ?_;intro w' ho hs;refine Jn ?_;refine tks 12 2 ?_;refine TW 16 rfl ?_;intro c q3;cases c
   ·refine pt 14 hX ?_;refine pt 15 hX ?_;refine pt 16 hX ?_;refine pt 17 hX ?_;refine pt 18 hX ?_;refine pt 19 hX ?_;refine pt 20 hX ?_;refine pt 21 hX ?_;refine pt 22 hX ?_;refine pt 23 hX ?_;refine tks 24 2 ?_;refine en ?_;refine Jb ?_;refine AG ?_;refine ⟨?_,hs.AE rfl⟩;unfold Rq.right;rw [q1,q2,q3];rfl
   ·have h2:=Nd.1 q2;refine tks 14 5 ?_;refine tks 20 3 ?_;refine dt 19 hX ?_;refine AZ hs (h:=by exact VY r.i.p r.left hr.1.1 om h2.2 _) ?_;intro w' ho hs;refine Jn ?_;refine tks 23 3 ?_;refine en ?_;refine Jb ?_;refine AG ?_;refine ⟨?_,hs.AE rfl⟩;unfold Rq.right;rw [q1,q2,q3];show Value.bool _=Value.bool _;rw [aA8];rfl
def EC (r:Rq):Rq:=bif EZ r.left then ⟨⟨r.i.p,r.i.id,Xq r.i.p r.left⟩,r.left,r.slice,r.asleep⟩ else r
def CM (r:Rq):Option Rq:=bif (EC r).right then some (EC r) else none
theorem Yz {r:Rq} (h:r.In):(EC r).In:=by
 unfold EC;cases EZ r.left
 ·exact h
 ·exact ⟨⟨h.1.1,h.1.2.1,tS _ _⟩,h.2⟩
def iM (o:Option Rq):Value := .tuple #[rv (o.getD .zero),.bool o.isSome]
theorem Lj (r:Rq) (hr:r.In) (w0:World):AO prog 147 #[rv r] w0 fun v w'=>v=iM (CM r)∧AB [] w0 w':=by
 have hs:=St.nil w0;refine AS func147 ntmps147 ?_;refine Ah ?_;refine Aq ?_;refine bx hs ?_;intro b1 w hz hs;refine al hs ?_;intro b2 w hz hs;refine vs ?_;refine XS.nil ?_;refine Dw ?_;refine Ah ?_;refine B9 (fun _:Unit=>[(1,.pointer (some ⟨b1,0,none⟩)),(2,.pointer (some ⟨b2,0,none⟩))]) (fun _ w=>St w0 D0 [(b2,.cells Rq.zero.cells.toArray 66,true),(b1,.cells (EC r).cells.toArray 66,true)] w) ?_ ?_
 ·refine Ja ?_;refine cl (h:=by exact TI r.left _) ?_;generalize hq:EZ r.left=q;cases q
  ·have e:EC r=r:=by unfold EC;rw [hq];rfl
   rw [e];rintro v w' ⟨rfl,ho⟩;replace hs:=hs.AP ho;refine Jg ?_;exact AQ () Ad hs
  ·have e:EC r=⟨⟨r.i.p,r.i.id,Xq r.i.p r.left⟩,r.left,r.slice,r.asleep⟩:=by unfold EC;rw [hq];rfl
   have h2:=Nd.1 hq;rw [e];rintro v w' ⟨rfl,ho⟩;replace hs:=hs.AP ho;refine Je ?_;refine AZ hs (h:=by exact VY r.i.p r.left hr.1.1 om h2.2 _) ?_;intro w' ho hs;repeat' (first|refine Sb ?_|(refine AV hs ?_;intro w hs)|fail)
   exact AQ () Ad hs
 clear hs;rintro _ env w hs;have hf:=Yz hr;unfold CM;generalize EC r=u at *;refine Ja ?_;refine cl (h:=by exact JF u hf _) ?_;generalize hq:u.right=q;cases q
 ·rintro v w' ⟨rfl,ho⟩;replace hs:=hs.AP ho;repeat' (first|refine Sc ?_|(refine AV hs ?_;intro w hs)|fail)
  refine AG ?_;exact ⟨rfl,hs.AE rfl⟩
 ·rintro v w' ⟨rfl,ho⟩;replace hs:=hs.AP ho;repeat' (first|refine Sd ?_|(refine AV hs ?_;intro w hs)|fail)
  refine AG ?_;exact ⟨rfl,hs.AE rfl⟩
def newR (p:Pt) (id n:Int):Option Rq:=CM ⟨⟨p,id,.zero⟩,n,n,false⟩
theorem LV (p:Pt) (id n:Int) (hp':p.In) (hi:In64 id) (hn:BY n) (w0:World):AO prog 131 #[pv p,.int .i64 id,.int .u64 n] w0 fun v w'=>v=iM (newR p id n)∧AB [] w0 w':=by
 have hs:=St.nil w0;refine AS func131 ntmps131 ?_
 repeat' (first|refine Sa ?_|(refine al hs ?_;intro b w hz hs)|(refine bx hs ?_;intro b w hz hs)|fail)
 refine AZ hs (h:=by exact Lj ⟨⟨p,id,.zero⟩,n,n,false⟩ ⟨⟨hp',hi,(by decide:Pt.zero.In)⟩,hn,hn⟩ _) ?_;intro w' ho hs;repeat' (first|refine Sb ?_|(refine AV hs ?_;intro w hs)|fail)
 refine AG ?_;exact ⟨rfl,hs.AE rfl⟩
theorem Mv {r u:Rq} (h:r.In) (e:CM r=some u):u.In∧u.right=true:=by
 unfold CM at e;cases hq:(EC r).right
 ·rw [hq] at e;cases e
 ·rw [hq,cond_true] at e;cases e;exact ⟨Yz h,hq⟩
def Cz (r:Rq) (p:Pt) (n:Int):Rq:=⟨⟨p,r.i.id,r.i.d⟩,bif decide (r.left - n=0) then r.slice else r.left - n,r.slice,r.asleep⟩
def DH (r:Rq) (n:Int):Option (Rq × Bool) :=
 if r.right=true∧n≠0∧n≤r.left then (match M1 r.i.p (n*1048576) with | none=>none | some p=>(CM (Cz r p n)).map fun u=>(u,decide (r.left - n=0))) else none
def svV (o:Option (Rq × Bool)):Value:=match o with
 | none => .tuple #[rv .zero,.bool false,.bool false]
 | some (u,b) => .tuple #[rv u,.bool b,.bool true]
theorem SR {r:Rq} (h:r.right=true):1≤r.left∧r.left≤1099511627776∧1≤r.slice∧r.slice≤1099511627776:=by
 unfold Rq.right at h;simp only [aDB] at h;have h1:=Nd.1 h.1.1.2;have h2:=Nd.1 h.1.2;omega
theorem XF {r:Rq} {p:Pt} {n:Int} (hr:r.In) (hp:p.In) (h0:0≤n) (h1:n≤r.left):(Cz r p n).In:=by
 refine ⟨⟨hp,hr.1.2⟩,?_,hr.2.2⟩;show BY (bif decide (r.left - n=0) then r.slice else r.left - n);cases decide (r.left - n=0)
 ·have:=hr.2.1;unfold BY at *;simp only [cond_false];omega
 ·exact hr.2.2
theorem Rw (r:Rq) (n:Int) (hr:r.In) (hn:BY n) (w0:World):AO prog 134 #[rv r,.int .u64 n] w0 fun v w'=>v=svV (DH r n)∧AB [] w0 w':=by
 have hs:=St.nil w0;refine AS func134 ntmps134 ?_;refine Ah ?_;refine Aq ?_;refine bx hs ?_;intro b2 w hz hs;refine al hs ?_;intro b4 w hz hs;refine Ja ?_;refine AZ hs (h:=by exact JF r hr _) ?_;intro w' ho hs;repeat' (first|refine Se ?_|(refine AV hs ?_;intro w hs)|((with_reducible apply BV);exact rfl;exact rfl;intro c hc;(fail_if_success have:true=c:=hc);(fail_if_success have:false=c:=hc);cases c)|refine Aw rfl (fun hc=>?_) fun hc=>?_|fail)
 ·refine AG ?_;refine ⟨?_,hs.AE rfl⟩;have:DH r n=none:=by unfold DH;rw [if_neg (fun h=>by omega)]
  rw [this];rfl
 ·have h1:r.right=true:=by simpa using ‹(!r.right)=false›
  have h2:n≠0:=by simpa using ‹(n == 0)=false›
  have h3:n≤r.left:=by omega
  have h4:=SR h1;have hn':=hn;obtain ⟨hn0,KP⟩:=hn';have e1:IntKind.u64.wrap (n*1048576)=n*1048576:=by rw [wrap_u64];omega
  have ev:DH r n=match M1 r.i.p (n*1048576) with | none=>none | some p=>(CM (Cz r p n)).map fun u=>(u,decide (r.left - n=0)):=by unfold DH;rw [if_pos ⟨h1,h2,h3⟩]
  refine cl (h:=by exact RM r.i.p (IntKind.u64.wrap (n*1048576)) hr.1.1 (by rw [e1];exact ⟨by omega,by omega⟩) _) (k:=?_);rw [e1];cases hp:M1 r.i.p (n*1048576) with
  | none =>
    rintro v w' ⟨rfl,ho⟩;replace hs:=hs.AP ho;repeat' (first|refine Sc ?_|(refine AV hs ?_;intro w hs)|(refine al hs ?_;intro b w hz hs)|fail)
    refine AG ?_;refine ⟨?_,hs.AE rfl⟩;rw [ev,hp];rfl
  | some p =>
    have Nl:=(at_some hp).1;have e2:IntKind.u64.wrap (r.left - n)=r.left - n:=by rw [wrap_u64];omega
    rw [hp] at ev;simp only at ev;have dJ:=XF hr Nl hn0 h3
    have ele:(Cz r p n).left=if IntKind.u64.wrap (r.left - n)=0 then r.slice else IntKind.u64.wrap (r.left - n):=by
     rw [e2];unfold Cz;by_cases h:r.left - n=0
     ·rw [if_pos h,decide_eq_true h];rfl
     ·rw [if_neg h,decide_eq_false h];rfl
    rintro v w' ⟨rfl,ho⟩;replace hs:=hs.AP ho
    repeat' (first|refine Sd ?_|(refine st hs ?_;intro w hs)|(refine AV hs ?_;intro w hs)|(refine al hs ?_;intro b w hz hs)|refine Aw rfl (fun hc=>?_) fun hc=>?_|fail)
    ·have ez:r.left - n=0:=by rw [← e2];assumption
     have el:Cz r p n=⟨⟨p,r.i.id,r.i.d⟩,r.slice,r.slice,r.asleep⟩:=by unfold Cz;rw [decide_eq_true ez];rfl
     rw [el] at ev dJ;rw [decide_eq_true ez] at ev;have eb:(IntKind.u64.wrap (r.left - n) == 0)=true:=by rw [e2,ez];rfl
     refine cl (h:=by exact Lj ⟨⟨p,r.i.id,r.i.d⟩,r.slice,r.slice,r.asleep⟩ dJ _) ?_;generalize CM ⟨⟨p,r.i.id,r.i.d⟩,r.slice,r.slice,r.asleep⟩=o at *;cases o
     ·rintro v w' ⟨rfl,ho⟩;replace hs:=hs.AP ho;repeat' (first|refine Sc ?_|(refine AV hs ?_;intro w hs)|fail)
      refine AG ?_;exact ⟨by rw [ev];rfl,hs.AE rfl⟩
     ·rintro v w' ⟨rfl,ho⟩;replace hs:=hs.AP ho;repeat' (first|refine Sd ?_|(refine AV hs ?_;intro w hs)|fail)
      refine AG ?_;exact ⟨by rw [ev,eb];rfl,hs.AE rfl⟩
    ·have ez:¬r.left - n=0:=by rw [← e2];assumption
     have el:Cz r p n=⟨⟨p,r.i.id,r.i.d⟩,IntKind.u64.wrap (r.left - n),r.slice,r.asleep⟩:=by unfold Cz;rw [decide_eq_false ez,e2];rfl
     rw [el] at ev dJ;rw [decide_eq_false ez] at ev;have eb:(IntKind.u64.wrap (r.left - n) == 0)=false:=beq_false_of_ne (by rw [e2];exact ez);refine cl (h:=by exact Lj ⟨⟨p,r.i.id,r.i.d⟩,IntKind.u64.wrap (r.left - n),r.slice,r.asleep⟩ dJ _) ?_;generalize CM ⟨⟨p,r.i.id,r.i.d⟩,IntKind.u64.wrap (r.left - n),r.slice,r.asleep⟩=o at *;cases o
     ·rintro v w' ⟨rfl,ho⟩;replace hs:=hs.AP ho;repeat' (first|refine Sc ?_|(refine AV hs ?_;intro w hs)|fail)
      refine AG ?_;exact ⟨by rw [ev];rfl,hs.AE rfl⟩
     ·rintro v w' ⟨rfl,ho⟩;replace hs:=hs.AP ho;repeat' (first|refine Sd ?_|(refine AV hs ?_;intro w hs)|fail)
      refine AG ?_;exact ⟨by rw [ev,eb];rfl,hs.AE rfl⟩
 ·refine AG ?_;refine ⟨?_,hs.AE rfl⟩;have:DH r n=none:=by unfold DH;rw [if_neg (fun h=>by simp_all)]
  rw [this];rfl
 ·refine AG ?_;refine ⟨?_,hs.AE rfl⟩;have:DH r n=none:=by unfold DH;rw [if_neg (fun h=>by simp_all)]
  rw [this];rfl
def EJ (n a:Int):Int:=if a < n then a else n
theorem RQ {n a:Int} (h1:BY n) (h2:BY a):BY (EJ n a):=by
 unfold EJ BY at *;split <;> omega
def Ik:Rq→Nat→List Int→Option (Rq × Nat)
 | r,c,[]=>some (r,c)
 | r,c,n :: l=>match DH r (EJ n r.left) with
   | none=>none
   | some (u,b)=>Ik u (c+bif b then 1 else 0) l
def sdV (o:Option (Rq × Nat)):Value:=match o with
 | none => .tuple #[rv .zero,.int .i64 0,.bool false]
 | some (u,c) => .tuple #[rv u,.int .i64 c,.bool true]
theorem Ty {r u:Rq} {n:Int} {b:Bool} (hr:r.In) (hn:BY n) (h:DH r n=some (u,b)):u.In:=by
 unfold DH at h;split at h
 ·rename_i h1;cases hp:M1 r.i.p (n*1048576) with
  | none=>rw [hp] at h;cases h
  | some p =>
    rw [hp] at h;obtain ⟨v,hv,h⟩:=Option.map_eq_some_iff.1 h;cases h;exact (Mv (XF hr (at_some hp).1 hn.1 h1.2.2) hv).1
 ·cases h
theorem Xg {r:Rq} {c:Nat} {n:Int} {l:List Int}:Ik r c (n :: l)=match DH r (EJ n r.left) with
 | none=>none
 | some (u,b)=>Ik u (c+bif b then 1 else 0) l:=rfl
theorem Yi (r:Rq) (ns:List Int) (sl:Value) (hr:r.In) (hn:∀ n∈ns,BY n) (hm:ns.length≤1000000) (w0:World) (hL:Cu w0 22 1 sl (ns.map fun n=>[.int .u64 n])) :
 AO prog 255 #[rv r,sl] w0 fun v w'=>v=sdV (Ik r 0 ns)∧AB [] w0 w':=by
 obtain ⟨ad,cap,rfl,hD⟩:=hL;rw [aC0] at *;have hs:=St.nil w0;refine AS func255 ntmps255 ?_;refine Ah ?_;refine Aq ?_;refine bx hs ?_;intro b2 w hz hs;refine al hs ?_;intro b4 w hz hs;refine Ja ?_;refine BM (fun (s:Rq × Nat)=>[(2,.pointer (some ⟨b2,0,none⟩)),(4,.pointer (some ⟨b4,0,none⟩)),(7,.int .i64 (s.2:Nat))]) (fun s w=>St w0 D0 [(b4,.cells Rq.zero.cells.toArray 66,true),(b2,.cells s.1.cells.toArray 66,true)] w∧Ik r 0 ns=some s) ?_ ?_
 ·refine BH (fun (s:Nat × Rq × Nat)=>[(2,.pointer (some ⟨b2,0,none⟩)),(4,.pointer (some ⟨b4,0,none⟩)),(7,.int .i64 (s.2.2:Nat)),(13,.slice ad ns.length cap),(14,.int .i64 (ns.length:Nat)),(15,.int .i64 (s.1:Nat))])
   (fun s w=>s.1≤ns.length∧s.2.2≤s.1∧s.2.1.In∧Ik r 0 ns=Ik s.2.1 s.2.2 (ns.drop s.1)∧St w0 D0 [(b4,.cells Rq.zero.cells.toArray 66,true),(b2,.cells s.2.1.cells.toArray 66,true)] w) (fun s=>ns.length - s.1) (0,r,0) Ad ⟨aC7 _,aC5 _,hr,rfl,hs⟩ fun s env wl ⟨hi,hc0,hu,hv,hs⟩=>?_
  obtain ⟨i,u,c⟩:=s;simp only at hi hc0 hu hv hs
  repeat' (first|refine Sa ?_|refine Aw rfl (fun hc=>?_) fun hc=>?_|fail)
  ·have hlt:i < ns.length:=by omega
   obtain ⟨b,off,cs,fz,rfl,_,hb,hcs⟩:=hD (fun h=>by simp at h;subst h;cases hlt);have hpk:=hcs i [.int .u64 ns[i]] (by rw [aC8,aC3 hlt];rfl);have ei:=DP (m:=ns.length) hlt om;have ec:=DP (i:=c) (m:=ns.length) om om;have ed:ns.drop i=ns[i] :: ns.drop (i+1):=aD0 hlt;have hnn:=hn _ (aDS hlt);rw [ed,Xg] at hv;generalize ns[i]=n at *;refine ix (h0:=(by omega)) (h1:=(by omega)) ?_;refine lh ((hs.AE rfl).block hb AA) (by cases hpk;assumption) (k:=?_);refine Ja ?_;have hin:∀ x y,DH u (EJ n u.left)=some (x,y)→x.In:=fun x y h=>Ty hu (RQ hnn hu.2.1) h;refine cl (h:=by exact Rw u (EJ n u.left) hu (RQ hnn hu.2.1) _) ?_;generalize DH u (EJ n u.left)=o at *;rcases o with _ | ⟨u',b'⟩
   ·simp only at hv
    rintro v w' ⟨rfl,ho⟩;replace hs:=hs.AP ho;repeat' (first|refine Sc ?_|(refine AV hs ?_;intro w hs)|(refine al hs ?_;intro b w hz hs)|fail)
    refine AG ?_;exact ⟨by rw [hv];rfl,hs.AE rfl⟩
   ·simp only at hv;have HN:=hin _ _ rfl;cases b'
    ·rintro v w' ⟨rfl,ho⟩;replace hs:=hs.AP ho;repeat' (first|refine Sd ?_|(refine AV hs ?_;intro w hs)|(refine al hs ?_;intro b w hz hs)|fail)
     exact A2 (i+1,u',c) (by show ns.length - (i+1) < ns.length - i;omega) (by (repeat (first | exact Ag | (apply A8;first | exact rfl | exact congrArg (Value.int .i64) ei)))) ⟨by show i+1≤_;omega,by show c≤i+1;omega,HN,by rw [hv];rfl,hs.Bx⟩
    ·rintro v w' ⟨rfl,ho⟩;replace hs:=hs.AP ho;repeat' (first|refine vs ?_|refine Aq ?_|refine Nx.h ?_|refine FP ?_|refine Eb ?_|(refine AV hs ?_;intro w hs)|(refine al hs ?_;intro b w hz hs)|fail)
     exact A2 (i+1,u',c+1) (by show ns.length - (i+1) < ns.length - i;omega) (by (repeat (first | exact Ag | (apply A8;first | exact rfl | exact congrArg (Value.int .i64) ei | exact congrArg (Value.int .i64) ec)))) ⟨by show i+1≤_;omega,by show c+1≤i+1;omega,HN,by rw [hv];rfl,hs.Bx⟩
  ·have e:i=ns.length:=by omega
   subst e;rw [List.drop_length] at hv;exact Au (u,c) Ad ⟨hs,hv⟩
 ·clear hs;rintro ⟨u,c⟩ env w ⟨hs,hv⟩;simp only at hs;rw [hv]
  repeat' (first|refine Sa ?_|(refine AV hs ?_;intro w hs)|fail)
  refine AG ?_;exact ⟨rfl,hs.AE rfl⟩
end Go.Proofs.Q0
namespace Go.Proofs.Q0
open Go Go.RowKit Tryz
abbrev RT:={r:Rq // r.In}
def BB (r:RT):Int:=r.1.i.id
def Cv (l:List RT):Prop:=(l.map BB).Pairwise (· < ·)
def Al (l:List RT) (i:Int):Option RT:=l.find? fun a=>decide (BB a=i)
def CJ (r:RT):List RT→List RT
 | []=>[r]
 | a :: l=>if BB r < BB a then r :: a :: l else if BB r=BB a then r :: l else a :: CJ r l
def Dn (i:Int) (l:List RT):List RT:=l.filter fun a=>decide (BB a≠i)
def rvals (l:List RT):Int→Option Value:=fun i=>(Al l i).map fun a=>rv a.1
theorem Tx (i:Int):Al [] i=none:=rfl
theorem DA (a:RT) (l:List RT) (i:Int):Al (a :: l) i=if BB a=i then some a else Al l i:=by
 unfold Al;rw [List.find?_cons];by_cases h:BB a=i
 ·rw [if_pos h,decide_eq_true h]
 ·rw [if_neg h,decide_eq_false h]
theorem I8 (r:RT) (i:Int):∀ l:List RT,Al (CJ r l) i=if i=BB r then some r else Al l i
 | []=>by
   unfold CJ;rw [DA,Tx];by_cases h:i=BB r
   ·rw [if_pos h,if_pos h.symm]
   ·rw [if_neg h,if_neg (fun e=>h e.symm)]
 | a :: l=>by
   unfold CJ;split
   ·rw [DA];by_cases h:i=BB r
    ·rw [if_pos h,if_pos h.symm]
    ·rw [if_neg h,if_neg (fun e=>h e.symm)]
   ·split
    ·rename_i h1 h2;rw [DA,DA];by_cases h:i=BB r
     ·rw [if_pos h,if_pos h.symm]
     ·rw [if_neg h,if_neg (fun e=>h e.symm),if_neg (fun e=>h om)]
    ·rename_i h1 h2;rw [DA,DA,I8 r i l];by_cases h:i=BB r
     ·rw [if_pos h,if_pos h,if_neg om]
     ·rw [if_neg h,if_neg h]
theorem Uk (k i:Int):∀ l:List RT,Al (Dn k l) i=if i=k then none else Al l i
 | []=>by unfold Dn;rw [List.filter_nil,Tx];split <;> rfl
 | a :: l=>by
   have ih:=Uk k i l;unfold Dn at ih ⊢;rw [aD1];by_cases h:BB a=k
   ·rw [if_neg (by simp [h]),ih,DA];by_cases hi:i=k
    ·rw [if_pos hi,if_pos hi]
    ·rw [if_neg hi,if_neg hi,if_neg (fun e=>hi om)]
   ·rw [if_pos (by simp [h]),DA,DA,ih];by_cases hi:i=k
    ·rw [if_pos hi,if_pos hi,if_neg om]
    ·rw [if_neg hi,if_neg hi]
theorem Cv.tail {a:RT} {l:List RT} (h:Cv (a :: l)):Cv l:=by
 unfold Cv at *;rw [aC2,List.pairwise_cons] at h;exact h.2
theorem Cv.head {a:RT} {l:List RT} (h:Cv (a :: l)):∀ b∈l,BB a < BB b:=fun b hb=>by
 unfold Cv at *;rw [aC2,List.pairwise_cons] at h;exact h.1 _ (aDF hb)
theorem Cv.cons {a:RT} {l:List RT} (h:Cv l) (hd:∀ b∈l,BB a < BB b):Cv (a :: l):=by
 unfold Cv at *;rw [aC2,List.pairwise_cons];exact ⟨fun x hx=>by obtain ⟨b,hb,rfl⟩:=List.mem_map.1 hx;exact hd b hb,h⟩
theorem Bu {l:List RT} {i:Int} {a:RT} (h:Al l i=some a):a∈l∧BB a=i:=by
 unfold Al at h;exact ⟨aD5 h,by simpa using List.find?_some h⟩
theorem UY {l:List RT} {a:RT} (h:a∈l):(Al l (BB a)).isSome=true:=by
 unfold Al;rw [List.find?_isSome];exact ⟨a,h,by simp⟩
theorem Rm {l:List RT} {i:Int} (h:∀ b∈l,i < BB b):Al l i=none:=by
 cases e:Al l i with
 | none=>rfl
 | some a=>obtain ⟨h1,h2⟩:=Bu e;have:=h a h1;omega
theorem Ml {r b:RT}:∀ {l:List RT},b∈CJ r l→b=r∨b∈l
 | [],h=>by simpa [CJ] using h
 | a :: l,h=>by
   unfold CJ at h;split at h
   ·simpa using h
   ·split at h
    ·rcases aCu.1 h with h | h
     ·exact .inl h
     ·exact .inr (aCy _ h)
    ·rcases aCu.1 h with h | h
     ·exact .inr (h ▸ aCw)
     ·rcases Ml h with h | h
      ·exact .inl h
      ·exact .inr (aCy _ h)
theorem ord_put {r:RT}:∀ {l:List RT},Cv l→Cv (CJ r l)
 | [],h=>by show Cv [r];exact Cv.cons h AA
 | a :: l,h=>by
   unfold CJ;split
   ·rename_i h1;refine h.cons fun b hb=>?_;rcases aCu.1 hb with rfl | hb
    ·exact h1
    ·have:=h.head b hb;omega
   ·split
    ·rename_i h1 h2;exact h.tail.cons fun b hb=>by have:=h.head b hb;omega
    ·rename_i h1 h2;refine (ord_put h.tail).cons fun b hb=>?_;rcases Ml hb with rfl | hb
     ·omega
     ·exact h.head b hb
theorem Ts {r:RT}:∀ {l:List RT},Cv l→(CJ r l).length=if (Al l (BB r)).isSome then l.length else l.length+1
 | [],h=>rfl
 | a :: l,h=>by
   unfold CJ;split
   ·rename_i h1
    rw [Rm (fun b hb=>by
     rcases aCu.1 hb with rfl | hb
     ·exact h1
     ·have:=h.head b hb;omega)]
    rfl
   ·split
    ·rename_i h1 h2;rw [DA,if_pos h2.symm];rfl
    ·rename_i h1 h2;have e1:Al (a :: l) (BB r)=Al l (BB r):=by rw [DA];exact if_neg fun e=>h2 e.symm
     rw [e1,aCx,Ts h.tail];cases (Al l (BB r)).isSome <;> simp
theorem ZH {i:Int} {l:List RT} (h:Cv l):Cv (Dn i l):=by
 unfold Cv Dn at *;exact h.sublist (List.filter_sublist.map _)
theorem TO {i:Int}:∀ {l:List RT},Cv l→(Dn i l).length=if (Al l i).isSome then l.length - 1 else l.length
 | [],h=>rfl
 | a :: l,h=>by
   have ih:=TO (i:=i) h.tail;unfold Dn at ih ⊢;rw [aD1,DA];by_cases e:BB a=i
   ·rw [if_neg (by simp [e]),if_pos e,ih,Rm (fun b hb=>by have:=h.head b hb;omega)];rfl
   ·rw [if_pos (by simp [e]),if_neg e,aCx,ih];cases hf:Al l i with
    | none=>rfl
    | some b =>
      have h1:=(Bu hf).1;cases l with
      | nil=>cases h1
      | cons c l=>simp
theorem UI (r:RT) (l:List RT):F4 (rvals l) (BB r) (some (rv r.1))=rvals (CJ r l):=by
 funext i;unfold F4 rvals;rw [I8];by_cases h:i=BB r
 ·rw [if_pos h,decide_eq_true h];rfl
 ·rw [if_neg h,decide_eq_false h];rfl
theorem kM (k:Int) (l:List RT):F4 (rvals l) k none=rvals (Dn k l):=by
 funext i;unfold F4 rvals;rw [Uk];by_cases h:i=k
 ·rw [if_pos h,decide_eq_true h];rfl
 ·rw [if_neg h,decide_eq_false h];rfl
theorem HX (l:List RT) (i:Int):(rvals l i).isSome=(Al l i).isSome:=by unfold rvals;cases Al l i <;> rfl
def DI (l:List RT) (i:Int):Rq:=match Al l i with | some a=>a.1 | none => .zero
theorem MI (l:List RT) (i:Int):(rvals l i).getD (rv .zero)=rv (DI l i):=by unfold rvals DI;cases Al l i <;> rfl
theorem ids_iff (l:List RT) (x:Int):x∈l.map BB↔In64 x∧(rvals l x).isSome=true:=by
 rw [HX];constructor
 ·intro h;obtain ⟨a,ha,rfl⟩:=List.mem_map.1 h;exact ⟨a.2.1.2.1,UY ha⟩
 ·rintro ⟨_,h⟩;cases e:Al l x with
  | none=>rw [e] at h;cases h
  | some a=>obtain ⟨h1,h2⟩:=Bu e;exact List.mem_map.2 ⟨a,h1,h2⟩
theorem Cl {l:List RT} (h:Cv l) {a:RT} (ha:a∈l):Al l (BB a)=some a:=by
 induction l with
 | nil=>cases ha
 | cons b l ih =>
   rw [DA];rcases aCu.1 ha with rfl | ha
   ·rw [if_pos rfl]
   ·have:=h.head a ha;rw [if_neg om];exact ih h.tail ha
end Go.Proofs.Q0
namespace Go.Proofs.Q0
open Go Go.RowKit Tryz
attribute [local irreducible] XS XC XA AY AR A9 A1 A0 Aa Ae AW SE
def fN (w:World) (sl:Value) (xs:List Int):Prop :=
 ∃ ad cap,sl = .slice ad xs.length cap∧(xs≠[]→∃ (b off:Nat) (cs:List Value) (E:TypeId) (fz:Nat × Nat),ad=some ⟨b,off,none⟩∧w.heap[b]?=some (.cells cs.toArray E fz) ∧
  ∀ (i:Nat) (x:Int),xs[i]?=some x→cs[off+i*2]?=some (.int .i64 (x / 18446744073709551616))∧cs[off+i*2+1]?=some (.int .u64 (x % 18446744073709551616)))
def psum (xs:List Int) (i:Nat):Int:=(xs.take i).sum
theorem iX {xs:List Int} {i:Nat} {x:Int} (h:xs[i]?=some x):psum xs (i+1)=psum xs i+x:=by
 unfold psum;rw [aDt,h,List.sum_append];simp
theorem Uf (xs:List Int):psum xs 0=0:=by simp [psum]
theorem Qd:Ac 0:=by unfold Ac;omega
def Kr (xs:List Int) (n:Nat):Prop:=∀ j,j≤n→Ac (psum xs j)
theorem Kr.zero (xs:List Int):Kr xs 0:=fun j hj=>by
 have h0:j=0:=Nat.le_zero.1 hj;rw [h0,Uf];exact Qd
theorem Kr.succ {xs:List Int} {n:Nat} (h:Kr xs n) (h1:Ac (psum xs (n+1))):Kr xs (n+1):=fun j hj=>by
 rcases aDL n j with h2 | h2
 ·obtain rfl:j=n+1:=by omega
  exact h1
 ·exact h j h2
theorem zU {i m:Nat} (h:i < m) (hm:m≤9223372036854775807):IntKind.i64.wrap ((i:Int)+1)=((i+1:Nat):Int):=by
 rw [wrap_i64];omega
theorem vG (xs:List Int) (sl:Value) (hin:∀ (i:Nat) (x:Int),xs[i]?=some x→Ac x) (hm:xs.length≤9223372036854775807) (w0:World) (hW:fN w0 sl xs):AO prog 193 #[sl] w0 fun v w' =>
 (Kr xs xs.length∧v = .tuple #[wv (psum xs xs.length),.bool true]∨(∃ j,j≤xs.length∧¬ Ac (psum xs j))∧v = .tuple #[wv 0,.bool false])∧AB [] w0 w':=by
 obtain ⟨ad,cap,rfl,hD⟩:=hW;have hs:=St.nil w0;refine AS func193 ntmps193 ?_;refine Ah ?_;refine Aq ?_;refine al hs ?_;intro b2 w hz hs;refine vs ?_;refine XS.nil ?_;refine Dw ?_;refine Ah ?_;refine Aq ?_;refine al hs ?_;intro b4 w hz hs;refine Ja ?_
 refine BM (fun (_:Unit)=>[(2,.pointer (some ⟨b2,0,none⟩)),(4,.pointer (some ⟨b4,0,none⟩))])
  (fun _ w=>Kr xs xs.length∧St w0 D0 [(b4,.cells #[.int .i64 (psum xs xs.length / 18446744073709551616),.int .u64 (psum xs xs.length % 18446744073709551616)] 70,true),(b2,.cells #[.int .i64 0,.int .u64 0] 70,true)] w) ?_ ?_
 ·refine BH (fun (i:Nat)=>[(2,.pointer (some ⟨b2,0,none⟩)),(4,.pointer (some ⟨b4,0,none⟩)),(9,.slice ad xs.length cap),(10,.int .i64 (xs.length:Nat)),(11,.int .i64 (i:Nat))])
   (fun i w=>i≤xs.length∧Kr xs i∧St w0 D0 [(b4,.cells #[.int .i64 (psum xs i / 18446744073709551616),.int .u64 (psum xs i % 18446744073709551616)] 70,true),(b2,.cells #[.int .i64 0,.int .u64 0] 70,true)] w)
   (fun i=>xs.length - i) 0 Ad ⟨aC7 _,Kr.zero xs,by rw [Uf];exact hs⟩ fun i env w ⟨hi,hf,hs⟩=>?_
  repeat' (first|refine Sa ?_|refine Aw rfl (fun hc=>?_) fun hc=>?_|fail)
  ·have hlt:i < xs.length:=by omega
   obtain ⟨b,off,cs,E,fz,rfl,hb,hcs⟩:=hD (fun h=>by subst h;cases hlt);obtain ⟨h0,h1⟩:=hcs i _ (aC3 hlt);have hx:=hin i _ (aC3 hlt);have hps:=iX (aC3 hlt);generalize xs[i]=x at *;refine ix (h0:=(by omega)) (h1:=(by omega)) ?_;refine lh2 ((hs.AE rfl).block hb AA) h0 h1 ?_;refine al hs ?_;intro b6 w hz hs
   repeat' (first|refine Sa ?_|(refine AV hs ?_;intro w hs)|fail)
   refine AZ hs (h:=by exact P5 (psum xs i) x (hf i (aC5 _)) hx _) ?_;intro w' ho hs;rcases YL (psum xs i+x) with ⟨qF,e⟩ | ⟨qF,e⟩
   ·rw [e]
    repeat' (first|refine Sd ?_|(refine AV hs ?_;intro w hs)|(refine al hs ?_;intro b w hz hs)|fail)
    have ei:=zU hlt hm;exact A2 (i+1) om (by (repeat (first | exact Ag | (apply A8;first | exact rfl | exact congrArg (Value.int .i64) ei)))) ⟨by omega,hf.succ (by rw [hps];exact qF),by rw [hps];exact hs.Bx.Bx⟩
   ·rw [e]
    repeat' (first|refine Sc ?_|(refine AV hs ?_;intro w hs)|(refine al hs ?_;intro b w hz hs)|fail)
    refine AG ?_;exact ⟨.inr ⟨⟨i+1,hlt,by rw [hps];exact qF⟩,rfl⟩,hs.AE rfl⟩
  ·have e:i=xs.length:=by omega
   rw [e] at hf hs;exact Au () Ad ⟨hf,hs⟩
 ·rintro _ env w ⟨hf,hs⟩
  repeat' (first|refine Sa ?_|(refine AV hs ?_;intro w hs)|fail)
  refine AG ?_;exact ⟨.inl ⟨hf,rfl⟩,hs.AE rfl⟩
def Ks:Int:=170141183460469231731687303715884105727
theorem RS:Ac Ks:=by decide
def K3 (s t:Int):Option Int:=if 1≤s∧s≤1099511627776∧1≤t∧t≤1099511627776 then some ((2*s+t)*1048576) else none
theorem SM (s t:Int) (hs':BY s) (ht:BY t) (w0:World):AO prog 107 #[.int .u64 s,.int .u64 t] w0 fun v w'=>v = .tuple #[.int .i64 ((K3 s t).getD 0),.bool (K3 s t).isSome]∧AB [] w0 w':=by
 obtain ⟨hs0,hs1⟩:=hs';obtain ⟨ht0,ht1⟩:=ht;have hs:=St.nil w0;refine AS func107 ntmps107 ?_
 repeat' (first|refine Se ?_|((with_reducible apply BV);exact rfl;exact rfl;intro c hc;(fail_if_success have:true=c:=hc);(fail_if_success have:false=c:=hc);cases c)|refine Aw rfl (fun hc=>?_) fun hc=>?_|fail)
 all_goals (refine AG ?_)
 all_goals refine ⟨?_,hs.AE rfl⟩
 all_goals clear hs
 ·have:K3 s t=none:=if_neg om;rw [this];rfl
 ·simp only [decide_eq_false_iff_not] at *;have:K3 s t=some ((2*s+t)*1048576):=if_pos om;rw [this];show Value.tuple _=Value.tuple _;have e:IntKind.i64.wrap (IntKind.u64.wrap (IntKind.u64.wrap (IntKind.u64.wrap (2*s)+t)*1048576))=(2*s+t)*1048576:=by simp only [wrap_u64,wrap_i64];omega
  rw [e];rfl
 ·simp only [decide_eq_true_eq,decide_eq_false_iff_not] at *;have:K3 s t=none:=if_neg om;rw [this];rfl
 ·simp only [decide_eq_true_eq,decide_eq_false_iff_not] at *;have:K3 s t=none:=if_neg om;rw [this];rfl
 ·simp only [decide_eq_true_eq] at *;have:K3 s t=none:=if_neg om;rw [this];rfl
theorem OL (w0:World):AO prog 194 #[] w0 fun v w'=>v=wv Ks∧AB [] w0 w':=by
 have hs:=St.nil w0;refine AS func194 ntmps194 ?_
 repeat' (first|refine Sa ?_|(refine AV hs ?_;intro w hs)|(refine al hs ?_;intro b w hz hs)|fail)
 refine AG ?_;exact ⟨by kernel_rfl,hs.AE rfl⟩
def Du (x:Int):Int:=if 0≤x then x else if Ac (-x) then -x else Ks
theorem p7 {x:Int} (h:Ac x):Ac (Du x)∧0≤Du x:=by
 unfold Du;split
 ·exact ⟨h,by assumption⟩
 ·split
  ·exact ⟨by assumption,by omega⟩
  ·exact ⟨RS,by decide⟩
theorem Ui (x:Int) (hx:Ac x) (w0:World):AO prog 149 #[wv x] w0 fun v w'=>v=wv (Du x)∧AB [] w0 w':=by
 have hs:=St.nil w0;refine AS func149 ntmps149 ?_
 repeat' (first|refine Sa ?_|(refine al hs ?_;intro b w hz hs)|(refine bx hs ?_;intro b w hz hs)|fail)
 refine AZ hs (h:=by exact R8 x hx _) ?_;intro w' ho hs;repeat' (first|refine Sa ?_|(refine AV hs ?_;intro w hs)|refine Aw rfl (fun hc=>?_) fun hc=>?_|fail)
 ·have h0:0≤x:=by unfold C1 at hc;split at hc <;> omega
  refine AG ?_;refine ⟨?_,hs.AE rfl⟩;unfold Du;rw [if_pos h0];rfl
 ·have h0:¬ 0≤x:=by unfold C1 at hc;split at hc <;> (try split at hc) <;> omega
  refine AZ hs (h:=by exact aAv x hx _) ?_;intro w' ho hs;repeat' (first|refine Sa ?_|(refine AV hs ?_;intro w hs)|(refine al hs ?_;intro b w hz hs)|refine Aw rfl (fun hc=>?_) fun hc=>?_|fail)
  ·have h1:Ac (-x):=by simpa using hc
   refine AG ?_;refine ⟨?_,hs.AE rfl⟩;unfold Du;rw [if_neg h0,if_pos h1];have e:tot (-x)=-x:=if_pos h1;rw [e];rfl
  ·have h1:¬ Ac (-x):=by simpa using hc
   refine AZ hs (h:=by exact OL _) ?_;intro w' ho hs;repeat' (first|refine Nx.h ?_|(refine AV hs ?_;intro w hs)|fail)
   refine AG ?_;refine ⟨?_,hs.AE rfl⟩;unfold Du;rw [if_neg h0,if_neg h1];rfl
def JK:Int→List Int→Int
 | out,[]=>out
 | out,x :: l=>if Ac (out+Du x+2) then JK (out+Du x+2) l else Ks
theorem wat_three {w:World} {b:Nat} {x y z:Int} (hb:w.heap[b]?=some (.cells #[.int .i64 (x / 18446744073709551616),.int .u64 (x % 18446744073709551616),.int .i64 (y / 18446744073709551616),.int .u64 (y % 18446744073709551616),.int .i64 (z / 18446744073709551616),.int .u64 (z % 18446744073709551616)] 70 (0,0))):fN w (.slice (some ⟨b,0,none⟩) 3 3) [x,y,z] :=
 ⟨_,3,rfl,fun _=>⟨b,0,_,_,(0,0),rfl,hb,fun i x h=>by
  have:i=0∨i=1∨i=2:=by
   rcases aDL i 3 with h' | h'
   ·omega
   ·rw [aDY (by simp;omega)] at h;cases h
  rcases this with rfl | rfl | rfl <;> (cases h;exact ⟨rfl,rfl⟩)⟩⟩
theorem QW (xs:List Int) (sl:Value) (hin:∀ (i:Nat) (x:Int),xs[i]?=some x→Ac x) (hm:xs.length≤9223372036854775807) (w0:World) (hW:fN w0 sl xs):AO prog 148 #[sl] w0 fun v w'=>v=wv (JK 0 xs)∧AB [] w0 w':=by
 obtain ⟨ad,cap,rfl,hD⟩:=hW;have hs:=St.nil w0;refine AS func148 ntmps148 ?_;refine Jb ?_;refine Aq ?_;refine al hs ?_;intro b2 w hz hs;refine Jb ?_;refine Aq ?_;refine al hs ?_;intro b3 w hz hs;refine Ja ?_
 refine BM (fun (_:Unit)=>[(2,.pointer (some ⟨b2,0,none⟩)),(3,.pointer (some ⟨b3,0,none⟩))])
  (fun _ w=>St w0 D0 [(b3,.cells #[.int .i64 (JK 0 xs / 18446744073709551616),.int .u64 (JK 0 xs % 18446744073709551616)] 70,true),(b2,.cells #[.int .i64 0,.int .u64 0] 70,true)] w) ?_ ?_
 ·refine BH (fun (s:Nat × Int)=>[(2,.pointer (some ⟨b2,0,none⟩)),(3,.pointer (some ⟨b3,0,none⟩)),(8,.slice ad xs.length cap),(9,.int .i64 (xs.length:Nat)),(10,.int .i64 (s.1:Nat))])
   (fun s w=>s.1≤xs.length∧JK 0 xs=JK s.2 (xs.drop s.1)∧Ac s.2∧0≤s.2∧St w0 D0 [(b3,.cells #[.int .i64 (s.2 / 18446744073709551616),.int .u64 (s.2 % 18446744073709551616)] 70,true),(b2,.cells #[.int .i64 0,.int .u64 0] 70,true)] w)
   (fun s=>xs.length - s.1) (0,0) Ad ⟨aC7 _,rfl,Qd,Int.le_refl _,hs⟩ fun s env w ⟨hi,hca,AL,AN,hs⟩=>?_
  obtain ⟨i,out⟩:=s;simp only at hi hca AL AN
  repeat' (first|refine Sa ?_|refine Aw rfl (fun hc=>?_) fun hc=>?_|fail)
  ·have hlt:i < xs.length:=by omega
   obtain ⟨b,off,cs,E,fz,rfl,hb,hcs⟩:=hD (fun h=>by subst h;cases hlt);obtain ⟨h0,h1⟩:=hcs i _ (aC3 hlt);have hx:=hin i _ (aC3 hlt);have ei:=DP hlt hm;rw [aD0 hlt] at hca;generalize xs[i]=x at *;have hsz:=p7 hx;refine ix (h0:=(by omega)) (h1:=(by omega)) ?_;refine lh2 ((hs.AE rfl).block hb AA) h0 h1 ?_;refine al hs ?_;intro b5 w hz hs
   repeat' (first|refine Nx.h ?_|(refine AV hs ?_;intro w hs)|fail)
   refine dr [] hs ?_;intro hX w hs;refine tks 0 2 ?_;refine Gq 9 6 hs ?_;intro f X w hp;have hs:=hp.st;apply BI 2 9 (f:=f) (X:=X) hX hp;exact rfl;exact rfl;(apply AT AJ;exact rfl);kernel_rfl;kernel_rfl;kernel_rfl;kernel_rfl;(intro X Y;(repeat (first | exact A4 | refine A5 ?_ (by exact rfl))));(intro w' hs;first|exact AI hs.hold|exact AI hs.hold.tail|exact Ab rfl);intro f X w hp;have hs:=hp.st;refine cl (h:=by exact Ui x hx _) ?_;rintro v w' ⟨rfl,ho⟩;replace hp:=hp.only ho;replace hs:=hp.st;refine Jn ?_;apply BI 3 9 (f:=f) (X:=X) hX hp;exact rfl;exact rfl;(apply AT AJ;exact rfl);kernel_rfl;kernel_rfl;kernel_rfl;kernel_rfl;(intro X Y;(repeat (first | exact A4 | refine A5 ?_ (by exact rfl))));(intro w' hs;first|exact AI hs.hold|exact AI hs.hold.tail|exact Ab rfl);intro f X w hp;have hs:=hp.st;refine cl (h:=by exact Fp 2 (by decide) (by decide) _) ?_;rintro v w' ⟨rfl,ho⟩;replace hp:=hp.only ho;replace hs:=hp.st;refine Jn ?_;apply BI 4 9 (f:=f) (X:=X) hX hp;exact rfl;exact rfl;(apply AT AJ;exact rfl);kernel_rfl;kernel_rfl;kernel_rfl;kernel_rfl;(intro X Y;(repeat (first | exact A4 | refine A5 ?_ (by exact rfl))));(intro w' hs;first|exact AI hs.hold|exact AI hs.hold.tail|exact Ab rfl);intro f X w hp;have hs:=hp.st;refine wN hp ?_;intro b4 w4 _ hp;replace hs:=hp.st;refine Jn ?_;apply BI 5 9 (f:=f) (X:=X) hX hp;exact rfl;exact rfl;(apply AT AJ;exact rfl);kernel_rfl;kernel_rfl;kernel_rfl;kernel_rfl;(intro X Y;(repeat (first | exact A4 | refine A5 ?_ (by exact rfl))));(intro w' hs;first|exact AI hs.hold|exact AI hs.hold.tail|exact Ab rfl);intro f X w hp;have hs:=hp.st
   have aBr:∀ (i:Nat) (y:Int),[out,Du x,2][i]?=some y→Ac y:=fun i y h=>by
    have hy:=aDJ h;simp only [aCu,aC1,or_false] at hy;rcases hy with rfl | rfl | rfl
    ·exact AL
    ·exact hsz.1
    ·decide
   have p0:psum [out,Du x,2] 0=0:=by simp [psum]
   have p1:psum [out,Du x,2] 1=out:=by simp [psum]
   have p2:psum [out,Du x,2] 2=out+Du x:=by simp [psum]
   have p3:psum [out,Du x,2] 3=out+Du x+2:=by simp [psum];omega
   refine cl (h:=by exact vG [out,Du x,2] _ aBr AA _ (wat_three (hs.get At.head))) ?_;rintro v w' ⟨hq,ho⟩;replace hp:=hp.only ho;replace hs:=hp.st;rcases hq with ⟨hA,rfl⟩ | ⟨⟨j,hj,hn⟩,rfl⟩
   ·have XW:=hA 3 (aC5 _);rw [p3] at XW;rw [show [out,Du x,2].length=3 from rfl,p3];rw [show JK out (x :: xs.drop (i+1))=JK (out+Du x+2) (xs.drop (i+1)) from if_pos XW] at hca;refine Jn ?_;refine tk 6 hX (hc:=by cases f <;> kernel_rfl) (k:=?_);refine tk 7 hX (hc:=by cases f <;> kernel_rfl) (k:=?_);refine tk 8 hX (hc:=by cases f <;> kernel_rfl) (k:=?_);apply Bb 9 (f:=f) (X:=X) hX hp;exact rfl;(apply AT AJ;exact rfl);kernel_rfl;kernel_rfl;(intro X Y;(repeat (first | exact A4 | refine A5 ?_ (by exact rfl))));(intro w' hs;first|exact AI hs.hold|exact AI hs.hold.tail|exact Ab rfl);intro b w hI hs;refine dt 10 hX ?_
    repeat' (first|refine Nx.h ?_|(refine AV hs ?_;intro w hs)|fail)
    refine dn ?_;refine tk 11 hX ?_;refine en ?_
    repeat' (first|refine Sd ?_|(refine AV hs ?_;intro w hs)|fail)
    exact A2 (i+1,out+Du x+2) (by show xs.length - (i+1) < xs.length - i;omega) (by (repeat (first | exact Ag | (apply A8;first | exact rfl | exact congrArg (Value.int .i64) ei)))) ⟨by show i+1≤xs.length;omega,hca,XW,by show 0≤out+Du x+2;omega,hs.Bx.Bx.Bx⟩
   ·have XW:¬ Ac (out+Du x+2):=fun h=>by
     have:j=0∨j=1∨j=2∨j=3:=by simp at hj;omega
     rcases this with rfl | rfl | rfl | rfl
     ·rw [p0] at hn;exact hn Qd
     ·rw [p1] at hn;exact hn AL
     ·rw [p2] at hn;apply hn;unfold Ac at *;omega
     ·rw [p3] at hn;exact hn h
    rw [show JK out (x :: xs.drop (i+1))=Ks from if_neg XW] at hca;refine Jn ?_;refine tk 6 hX (hc:=by cases f <;> kernel_rfl) (k:=?_);refine tk 7 hX (hc:=by cases f <;> kernel_rfl) (k:=?_);refine tk 8 hX (hc:=by cases f <;> kernel_rfl) (k:=?_);apply Bb 9 (f:=f) (X:=X) hX hp;exact rfl;(apply AT AJ;exact rfl);kernel_rfl;kernel_rfl;(intro X Y;(repeat (first | exact A4 | refine A5 ?_ (by exact rfl))));(intro w' hs;first|exact AI hs.hold|exact AI hs.hold.tail|exact Ab rfl);intro b w hI hs;refine dt 10 hX ?_
    repeat' (first|refine Nx.h ?_|(refine AV hs ?_;intro w hs)|fail)
    refine dn ?_;refine tk 11 hX ?_;refine en ?_;refine Je ?_;refine AZ hs (h:=by exact OL _) ?_;intro w' ho hs;repeat' (first|refine Nx.h ?_|(refine AV hs ?_;intro w hs)|fail)
    refine AG ?_;refine ⟨?_,hs.AE rfl⟩;rw [hca];rfl
  ·have Mi:¬ ((i:Int) < xs.length):=hc;have e:i=xs.length:=by omega
   rw [e,List.drop_length] at hca;have e2:JK 0 xs=out:=hca;exact Au () Ad (by rw [e2];exact hs)
 ·rintro _ env w hs
  repeat' (first|refine Sa ?_|(refine AV hs ?_;intro w hs)|fail)
  refine AG ?_;exact ⟨rfl,hs.AE rfl⟩
end Go.Proofs.Q0
namespace Go.Proofs.Q0
open Go Go.RowKit Tryz
abbrev Fw (l:List UInt8):Value := .string ⟨l.toArray⟩
section
variable {P : Program} {env : Env} {w : World} {d : Option Nat} {ty : Nat} {pos : String} {Am : Array Edge} {g : Option (Nat × Bool)}
theorem OZ {t t':Nat} {x y:Operand} {a b:List UInt8} (hx:ev env x=Fw a) (hy:ev env y=Fw b) (hl:a.length+b.length≤9223372036854775807) :
 (execOp (ev env) (⟨d,.binOp .add t x y t',ty,pos,Am,g⟩:Oper)).run P w = .ok (.value (Fw (a ++ b))) w:=by
 have e:(⟨a.toArray⟩:ByteArray) ++ ⟨b.toArray⟩=⟨(a ++ b).toArray⟩:=ByteArray.ext (by rw [ByteArray.data_append];simp);simp [execOp,hx,hy,eqGuard,binOp,aCz,Op.stringOp,e];have h1:ByteArray.size ⟨a.toArray⟩=a.length:=rfl;have h2:ByteArray.size ⟨b.toArray⟩=b.length:=rfl;rw [h1,h2];omega
theorem RP {x:Operand} {t:Nat} {ats:Array TypeId} {a:List UInt8} (hat:ats[0]?=some t) (hu:P.underlying t=some .string) (hx:ev env x=Fw a) :
 (execOp (ev env) (⟨d,.call { callee := .builtin .len,args:=#[x],argTypes:=ats },ty,pos,Am,g⟩:Oper)).run P w = .ok (.value (.int .i64 a.length)) w:=by
 simp [execOp,resolve,aCz,invoke,builtin,Builtin.len_,hat,hx,BG hu,goInt];rfl
theorem tQ {t t':Nat} {x y:Operand} {a b:List UInt8} (hu:P.underlying t=some .string) (hx:ev env x=Fw a) (hy:ev env y=Fw b) :
 (execOp (ev env) (⟨d,.binOp .eql t x y t',ty,pos,Am,g⟩:Oper)).run P w = .ok (.value (.bool (decide (a=b)))) w:=by
 have e:((⟨a.toArray⟩:ByteArray).toList == (⟨b.toArray⟩:ByteArray).toList)=decide (a=b):=by
  rw [ByteArray.toList_eq,ByteArray.toList_eq];show (a == b)=decide (a=b);by_cases h:a=b
  ·subst h;simp
  ·rw [decide_eq_false h];simp [h]
 have e0:(a == b)=decide (a=b):=by
  by_cases h:a=b
  ·subst h;simp
  ·rw [decide_eq_false h];simp [h]
 simp [execOp,hx,hy,eqGuard,binOp,aCz,Op.stringOp,e];exact e0
theorem mO {t:Nat} {x y:Operand} {a:List UInt8} {kk:IntKind} {i:Nat} {b:UInt8} (hu:P.underlying t=some .string) (hx:ev env x=Fw a) (hy:ev env y = .int kk (i:Nat)) (hb:a[i]?=some b) :
 (execOp (ev env) (⟨d,.index t x y,ty,pos,Am,g⟩:Oper)).run P w = .ok (.value (.int .u8 (b.toNat:Nat))) w:=by
 have h:(⟨a.toArray⟩:ByteArray)[i]?=some b:=by
  have hlt:i < a.length:=(List.getElem?_eq_some_iff.1 hb).1;have he:=(List.getElem?_eq_some_iff.1 hb).2;rw [getElem?_pos (⟨a.toArray⟩:ByteArray) i (show i < a.toArray.size by simpa using hlt)];exact congrArg some he
 simp [execOp,hx,hy,Instr.index,asIntOf,aCz,BG hu,h]
theorem lT {t l:Nat} {x lo:Operand} {a:List UInt8} {kk:IntKind} (hu:P.underlying t=some .string) (hx:ev env x=Fw a) (hlo:ev env lo = .int kk (l:Nat)) (hl:l≤a.length) :
 (execOp (ev env) (⟨d,.slice t x (some lo) none none,ty,pos,Am,g⟩:Oper)).run P w = .ok (.value (Fw (a.drop l))) w:=by
 have h1:ByteArray.size ⟨a.toArray⟩=a.length:=rfl
 have h2:(⟨a.toArray⟩:ByteArray).extract l a.length=⟨(a.drop l).toArray⟩:=ByteArray.ext (by
  rw [ByteArray.data_extract];simp;exact aDM AA)
 simp [execOp,Instr.sliceAt,aCz,BG hu,hx,Instr.slice,Instr.sliceBounds,h1,Iz hlo hl,h2]
end
end Go.Proofs.Q0
namespace Go.Proofs.Q0
open Go Go.RowKit Tryz
attribute [local irreducible] XS XC XA AY AR A9 A1 A0 Aa Ae AW SE
theorem AB.on {w0 w w':World} (h:AB [] w0 w) (k:AB [] w w'):AB [] w0 w':=h.trans k
theorem Im:prog.underlying 9=some .string:=by kernel_rfl
def Gu:List UInt8→List UInt8
 | a :: b :: l=>if a=48 then Gu (b :: l) else a :: b :: l
 | l=>l
theorem QU {l:List UInt8} (h:l.length≤1):Gu l=l:=by
 match l,h with
 | [],_=>rfl
 | [a],_=>rfl
theorem Ve (l:List UInt8) (w0:World):AO prog 276 #[Fw l] w0 fun v w'=>v=Fw (Gu l)∧AB [] w0 w':=by
 have hs:=St.nil w0;refine AS func276 ntmps276 ?_;refine Ja ?_;refine BM (fun s:List UInt8=>[(0,Fw s)]) (fun s w=>s=Gu l∧AB [] w0 w) ?_ ?_
 ·refine BH (fun (s:List UInt8)=>[(0,Fw s)]) (fun s w=>Gu s=Gu l∧AB [] w0 w) (fun s=>s.length) l Ad ⟨rfl,hs.AE rfl⟩ fun s env w ⟨h1,ho⟩=>?_;clear hs;have hs:=St.nil w;refine Jb ?_;refine Aq ?_;refine vs ?_;refine xs_val rfl (RP rfl Im rfl) ?_;refine vs ?_
  match s,h1 with
  | [],h1 =>
    refine K2 5 (v := .bool false) (congrArg Value.bool rfl) ?_
    repeat' (first|refine vs ?_|refine ps ?_|refine Nx.h ?_|refine Eb ?_|fail)
    exact Au [] Ad ⟨h1,ho.on (hs.AE rfl)⟩
  | [a],h1 =>
    refine K2 5 (v := .bool false) (congrArg Value.bool rfl) ?_
    repeat' (first|refine vs ?_|refine ps ?_|refine Nx.h ?_|refine Eb ?_|fail)
    exact Au [a] Ad ⟨h1,ho.on (hs.AE rfl)⟩
  | a :: b :: s,h1 =>
    refine K2 5 (v := .bool true) (congrArg Value.bool (decide_eq_true (by simp only [aCx];omega))) ?_;refine vs ?_;refine vs ?_;refine xs_val rfl (mO (i:=0) (b:=a) Im rfl rfl rfl) ?_
    repeat' (first|refine Sa ?_|refine Aw rfl (fun hc=>?_) fun hc=>?_|fail)
    ·have e:a=48:=by
      have h:(a.toNat:Int)=48:=by simpa using hc
      exact UInt8.toNat_inj.1 (by have : a.toNat = 48 := by omega
                                  rw [this];rfl)
     refine xs_val rfl (lT (l:=1) Im rfl rfl AA) ?_;refine Jc ?_;refine A2 (b :: s) AA Ad ⟨?_,ho.on (hs.AE rfl)⟩;rw [← h1,e];rfl
    ·have e:a≠48:=fun e=>by subst e;simp at hc
     refine Au (a :: b :: s) Ad ⟨?_,ho.on (hs.AE rfl)⟩;rw [← h1];simp [Gu,e]
 ·clear hs;rintro s env w ⟨rfl,ho⟩;have hs:=St.nil w;refine Ja ?_;refine AG ?_;exact ⟨rfl,ho.on (hs.AE rfl)⟩
end Go.Proofs.Q0
namespace Go.Proofs
open Go.Shelf
def Tryz.Uz:Go.Shelf.Ren:=⟨fun | 283=>284 | n=>n,fun | 3=>3 | 9=>9 | 4=>4 | n=>n,fun | n=>n⟩
theorem Tryz.mF:Go.Proofs.Lays.n283 Tryz.prog Tryz.Uz:={
 mixed:=by kernel_rfl
 f283:=Tryz.func284.trans (congrArg some (by kernel_rfl))
 t3:=Tryz.underlying3
 a3:=Tryz.isAgg3
 z3:=Tryz.sizeOf3
 v3:=Tryz.zeroValue3
 t4:=Tryz.underlying4
 a4:=Tryz.isAgg4
 z4:=Tryz.sizeOf4
 v4:=Tryz.zeroValue4
 t9:=Tryz.underlying9
 a9:=Tryz.isAgg9
 z9:=Tryz.sizeOf9
 v9:=Tryz.zeroValue9 }
def Tryz.TH:Go.Shelf.Ren:=⟨fun | 284=>285 | 129=>166 | 317=>293 | 318=>294 | n=>n,fun | 53=>22 | 3=>3 | 212=>315 | 0=>0 | 4=>4 | 46=>193 | 5=>5 | 9=>9 | n=>n,fun | 17=>2 | n=>n⟩
theorem Tryz.bZ:Go.Proofs.LaysM.n284 Tryz.prog Tryz.TH:={
 mixed:=by kernel_rfl
 f129:=Tryz.func166.trans (congrArg some (by kernel_rfl))
 f284:=Tryz.func285.trans (congrArg some (by kernel_rfl))
 f317:=Tryz.func293.trans (congrArg some (by kernel_rfl))
 f318:=Tryz.func294.trans (congrArg some (by kernel_rfl))
 t0:=Tryz.underlying0
 a0:=Tryz.isAgg0
 z0:=Tryz.sizeOf0
 v0:=Tryz.zeroValue0
 t3:=Tryz.underlying3
 a3:=Tryz.isAgg3
 z3:=Tryz.sizeOf3
 v3:=Tryz.zeroValue3
 t4:=Tryz.underlying4
 a4:=Tryz.isAgg4
 z4:=Tryz.sizeOf4
 v4:=Tryz.zeroValue4
 t5:=Tryz.underlying5
 a5:=Tryz.isAgg5
 z5:=Tryz.sizeOf5
 v5:=Tryz.zeroValue5
 t9:=Tryz.underlying9
 a9:=Tryz.isAgg9
 z9:=Tryz.sizeOf9
 v9:=Tryz.zeroValue9
 t46:=Tryz.underlying193
 a46:=Tryz.isAgg193
 z46:=Tryz.sizeOf193
 v46:=Tryz.zeroValue193
 t53:=Tryz.underlying22
 a53:=Tryz.isAgg22
 z53:=Tryz.sizeOf22
 v53:=Tryz.zeroValue22
 t212:=Tryz.underlying315
 a212:=Tryz.isAgg315
 z212:=Tryz.sizeOf315
 v212:=Tryz.zeroValue315
 g17:=by kernel_rfl
 i0:=by kernel_rfl
 i3:=by kernel_rfl
 i4:=by kernel_rfl
 i5:=by kernel_rfl
 i9:=by kernel_rfl
 i46:=by kernel_rfl
 i53:=by kernel_rfl
 i212:=by kernel_rfl
 m17:=by kernel_rfl }
def Tryz.X5:Go.Shelf.Ren:=⟨fun | 285=>286 | n=>n,fun | 37=>308 | 53=>22 | 3=>3 | 4=>4 | 51=>49 | 9=>9 | 5=>5 | 0=>0 | n=>n,fun | n=>n⟩
theorem Tryz.nV:Go.Proofs.Lays.n285 Tryz.prog Tryz.X5:={
 mixed:=by kernel_rfl
 f285:=Tryz.func286.trans (congrArg some (by kernel_rfl))
 t0:=Tryz.underlying0
 a0:=Tryz.isAgg0
 z0:=Tryz.sizeOf0
 v0:=Tryz.zeroValue0
 t3:=Tryz.underlying3
 a3:=Tryz.isAgg3
 z3:=Tryz.sizeOf3
 v3:=Tryz.zeroValue3
 t4:=Tryz.underlying4
 a4:=Tryz.isAgg4
 z4:=Tryz.sizeOf4
 v4:=Tryz.zeroValue4
 t5:=Tryz.underlying5
 a5:=Tryz.isAgg5
 z5:=Tryz.sizeOf5
 v5:=Tryz.zeroValue5
 t9:=Tryz.underlying9
 a9:=Tryz.isAgg9
 z9:=Tryz.sizeOf9
 v9:=Tryz.zeroValue9
 t37:=Tryz.underlying308
 a37:=Tryz.isAgg308
 z37:=Tryz.sizeOf308
 v37:=Tryz.zeroValue308
 t51:=Tryz.underlying49
 a51:=Tryz.isAgg49
 z51:=Tryz.sizeOf49
 v51:=Tryz.zeroValue49
 t53:=Tryz.underlying22
 a53:=Tryz.isAgg22
 z53:=Tryz.sizeOf22
 v53:=Tryz.zeroValue22 }
def Tryz.Uq:Go.Shelf.Ren:=⟨fun | 7=>43 | 10=>83 | n=>n,fun | 23=>77 | 26=>3 | 3=>66 | 28=>105 | 0=>0 | 27=>104 | 33=>150 | 4=>4 | n=>n,fun | n=>n⟩
theorem Tryz.sI:Go.Proofs.SlLaysZI.n7 Tryz.prog Tryz.Uq:={
 mixed:=by kernel_rfl
 f7:=⟨Tryz.f43.name,by decide,Tryz.func43.trans (congrArg some (by kernel_rfl))⟩
 f10:=⟨Tryz.f83.name,by decide,Tryz.func83.trans (congrArg some (by kernel_rfl))⟩
 t0:=Tryz.underlying0
 a0:=Tryz.isAgg0
 z0:=Tryz.sizeOf0
 v0:=Tryz.zeroValue0
 t4:=Tryz.underlying4
 a4:=Tryz.isAgg4
 z4:=Tryz.sizeOf4
 v4:=Tryz.zeroValue4
 t23:=Tryz.underlying77
 a23:=Tryz.isAgg77
 z23:=Tryz.sizeOf77
 v23:=Tryz.zeroValue77
 t26:=Tryz.underlying3
 a26:=Tryz.isAgg3
 z26:=Tryz.sizeOf3
 v26:=Tryz.zeroValue3
 t27:=Tryz.underlying104
 a27:=Tryz.isAgg104
 z27:=Tryz.sizeOf104
 v27:=Tryz.zeroValue104
 t28:=Tryz.underlying105
 a28:=Tryz.isAgg105
 z28:=Tryz.sizeOf105
 v28:=Tryz.zeroValue105
 t33:=Tryz.underlying150
 a33:=Tryz.isAgg150
 z33:=Tryz.sizeOf150
 v33:=Tryz.zeroValue150 }
def Tryz.Q5:Go.Shelf.Ren:=⟨fun | 6=>42 | 8=>81 | 9=>82 | 11=>121 | 13=>123 | 12=>122 | 23=>165 | 24=>166 | 14=>156 | 15=>157 | 16=>158 | 17=>159 | 18=>160 | 19=>161 | 20=>162 | 21=>163 | 22=>164 | 25=>202 | 26=>203 | 27=>204 | 28=>205 | 29=>206 | 30=>207 | 31=>225 | n=>n,fun | 26=>3 | 28=>105 | 24=>34 | 0=>0 | 3=>3 | 37=>193 | 48=>49 | 50=>22 | 4=>4 | 40=>229 | 39=>228 | 45=>209 | 5=>5 | 9=>9 | 51=>263 | 55=>267 | 57=>284 | 58=>285 | 33=>150 | n=>n,fun | n=>n⟩
theorem Tryz.vA:Go.Proofs.SlLaysZI.n6 Tryz.prog Tryz.Q5:={
 mixed:=by kernel_rfl
 f6:=⟨Tryz.f42.name,by decide,Tryz.func42.trans (congrArg some (by kernel_rfl))⟩
 f8:=⟨Tryz.f81.name,by decide,Tryz.func81.trans (congrArg some (by kernel_rfl))⟩
 f11:=⟨Tryz.f121.name,by decide,Tryz.func121.trans (congrArg some (by kernel_rfl))⟩
 t0:=Tryz.underlying0
 a0:=Tryz.isAgg0
 z0:=Tryz.sizeOf0
 v0:=Tryz.zeroValue0
 t24:=Tryz.underlying34
 a24:=Tryz.isAgg34
 z24:=Tryz.sizeOf34
 v24:=Tryz.zeroValue34
 t26:=Tryz.underlying3
 a26:=Tryz.isAgg3
 z26:=Tryz.sizeOf3
 v26:=Tryz.zeroValue3
 t28:=Tryz.underlying105
 a28:=Tryz.isAgg105
 z28:=Tryz.sizeOf105
 v28:=Tryz.zeroValue105
 i26:=by kernel_rfl }
def Tryz.iP:Go.Shelf.Ren:=⟨fun | 5=>82 | 8=>123 | 7=>122 | 19=>165 | 20=>166 | 10=>156 | 11=>157 | 12=>158 | 13=>159 | 14=>160 | 15=>161 | 16=>162 | 17=>163 | 18=>164 | 30=>202 | 31=>203 | 32=>204 | 33=>205 | 34=>206 | 35=>207 | 40=>225 | n=>n,fun | 23=>34 | 25=>3 | 3=>3 | 32=>193 | 22=>34 | 0=>0 | 44=>49 | 46=>22 | 4=>4 | 36=>229 | 35=>228 | 41=>209 | 5=>5 | 9=>9 | 53=>263 | 57=>267 | 63=>284 | 64=>285 | n=>n,fun | n=>n⟩
theorem Tryz.rF:Go.Proofs.SlLaysM.n5 Tryz.prog Tryz.iP:={
 mixed:=by kernel_rfl
 f5:=⟨Tryz.f82.name,by decide,Tryz.func82.trans (congrArg some (by kernel_rfl))⟩
 f7:=⟨Tryz.f122.name,by decide,Tryz.func122.trans (congrArg some (by kernel_rfl))⟩
 f8:=Tryz.func123.trans (congrArg some (by kernel_rfl))
 f10:=⟨Tryz.f156.name,by decide,Tryz.func156.trans (congrArg some (by kernel_rfl))⟩
 f11:=⟨Tryz.f157.name,by decide,Tryz.func157.trans (congrArg some (by kernel_rfl))⟩
 f12:=⟨Tryz.f158.name,by decide,Tryz.func158.trans (congrArg some (by kernel_rfl))⟩
 f13:=⟨Tryz.f159.name,by decide,Tryz.func159.trans (congrArg some (by kernel_rfl))⟩
 f14:=⟨Tryz.f160.name,by decide,Tryz.func160.trans (congrArg some (by kernel_rfl))⟩
 f15:=⟨Tryz.f161.name,by decide,Tryz.func161.trans (congrArg some (by kernel_rfl))⟩
 f16:=⟨Tryz.f162.name,by decide,Tryz.func162.trans (congrArg some (by kernel_rfl))⟩
 f17:=⟨Tryz.f163.name,by decide,Tryz.func163.trans (congrArg some (by kernel_rfl))⟩
 f18:=⟨Tryz.f164.name,by decide,Tryz.func164.trans (congrArg some (by kernel_rfl))⟩
 f19:=Tryz.func165.trans (congrArg some (by kernel_rfl))
 f20:=Tryz.func166.trans (congrArg some (by kernel_rfl))
 f30:=⟨Tryz.f202.name,by decide,Tryz.func202.trans (congrArg some (by kernel_rfl))⟩
 f31:=Tryz.func203.trans (congrArg some (by kernel_rfl))
 f32:=Tryz.func204.trans (congrArg some (by kernel_rfl))
 f33:=⟨Tryz.f205.name,by decide,Tryz.func205.trans (congrArg some (by kernel_rfl))⟩
 f34:=⟨Tryz.f206.name,by decide,Tryz.func206.trans (congrArg some (by kernel_rfl))⟩
 f35:=⟨Tryz.f207.name,by decide,Tryz.func207.trans (congrArg some (by kernel_rfl))⟩
 f40:=⟨Tryz.f225.name,by decide,Tryz.func225.trans (congrArg some (by kernel_rfl))⟩
 t0:=Tryz.underlying0
 a0:=Tryz.isAgg0
 z0:=Tryz.sizeOf0
 v0:=Tryz.zeroValue0
 t3:=Tryz.underlying3
 a3:=Tryz.isAgg3
 z3:=Tryz.sizeOf3
 v3:=Tryz.zeroValue3
 t4:=Tryz.underlying4
 a4:=Tryz.isAgg4
 z4:=Tryz.sizeOf4
 v4:=Tryz.zeroValue4
 t5:=Tryz.underlying5
 a5:=Tryz.isAgg5
 z5:=Tryz.sizeOf5
 v5:=Tryz.zeroValue5
 t9:=Tryz.underlying9
 a9:=Tryz.isAgg9
 z9:=Tryz.sizeOf9
 v9:=Tryz.zeroValue9
 t22:=Tryz.underlying34
 a22:=Tryz.isAgg34
 z22:=Tryz.sizeOf34
 v22:=Tryz.zeroValue34
 t23:=Tryz.underlying34
 a23:=Tryz.isAgg34
 z23:=Tryz.sizeOf34
 v23:=Tryz.zeroValue34
 t25:=Tryz.underlying3
 a25:=Tryz.isAgg3
 z25:=Tryz.sizeOf3
 v25:=Tryz.zeroValue3
 t32:=Tryz.underlying193
 a32:=Tryz.isAgg193
 z32:=Tryz.sizeOf193
 v32:=Tryz.zeroValue193
 t35:=Tryz.underlying228
 a35:=Tryz.isAgg228
 z35:=Tryz.sizeOf228
 v35:=Tryz.zeroValue228
 t36:=Tryz.underlying229
 a36:=Tryz.isAgg229
 z36:=Tryz.sizeOf229
 v36:=Tryz.zeroValue229
 t41:=Tryz.underlying209
 a41:=Tryz.isAgg209
 z41:=Tryz.sizeOf209
 v41:=Tryz.zeroValue209
 t44:=Tryz.underlying49
 a44:=Tryz.isAgg49
 z44:=Tryz.sizeOf49
 v44:=Tryz.zeroValue49
 t46:=Tryz.underlying22
 a46:=Tryz.isAgg22
 z46:=Tryz.sizeOf22
 v46:=Tryz.zeroValue22
 t53:=Tryz.underlying263
 a53:=Tryz.isAgg263
 z53:=Tryz.sizeOf263
 v53:=Tryz.zeroValue263
 t57:=Tryz.underlying267
 a57:=Tryz.isAgg267
 z57:=Tryz.sizeOf267
 v57:=Tryz.zeroValue267
 t63:=Tryz.underlying284
 a63:=Tryz.isAgg284
 z63:=Tryz.sizeOf284
 v63:=Tryz.zeroValue284
 t64:=Tryz.underlying285
 a64:=Tryz.isAgg285
 z64:=Tryz.sizeOf285
 v64:=Tryz.zeroValue285 }
def Tryz.bG:Go.Shelf.Ren:=⟨fun | 5=>120 | 7=>155 | n=>n,fun | 23=>77 | 25=>3 | 3=>66 | 4=>4 | 20=>20 | n=>n,fun | n=>n⟩
theorem Tryz.wY:Go.Proofs.SlLaysW.n5 Tryz.prog Tryz.bG:={
 mixed:=by kernel_rfl
 f5:=⟨Tryz.f120.name,by decide,Tryz.func120.trans (congrArg some (by kernel_rfl))⟩
 f7:=Tryz.func155.trans (congrArg some (by kernel_rfl))
 t4:=Tryz.underlying4
 a4:=Tryz.isAgg4
 z4:=Tryz.sizeOf4
 v4:=Tryz.zeroValue4
 t20:=Tryz.underlying20
 a20:=Tryz.isAgg20
 z20:=Tryz.sizeOf20
 v20:=Tryz.zeroValue20
 t23:=Tryz.underlying77
 a23:=Tryz.isAgg77
 z23:=Tryz.sizeOf77
 v23:=Tryz.zeroValue77 }
def Tryz.cU:Go.Shelf.Ren:=⟨fun | 5=>154 | 7=>155 | n=>n,fun | 23=>112 | 25=>3 | 3=>64 | 4=>4 | 20=>20 | n=>n,fun | n=>n⟩
theorem Tryz.xV:Go.Proofs.SlLaysW.n5 Tryz.prog Tryz.cU:={
 mixed:=by kernel_rfl
 f5:=⟨Tryz.f154.name,by decide,Tryz.func154.trans (congrArg some (by kernel_rfl))⟩
 f7:=Tryz.func155.trans (congrArg some (by kernel_rfl))
 t4:=Tryz.underlying4
 a4:=Tryz.isAgg4
 z4:=Tryz.sizeOf4
 v4:=Tryz.zeroValue4
 t20:=Tryz.underlying20
 a20:=Tryz.isAgg20
 z20:=Tryz.sizeOf20
 v20:=Tryz.zeroValue20
 t23:=Tryz.underlying112
 a23:=Tryz.isAgg112
 z23:=Tryz.sizeOf112
 v23:=Tryz.zeroValue112 }
end Go.Proofs
namespace Go.Proofs.Q0
open Go Go.Shelf Go.RowKit Go.Sort Go.Lib Tryz
theorem YW (w:World) (T:TypeId) (nd:Nat) (hs:nd≤24):Holds (fun (b:UInt8)=>Value.int .u8 (b.toNat:Int)) (w.alloc (.cells zeros24 T)) w.heap.size 0 (Array.replicate nd (0:UInt8)):=by
 intro j hj;have hj':j < nd:=by simpa using hj
 refine ⟨?_,World.frozen?_alloc_new _ _ _ _⟩;rw [World.cell?_alloc_new,aDO,zeros24_at j om];simp [hj']
theorem aBL (w:World) (o:Obj) (dk:Array UInt8) (k:Nat):∃ os,(putRow (fun (b:UInt8)=>Value.int .u8 (b.toNat:Int)) (w.alloc o) w.heap.size 0 dk).drewN k=grow (w.drewN k) os:=by
 rw [alloc_eq_grow];obtain ⟨os',_,e⟩:=putRow_grow_new (fun (b:UInt8)=>Value.int .u8 (b.toNat:Int)) w #[o] w.heap.size 0 dk (aC5 _);exact ⟨os',by rw [e];rfl⟩
theorem fmt_small (u:Nat) (hu:u < 100) (w:World):Calls prog 281 #[.int .u64 (u:Int),.int .i64 10] w fun e w'=>e = .returned (.string ⟨(Lib.decDigits u).toArray⟩)∧∃ k os,w'=grow (w.drewN k) os:=by
 go_enter func281,ntmps281
 go_wp2_with (go_at_call 284;refine (Any.internal_strconv_small mF u hu _).mono ?_;rintro e w' ⟨rfl,rfl⟩)
 go_ret
 exact ⟨rfl,0,#[],by simp [World.drewN_zero]⟩
theorem fmt_big (u : Nat) (aCn : 100 ≤ u) (hu64 : u < 18446744073709551616) (w : World) (htab : Lib.TabIs prog w "internal/strconv.uint64pow10" .u64 Lib.pow10Tab) : Calls prog 281 #[.int .u64 (u : Int), .int .i64 10] w fun e w' => e = .returned (.string ⟨(Lib.decDigits u).toArray⟩) ∧ ∃ k os, w' = grow (w.drewN k) os := by
 have hu1:1≤u:=by omega
 have aCV:Lib.nDigits u≤20:=by have:=Lib.numDigits_eq u hu1 hu64;split at this <;> omega
 have hb4:Lib.nDigits u≤24:=by omega
 have hal:prog.arrayLen 306=24:=by kernel_rfl
 have Co:∀ W,(Instr.sliceAt 306 (.pointer (some ⟨w.heap.size,0,none⟩)) none (some (.int .i64 (Lib.nDigits u:Int))) none).run prog W = .ok (.slice (some ⟨w.heap.size,0,none⟩) (Lib.nDigits u) 24) W:=fun W=>by
  rw [run_sliceAt_array_h W 306 ⟨w.heap.size,0,none⟩ (by kernel_rfl) .i64 (Lib.nDigits u:Int) om (by rw [hal];omega)];rw [hal];have e5:prog.elem 306=5:=by kernel_rfl
  rw [e5]
  go_simp
  try omega
 have Yt:=YW w 306 (Lib.nDigits u) hb4;have hfmt:=Any.internal_strconv_formatBase10 nV w.heap.size 0 24 u (Array.replicate (Lib.nDigits u) 0) (w.alloc (.cells Lib.zeros24 306)) Yt (by rw [Array.size_replicate];exact Lib.lt_pow_nDigits u) hu64 (by rw [Array.size_replicate];omega);rw [Array.size_replicate] at hfmt;have HH0:=Lib.hid Yt;clear Yt hal
 go_enter func281,ntmps281
 go_wp2_with (first
  | (go_at_call 285;refine (Any.internal_strconv_numDigits bZ u hu1 hu64 _ (Lib.tabIs_alloc htab _)).mono ?_;rintro e w' ⟨rfl,rfl⟩))
 refine hfmt.mono ?_;rintro e w' ⟨rfl,k,v',dk,rfl,hF⟩
 have hcv:(convert 308 9 (.slice (some ⟨w.heap.size,0,none⟩) (Lib.nDigits u) 24)).run prog ((putRow (fun (b:UInt8)=>Value.int .u8 (b.toNat:Int)) (w.alloc (.cells Lib.zeros24 306)) w.heap.size 0 dk).drewN k) = .ok (.string ⟨(Lib.decDigits u).toArray⟩) ((putRow (fun (b:UInt8)=>Value.int .u8 (b.toNat:Int)) (w.alloc (.cells Lib.zeros24 306)) w.heap.size 0 dk).drewN k):=by
  have h:=run_convert_bytes_back (P:=prog) ((putRow (fun (b:UInt8)=>Value.int .u8 (b.toNat:Int)) (w.alloc (.cells Lib.zeros24 306)) w.heap.size 0 dk).drewN k) 308 9 5 ⟨w.heap.size,0,none⟩ 24 (Lib.decDigits u) (by kernel_rfl) (by kernel_rfl) (by kernel_rfl) (fun j hj=>by
   rw [Lib.row_is_numeral hF j hj,Lib.add_plain,World.cell?_drewN];exact cell?_putRow (fun (b:UInt8)=>Value.int .u8 (b.toNat:Int)) _ w.heap.size 0 _ dk HH0.out (by rw [hF.size,Array.size_replicate]) j (by rw [hF.size];rw [Lib.decDigits_length] at hj;exact hj))
  rw [Lib.decDigits_length] at h;exact h
 go_wp2
 go_ret
 obtain ⟨os,eo⟩:=aBL w (.cells Lib.zeros24 306) dk k;exact ⟨rfl,k,os,eo⟩
end Go.Proofs.Q0
namespace Go.Proofs.Q0
open Go Go.RowKit Go.Sort Go.Lib Tryz
attribute [local irreducible] XS XC XA AY AR A9 A1 A0 Aa Ae AW SE
theorem ret_of_calls {P:Program} {f:FuncId} {args:Array Value} {w:World} {Q:Value→World→Prop} (he:LD P f=true) (h:Calls P f args w fun e w'=>∃ v,e = .returned v∧Q v w'):AO P f args w Q := .inl ⟨Na he args w,h⟩
abbrev DJ (w : World) : Prop := Lib.TabIs prog w "internal/strconv.uint64pow10" .u64 Lib.pow10Tab
theorem tab_only {w w':World} (h:DJ w) (ho:AB [] w w'):DJ w':=by
 unfold DJ TabIs World.var? at *;cases hg : prog.globalNamed "internal/strconv.uint64pow10" with
 | none=>simp [hg] at h
 | some g =>
   simp only [hg,Option.bind_some] at h ⊢
   have hlt:g < w.heap.size:=by
    rcases aDL g w.heap.size with h' | h'
    ·exact h'
    ·rw [aDq h'] at h;simp at h
   rw [ho.frame g hlt AA];exact h
theorem U8 (w:World) (k:Nat) (os:Array Obj):AB [] w (grow (w.drewN k) os) :=
 ⟨rfl,rfl,rfl,by show w.heap.size≤(w.heap ++ os).size;rw [Array.size_append];exact Nat.le_add_right _ _,fun i hi _=>by show (w.heap ++ os)[i]?=_;rw [Array.getElem?_append_left hi]⟩
theorem lB (u:Nat) (hu:u < 18446744073709551616) (w0:World) (ht:DJ w0):AO prog 281 #[.int .u64 (u:Int),.int .i64 10] w0 fun v w'=>v = .string ⟨(Lib.decDigits u).toArray⟩∧AB [] w0 w':=by
 refine ret_of_calls (by kernel_rfl) ?_;by_cases h:u < 100
 ·exact (fmt_small u h w0).mono fun e w' ⟨he,k,os,hw⟩=>⟨_,he,rfl,hw ▸ U8 w0 k os⟩
 ·exact (fmt_big u om hu w0 ht).mono fun e w' ⟨he,k,os,hw⟩=>⟨_,he,rfl,hw ▸ U8 w0 k os⟩
theorem ZP (u:Nat) (hu:u < 18446744073709551616) (w0:World) (ht:DJ w0):AO prog 275 #[.int .u64 (u:Int),.int .i64 10] w0 fun v w'=>v = .string ⟨(Lib.decDigits u).toArray⟩∧AB [] w0 w':=by
 have hs:=St.nil w0;refine AS func275 ntmps275 ?_;refine Ja ?_;refine AZ hs (h:=by exact lB u hu _ (tab_only ht (hs.AE rfl))) ?_;intro w' ho hs;refine Jc ?_;refine AG ?_;exact ⟨rfl,hs.AE rfl⟩
end Go.Proofs.Q0
namespace Go.Proofs.Q0
open Go Go.Lib Tryz
def IU (l:List UInt8):Prop:=∀ b∈l,48≤b.toNat∧b.toNat≤57
def D9 (l:List UInt8):Nat:=l.foldl (fun n b=>10*n+(b.toNat - 48)) 0
theorem Tw (l:List UInt8) (b:UInt8):D9 (l ++ [b])=10*D9 l+(b.toNat - 48):=by simp [D9,aDh]
theorem iD (l:List UInt8):∀ n:Nat,l.foldl (fun n b=>10*n+(b.toNat - 48)) n=10 ^ l.length*n+D9 l:=by
 induction l with
 | nil=>intro n;simp [D9]
 | cons a l ih =>
   intro n;simp only [aDZ,D9];rw [ih,ih (10*0+(a.toNat - 48))];simp only [aCx,Nat.pow_succ];rw [Nat.mul_add,Nat.mul_zero,aDO,Nat.add_assoc,← Nat.mul_assoc,Nat.mul_assoc (10 ^ l.length)]
theorem MW (a b:List UInt8):D9 (a ++ b)=10 ^ b.length*D9 a+D9 b:=by
 unfold D9;rw [aDh,iD b];rfl
theorem PO (a:UInt8) (l:List UInt8):D9 (a :: l)=10 ^ l.length*(a.toNat - 48)+D9 l:=by
 have:=MW [a] l;simpa [D9] using this
theorem Qo {a b:UInt8} (h:a.toNat=b.toNat):a=b:=UInt8.toNat_inj.1 h
theorem Tb:∀ (n:Nat) (l:List UInt8),l.length=n+1→IU l→(l.length=1∨l.head?≠some 48)→l=decDigits (D9 l)
 | 0,l,hl,hd,_=>by
   obtain ⟨a,rfl⟩:=List.length_eq_one_iff.1 hl;have h:=hd a AA;have hv:D9 [a]=a.toNat - 48:=by simp [D9]
   rw [hv,decDigits_one om];congr 1;apply Qo;rw [show 48+(a.toNat - 48)=a.toNat by omega];simp
 | n+1,l,hl,hd,hc=>by
   obtain ⟨m,d,rfl⟩:∃ m d,l=m ++ [d]:=by
    refine ⟨l.dropLast,l.getLast (by intro h;rw [h] at hl;cases hl),(List.dropLast_concat_getLast _).symm⟩
   have hml:m.length=n+1:=by simpa using hl
   have hmd:IU m:=fun b hb=>hd b (aDC _ hb);have sJ:=hd d AA
   have hh:m.head?≠some 48:=by
    rcases hc with hc | hc
    ·simp at hc;rw [hc] at hml;cases hml
    ·rw [List.head?_append] at hc;cases m with
     | nil=>cases hml
     | cons a m=>simpa using hc
   have ih:=Tb n m hml hmd (.inr hh)
   have hpos:1≤D9 m:=by
    cases m with
    | nil=>cases hml
    | cons a m =>
      have ha:=hmd a AA;have hne:a.toNat≠48:=fun e=>hh (by simp;exact Qo e);rw [PO];have:1≤10 ^ m.length*(a.toNat - 48):=Nat.mul_pos (Nat.pow_pos (by decide)) om;omega
   rw [Tw,decDigits,dif_neg om];have e1:(10*D9 m+(d.toNat - 48)) / 10=D9 m:=by omega
   have e2:(10*D9 m+(d.toNat - 48)) % 10=d.toNat - 48:=by omega
   rw [e1,e2,← ih];congr 2;apply Qo;rw [show 48+(d.toNat - 48)=d.toNat by omega];simp
theorem H7:∀ (l:List UInt8),l≠[]→IU l→Gu l=decDigits (D9 l)
 | [],h,_=>absurd rfl h
 | [a],_,hd=>Tb 0 [a] rfl hd (.inl rfl)
 | a :: b :: l,_,hd=>by
   by_cases e:a=48
   ·subst e;rw [show Gu (48 :: b :: l)=Gu (b :: l) by simp [Gu],PO];rw [H7 (b :: l) AA (fun x hx=>hd x (aCy _ hx))];simp
   ·rw [show Gu (a :: b :: l)=a :: b :: l by simp [Gu,e]];exact Tb (l.length+1) _ AA hd (.inr (by simpa using e))
end Go.Proofs.Q0
namespace Go.Proofs.Q0
open Go Go.RowKit Go.Lib Tryz
attribute [local irreducible] XS XC XA AY AR A9 A1 A0 Aa Ae AW SE
theorem Wb:∀ u:Nat,IU (decDigits u):=by
 intro u
 induction u using Nat.strongRecOn with
 | _ u ih =>
   intro b hb;rw [decDigits] at hb;split at hb
   ·obtain rfl:=List.mem_singleton.1 hb;have:(UInt8.ofNat (48+u)).toNat=48+u:=by simp;omega
    omega
   ·rcases aC4.1 hb with hb | hb
    ·exact ih (u / 10) om b hb
    ·obtain rfl:=List.mem_singleton.1 hb;have:(UInt8.ofNat (48+u % 10)).toNat=48+u % 10:=by simp;omega
     omega
theorem Wz:∀ u:Nat,D9 (decDigits u)=u:=by
 intro u
 induction u using Nat.strongRecOn with
 | _ u ih =>
   rw [decDigits];split
   ·have:(UInt8.ofNat (48+u)).toNat=48+u:=by simp;omega
    simp only [D9,aDZ,List.foldl_nil];omega
   ·have:(UInt8.ofNat (48+u % 10)).toNat=48+u % 10:=by simp;omega
    rw [Tw,ih (u / 10) om];omega
theorem xG (u:Nat):decDigits u≠[]:=fun h=>by have:=decDigits_length u;rw [h] at this;have:=nDigits_pos u;simp at *;omega
theorem Y4 (l:List UInt8):D9 (48 :: l)=D9 l:=by rw [PO];simp
theorem gG {a:UInt8} {l:List UInt8} (h1:48≤a.toNat∧a.toNat≤57) (h:IU l):IU (a :: l):=fun b hb=>by
 rcases aCu.1 hb with rfl | hb
 ·exact h1
 ·exact h b hb
theorem QZ {a b:List UInt8} (h:IU a) (k:IU b):IU (a ++ b):=fun x hx=>by
 rcases aC4.1 hx with hx | hx
 ·exact h x hx
 ·exact k x hx
theorem lZ {u:Nat} (h:u < 1000000000000000000):(decDigits u).length≤18:=by
 rw [decDigits_length];rcases aDL 18 (nDigits u) with h1 | h1
 ·rcases aD2 u with rfl | hu
  ·rw [nDigits_small (by decide)] at h1;omega
  ·exfalso
   have key:∀ (n u:Nat),nDigits u=n+1→0 < u→10 ^ n≤u:=by
    intro n
    induction n with
    | zero=>intro u _ h;rw [Nat.pow_zero];exact h
    | succ n ih =>
      intro u h1 h2;have hb:¬ u < 10:=fun h=>by rw [nDigits_small h] at h1;omega
      rw [nDigits_big hb] at h1;have:=ih (u / 10) om om;rw [Nat.pow_succ];omega
   obtain ⟨n,hn⟩:∃ n,nDigits u=n+1:=⟨nDigits u - 1,by omega⟩;have h2:=key n u hn hu;have h3:10 ^ 18≤10 ^ n:=Nat.pow_le_pow_right (by decide) om;have h4:(10:Nat) ^ 18=1000000000000000000:=by decide
   omega
 ·exact h1
def NB (x:Int):List UInt8:=(if x < 0 then [45] else []) ++ decDigits x.natAbs
structure Z1 (n m:Nat) (s:List UInt8):Prop where
 dig:IU s
 val:10 ^ s.length*m+D9 s=n
 len:s.length≤60
 le:m≤n
theorem vB {n m:Nat} {s:List UInt8} (h:Z1 n m s) (hm:0 < m) (hn:n < 340282366920938463463374607431768211456):s.length≤38:=by
 rcases aDL 38 s.length with h1 | h1
 ·exfalso;have h2:10 ^ 39≤10 ^ s.length:=Nat.pow_le_pow_right (by decide) h1;have h3:10 ^ s.length≤10 ^ s.length*m:=Nat.le_mul_of_pos_right _ hm;have h4:=h.val;have h5:(10:Nat) ^ 39=1000000000000000000000000000000000000000:=by decide
  omega
 ·exact h1
theorem pJ {n m:Nat} {s p:List UInt8} (h:Z1 n m s) (hm:0 < m) (hn:n < 340282366920938463463374607431768211456) (hp:IU p) (hl:p.length=18) (hv:D9 p=m % 1000000000000000000):Z1 n (m / 1000000000000000000) (p ++ s):=by
 refine ⟨QZ hp h.dig,?_,?_,aC9 (Nat.div_le_self _ _) h.le⟩
 ·rw [MW,aCv,hl,hv,Nat.pow_add];have h1:=h.val;have h2:m=1000000000000000000*(m / 1000000000000000000)+m % 1000000000000000000:=(Nat.div_add_mod m _).symm;rw [← h1];have e:(10:Nat) ^ 18=1000000000000000000:=by decide
  rw [e];generalize 10 ^ s.length=T at *;generalize D9 s=v at *;generalize hq:m / 1000000000000000000=q at *;generalize hr:m % 1000000000000000000=r at *;rw [h2];rw [Nat.mul_add,← Nat.add_assoc];congr 2;rw [Nat.mul_comm T,Nat.mul_assoc,Nat.mul_assoc,Nat.mul_comm T q,Nat.mul_comm q T]
 ·have:=vB h hm hn;rw [aCv,hl];omega
theorem vK {n m:Nat} {s:List UInt8} (h:Z1 n m s):IU (decDigits m ++ s)∧D9 (decDigits m ++ s)=n∧decDigits m ++ s≠[] :=
 ⟨QZ (Wb m) h.dig,by rw [MW,Wz];exact h.val,fun e=>xG m (List.append_eq_nil_iff.1 e).1⟩
theorem uI (hi lo:Nat) (h1:hi < 1000000000000000000) (h4:lo < 18446744073709551616) (w0:World) :
 AO prog 125 #[.int .u64 (hi:Nat),.int .u64 (lo:Nat),.int .u64 1000000000000000000] w0 fun v w'=>v = .tuple #[.int .u64 ((hi*18446744073709551616+lo) / 1000000000000000000:Nat),.int .u64 ((hi*18446744073709551616+lo) % 1000000000000000000:Nat)]∧AB [] w0 w':=by
 have h:=O8 (hi:Nat) (lo:Nat) 1000000000000000000 om om om om om w0;exact h
theorem aAA {x:Int} {n:Nat} (hx:Ac x) (h:sN x (n:Nat)) (w0:World):AO prog 124 #[wv x] w0 fun v w'=>v = .tuple #[.int .u64 (n / 18446744073709551616:Nat),.int .u64 (n % 18446744073709551616:Nat)]∧AB [] w0 w':=Pj hx h w0
theorem Ov {u:Nat} (h:u < 340282366920938463463374607431768211456):nDigits u≤40:=by
 have h1:=decDigits_length u;rcases aDL 40 (nDigits u) with h2 | h2
 ·obtain ⟨n,hn⟩:∃ n,nDigits u=n+1:=⟨nDigits u - 1,by omega⟩
  have key:∀ (n u:Nat),nDigits u=n+1→10 ^ n≤u∨n=0:=by
   intro n
   induction n with
   | zero=>intro u _;exact .inr rfl
   | succ n ih =>
     intro u h1;have hb:¬ u < 10:=fun h=>by rw [nDigits_small h] at h1;omega
     rw [nDigits_big hb] at h1;rcases ih (u / 10) om with h | rfl
     ·left;rw [Nat.pow_succ];omega
     ·left;omega
  rcases key n u hn with h3 | h3
  ·exfalso;have h4:10 ^ 40≤10 ^ n:=Nat.pow_le_pow_right (by decide) om;have h5:(10:Nat) ^ 40=10000000000000000000000000000000000000000:=by decide
   omega
  ·omega
 ·exact h2
theorem gJ {u:Nat} (h:u < 18446744073709551616):(decDigits u).length≤40:=by rw [decDigits_length];exact Ov om
theorem tP (m:Nat) (hm:m < 340282366920938463463374607431768211456):(m:Nat) / 18446744073709551616 / 1000000000000000000=m / 1000000000000000000 / 18446744073709551616 ∧
 (m / 18446744073709551616 % 1000000000000000000*18446744073709551616+m % 18446744073709551616) / 1000000000000000000=m / 1000000000000000000 % 18446744073709551616:=by
 constructor <;> omega
theorem xR (m:Nat):(m:Nat) / 18446744073709551616 / 1000000000000000000*18446744073709551616+(m / 18446744073709551616 % 1000000000000000000*18446744073709551616+m % 18446744073709551616) / 1000000000000000000=m / 1000000000000000000 ∧
 (m / 18446744073709551616 % 1000000000000000000*18446744073709551616+m % 18446744073709551616) % 1000000000000000000=m % 1000000000000000000:=by
 constructor <;> omega
theorem aX (x:Int) (hx:Ac x) (w0:World) (ht:DJ w0):AO prog 273 #[wv x] w0 fun v w'=>v=Fw (NB x)∧AB [] w0 w':=by
 have hs:=St.nil w0;have hn:sN x (x.natAbs:Nat):=⟨by omega,by omega⟩;have hnl:x.natAbs < 340282366920938463463374607431768211456:=by obtain ⟨h1,h2⟩:=hx;omega
 refine AS func273 ntmps273 ?_
 repeat' (first|refine Sa ?_|(refine bx hs ?_;intro b w hz hs)|fail)
 refine AZ hs (h:=by exact aAA hx hn _) ?_;intro w' ho hs;refine Ja ?_;refine BM (fun s:Nat × List UInt8=>[(1,.pointer (some ⟨b,0,none⟩)),(4,.int .u64 (s.1:Nat)),(5,Fw s.2)]) (fun s w=>Z1 x.natAbs s.1 s.2∧s.1 < 18446744073709551616∧St w0 D0 [(b,.cells [Value.int .i64 (x / 18446744073709551616),.int .u64 (x % 18446744073709551616)].toArray 70,true)] w) ?_ ?_
 ·refine BH (fun s:Nat × List UInt8=>[(1,.pointer (some ⟨b,0,none⟩)),(3,.int .u64 (s.1 / 18446744073709551616:Nat)),(4,.int .u64 (s.1 % 18446744073709551616:Nat)),(5,Fw s.2)]) (fun s w=>Z1 x.natAbs s.1 s.2∧St w0 D0 [(b,.cells [Value.int .i64 (x / 18446744073709551616),.int .u64 (x % 18446744073709551616)].toArray 70,true)] w) (fun s=>s.1) (x.natAbs,[]) Ad ⟨⟨by simp [IU],by simp [D9],by simp,aC5 _⟩,hs⟩ fun s env w ⟨h1,hs⟩=>?_;obtain ⟨m,s⟩:=s;have hm:=h1.le;simp only at h1 hm hs ⊢
  repeat' (first|refine Sa ?_|refine Aw rfl (fun hc=>?_) fun hc=>?_|fail)
  ·refine AZ hs (h:=by exact uI (m / 18446744073709551616 % 1000000000000000000) (m % 18446744073709551616) om om _) ?_;intro w' ho hs;refine Ja ?_;refine AZ hs (h:=by exact ZP _ om _ (tab_only ht (hs.AE rfl))) ?_;intro w' ho hs;refine Jc ?_;obtain ⟨q1,q2⟩:=xR m;obtain ⟨a1,a2⟩:=tP m om;refine BM (fun p:List UInt8=>[(1,.pointer (some ⟨b,0,none⟩)),(5,Fw s),(6,.int .u64 (m / 18446744073709551616 / 1000000000000000000:Nat)),(8,.int .u64 ((m / 18446744073709551616 % 1000000000000000000*18446744073709551616+m % 18446744073709551616) / 1000000000000000000:Nat)),(9,Fw p)]) (fun p w=>(IU p∧p.length=18∧D9 p=m % 1000000000000000000)∧St w0 D0 [(b,.cells [Value.int .i64 (x / 18446744073709551616),.int .u64 (x % 18446744073709551616)].toArray 70,true)] w) ?_ ?_
   ·refine BH (fun p:List UInt8=>[(1,.pointer (some ⟨b,0,none⟩)),(5,Fw s),(6,.int .u64 (m / 18446744073709551616 / 1000000000000000000:Nat)),(8,.int .u64 ((m / 18446744073709551616 % 1000000000000000000*18446744073709551616+m % 18446744073709551616) / 1000000000000000000:Nat)),(9,Fw p)]) (fun p w=>(IU p∧p.length≤18∧D9 p=m % 1000000000000000000)∧St w0 D0 [(b,.cells [Value.int .i64 (x / 18446744073709551616),.int .u64 (x % 18446744073709551616)].toArray 70,true)] w) (fun p=>18 - p.length) (decDigits ((m / 18446744073709551616 % 1000000000000000000*18446744073709551616+m % 18446744073709551616) % 1000000000000000000)) Ad ⟨⟨Wb _,lZ om,by rw [Wz];exact q2⟩,hs⟩ fun p env w ⟨⟨p1,p2,p3⟩,hs⟩=>?_;refine Ja ?_;refine xs_val rfl (RP rfl Im rfl) ?_
    repeat' (first|refine Sa ?_|refine Aw rfl (fun hc=>?_) fun hc=>?_|fail)
    ·refine xs_val rfl (OZ (a:=[48]) (b:=p) rfl rfl (by simp only [aCx,aDA];omega)) ?_;refine Jc ?_;refine A2 (48 :: p) (by simp only [aCx];omega) Ad ⟨⟨gG (by decide) p1,by simp only [aCx];omega,by rw [Y4];exact p3⟩,hs⟩
    ·refine Au p Ad ⟨⟨p1,by omega,p3⟩,hs⟩
   ·clear hs;rintro p env w ⟨⟨p1,p2,p3⟩,hs⟩;have t2:=pJ h1 om hnl p1 p2 p3;have Co:=t2.len;rw [aCv] at Co;refine Ja ?_;refine xs_val rfl (OZ (a:=p) (b:=s) rfl rfl om) ?_;refine Ja ?_;refine A2 (m / 1000000000000000000,p ++ s) (by show _ < m;omega) (by (repeat (first | exact Ag | (apply A8;first | exact rfl | exact congrArg (fun n:Nat=>Value.int .u64 (n:Int)) a1 | exact congrArg (fun n:Nat=>Value.int .u64 (n:Int)) a2)))) ⟨t2,hs⟩
  ·have am:m % 18446744073709551616=m:=by omega
   refine Au (m,s) (by (repeat (first | exact Ag | (apply A8;first | exact rfl | exact congrArg (fun n:Nat=>Value.int .u64 (n:Int)) am | exact congrArg (fun n:Nat=>Value.int .u64 (n:Int)) am)))) ⟨h1,by omega,hs⟩
 ·clear hs;rintro ⟨m,s⟩ env w ⟨h1,hm,hs⟩;simp only at h1 hm ⊢;refine Ja ?_;refine AZ hs (h:=by exact ZP m hm _ (tab_only ht (hs.AE rfl))) ?_;intro w' ho hs;refine Jf ?_;obtain ⟨e1,e2,e3⟩:=vK h1;have Co:=h1.len;have hdl:=gJ hm;refine xs_val rfl (OZ (a:=decDigits m) (b:=s) rfl rfl om) ?_;refine Ja ?_;refine xs_val rfl (RP rfl Im rfl) ?_
  repeat' (first|refine Sa ?_|refine Aw rfl (fun hc=>?_) fun hc=>?_|fail)
  ·refine AZ hs (h:=by exact Ve _ _) ?_;intro w' ho hs;repeat' (first|refine Sa ?_|refine Aw rfl (fun hc=>?_) fun hc=>?_|fail)
   ·refine xs_val rfl (OZ (a:=[45]) (b:=Gu (decDigits m ++ s)) rfl rfl ?_) ?_
    ·rw [H7 _ e3 e1,e2,decDigits_length,List.length_singleton];have:=Ov hnl;omega
    refine Ja ?_;refine AG ?_;refine ⟨?_,hs.AE rfl⟩;unfold NB;rw [H7 _ e3 e1,e2,if_pos om];rfl
   ·refine AG ?_;refine ⟨?_,hs.AE rfl⟩;unfold NB;rw [H7 _ e3 e1,e2,if_neg om];rfl
  ·have et:decDigits m ++ s=decDigits x.natAbs:=by
    rw [← e2,← H7 _ e3 e1,QU om]
   refine xs_val rfl (OZ (a:=[45]) (b:=decDigits m ++ s) rfl rfl ?_) ?_
   ·simp only [aCv,aCx,aDA];omega
   refine Ja ?_;refine AG ?_;refine ⟨?_,hs.AE rfl⟩;unfold NB;rw [et,if_pos om];rfl
  ·have et:decDigits m ++ s=decDigits x.natAbs:=by
    rw [← e2,← H7 _ e3 e1,QU om]
   refine AG ?_;refine ⟨?_,hs.AE rfl⟩;unfold NB;rw [et,if_neg om];rfl
end Go.Proofs.Q0
