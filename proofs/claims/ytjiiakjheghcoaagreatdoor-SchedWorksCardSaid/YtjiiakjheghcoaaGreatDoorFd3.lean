/- A part of the proof: what its functions compute. -/
import Derived.Test.YtjiiakjheghcoaaGreatDoorFd2
set_option linter.unusedVariables false
set_option linter.unusedSimpArgs false
set_option maxRecDepth 100000
set_option maxHeartbeats 64000000
set_option linter.unusedSectionVars false
namespace Go.Proofs.Q0
open Go Go.RowKit Tryz
attribute [local irreducible] XS XC XA AY AR A9 A1 A0 Aa Ae AW SE
structure Mn where
 b:Int
 a:Int
 w:Int
 n:Int
deriving DecidableEq
abbrev Mn.cells (m:Mn):List Value:=[.int .u64 m.b,.int .i64 (m.a / 18446744073709551616),.int .u64 (m.a % 18446744073709551616),.int .u64 m.w,.int .i64 m.n]
def mv (m:Mn):Value := .agg #[.int .u64 m.b,.int .i64 (m.a / 18446744073709551616),.int .u64 (m.a % 18446744073709551616),.int .u64 m.w,.int .i64 m.n]
def Mn.In (m:Mn):Prop:=BY m.b∧Ac m.a∧BY m.w∧In64 m.n
instance (m:Mn):Decidable m.In:=by unfold Mn.In;infer_instance
def Mn.zero:Mn:=⟨0,0,0,0⟩
def Mn.right (m:Mn):Bool:=bif decide (m.n=0) then decide (m.w=0) && decide (m.a=0) else decide (0 < m.n) && decide (m.n≤32) && decide (m.n≤m.w) && decide (m.w≤m.n*1048576)
theorem aBs (x:Int):(DQ (.int .i64 (x / 18446744073709551616)) (.int .i64 0) && DQ (.int .u64 (x % 18446744073709551616)) (.int .u64 0))=decide (x=0):=by
 show ((x / 18446744073709551616 == 0) && (x % 18446744073709551616 == 0))=_;by_cases h:x=0
 ·subst h;decide
 ·rw [decide_eq_false h];cases h1:(x / 18446744073709551616 == 0)
  ·rfl
  ·cases h2:(x % 18446744073709551616 == 0)
   ·rfl
   ·simp only [beq_iff_eq] at h1 h2;omega
theorem FR (m:Mn) (w0:World):AO prog 85 #[mv m] w0 fun v w'=>v = .bool m.right∧AB [] w0 w':=by
 have hs:=St.nil w0;refine AS func85 ntmps85 ?_
 repeat' (first|refine Sf ?_|(refine bx hs ?_;intro b w hz hs)|((with_reducible apply BV);exact rfl;exact rfl;intro c hc;(fail_if_success have:true=c:=hc);(fail_if_success have:false=c:=hc);cases c)|refine Aw rfl (fun hc=>?_) fun hc=>?_|fail)
 all_goals (refine AG ?_)
 all_goals refine ⟨?_,hs.AE rfl⟩
 all_goals clear hs
 all_goals unfold Mn.right packed
 all_goals try rw [aBs]
 all_goals simp only [wrap_u64] at *
 ·rw [decide_eq_true ‹m.n=0›,cond_true];simp only [beq_eq_false_iff_ne,ne_eq] at hc;rw [decide_eq_false hc];rfl
 ·rw [decide_eq_true ‹m.n=0›,cond_true];simp only [beq_iff_eq] at hc;rw [decide_eq_true hc];rfl
 ·rw [decide_eq_false ‹¬ m.n=0›,cond_false,hc];rfl
 ·rw [decide_eq_false ‹¬ m.n=0›,cond_false,‹decide (0 < m.n)=true›,hc];rfl
 ·have h1:=of_decide_eq_true ‹decide (0 < m.n)=true›;have h2:=of_decide_eq_true ‹decide (m.n≤32)=true›;rw [show m.n % 18446744073709551616=m.n by omega] at hc;rw [decide_eq_false ‹¬ m.n=0›,cond_false,‹decide (0 < m.n)=true›,‹decide (m.n≤32)=true›,hc];rfl
 ·have h1:=of_decide_eq_true ‹decide (0 < m.n)=true›;have h2:=of_decide_eq_true ‹decide (m.n≤32)=true›;rw [show m.n % 18446744073709551616=m.n by omega] at hc;rw [decide_eq_false ‹¬ m.n=0›,cond_false,‹decide (0 < m.n)=true›,‹decide (m.n≤32)=true›,hc,show m.n % 18446744073709551616*1048576 % 18446744073709551616=m.n*1048576 by omega];rfl
theorem Cm {m:Mn}:m.right=true↔(m.n=0∧m.w=0∧m.a=0)∨(0 < m.n∧m.n≤32∧m.n≤m.w∧m.w≤m.n*1048576):=by
 unfold Mn.right;by_cases h:m.n=0
 ·rw [decide_eq_true h,cond_true];simp;omega
 ·rw [decide_eq_false h,cond_false];simp;omega
def sX (o:Option Mn):Value := .tuple #[mv (o.getD .zero),.bool o.isSome]
theorem Eh {p:Pt}:p.right=true↔1≤p.w∧p.w≤1048576∧p.r < p.w:=by
 unfold Pt.right;rw [aDB,Er,decide_eq_true_eq,and_assoc]
def ER (m:Mn) (p:Pt):Option Mn:=if m.right=true∧p.right=true∧m.n≠32∧Ac (m.a+dist p m.b) then some ⟨m.b,m.a+dist p m.b,m.w+p.w,m.n+1⟩ else none
theorem TN {m:Mn} {p:Pt} {o:Mn} (hm:m.In) (h:ER m p=some o):o.In:=by
 unfold ER at h;split at h
 ·rename_i hc;cases h;obtain ⟨h1,h2,h3,h4⟩:=hc;have h1:=Cm.1 h1;have h2:=Eh.1 h2;refine ⟨hm.1,h4,?_,?_⟩
  ·show 0≤m.w+p.w∧m.w+p.w < 18446744073709551616;omega
  ·show -9223372036854775808≤m.n+1∧m.n+1 < 9223372036854775808;omega
 ·cases h
theorem XQ (m:Mn) (p:Pt) (hm:m.In) (hp':p.In) (w0:World):AO prog 223 #[mv m,pv p] w0 fun v w'=>v=sX (ER m p)∧AB [] w0 w':=by
 have hs:=St.nil w0;refine AS func223 ntmps223 ?_
 repeat' (first|refine Sa ?_|(refine al hs ?_;intro b w hz hs)|(refine bx hs ?_;intro b w hz hs)|fail)
 refine AZ hs (h:=by exact FR m _) ?_;intro w' ho hs;repeat' (first|refine Se ?_|(refine AV hs ?_;intro w hs)|((with_reducible apply BV);exact rfl;exact rfl;intro c hc;(fail_if_success have:true=c:=hc);(fail_if_success have:false=c:=hc);cases c)|fail)
 ·refine AZ hs (h:=by exact FG p _) ?_;intro w' ho hs;repeat' (first|refine Se ?_|(refine AV hs ?_;intro w hs)|((with_reducible apply BV);exact rfl;exact rfl;intro c hc;(fail_if_success have:true=c:=hc);(fail_if_success have:false=c:=hc);cases c)|refine Aw rfl (fun hc=>?_) fun hc=>?_|fail)
  ·refine AG ?_;refine ⟨?_,hs.AE rfl⟩;have:ER m p=none:=by unfold ER;rw [if_neg (fun h=>h.2.2.1 ‹_›)]
   rw [this];rfl
  ·refine dr [] hs ?_;intro hX w hs;refine tks 0 5 ?_;refine Gq 10 6 hs ?_;intro f X w hp;have hs:=hp.st;apply BI 5 10 (f:=f) (X:=X) hX hp;exact rfl;exact rfl;(apply AT AJ;exact rfl);kernel_rfl;kernel_rfl;kernel_rfl;kernel_rfl;(intro X Y;(repeat (first | exact A4 | refine A5 ?_ (by exact rfl))));(intro w' hs;first|exact AI hs.hold|exact AI hs.hold.tail|exact Ab rfl);intro f X w hp;have hs:=hp.st;refine cl (h:=by exact N7 p m.b hp' _) ?_;rintro v w' ⟨rfl,ho⟩;replace hp:=hp.only ho;replace hs:=hp.st;refine Jn ?_;apply BI 6 10 (f:=f) (X:=X) hX hp;exact rfl;exact rfl;(apply AT AJ;exact rfl);kernel_rfl;kernel_rfl;kernel_rfl;kernel_rfl;(intro X Y;(repeat (first | exact A4 | refine A5 ?_ (by exact rfl))));(intro w' hs;first|exact AI hs.hold|exact AI hs.hold.tail|exact Ab rfl);intro f X w hp;have hs:=hp.st;refine cl (h:=by exact dP m.a (dist p m.b) hm.2.1 (dist_in hp' _) _) ?_;rintro v w' ⟨rfl,ho⟩;replace hp:=hp.only ho;replace hs:=hp.st;refine Jn ?_;refine tk 7 hX (hc:=by cases f <;> kernel_rfl) (k:=?_);refine tk 8 hX (hc:=by cases f <;> kernel_rfl) (k:=?_);refine tk 9 hX (hc:=by cases f <;> kernel_rfl) (k:=?_);apply Bb 10 (f:=f) (X:=X) hX hp;exact rfl;(apply AT AJ;exact rfl);kernel_rfl;kernel_rfl;(intro X Y;(repeat (first | exact A4 | refine A5 ?_ (by exact rfl))));(intro w' hs;first|exact AI hs.hold|exact AI hs.hold.tail|exact Ab rfl);intro b w hI hs;refine dt 11 hX ?_
   repeat' (first|refine Nx.h ?_|(refine AV hs ?_;intro w hs)|fail)
   refine dn ?_;refine tk 12 hX ?_;refine en ?_
   repeat' (first|refine Sa ?_|(refine AV hs ?_;intro w hs)|refine xc_cond rfl (fun hc=>?_) fun hc=>?_|fail)
   ·refine AG ?_;refine ⟨?_,hs.AE rfl⟩;have h4:¬ Ac (m.a+dist p m.b):=by simpa using hc
    have:ER m p=none:=by unfold ER;rw [if_neg (fun h=>h4 h.2.2.2)]
    rw [this];rfl
   ·refine AG ?_;refine ⟨?_,hs.AE rfl⟩;have h4:Ac (m.a+dist p m.b):=by simpa using hc
    have h1:m.right=true:=by simpa using ‹(!m.right)=false›
    have h2:p.right=true:=by simpa using ‹(!p.right)=false›
    have:ER m p=some ⟨m.b,m.a+dist p m.b,m.w+p.w,m.n+1⟩:=by unfold ER;rw [if_pos ⟨h1,h2,‹_›,h4⟩]
    have h5:=Cm.1 h1;have h6:=Eh.1 h2;have e1:tot (m.a+dist p m.b)=m.a+dist p m.b:=if_pos h4;have e2:IntKind.u64.wrap (m.w+IntKind.u64.wrap p.w)=m.w+p.w:=by simp only [wrap_u64];omega
    have e3:IntKind.i64.wrap (m.n+1)=m.n+1:=by simp only [wrap_i64];omega
    rw [this,e1,e2,e3];rfl
  ·refine AG ?_;refine ⟨?_,hs.AE rfl⟩;have h2:p.right=false:=by simpa using hc
   have:ER m p=none:=by unfold ER;rw [if_neg (fun h=>by rw [h2] at h;cases h.2.1)]
   rw [this];rfl
 ·refine AG ?_;refine ⟨?_,hs.AE rfl⟩;have h2:m.right=false:=by simpa using hc
  have:ER m p=none:=by unfold ER;rw [if_neg (fun h=>by rw [h2] at h;cases h.1)]
  rw [this];rfl
def Fh (m:Mn) (p:Pt):Mn:=⟨m.b,m.a - dist p m.b,m.w - p.w,m.n - 1⟩
def Fu (m:Mn) (p:Pt):Option Mn:=if m.right=true∧p.right=true∧m.n≠0∧p.w≤m.w∧Ac (m.a - dist p m.b)∧(Fh m p).right=true then some (Fh m p) else none
theorem tZ {m:Mn} {p:Pt} {o:Mn} (hm:m.In) (h:Fu m p=some o):o.In:=by
 unfold Fu at h;split at h
 ·rename_i hc;cases h;obtain ⟨h1,h2,h3,h4,h5,h6⟩:=hc;have h1:=Cm.1 h1;have h2:=Eh.1 h2;refine ⟨hm.1,h5,?_,?_⟩
  ·show 0≤m.w - p.w∧m.w - p.w < 18446744073709551616;omega
  ·show -9223372036854775808≤m.n - 1∧m.n - 1 < 9223372036854775808;omega
 ·cases h
theorem fS (m:Mn) (p:Pt) (hm:m.In) (hp':p.In) (w0:World):AO prog 220 #[mv m,pv p] w0 fun v w'=>v=sX (Fu m p)∧AB [] w0 w':=by
 have hs:=St.nil w0;refine AS func220 ntmps220 ?_
 repeat' (first|refine Sa ?_|(refine al hs ?_;intro b w hz hs)|(refine bx hs ?_;intro b w hz hs)|fail)
 refine AZ hs (h:=by exact FR m _) ?_;intro w' ho hs;repeat' (first|refine Se ?_|(refine AV hs ?_;intro w hs)|((with_reducible apply BV);exact rfl;exact rfl;intro c hc;(fail_if_success have:true=c:=hc);(fail_if_success have:false=c:=hc);cases c)|fail)
 ·refine AZ hs (h:=by exact FG p _) ?_;intro w' ho hs;repeat' (first|refine Se ?_|(refine AV hs ?_;intro w hs)|((with_reducible apply BV);exact rfl;exact rfl;intro c hc;(fail_if_success have:true=c:=hc);(fail_if_success have:false=c:=hc);cases c)|refine Aw rfl (fun hc=>?_) fun hc=>?_|fail)
  ·simp only [wrap_u64] at hc;have hU:=hp'.2.2;unfold Fb at hU;refine AG ?_;refine ⟨?_,hs.AE rfl⟩;have:Fu m p=none:=by unfold Fu;rw [if_neg (fun h=>by have:=h.2.2.2.1;omega)]
   rw [this];rfl
  ·have h1:m.right=true:=by simpa using ‹(!m.right)=false›
   have h2:p.right=true:=by simpa using ‹(!p.right)=false›
   have h3:m.n≠0:=by simpa using ‹(m.n == 0)=false›
   have hU:=hp'.2.2;have e0:=LU hU;have Mi:p.w≤m.w:=by rw [e0] at hc;omega
   have h5:=Cm.1 h1;have h6:=Eh.1 h2;refine dr [] hs ?_;intro hX w hs;refine tks 0 5 ?_;refine Gq 10 6 hs ?_;intro f X w hp;have hs:=hp.st;apply BI 5 10 (f:=f) (X:=X) hX hp;exact rfl;exact rfl;(apply AT AJ;exact rfl);kernel_rfl;kernel_rfl;kernel_rfl;kernel_rfl;(intro X Y;(repeat (first | exact A4 | refine A5 ?_ (by exact rfl))));(intro w' hs;first|exact AI hs.hold|exact AI hs.hold.tail|exact Ab rfl);intro f X w hp;have hs:=hp.st;refine cl (h:=by exact N7 p m.b hp' _) ?_;rintro v w' ⟨rfl,ho⟩;replace hp:=hp.only ho;replace hs:=hp.st;refine Jn ?_;apply BI 6 10 (f:=f) (X:=X) hX hp;exact rfl;exact rfl;(apply AT AJ;exact rfl);kernel_rfl;kernel_rfl;kernel_rfl;kernel_rfl;(intro X Y;(repeat (first | exact A4 | refine A5 ?_ (by exact rfl))));(intro w' hs;first|exact AI hs.hold|exact AI hs.hold.tail|exact Ab rfl);intro f X w hp;have hs:=hp.st;refine cl (h:=by exact VL m.a (dist p m.b) hm.2.1 (dist_in hp' _) _) ?_;rintro v w' ⟨rfl,ho⟩;replace hp:=hp.only ho;replace hs:=hp.st;refine Jn ?_;refine tk 7 hX (hc:=by cases f <;> kernel_rfl) (k:=?_);refine tk 8 hX (hc:=by cases f <;> kernel_rfl) (k:=?_);refine tk 9 hX (hc:=by cases f <;> kernel_rfl) (k:=?_);apply Bb 10 (f:=f) (X:=X) hX hp;exact rfl;(apply AT AJ;exact rfl);kernel_rfl;kernel_rfl;(intro X Y;(repeat (first | exact A4 | refine A5 ?_ (by exact rfl))));(intro w' hs;first|exact AI hs.hold|exact AI hs.hold.tail|exact Ab rfl);intro b w hI hs;refine dt 11 hX ?_
   repeat' (first|refine Nx.h ?_|(refine AV hs ?_;intro w hs)|fail)
   refine dn ?_;refine tk 12 hX ?_;refine en ?_
   repeat' (first|refine Se ?_|(refine AV hs ?_;intro w hs)|(refine al hs ?_;intro b w hz hs)|((with_reducible apply BV);exact rfl;exact rfl;intro c hc;(fail_if_success have:true=c:=hc);(fail_if_success have:false=c:=hc);cases c)|fail)
   ·have h4:Ac (m.a - dist p m.b):=by simpa using hc
    have e1:tot (m.a - dist p m.b)=m.a - dist p m.b:=if_pos h4;have e2:IntKind.u64.wrap (m.w - IntKind.u64.wrap p.w)=m.w - p.w:=by simp only [wrap_u64];omega
    have e3:IntKind.i64.wrap (m.n - 1)=m.n - 1:=by simp only [wrap_i64];omega
    refine cl (h:=by exact FR ⟨m.b,tot (m.a - dist p m.b),IntKind.u64.wrap (m.w - IntKind.u64.wrap p.w),IntKind.i64.wrap (m.n - 1)⟩ _) ?_;rw [show (⟨m.b,tot (m.a - dist p m.b),IntKind.u64.wrap (m.w - IntKind.u64.wrap p.w),IntKind.i64.wrap (m.n - 1)⟩:Mn)=Fh m p by rw [e1,e2,e3];rfl]
    rintro v w' ⟨rfl,ho⟩;replace hs:=hs.AP ho;repeat' (first|refine Sa ?_|(refine AV hs ?_;intro w hs)|refine xc_cond rfl (fun hc=>?_) fun hc=>?_|fail)
    ·refine AG ?_;refine ⟨?_,hs.AE rfl⟩;have h7:(Fh m p).right=false:=by simpa using hc
     have:Fu m p=none:=by unfold Fu;rw [if_neg (fun h=>by rw [h7] at h;cases h.2.2.2.2.2)]
     rw [this];rfl
    ·refine AG ?_;refine ⟨?_,hs.AE rfl⟩;have h7:(Fh m p).right=true:=by simpa using hc
     have:Fu m p=some (Fh m p):=by unfold Fu;rw [if_pos ⟨h1,h2,h3,Mi,h4,h7⟩]
     rw [this,e1,e2,e3];rfl
   ·refine AG ?_;refine ⟨?_,hs.AE rfl⟩;have h4:¬ Ac (m.a - dist p m.b):=by simpa using hc
    have:Fu m p=none:=by unfold Fu;rw [if_neg (fun h=>h4 h.2.2.2.2.1)]
    rw [this];rfl
  ·refine AG ?_;refine ⟨?_,hs.AE rfl⟩;have:Fu m p=none:=by unfold Fu;rw [if_neg (fun h=>h.2.2.1 (by simpa using hc))]
   rw [this];rfl
  ·refine AG ?_;refine ⟨?_,hs.AE rfl⟩;have:Fu m p=none:=by unfold Fu;rw [if_neg (fun h=>absurd h.2.1 (by simpa using hc))]
   rw [this];rfl
 ·refine AG ?_;refine ⟨?_,hs.AE rfl⟩;have h2:m.right=false:=by simpa using hc
  have:Fu m p=none:=by unfold Fu;rw [if_neg (fun h=>by rw [h2] at h;cases h.1)]
  rw [this];rfl
def JE (m:Mn) (t:Int):Option Mn:=if m.right=true∧Ac (m.a - m.w*sn t m.b) then some ⟨t,m.a - m.w*sn t m.b,m.w,m.n⟩ else none
theorem u9 {m:Mn} {t:Int} {o:Mn} (hm:m.In) (ht:BY t) (h:JE m t=some o):o.In:=by
 unfold JE at h;split at h
 ·rename_i hc;cases h;exact ⟨ht,hc.2,hm.2.2⟩
 ·cases h
theorem cJ (m:Mn) (t:Int) (hm:m.In) (w0:World):AO prog 238 #[mv m,.int .u64 t] w0 fun v w'=>v=sX (JE m t)∧AB [] w0 w':=by
 have hs:=St.nil w0;refine AS func238 ntmps238 ?_
 repeat' (first|refine Sa ?_|(refine al hs ?_;intro b w hz hs)|(refine bx hs ?_;intro b w hz hs)|fail)
 refine AZ hs (h:=by exact FR m _) ?_;intro w' ho hs;repeat' (first|refine Sa ?_|(refine AV hs ?_;intro w hs)|refine xc_cond rfl (fun hc=>?_) fun hc=>?_|fail)
 ·refine AG ?_;refine ⟨?_,hs.AE rfl⟩;have h2:m.right=false:=by simpa using hc
  have:JE m t=none:=by unfold JE;rw [if_neg (fun h=>by rw [h2] at h;cases h.1)]
  rw [this];rfl
 ·have h1:m.right=true:=by simpa using hc
  have h5:=Cm.1 h1;have h6:=sn_rng t m.b;have h7:=mul_rng (w:=m.w) (s:=sn t m.b) (W:=33554432) (S:=9223372036854775808) hm.2.2.1.1 om om om;have hU:=hm.2.2.1;refine dr [] hs ?_;intro hX w hs;refine tks 0 2 ?_;refine tks 3 3 ?_;refine Gq 11 6 hs ?_;intro f X w hp;have hs:=hp.st;apply BI 2 11 (f:=f) (X:=X) hX hp;exact rfl;exact rfl;(apply AT AJ;exact rfl);kernel_rfl;kernel_rfl;kernel_rfl;kernel_rfl;(intro X Y;(repeat (first | exact A4 | refine A5 ?_ (by exact rfl))));(intro w' hs;first|exact AI hs.hold|exact AI hs.hold.tail|exact Ab rfl);intro f X w hp;have hs:=hp.st;refine cl (h:=by exact Pn m.w hU.1 hU.2 _) ?_;rintro v w' ⟨rfl,ho⟩;replace hp:=hp.only ho;replace hs:=hp.st;refine Jn ?_;apply BI 6 11 (f:=f) (X:=X) hX hp;exact rfl;exact rfl;(apply AT AJ;exact rfl);kernel_rfl;kernel_rfl;kernel_rfl;kernel_rfl;(intro X Y;(repeat (first | exact A4 | refine A5 ?_ (by exact rfl))));(intro w' hs;first|exact AI hs.hold|exact AI hs.hold.tail|exact Ab rfl);intro f X w hp;have hs:=hp.st;refine cl (h:=by exact Ic t m.b _) ?_;rintro v w' ⟨rfl,ho⟩;replace hp:=hp.only ho;replace hs:=hp.st;refine Jn ?_;apply BI 7 11 (f:=f) (X:=X) hX hp;exact rfl;exact rfl;(apply AT AJ;exact rfl);kernel_rfl;kernel_rfl;kernel_rfl;kernel_rfl;(intro X Y;(repeat (first | exact A4 | refine A5 ?_ (by exact rfl))));(intro w' hs;first|exact AI hs.hold|exact AI hs.hold.tail|exact Ab rfl);intro f X w hp;have hs:=hp.st;refine cl (h:=by exact Wt m.w (sn t m.b) (by unfold Ac;omega) om om (by unfold Ac;omega) _) (k:=?_);rintro v w' ⟨rfl,ho⟩;replace hp:=hp.only ho;replace hs:=hp.st;refine Jn ?_;refine tk 8 hX (hc:=by cases f <;> kernel_rfl) (k:=?_);refine tk 9 hX (hc:=by cases f <;> kernel_rfl) (k:=?_);refine tk 10 hX (hc:=by cases f <;> kernel_rfl) (k:=?_);apply Bb 11 (f:=f) (X:=X) hX hp;exact rfl;(apply AT AJ;exact rfl);kernel_rfl;kernel_rfl;(intro X Y;(repeat (first | exact A4 | refine A5 ?_ (by exact rfl))));(intro w' hs;first|exact AI hs.hold|exact AI hs.hold.tail|exact Ab rfl);intro b w hI hs;refine dt 12 hX ?_
  repeat' (first|refine Nx.h ?_|(refine AV hs ?_;intro w hs)|fail)
  refine dn ?_;refine tk 13 hX ?_;refine en ?_;refine Ja ?_;refine AZ hs (h:=by exact VL m.a (m.w*sn t m.b) hm.2.1 (by unfold Ac;omega) _) (k:=?_);intro w' ho hs;repeat' (first|refine Sa ?_|(refine AV hs ?_;intro w hs)|(refine al hs ?_;intro b w hz hs)|refine xc_cond rfl (fun hc=>?_) fun hc=>?_|fail)
  ·refine AG ?_;refine ⟨?_,hs.AE rfl⟩;have h4:¬ Ac (m.a - m.w*sn t m.b):=by simpa using hc
   have:JE m t=none:=by unfold JE;rw [if_neg (fun h=>h4 h.2)]
   rw [this];rfl
  ·refine AG ?_;refine ⟨?_,hs.AE rfl⟩;have h4:Ac (m.a - m.w*sn t m.b):=by simpa using hc
   have:JE m t=some ⟨t,m.a - m.w*sn t m.b,m.w,m.n⟩:=by unfold JE;rw [if_pos ⟨h1,h4⟩]
   have e1:tot (m.a - m.w*sn t m.b)=m.a - m.w*sn t m.b:=if_pos h4;rw [this,e1];rfl
def I9 (m:Mn):Option Int:=if m.right=true∧m.n≠0∧In64 (m.a / m.w) then some (lat m.b (m.a / m.w)) else none
def tmV (o:Option Int):Value := .tuple #[.int .u64 (o.getD 0),.bool o.isSome]
theorem O7 (m:Mn) (hm:m.In) (w0:World):AO prog 45 #[mv m] w0 fun v w'=>v=tmV (I9 m)∧AB [] w0 w':=by
 have hs:=St.nil w0;refine AS func45 ntmps45 ?_
 repeat' (first|refine Sa ?_|(refine bx hs ?_;intro b w hz hs)|fail)
 refine AZ hs (h:=by exact FR m _) ?_;intro w' ho hs;repeat' (first|refine Se ?_|((with_reducible apply BV);exact rfl;exact rfl;intro c hc;(fail_if_success have:true=c:=hc);(fail_if_success have:false=c:=hc);cases c)|refine Aw rfl (fun hc=>?_) fun hc=>?_|fail)
 ·refine AG ?_;refine ⟨?_,hs.AE rfl⟩;have:I9 m=none:=by unfold I9;rw [if_neg (fun h=>h.2.1 ‹_›)]
  rw [this];rfl
 ·have h1:m.right=true:=by simpa using ‹(!m.right)=false›
  have h5:=Cm.1 h1;have hU:=hm.2.2.1;refine AZ hs (h:=by exact OH m.a m.w hm.2.1 om hU.2 _) ?_;intro w' ho hs;repeat' (first|refine Sa ?_|(refine AV hs ?_;intro w hs)|(refine al hs ?_;intro b w hz hs)|fail)
  refine AZ hs (h:=by exact vM (m.a / m.w) (div_in hm.2.1 om) _) ?_;intro w' ho hs;repeat' (first|refine Sa ?_|refine xc_cond rfl (fun hc=>?_) fun hc=>?_|fail)
  ·refine AG ?_;refine ⟨?_,hs.AE rfl⟩;have h4:¬ In64 (m.a / m.w):=by simpa using hc
   have:I9 m=none:=by unfold I9;rw [if_neg (fun h=>h4 h.2.2)]
   rw [this];rfl
  ·have h4:In64 (m.a / m.w):=by simpa using hc
   refine AZ hs (h:=by exact Vb m.b (sml (m.a / m.w)) _) ?_;intro w' ho hs;refine Jc ?_;refine AG ?_;refine ⟨?_,hs.AE rfl⟩;have:I9 m=some (lat m.b (m.a / m.w)):=by unfold I9;rw [if_pos ⟨h1,‹_›,h4⟩]
   have e1:sml (m.a / m.w)=m.a / m.w:=if_pos h4;rw [this,e1];rfl
 ·refine AG ?_;refine ⟨?_,hs.AE rfl⟩;have h2:m.right=false:=by simpa using hc
  have:I9 m=none:=by unfold I9;rw [if_neg (fun h=>by rw [h2] at h;cases h.1)]
  rw [this];rfl
theorem Ot:Ac 0:=by decide
theorem oG:BY 0:=by decide
theorem S6:In64 0:=by decide
def Ll:Mn→List Pt→Option Mn
 | m,[]=>some m
 | m,p :: ps=>(ER m p).bind fun m=>Ll m ps
def ofM (base:Int) (ps:List Pt):Option Mn:=Ll ⟨base,0,0,0⟩ ps
theorem W5:∀ (l:List Pt) (m:Mn) (p:Pt),Ll m (l ++ [p])=(Ll m l).bind fun m=>ER m p
 | [],m,p=>by
   simp only [aDV,Ll,Option.bind_some];cases ER m p <;> rfl
 | q :: l,m,p=>by
   simp only [aDR,Ll];cases ER m q with
   | none=>rfl
   | some m'=>exact W5 l m' p
theorem X9:∀ (l r:List Pt) (m:Mn),Ll m l=none→Ll m (l ++ r)=none
 | [],r,m,h=>by simp [Ll] at h
 | q :: l,r,m,h=>by
   simp only [aDR,Ll] at h ⊢;cases h1:ER m q with
   | none=>rfl
   | some m'=>rw [h1] at h;exact X9 l r m' h
theorem II (base:Int) (ps:List Pt) (sl:Value) (hbase:BY base) (hps:∀ p∈ps,p.In) (hlen:ps.length≤9223372036854775807) (w0:World) (hP:Xm w0 sl ps) :
 AO prog 218 #[.int .u64 base,sl] w0 fun v w'=>v=sX (ofM base ps)∧AB [] w0 w':=by
 obtain ⟨ad,cap,rfl,hD⟩:=hP;rw [aC0] at *;have hs:=St.nil w0;refine AS func218 ntmps218 ?_;refine Ah ?_;refine Aq ?_;refine al hs ?_;intro b4 w hz hs;refine Jc ?_;refine Aq ?_;refine vs ?_;refine vs ?_;refine al hs ?_;intro b6 w hz hs
 repeat' (first|refine Sa ?_|(refine AV hs ?_;intro w hs)|fail)
 refine BM (fun (_:Mn)=>[(4,.pointer (some ⟨b4,0,none⟩)),(6,.pointer (some ⟨b6,0,none⟩))]) (fun m w=>ofM base ps=some m∧St w0 D0 [(b6,.cells m.cells.toArray 108,true),(b4,.cells Mn.zero.cells.toArray 108,true)] w) ?_ ?_
 ·refine BH (fun (s:Nat × Mn)=>[(4,.pointer (some ⟨b4,0,none⟩)),(6,.pointer (some ⟨b6,0,none⟩)),(13,.slice ad ps.length cap),(14,.int .i64 (ps.length:Nat)),(15,.int .i64 (s.1:Nat))])
   (fun s w=>s.1≤ps.length∧ofM base (ps.take s.1)=some s.2∧s.2.In∧St w0 D0 [(b6,.cells s.2.cells.toArray 108,true),(b4,.cells Mn.zero.cells.toArray 108,true)] w)
   (fun s=>ps.length - s.1) (0,⟨base,0,0,0⟩) Ad ⟨aC7 _,rfl,⟨hbase,Ot,oG,S6⟩,hs⟩ fun s env w ⟨hi,ho,hin,hs⟩=>?_
  obtain ⟨i,m⟩:=s;simp only at hi ho hin
  repeat' (first|refine Sa ?_|refine Aw rfl (fun hc=>?_) fun hc=>?_|fail)
  ·have hlt:i < ps.length:=by omega
   obtain ⟨b,off,cs,fz,rfl,_,hb,hcs⟩:=hD (fun h=>by have:=congrArg List.length h;rw [aC0,aDA] at this;omega);have hpk:=hcs i (Pt.cells ps[i]) (by rw [aC8,aC3 hlt];rfl);have Nl:=hps ps[i] (aDS hlt);have ei:=DP hlt hlen;have Kh:ofM base (ps.take (i+1))=ER m ps[i]:=by rw [CH hlt];unfold ofM at ho ⊢;rw [W5,ho];rfl
   have hno:ER m ps[i]=none→ofM base ps=none:=fun h=>by
    have:=X9 (ps.take (i+1)) (ps.drop (i+1)) ⟨base,0,0,0⟩ (by rw [show Ll ⟨base,0,0,0⟩ (ps.take (i+1))=ofM base (ps.take (i+1)) from rfl,Kh,h]);rwa [List.take_append_drop] at this
   generalize ps[i]=p at *;refine ix (h0:=(by omega)) (h1:=(by omega)) ?_;refine Ia ((hs.AE rfl).block hb AA) hpk ?_;refine al hs ?_;intro b8 w hz hs
   repeat' (first|refine Sa ?_|(refine AV hs ?_;intro w hs)|fail)
   refine cl (h:=by exact XQ m p hin Nl _) ?_;cases ha:ER m p with
   | none =>
     rintro v w' ⟨rfl,ho⟩;replace hs:=hs.AP ho;repeat' (first|refine Sc ?_|(refine AV hs ?_;intro w hs)|(refine al hs ?_;intro b w hz hs)|fail)
     refine AG ?_;refine ⟨?_,hs.AE rfl⟩;rw [hno ha];rfl
   | some m' =>
     rintro v w' ⟨rfl,ho⟩;replace hs:=hs.AP ho;repeat' (first|refine Sd ?_|(refine AV hs ?_;intro w hs)|(refine al hs ?_;intro b w hz hs)|fail)
     rw [ha] at Kh;exact A2 (i+1,m') (by show ps.length - (i+1) < ps.length - i;omega) (by (repeat (first | exact Ag | (apply A8;first | exact rfl | exact congrArg (Value.int .i64) ei)))) ⟨by show i+1≤ps.length;omega,Kh,TN hin ha,hs.Bx.Bx⟩
  ·have Mi:¬ ((i:Int) < ps.length):=hc;have e:i=ps.length:=by omega
   rw [e,aDK] at ho;exact Au m Ad ⟨ho,hs⟩
 ·rintro m env w ⟨ho,hs⟩
  repeat' (first|refine Sa ?_|(refine AV hs ?_;intro w hs)|fail)
  refine AG ?_;refine ⟨?_,hs.AE rfl⟩;rw [ho];rfl
end Go.Proofs.Q0
namespace Go.Proofs.Q0
def C4 (b:Int):List It→Int
 | []=>0
 | a :: l=>dist a.p b+C4 b l
def CI:List It→Int
 | []=>0
 | a :: l=>a.p.w+CI l
theorem l8 {b:Int} {l l':List It} (h:l.Perm l'):C4 b l=C4 b l':=by
 induction h with
 | nil=>rfl
 | cons _ _ ih=>simp only [C4,ih]
 | swap _ _ _=>simp only [C4];omega
 | trans _ _ h1 h2=>rw [h1,h2]
theorem kE {l l':List It} (h:l.Perm l'):CI l=CI l':=by
 induction h with
 | nil=>rfl
 | cons _ _ ih=>simp only [CI,ih]
 | swap _ _ _=>simp only [CI];omega
 | trans _ _ h1 h2=>rw [h1,h2]
theorem sum_rng {b lo hi:Int}:∀ {l:List It},(∀ x∈l,x.In∧x.right=true∧lo≤sn x.p.t b∧sn x.p.t b≤hi)→CI l*lo≤C4 b l∧C4 b l+l.length≤CI l*(hi+1)∧(l.length:Int)≤CI l∧CI l≤l.length*1048576
 | [],_=>by simp [C4,CI]
 | a :: l,h=>by
   obtain ⟨h1,h2,h3,h4⟩:=sum_rng fun x hx=>h x (aCy _ hx);obtain ⟨k1,k2,k3,k4⟩:=h a aCw;obtain ⟨_,_,_,_,_,_,⟨w1,w2,w3,w4⟩,_⟩:=iright_all k1 k2;have m1:a.p.w*lo≤a.p.w*sn a.p.t b:=aDn k3 om;have m2:a.p.w*sn a.p.t b≤a.p.w*hi:=aDn k4 om;simp only [C4,CI,dist,aCx,Int.add_mul,Int.mul_add,Int.mul_one] at *;omega
theorem Kf.zH {b lo:Int} {x:It} (h:Kf b lo x) (hm:Ib lo):x.In∧x.right=true∧lo≤sn x.p.t b∧sn x.p.t b≤lo+4611686018427387904:=⟨h.isin,h.right,h.low,(h.dead hm).2.2⟩
structure Kg (m:Mn) (l:List It):Prop where
 a:m.a=C4 m.b l
 w:m.w=CI l
 n:m.n=l.length
theorem Kg.perm {m:Mn} {l l':List It} (h:Kg m l) (p:l.Perm l'):Kg m l':=⟨h.a.trans (l8 p),h.w.trans (kE p),by rw [h.n,p.length_eq]⟩
def Cg (b lo:Int) (l:List It):Prop:=Ib lo∧l.length≤32∧∀ x∈l,Kf b lo x
theorem Cg.sum {b lo:Int} {l:List It} (h:Cg b lo l):CI l*lo≤C4 b l∧C4 b l+l.length≤CI l*(lo+4611686018427387904+1)∧(l.length:Int)≤CI l∧CI l≤l.length*1048576:=sum_rng fun x hx=>(h.2.2 x hx).zH h.1
theorem Cg.inW {b lo:Int} {l:List It} (h:Cg b lo l):Ac (C4 b l):=by
 obtain ⟨h1,h2,h3,h4⟩:=h.sum;obtain ⟨⟨m1,m2⟩,hl,_⟩:=h;have k1:CI l*(-4611686018427387904)≤CI l*lo:=aDn m1 om;have k2:CI l*(lo+4611686018427387904+1)≤CI l*4611686018427387905:=aDn om om;unfold Ac;omega
theorem Cg.right {m:Mn} {lo:Int} {l:List It} (h:Cg m.b lo l) (k:Kg m l):m.right=true:=by
 obtain ⟨h1,h2,h3,h4⟩:=h.sum;have hl:=h.2.1;rw [Cm];have e1:=k.a;have e2:=k.w;have e3:=k.n;cases l with
 | nil=>left;simp only [C4,CI,aDA] at *;omega
 | cons x l=>right;simp only [aCx] at *;omega
theorem Cg.perm {b lo:Int} {l l':List It} (h:Cg b lo l) (p:l.Perm l'):Cg b lo l':=⟨h.1,by rw [← p.length_eq];exact h.2.1,fun x hx=>h.2.2 x (p.mem_iff.2 hx)⟩
theorem Cg.tail {b lo:Int} {a:It} {l:List It} (h:Cg b lo (a :: l)):Cg b lo l:=⟨h.1,by have:=h.2.1;simp only [aCx] at this;omega,fun x hx=>h.2.2 x (aCy _ hx)⟩
theorem Cg.head {b lo:Int} {a:It} {l:List It} (h:Cg b lo (a :: l)):Kf b lo a:=h.2.2 a aCw
theorem kA {m:Mn} {lo:Int} {a:It} {l:List It} (h:Cg m.b lo (a :: l)) (k:Kg m l):∃ m',ER m a.p=some m'∧m'.b=m.b∧Kg m' (a :: l):=by
 have hr:=h.tail.right k;have hp:=(iright_all h.head.isin h.head.right).1;have hw:=h.inW;have hl:=h.2.1;have e1:=k.a;have e2:=k.w;have e3:=k.n;simp only [aCx] at hl;simp only [C4] at hw;refine ⟨_,if_pos ⟨hr,hp,by omega,by rw [e1,Int.add_comm];exact hw⟩,rfl,?_⟩;constructor
 ·simp only [C4];omega
 ·simp only [CI];omega
 ·simp only [aCx];omega
theorem uC {m:Mn} {lo:Int} {a:It} {l:List It} (h:Cg m.b lo (a :: l)) (k:Kg m (a :: l)):Fu m a.p=some (Fh m a.p)∧Kg (Fh m a.p) l:=by
 have hr:=h.right k;have hp:=(iright_all h.head.isin h.head.right).1;have hw:=h.tail.inW;have e1:=k.a;have e2:=k.w;have e3:=k.n;have hs:=h.tail.sum.2.2.1;simp only [C4,CI,aCx] at e1 e2 e3;have i:Kg (Fh m a.p) l:=⟨by simp only [Fh];omega,by simp only [Fh];omega,by simp only [Fh];omega⟩;refine ⟨if_pos ⟨hr,hp,by omega,by omega,?_,(show Cg (Fh m a.p).b lo l from h.tail).right i⟩,i⟩;rw [show m.a - dist a.p m.b=C4 m.b l by omega];exact hw
theorem Cg.mid {b lo:Int} {l:List It} (h:Cg b lo l) (hl:l≠[]):0 < CI l∧lo≤C4 b l / CI l∧C4 b l / CI l≤lo+4611686018427387904:=by
 obtain ⟨h1,h2,h3,h4⟩:=h.sum;have hp:0 < l.length:=List.length_pos_iff.2 hl;refine ⟨by omega,Int.le_ediv_of_mul_le om (by rw [aDU];exact h1),?_⟩;have:=Int.ediv_lt_of_lt_mul (a:=C4 b l) (b:=lo+4611686018427387904+1) (c:=CI l) om (by rw [aDU];omega);omega
theorem Qv {m:Mn} {lo:Int} {l:List It} (h:Cg m.b lo l) (k:Kg m l) (hl:l≠[]):I9 m=some (lat m.b (C4 m.b l / CI l)):=by
 obtain ⟨h1,h2,h3⟩:=h.mid hl;have hm:=h.1;unfold Ib at hm;have hn:m.n≠0:=by rw [k.n];have:=List.length_pos_iff.2 hl;omega
 unfold I9;rw [← k.a,← k.w] at *;exact if_pos ⟨h.right k,hn,by unfold In64;omega⟩
theorem PD {b c k:Int}:∀ {l:List It},(∀ x∈l,sn x.p.t c=sn x.p.t b - k)→C4 c l=C4 b l - CI l*k
 | [],_=>by simp [C4,CI]
 | a :: l,h=>by
   simp only [C4,CI];rw [PD fun x hx=>h x (aCy _ hx),jW (h a aCw),Int.add_mul];omega
structure LK (m:Mn) (l:List It):Prop where
 is:Kg m l
 u:BY m.b
 a0:0≤m.a
 a1:m.a < m.w
 all:∃ lo,Cg m.b lo l
theorem Cg.move {b lo c:Int} {l:List It} (h:Cg b lo l) (h0:lo≤sn c b) (h1:sn c b≤lo+4611686018427387904):Cg c (lo - sn c b) l∧∀ x∈l,sn x.p.t c=sn x.p.t b - sn c b:=by
 have hm:=h.1;unfold Ib at hm;exact ⟨⟨by unfold Ib;omega,h.2.1,fun x hx=>((h.2.2 x hx).move h.1 h0 h1).1⟩,fun x hx=>((h.2.2 x hx).move h.1 h0 h1).2⟩
theorem Oa {m:Mn} {lo:Int} {l:List It} (h:Cg m.b lo l) (k:Kg m l) (hl:l≠[]):∃ m',JE m ((I9 m).getD 0)=some m'∧LK m' l:=by
 obtain ⟨h1,h2,h3⟩:=h.mid hl;have hm:=h.1;have hf:=Qv h k hl;rw [hf,Option.getD_some];unfold Ib at hm;have e:sn (lat m.b (C4 m.b l / CI l)) m.b=C4 m.b l / CI l:=aAV (by unfold In64;omega);have hM:=h.move (c:=lat m.b (C4 m.b l / CI l)) (by rw [e];exact h2) (by rw [e];exact h3);rw [e] at hM;have hs:=PD hM.2;have ea:=k.a;have ew:=k.w;have em:m.a - m.w*(C4 m.b l / CI l)=C4 m.b l % CI l:=by rw [ea,ew];have:=aDr (C4 m.b l) (CI l);omega
 have n0:=aDe (C4 m.b l) (show CI l≠0 by omega);have n1:=aDi (C4 m.b l) h1
 have hi:Ac (C4 m.b l % CI l):=by
  have:=h.sum.2.2.2;have:=h.2.1;unfold Ac;omega
 refine ⟨_,if_pos ⟨h.right k,by rw [e,em];exact hi⟩,⟨⟨?_,ew,k.n⟩,Vs _ _,?_,?_,_,hM.1⟩⟩
 ·show m.a - m.w*sn _ m.b=C4 _ l;rw [e,hs,ea,ew]
 ·show 0≤m.a - m.w*sn _ m.b;rw [e,em];exact n0
 ·show m.a - m.w*sn _ m.b < m.w;rw [e,em,ew];exact n1
theorem LK.now {m:Mn} {l:List It} (h:LK m l) (hl:l≠[]):I9 m=some m.b:=by
 obtain ⟨lo,k⟩:=h.all;rw [Qv k h.is hl,← h.is.a,← h.is.w,aD9 h.a0 h.a1,oU h.u]
def JN:List It→Mn
 | [] => .zero
 | x :: l=>⟨lat x.p.t (C4 x.p.t (x :: l) / CI (x :: l)),C4 x.p.t (x :: l) % CI (x :: l),CI (x :: l),(x :: l).length⟩
theorem LK.perm {m:Mn} {l l':List It} (h:LK m l) (p:l.Perm l'):LK m l':=by
 obtain ⟨lo,k⟩:=h.all;exact ⟨h.is.perm p,h.u,h.a0,h.a1,lo,k.perm p⟩
theorem LK.eq {m:Mn}:∀ {l:List It},LK m l→l≠[]→m=JN l
 | [],_,h=>absurd rfl h
 | x :: l,h,_=>by
   obtain ⟨lo,k⟩:=h.all;have d:=k.head.dead k.1;have hM:=k.move (c:=x.p.t) k.head.low d.2.2;have hs:=PD hM.2;have e:=aAP (b:=m.b) k.head.isin.1.1;show m=⟨lat x.p.t (C4 x.p.t (x :: l) / CI (x :: l)),C4 x.p.t (x :: l) % CI (x :: l),CI (x :: l),(x :: l).length⟩;rw [hs,← h.is.a,← h.is.w,← h.is.n];have hw:0 < m.w:=by have:=h.a0;have:=h.a1;omega
   have q:(m.a - m.w*sn x.p.t m.b) / m.w=- sn x.p.t m.b:=by
    rw [Int.sub_eq_add_neg,← Int.mul_neg,Int.add_mul_ediv_left _ _ om,aD9 h.a0 h.a1];omega
   have r:(m.a - m.w*sn x.p.t m.b) % m.w=m.a:=by
    rw [Int.sub_eq_add_neg,← Int.mul_neg,Int.add_mul_emod_self_left,Int.emod_eq_of_lt h.a0 h.a1]
   rw [q,r]
   have:lat x.p.t (- sn x.p.t m.b)=m.b:=by
    have hu:=h.u;have:=e;unfold BY at hu;unfold lat at *;omega
   rw [this]
namespace RB
variable {α : Type}
def isNil:RB α→Bool
 | nil=>true
 | node _ _ _ _=>false
def both:RB α→Bool
 | node (node _ _ _ _) _ (node _ _ _ _) _=>true
 | _=>false
def CM:RB α→RB α→RB α
 | nil,_=>nil
 | node l x _ c,r=>node l x r c
def El (t:RB α):RB α:=bif (flip t).right.left.red then flip (G7 (CM (flip t) (DD (flip t).right))) else flip t
def Ex (t:RB α):RB α:=bif (flip t).left.left.red then flip (DD (flip t)) else flip t
def EU (t:RB α):Option (RB α):=bif !t.left.red && !t.left.left.red then (bif both t then some (El t) else none) else some t
def IN (t:RB α):Option (RB α):=bif !t.right.red && !t.right.left.red then (bif both t then some (Ex t) else none) else some t
def least:RB α→Option α
 | nil=>none
 | node nil x _ _=>some x
 | node (node a y b c) _ _ _=>least (node a y b c)
def FO:Nat→RB α→Option (RB α)
 | 0,_=>none
 | k+1,t=>bif t.isNil then none else bif t.left.isNil then some nil else
   match EU t with
   | some (node l x r c)=>(FO k l).map fun l'=>mend (node l' x r c)
   | _=>none
def cut (lt:α→α→Bool) (x:α):Nat→RB α→Option (RB α)
 | 0,_=>none
 | _+1,nil=>none
 | k+1,node l y r c=>bif lt x y then
  (bif l.isNil then none else
   match EU (node l y r c) with
   | some (node l1 y1 r1 c1)=>(cut lt x k l1).map fun l'=>mend (node l' y1 r1 c1)
   | _=>none)
   else bif (bif l.red then DD (node l y r c) else node l y r c).right.isNil then some nil else
    match IN (bif l.red then DD (node l y r c) else node l y r c) with
    | some (node l2 y2 r2 c2)=>bif lt y2 x then (cut lt x k r2).map fun r'=>mend (node l2 y2 r' c2)
     else match least r2 with
      | some m=>(FO k r2).map fun r'=>mend (node l2 m r' c2)
      | none=>none
    | _=>none
theorem gE:∀ (t r:RB α),t.right.list=r.list→(CM t r).list=t.list
 | nil,r,h=>rfl
 | node l x r' c,r,h=>by simp only [CM,list];rw [← h];rfl
theorem Vz (t:RB α):(El t).list=t.list:=by
 unfold El;cases (flip t).right.left.red
 ·rw [cond_false,HD]
 ·rw [cond_true,HD,KB,gE _ _ (HJ _).symm,HD]
theorem Ux (t:RB α):(Ex t).list=t.list:=by
 unfold Ex;cases (flip t).left.left.red
 ·rw [cond_false,HD]
 ·rw [cond_true,HD,HJ,HD]
theorem SI:∀ t:RB α,least t=t.list.head?
 | nil=>rfl
 | node nil x _ _=>rfl
 | node (node a y b c) x r d=>by
   have:=SI (node a y b c);simp only [least,list] at *;rw [this];cases h:a.list with
   | nil=>simp
   | cons u v=>simp
theorem bR {t:RB α} (h:t.isNil=false):∃ m,least t=some m∧t.list=m :: t.list.tail:=by
 rw [SI];cases hl:t.list with
 | nil=>cases t with
   | nil=>cases h
   | node l x r c=>simp [list] at hl
 | cons m l=>exact ⟨m,rfl,rfl⟩
theorem Jv {l r:RB α} {x:α} {c:Bool} (h1:l.red=false) (h2:r.red=false):mend (node l x r c)=node l x r c:=by
 simp [mend,Db,EK,EH,Av,BE,BS,h1,h2]
theorem Vg {l r:RB α} {x:α} {c:Bool} {h:Nat} (hl:Ok l h) (h2:r.red=false):mend (node l x r c)=node l x r c:=by
 have hlr:(l.red && l.left.red)=false:=by
  cases hc:l.red
  ·rfl
  ·rw [Jy hl hc];rfl
 simp [mend,Db,EK,EH,Av,BE,BS,h2,hlr]
theorem QF {l r:RB α} {y:α} {h:Nat} (hr:Ok r h) (hl:l.red=false):(mend (node l y r false)).red=false:=by
 cases hc:r.red
 ·rw [Jv hl hc];rfl
 ·obtain ⟨rl,z,rr,rfl⟩:=Bt hc;obtain ⟨p1,p2,p3,p4⟩:=hr.Ek
  have:mend (node l y (node rl z rr true) false)=node (node l y rl true) z rr false:=by
   simp [mend,Db,EK,EH,Av,BE,BS,G7,hl,p4]
  rw [this];rfl
theorem Iw {t:RB α} (k:Ok t 0) (h:t.red=false):t=nil:=by
 cases k with
 | nil=>rfl
 | red a b c d=>cases h
theorem HZ {t:RB α} {h:Nat} (k:Ok t (h+1)) (hr:t.red=false):∃ l x r,t=node l x r false∧Ok l h∧Ok r h∧r.red=false:=by
 cases k with
 | black a b c=>exact ⟨_,_,_,rfl,a,b,c⟩
 | red a b c d=>cases hr
theorem LG (A B C:List α) (y:α):((A ++ y :: B) ++ C).tail=(A ++ y :: B).tail ++ C:=by cases A <;> simp
theorem tF {t:RB α} (h:t.isNil=false):t.list≠[]:=by
 cases t with
 | nil=>cases h
 | node l x r c=>simp [list]
structure Cut (t t':RB α) (h:Nat) (L:List α):Prop where
 ok:Ok t' h
 black:t.red=false→t'.red=false
 list:t'.list=L
theorem K0:∀ (k:Nat) (t:RB α) (h:Nat),Ok t h→t.isNil=false→(t.red=true∨t.left.red=true)→t.list.length≤k→∃ t',FO k t=some t'∧Cut t t' h t.list.tail
 | 0,t,h,hk,hn,_,hl=>by
   have:=tF hn;cases ht:t.list with
   | nil=>exact absurd ht this
   | cons a b=>rw [ht] at hl;simp at hl
 | k+1,nil,h,hk,hn,_,hl=>by cases hn
 | k+1,node l x r true,h,hk,hn,_,hl=>by
   obtain ⟨a,b,c,d⟩:=hk.Ek;simp only [list,aCv,aCx] at hl;cases h with
   | zero =>
     obtain rfl:=Iw a c;obtain rfl:=Iw b d;exact ⟨nil,rfl,.nil,(fun h=>by cases h),rfl⟩
   | succ h =>
     obtain ⟨ll,y,lr,rfl,a1,a2,a3⟩:=HZ a c;obtain ⟨rl,z,rr,rfl,b1,b2,b3⟩:=HZ b d;simp only [list,aCv,aCx] at hl;cases hc:ll.red
     ·cases hd:rl.red
      ·obtain ⟨t',e,q⟩:=K0 k (node ll y lr true) h (.red a1 a2 hc a3) rfl (.inl rfl) (by simp only [list,aCv,aCx];omega);refine ⟨mend (node t' x (node rl z rr true) false),?_,Gh q.ok (.red b1 b2 hd b3),(fun h=>by cases h),?_⟩
       ·simp [FO,isNil,EU,both,El,flip,Av,BE,BS,hc,hd,e]
       ·rw [DK];simp only [list,q.list];rw [LG]
      ·obtain ⟨rll,u,rlr,rfl⟩:=Bt hd;obtain ⟨e1,e2,e3,e4⟩:=b1.Ek;obtain ⟨t',e,q⟩:=K0 k (node (node ll y lr true) x rll false) (h+1) (.black (.red a1 a2 hc a3) e1 e3) rfl (.inr rfl) (by simp only [list,aCv,aCx] at *;omega);have q2:=q.black rfl;refine ⟨node t' u (node rlr z rr false) true,?_,.red q.ok (.black e2 b2 b3) q2 rfl,(fun h=>by cases h),?_⟩
       ·have:=Jv (l:=t') (r:=node rlr z rr false) (x:=u) (c:=true) q2 rfl;simp [FO,isNil,EU,both,El,flip,G7,DD,CM,Av,BE,BS,hc,e,this]
       ·simp only [list,q.list];rw [LG,LG];simp
     ·obtain ⟨t',e,q⟩:=K0 k (node ll y lr false) (h+1) (.black a1 a2 a3) rfl (.inr hc) (by simp only [list,aCv,aCx];omega);have q2:=q.black rfl;refine ⟨node t' x (node rl z rr false) true,?_,.red q.ok (.black b1 b2 b3) q2 rfl,(fun h=>by cases h),?_⟩
      ·have:=Jv (l:=t') (r:=node rl z rr false) (x:=x) (c:=true) q2 rfl;simp [FO,isNil,EU,Av,BE,BS,hc,e,this]
      ·simp only [list,q.list];rw [LG]
 | k+1,node l x r false,h,hk,hn,hc,hl=>by
   obtain ⟨h,rfl,a,b,c⟩:=hk.MO;have hlr:l.red=true:=by rcases hc with hc | hc;cases hc;exact hc
   simp only [list,aCv,aCx] at hl;obtain ⟨ll,y,lr,rfl⟩:=Bt hlr;obtain ⟨t',e,q⟩:=K0 k (node ll y lr true) h a rfl (.inl rfl) om;have e2:=Vg (x:=x) (c:=false) q.ok c;refine ⟨node t' x r false,?_,.black q.ok b c,fun _=>rfl,?_⟩
   ·simp [FO,isNil,EU,Av,BE,BS,e,e2]
   ·simp only [list,q.list];rw [LG]
end RB
end Go.Proofs.Q0
namespace Go.Proofs.Q0
namespace RB
variable {α : Type} [DecidableEq α]
def sans (x:α) (l:List α):List α:=l.filter fun z=>!decide (z=x)
theorem MX (x:α) (A B:List α):sans x (A ++ B)=sans x A ++ sans x B:=List.filter_append ..
theorem KL {x:α} {l:List α} (h:∀ z∈l,z≠x):sans x l=l:=List.filter_eq_self.2 fun z hz=>by simp [h z hz]
theorem Um {x y:α} (h:y≠x) (l:List α):sans x (y :: l)=y :: sans x l:=by simp [sans,h]
theorem UU (x:α) (l:List α):sans x (x :: l)=sans x l:=by simp [sans]
structure In (lt:α→α→Bool) (S:α→Prop) (x:α) (l:List α):Prop where
 srt:Ki lt l
 s:∀ z∈l,S z
 mem:x∈l
variable {lt : α → α → Bool} {S : α → Prop} {x : α}
theorem aAt (ho:Cw lt S) {a b:α} (ha:S a) (h:lt a b=true):a≠b:=fun e=>by
 subst e;rw [ho.irr a ha] at h;cases h
theorem In.left (ho:Cw lt S) {L R:List α} {y:α} (h:In lt S x (L ++ y :: R)) (hxy:lt x y=true):In lt S x L∧sans x (L ++ y :: R)=sans x L ++ y :: R:=by
 obtain ⟨h1,h2,h3,h4,h5⟩:=I1 h.srt;have hx:=h.s x h.mem;have hy:=h.s y AA
 have hR:∀ z∈y :: R,z≠x:=fun z hz e=>by
  subst e;rcases aCu.1 hz with rfl | hz
  ·rw [ho.irr _ hx] at hxy;cases hxy
  ·have:=asym ho hy hx (h4 z hz);rw [hxy] at this;cases this
 have hm:x∈L:=by
  rcases aC4.1 h.mem with hm | hm
  ·exact hm
  ·exact absurd rfl (hR x hm)
 exact ⟨⟨h1,fun z hz=>h.s z (aDC _ hz),hm⟩,by rw [MX,KL hR]⟩
theorem In.right (ho:Cw lt S) {L R:List α} {y:α} (h:In lt S x (L ++ y :: R)) (hxy:lt y x=true):In lt S x R∧sans x (L ++ y :: R)=L ++ y :: sans x R:=by
 obtain ⟨h1,h2,h3,h4,h5⟩:=I1 h.srt;have hx:=h.s x h.mem;have hy:=h.s y AA
 have hL:∀ z∈L,z≠x:=fun z hz e=>by
  subst e;have:=asym ho hx hy (h3 z hz);rw [hxy] at this;cases this
 have Lh:=aAt ho hy hxy
 have hm:x∈R:=by
  rcases aC4.1 h.mem with hm | hm
  ·exact absurd rfl (hL x hm)
  ·rcases aCu.1 hm with rfl | hm
   ·exact absurd rfl Lh
   ·exact hm
 exact ⟨⟨h2,fun z hz=>h.s z (by simp [hz]),hm⟩,by rw [MX,KL hL,Um Lh]⟩
theorem In.eq (ho:Cw lt S) {L R:List α} {y:α} (h:In lt S x (L ++ y :: R)) (h6:lt x y=false) (h7:lt y x=false):sans x (L ++ y :: R)=L ++ R:=by
 obtain ⟨h1,h2,h3,h4,h5⟩:=I1 h.srt;have hx:=h.s x h.mem;have hy:=h.s y AA;obtain rfl:=ho.tri x y hx hy h6 h7;rw [MX,UU,KL,KL]
 ·intro z hz e;subst e;have:=h4 _ hz;rw [ho.irr _ hx] at this;cases this
 ·intro z hz e;subst e;have:=h3 _ hz;rw [ho.irr _ hx] at this;cases this
theorem In.up (ho:Cw lt S) {L R:List α} {y u:α} (h:In lt S x (L ++ y :: R)) (hu:u∈R) (hxy:lt x y=true):lt x u=true:=by
 obtain ⟨h1,h2,h3,h4,h5⟩:=I1 h.srt;exact ho.tr x y u (h.s x h.mem) (h.s y AA) (h.s u (by simp [hu])) hxy (h4 u hu)
theorem In.down (ho:Cw lt S) {L R:List α} {y u:α} (h:In lt S x (L ++ y :: R)) (hu:u∈L) (hxy:lt x y=false):lt u x=true:=by
 obtain ⟨h1,h2,h3,h4,h5⟩:=I1 h.srt;have hx:=h.s x h.mem;have hy:=h.s y AA;have hus:=h.s u (by simp [hu]);have huy:=h3 u hu;cases Lh:lt y x
 ·rw [ho.tri x y hx hy hxy Lh];exact huy
 ·exact ho.tr u y x hus hy hx huy Lh
def bU (lt:α→α→Bool) (S:α→Prop) (x:α) (k:Nat):Prop :=
 ∀ (t:RB α) (h:Nat),Ok t h→t.isNil=false→(t.red=true∨t.left.red=true)→t.list.length≤k→In lt S x t.list→∃ t',cut lt x k t=some t'∧Cut t t' h (sans x t.list)
theorem NX (ho:Cw lt S) {k:Nat} (ih:bU lt S x k) {l r:RB α} {y:α} {c:Bool} {h:Nat} (hr:Ok r h) (hn:r.isNil=false) (hc:r.red=true∨r.left.red=true) (hl:r.list.length≤k) (hI:In lt S x (l.list ++ y :: r.list)) (hxy:lt x y=false) :
 ∃ m r',(bif lt y x then (cut lt x k r).map fun r'=>mend (node l y r' c) else match least r with
  | some m=>(FO k r).map fun r'=>mend (node l m r' c)
  | none=>none)=some (mend (node l m r' c))∧Ok r' h∧(r.red=false→r'.red=false)∧l.list ++ m :: r'.list=sans x (l.list ++ y :: r.list):=by
 cases Lh:lt y x
 ·obtain ⟨m,hm,hm2⟩:=bR hn;obtain ⟨r',e,q⟩:=K0 k r h hr hn hc hl;refine ⟨m,r',by simp [hm,e],q.ok,q.black,?_⟩;rw [hI.eq ho hxy Lh,q.list,← hm2]
 ·obtain ⟨gW,e1⟩:=hI.right ho Lh;obtain ⟨r',e,q⟩:=ih r h hr hn hc hl gW;exact ⟨y,r',by simp [e],q.ok,q.black,by rw [e1,q.list]⟩
theorem uD (ho:Cw lt S) {k:Nat} (ih:bU lt S x k) {l r:RB α} {y:α} {h:Nat} (hl:Ok l h) (hr:Ok r h) (h1:l.red=false) (h2:r.red=true) (hxy:lt x y=false) (hlen:(node l y r false).list.length≤k+1) (hI:In lt S x (l.list ++ y :: r.list)) :
 ∃ t',cut lt x (k+1) (node l y r false)=some t'∧Cut (node l y r false) t' (h+1) (sans x (l.list ++ y :: r.list)):=by
 have hn:r.isNil=false:=by
  obtain ⟨a,b,c,rfl⟩:=Bt h2;rfl
 simp only [list,aCv,aCx] at hlen;obtain ⟨m,r',e,e1,e2,e3⟩:=NX ho ih (c:=false) hr hn (.inl h2) om hI hxy;refine ⟨_,?_,Gh (y:=m) hl e1,fun _=>QF e1 h1,by rw [DK];exact e3⟩;simp only [cut,hxy,h1,cond_false,IN,BE,hn,h2,aDk,Bool.false_and];exact e
theorem VU (ho:Cw lt S):∀ k,bU lt S x k
 | 0=>fun t h hk hn _ hl hI=>by
   have:=hI.mem;cases ht:t.list with
   | nil=>rw [ht] at this;cases this
   | cons a b=>rw [ht] at hl;simp at hl
 | k+1=>fun t h hk hn hc hl hI=>by
   have ih:=VU ho k;cases t with
   | nil=>cases hn
   | node l y r c =>
   simp only [list,aCv,aCx] at hl;simp only [list] at hI;cases hxy:lt x y
   ·-- to the right
    cases c with
    | false =>
      obtain ⟨h,rfl,a,b,c⟩:=hk.MO;have hlr:l.red=true:=by rcases hc with hc | hc;cases hc;exact hc
      obtain ⟨ll,z,lr,rfl⟩:=Bt hlr;obtain ⟨a1,a2,a3,a4⟩:=a.Ek;simp only [list,aCv,aCx] at hl;have s7:lt z x=true:=hI.down ho (by simp [list]) hxy;have gR:In lt S x (ll.list ++ z :: (node lr y r true).list):=by simpa [list] using hI
      obtain ⟨fA,e1⟩:=gR.right ho s7;obtain ⟨t',e,q⟩:=ih (node lr y r true) h (.red a2 b a4 c) rfl (.inl rfl) (by simp only [list,aCv,aCx];omega) fA;refine ⟨mend (node ll z t' false),?_,Gh a1 q.ok,fun _=>QF q.ok a3,?_⟩
      ·simp only [cut,hxy,cond_false,BS,cond_true,DD,BE,isNil,IN,aDk,Bool.false_and,s7];simp [e]
      ·rw [DK];simp only [list];rw [q.list,← e1];simp [list]
    | true =>
      obtain ⟨a,b,c,d⟩:=hk.Ek;cases h with
      | zero =>
        obtain rfl:=Iw a c;obtain rfl:=Iw b d;refine ⟨nil,by simp [cut,hxy,red,right,isNil],.nil,(fun h=>by cases h),?_⟩;have hm:=hI.mem;simp [list] at hm;subst hm;simp [list,sans]
      | succ h =>
        obtain ⟨ll,u,lr,rfl,a1,a2,a3⟩:=HZ a c;obtain ⟨rl,z,rr,rfl,b1,b2,b3⟩:=HZ b d;simp only [list,aCv,aCx] at hl;cases hd:rl.red
        ·cases he:ll.red
         ·obtain ⟨m,r',e,e1,e2,e3⟩:=NX ho ih (l:=node ll u lr true) (c:=false) (Ok.red (x:=z) b1 b2 hd b3) rfl (.inl rfl) (by simp only [list,aCv,aCx];omega) (y:=y) (by simpa [list] using hI) hxy;refine ⟨_,?_,Gh (y:=m) (.red a1 a2 he a3) e1,(fun h=>by cases h),by rw [DK];rw [show (node (node ll u lr true) m r' false).list=(node ll u lr true).list ++ m :: r'.list from rfl,e3];rfl⟩;simp only [cut,hxy,cond_false,BS,BE,Av,isNil,IN,hd,Bool.not_false,Bool.and_self,both,cond_true,Ex,flip,aDk,he];exact e
         ·obtain ⟨p,v,s,rfl⟩:=Bt he;obtain ⟨c1,c2,c3,c4⟩:=a1.Ek;have hux:lt u x=true:=hI.down ho (by simp [list]) hxy;have gR:In lt S x ((node p v s false).list ++ u :: (lr.list ++ y :: (node rl z rr true).list)):=by simpa [list] using hI
          obtain ⟨fA,e1⟩:=gR.right ho hux;cases k with
          | zero=>omega
          | succ k =>
          have ih':=VU ho k;obtain ⟨t',e,q⟩:=uD ho ih' a2 (Ok.red (x:=z) b1 b2 hd b3) a3 rfl hxy (by simp only [list,aCv,aCx] at *;omega) fA;have q2:=q.black rfl;have e5:=Jv (l:=node p v s false) (r:=t') (x:=u) (c:=true) rfl q2;refine ⟨node (node p v s false) u t' true,?_,.red (.black c1 c2 c4) q.ok rfl q2,(fun h=>by cases h),?_⟩
          ·rw [cut];simp only [hxy,cond_false,BS,BE,Av,isNil,IN,hd,Bool.not_false,Bool.and_self,both,cond_true,Ex,flip,DD,aDk,hux];rw [← e5,e];rfl
          ·simp only [list] at *;rw [q.list,← e1];simp
        ·obtain ⟨m,r',e,e1,e2,e3⟩:=NX ho ih (l:=node ll u lr false) (c:=true) b rfl (.inr hd) (by simp only [list,aCv,aCx];omega) (y:=y) (by simpa [list] using hI) hxy;have q2:=e2 rfl;have e5:=Jv (l:=node ll u lr false) (r:=r') (x:=m) (c:=true) rfl q2;refine ⟨node (node ll u lr false) m r' true,?_,.red a e1 rfl q2,(fun h=>by cases h),e3⟩;rw [← e5];simp only [cut,hxy,cond_false,BS,BE,Av,isNil,IN,hd,Bool.not_false,aDk,aDw,cond_true];exact e
   ·-- to the left
    obtain ⟨UX,eF⟩:=hI.left ho hxy;cases c with
    | false =>
      obtain ⟨h,rfl,a,b,c⟩:=hk.MO;have hlr:l.red=true:=by rcases hc with hc | hc;cases hc;exact hc
      obtain ⟨ll,z,lr,rfl⟩:=Bt hlr;obtain ⟨t',e,q⟩:=ih _ h a rfl (.inl rfl) om UX;have e2:=Vg (x:=y) (c:=false) q.ok c;refine ⟨node t' y r false,?_,.black q.ok b c,fun _=>rfl,?_⟩
      ·simp [cut,hxy,isNil,EU,Av,BE,BS,e,e2]
      ·simp only [list] at *;rw [q.list,eF]
    | true =>
      obtain ⟨a,b,c,d⟩:=hk.Ek;cases h with
      | zero =>
        obtain rfl:=Iw a c;have:=UX.mem;cases this
      | succ h =>
        obtain ⟨ll,u,lr,rfl,a1,a2,a3⟩:=HZ a c;obtain ⟨rl,z,rr,rfl,b1,b2,b3⟩:=HZ b d;simp only [list,aCv,aCx] at hl;cases he:ll.red
        ·cases hd:rl.red
         ·obtain ⟨t',e,q⟩:=ih (node ll u lr true) h (.red a1 a2 he a3) rfl (.inl rfl) (by simp only [list,aCv,aCx];omega) UX;refine ⟨mend (node t' y (node rl z rr true) false),?_,Gh q.ok (.red b1 b2 hd b3),(fun h=>by cases h),?_⟩
          ·simp [cut,hxy,isNil,EU,both,El,flip,Av,BE,BS,he,hd,e]
          ·rw [DK];simp only [list] at *;rw [q.list,eF]
         ·obtain ⟨rll,v,rlr,rfl⟩:=Bt hd;obtain ⟨c1,c2,c3,c4⟩:=b1.Ek;have hxv:lt x v=true:=hI.up ho (by simp [list]) hxy;have gR:In lt S x ((node (node ll u lr true) y rll false).list ++ v :: (node rlr z rr false).list):=by simpa [list] using hI
          obtain ⟨fA,eF2⟩:=gR.left ho hxv;obtain ⟨t',e,q⟩:=ih (node (node ll u lr true) y rll false) (h+1) (.black (.red a1 a2 he a3) c1 c3) rfl (.inr rfl) (by simp only [list,aCv,aCx] at *;omega) fA;have q2:=q.black rfl;have e5:=Jv (l:=t') (r:=node rlr z rr false) (x:=v) (c:=true) q2 rfl;refine ⟨node t' v (node rlr z rr false) true,?_,.red q.ok (.black c2 b2 b3) q2 rfl,(fun h=>by cases h),?_⟩
          ·simp [cut,hxy,isNil,EU,both,El,flip,G7,DD,CM,Av,BE,BS,he,e,e5]
          ·simp only [list] at *;rw [q.list,← eF2];simp
        ·obtain ⟨t',e,q⟩:=ih (node ll u lr false) (h+1) a rfl (.inr he) (by simp only [list,aCv,aCx];omega) UX;have q2:=q.black rfl;have e5:=Jv (l:=t') (r:=node rl z rr false) (x:=y) (c:=true) q2 rfl;refine ⟨node t' y (node rl z rr false) true,?_,.red q.ok b q2 rfl,(fun h=>by cases h),?_⟩
         ·simp [cut,hxy,isNil,EU,Av,BE,BS,he,e,e5]
         ·simp only [list] at *;rw [q.list,eF]
end RB
end Go.Proofs.Q0
namespace Go.Proofs.Q0
def dig (ds:List Int) (i:Nat):Int:=ds.getD i 0
end Go.Proofs.Q0
namespace Go.Proofs.Q0
open Go Go.RowKit Tryz
attribute [local irreducible] XS XC XA AY AR A9 A1 A0 Aa Ae AW SE
def HB (w:World) (sl:Value) (ds:List Int):Prop :=
 ∃ ad cap,sl = .slice ad ds.length cap∧(ds≠[]→∃ (b off:Nat) (cs:List Value) (fz:Nat × Nat),ad=some ⟨b,off,none⟩∧ds.length≤cap∧w.heap[b]?=some (.cells cs.toArray 3 fz)∧∀ i d,ds[i]?=some d→cs[off+i]?=some (.int .i64 d))
theorem HB.only {w w':World} {sl:Value} {ds:List Int} (h:HB w sl ds) (ho:AB [] w w'):HB w' sl ds:=by
 obtain ⟨ad,cap,rfl,h⟩:=h;refine ⟨ad,cap,rfl,fun hn=>?_⟩;obtain ⟨b,off,cs,fz,h1,h2,h3,h4⟩:=h hn;exact ⟨b,off,cs,fz,h1,h2,ho.block h3 AA,h4⟩
theorem KI {n:Int} (h0:-9223372036854775808≤n) (h1:n < 9223372036854775808):IntKind.i64.wrap n=n:=by rw [wrap_i64];omega
def ints (xs:List Int):List Value:=xs.map (Value.int .i64)
theorem eB (xs:List Int) (d:Int):ints xs ++ [.int .i64 d]=ints (xs ++ [d]):=by simp [ints]
theorem uV {wb:World} {v:Value} {n:Nat} {xs:List Int} {H:List Br} {w:World} {D:Ctx} (h:OI wb D H 3 1 v n (ints xs) w) (hn:n=xs.length):HB w v xs:=by
 subst hn;rcases h with ⟨rfl,h0,hx,hs⟩ | ⟨g,cap,cur,rfl,hc,hl,hxl,ht,hs⟩
 ·have:xs=[]:=by simpa using h0
  subst this;exact ⟨none,0,rfl,fun h=>absurd rfl h⟩
 ·refine ⟨_,cap,rfl,fun _=>⟨g,0,cur,(0,0),rfl,hc,hs.get At.head,fun i d hi=>?_⟩⟩;have h1:(ints xs)[i]?=some (.int .i64 d):=by simp [ints,hi]
  rw [← ht,aDz] at h1;split at h1
  ·simpa using h1
  ·cases h1
theorem OI.st {wb:World} {v:Value} {n k e:Nat} {xs:List Value} {H:List Br} {w:World} {D:Ctx} (h:OI wb D H e k v n xs w):St wb D H w:=by
 rcases h with ⟨_,_,_,hs⟩ | ⟨g,cap,cur,_,_,_,_,_,hs⟩
 ·exact hs
 ·exact hs.Bx
end Go.Proofs.Q0
namespace Go.Proofs.Q0
open Go Go.RowKit Tryz
abbrev ET (x:Int) (av:Value) (pl pr:Option Addr) (c:Bool):Obj := .cells #[.int .i64 x,av,.pointer pl,.pointer pr,.bool c] 325 (0,0)
abbrev C6 (p:Option Addr) (n:Int):Obj := .cells #[.pointer p,.int .i64 n,.func (.func 299) #[] #[],.func (.func 300) #[] #[],.func (.func 301) #[] #[]] 323 (0,0)
def Aj (w:World):RB Int→Option Addr→List Nat→Prop
 | .nil,p,fp=>p=none∧fp=[]
 | .node l x r c,p,fp=>∃ b av pl pr fl fr,p=some ⟨b,0,none⟩∧fp=b :: (fl ++ fr)∧w.heap[b]?=some (ET x av pl pr c)∧HB w av (l.list ++ x :: r.list)∧Aj w l pl fl∧Aj w r pr fr
def Cc (w:World) (l:RB Int) (x:Int) (r:RB Int) (c:Bool) (p:Option Addr) (fp:List Nat):Prop :=
 ∃ b av pl pr fl fr,p=some ⟨b,0,none⟩∧fp=b :: (fl ++ fr)∧w.heap[b]?=some (ET x av pl pr c)∧Aj w l pl fl∧Aj w r pr fr
theorem Aj.MJ {w:World} {l:RB Int} {x:Int} {r:RB Int} {c:Bool} {p:Option Addr} {fp:List Nat} (h:Aj w (.node l x r c) p fp):Cc w l x r c p fp:=by
 obtain ⟨b,av,pl,pr,fl,fr,h1,h2,h3,h4,h5,h6⟩:=h;exact ⟨b,av,pl,pr,fl,fr,h1,h2,h3,h5,h6⟩
def AM (w:World) (F:List Nat):Prop:=∀ b∈F,∃ cs fz,w.heap[b]?=some (.cells cs 325 fz)
theorem AM.nil (w:World):AM w []:=fun b h=>by cases h
theorem AM.append {w:World} {F G:List Nat} (h:AM w F) (k:AM w G):AM w (F ++ G):=fun b hb=>by
 rcases aC4.1 hb with hb | hb
 ·exact h b hb
 ·exact k b hb
theorem AM.cons {w:World} {F:List Nat} {b:Nat} {cs:Array Value} {fz:Nat × Nat} (h:w.heap[b]?=some (.cells cs 325 fz)) (k:AM w F):AM w (b :: F):=fun b' hb=>by
 rcases aCu.1 hb with rfl | hb
 ·exact ⟨_,_,h⟩
 ·exact k b' hb
theorem Aj.nodes {w:World}:∀ {t:RB Int} {p:Option Addr} {fp:List Nat},Aj w t p fp→AM w fp
 | .nil,p,fp,⟨_,h⟩=>by subst h;exact AM.nil w
 | .node l x r c,p,fp,⟨b,av,pl,pr,fl,fr,h1,h2,h3,h4,h5,h6⟩=>by
   subst h2;exact .cons h3 (h5.nodes.append h6.nodes)
theorem Cc.nodes {w:World} {l:RB Int} {x:Int} {r:RB Int} {c:Bool} {p:Option Addr} {fp:List Nat} (h:Cc w l x r c p fp):AM w fp:=by
 obtain ⟨b,av,pl,pr,fl,fr,h1,h2,h3,h5,h6⟩:=h;subst h2;exact .cons h3 (h5.nodes.append h6.nodes)
theorem HB.keep {w w':World} {v:Value} {xs:List Int} {F:List Nat} (h:HB w v xs) (ho:AB F w w') (hF:AM w F):HB w' v xs:=by
 obtain ⟨ad,cap,rfl,h⟩:=h;refine ⟨ad,cap,rfl,fun hn=>?_⟩;obtain ⟨b,off,cs,fz,h1,h2,h3,h4⟩:=h hn;refine ⟨b,off,cs,fz,h1,h2,ho.block h3 fun hb=>?_,h4⟩;obtain ⟨cs',lM,h5⟩:=hF b hb;rw [h3] at h5;cases h5
theorem Aj.keep {w w':World} {F:List Nat} (ho:AB F w w') (hF:AM w F):∀ {t:RB Int} {p:Option Addr} {fp:List Nat},Aj w t p fp→(∀ b∈fp,b∉F)→Aj w' t p fp
 | .nil,p,fp,h,_=>h
 | .node l x r c,p,fp,⟨b,av,pl,pr,fl,fr,h1,h2,h3,h4,h5,h6⟩,hd=>by
   subst h2
   exact ⟨b,av,pl,pr,fl,fr,h1,rfl,ho.block h3 (hd b aCw),h4.keep ho hF,Aj.keep ho hF h5 fun k hk=>hd k (aCy _ (aDC _ hk)),
    Aj.keep ho hF h6 fun k hk=>hd k (aCy _ (aDE _ hk))⟩
theorem head_keep {w w':World} {F:List Nat} {tb:Nat} {p:Option Addr} {n:Int} (h:w.heap[tb]?=some (C6 p n)) (ho:AB F w w') (hF:AM w F):w'.heap[tb]?=some (C6 p n) :=
 ho.block h fun hb=>by
  obtain ⟨cs',lM,h5⟩:=hF tb hb;rw [h] at h5;cases h5
end Go.Proofs.Q0
namespace Go.Proofs.Q0
open Go Go.RowKit Tryz
attribute [local irreducible] XS XC XA AY AR A9 A1 A0 Aa Ae AW SE
theorem R5 (a b:Int) (w0:World):AO prog 299 #[.int .i64 a,.int .i64 b] w0 fun v w'=>v = .bool (decide (a < b))∧AB [] w0 w':=by
 have hs:=St.nil w0;refine AS func299 ntmps299 ?_;refine Ja ?_;refine AG ?_;exact ⟨rfl,hs.AE rfl⟩
theorem NH (a:Int) (w0:World):AO prog 300 #[.int .i64 a] w0 fun v w'=>HB w' v [a]∧AB [] w0 w':=by
 have hs:=St.nil w0;refine AS func300 ntmps300 ?_
 repeat' (first|refine Sa ?_|(refine bs hs ?_;intro b w hz hs)|fail)
 refine AG ?_;refine ⟨⟨_,_,rfl,fun _=>⟨_,0,[.int .i64 a],(0,0),rfl,aC5 _,hs.get At.head,fun i d h=>?_⟩⟩,hs.AE rfl⟩;cases i with
 | zero=>simpa using h
 | succ i=>simp at h
theorem ints_one (xs:List Int):(xs.map (Value.int .i64)).all Value.oneCell'=true:=by simp [Value.oneCell']
theorem HB.cells {w:World} {ad:Option Addr} {cap n:Nat} {xs:List Int} (h:HB w (.slice ad n cap) xs) (hn:xs≠[]):∃ b off,ad=some ⟨b,off,none⟩∧n=xs.length∧n≤cap∧∀ (j:Nat) u,(ints xs)[j]?=some u→w.cell? ((⟨b,off,none⟩:Addr).add j)=some u:=by
 obtain ⟨ad',cap',e,h⟩:=h;cases e;obtain ⟨b,off,cs,fz,rfl,h2,h3,h4⟩:=h hn;refine ⟨b,off,rfl,rfl,h2,fun j u hj=>?_⟩;rw [Em];unfold ints at hj;rw [aC8] at hj;obtain ⟨d,hd,rfl⟩:=Option.map_eq_some_iff.1 hj;simp [World.cell?,h3,h4 j d hd]
theorem NT (va vb:Value) (A B:List Int) (iK:A≠[]) (hB0:B≠[]) (hlen:A.length+B.length≤1000000) (w0:World) (hA:HB w0 va A) (hB:HB w0 vb B) :
 AO prog 301 #[va,vb] w0 fun v w'=>HB w' v (A ++ B)∧AB [] w0 w':=by
 obtain ⟨aa,ca,rfl,_⟩:=id hA;obtain ⟨ab,cb,rfl,_⟩:=id hB;have hs:=St.nil w0;refine AS func301 ntmps301 ?_;refine Ah ?_;refine Aq ?_;refine vs ?_;refine XS.nil ?_;refine Dw ?_;refine Ah ?_;refine Aq ?_;refine Mp AJ rfl rfl hs ?_;intro v1 w1 hO hv1;refine vs ?_;have AL:=hO.st.AE rfl;obtain ⟨b,off,rfl,_,_,hc⟩:=(hA.only AL).cells iK;refine SC AJ rfl rfl rfl rfl rfl rfl (by simp [ints]) (List.length_pos_iff.2 iK) hc (List.all_eq_true.1 (ints_one A)) hO om om ?_;intro v2 w2 hO hv2;refine vs ?_;have AN:=hO.st.AE rfl;obtain ⟨b',off',rfl,_,_,Mi⟩:=(hB.only AN).cells hB0;refine SC AJ rfl rfl rfl rfl rfl rfl (by simp [ints]) (List.length_pos_iff.2 hB0) Mi (List.all_eq_true.1 (ints_one B)) hO om om ?_;intro v3 w3 hO hv3;have hs:=hO.st;refine Jc ?_;refine AG ?_;refine ⟨?_,hs.AE rfl⟩;have e:ints A ++ ints B=ints (A ++ B):=by simp [ints]
 simp only [aDV] at hO;rw [e] at hO;exact uV hO AA
theorem Bg (t:RB Int) (p:Option Addr) (fp:List Nat) (w0:World) (h:Aj w0 t p fp):AO prog 314 #[.pointer p] w0 fun v w'=>v = .bool t.red∧AB [] w0 w':=by
 have hs:=St.nil w0;cases t with
 | nil =>
   obtain ⟨rfl,rfl⟩:=h;refine AS func314 ntmps314 ?_
   repeat' (first|refine vs ?_|refine ps ?_|refine Aq ?_|refine Nx.h ?_|fail)
   refine AG ?_;exact ⟨rfl,hs.AE rfl⟩
 | node l x r c =>
   obtain ⟨b,av,pl,pr,fl,fr,rfl,h2,h3,h4,h5,h6⟩:=h;replace hs:=hs.AH h3 AA;refine AS func314 ntmps314 ?_;refine Ja ?_;refine AG ?_;exact ⟨rfl,hs.AD [] (by simp [h3]) sD⟩
def iY (e:Br):Bool:=match e.2.1 with
 | .cells _ t _=>!(Nat.beq t 3)
 | _=>true
theorem HB.read {w wb:World} {D:Ctx} {H:List Br} {v:Value} {ds:List Int} (hB:HB w v ds) (hs:St wb D H w) (hH:H.all iY=true) :
 ∃ R,St wb ⟨D.dirty,R ++ D.ro⟩ H w∧∀ w',(∀ e∈R,w'.heap[e.1]?=some e.2)→HB w' v ds:=by
 obtain ⟨ad,cap,rfl,hD⟩:=hB;by_cases hn:ds=[]
 ·exact ⟨[],hs,fun w' _=>⟨ad,cap,rfl,fun h=>absurd hn h⟩⟩
 ·obtain ⟨b,off,cs,fz,rfl,h1,h2,h3⟩:=hD hn;refine ⟨[(b,.cells cs.toArray 3 fz)],hs.read h2 ?_,fun w' hw=>⟨_,cap,rfl,fun _=>⟨b,off,cs,fz,rfl,h1,hw _ aCw,h3⟩⟩⟩;intro hm;obtain ⟨e,he,hb⟩:=List.mem_map.1 hm;have h4:=hs.at_ e he;rw [hb,h2] at h4;have h5:=List.all_eq_true.1 hH e he;unfold iY at h5;cases sQ:e.2.1 with
  | cells a t f =>
    rw [sQ] at h4 h5;cases h4;simp at h5
  | _=>rw [sQ] at h4;cases h4
theorem C7 {w:World} {tb b:Nat} {p:Option Addr} {n:Int} {cs:Array Value} {fz:Nat × Nat} (h:w.heap[tb]?=some (C6 p n)) (k:w.heap[b]?=some (.cells cs 325 fz)):b≠tb:=fun e=>by
 subst e;rw [h] at k;cases k
theorem EO (tb:Nat) (p0:Option Addr) (n0:Int) (l:RB Int) (x:Int) (r:RB Int) (c:Bool) (p:Option Addr) (fp:List Nat) (w0:World) (hT:w0.heap[tb]?=some (C6 p0 n0)) (h:Cc w0 l x r c p fp) (hnd:fp.Nodup) (hlen:(l.list ++ x :: r.list).length≤1000000) :
 AO prog 313 #[.pointer (some ⟨tb,0,none⟩),.pointer p] w0 fun v w'=>Aj w' (.node l x r c) p fp∧AB fp w0 w':=by
 obtain ⟨b,av,pl,pr,fl,fr,rfl,rfl,hb,hl,hr⟩:=h;have Dq:=C7 hT hb;obtain ⟨hnb,pW⟩:=aC6.1 hnd
 have hnl:∀ k∈fl,k∉[b]:=fun k hk hm=>by
  obtain rfl:=List.mem_singleton.1 hm;exact hnb (aDC _ hk)
 have QG:∀ k∈fr,k∉[b]:=fun k hk hm=>by
  obtain rfl:=List.mem_singleton.1 hm;exact hnb (aDE _ hk)
 have hlr:∀ k∈fl,k∉fr:=fun k hk hm=>(aDG.1 pW).2.2 k hk k hm rfl;have hNb:AM w0 [b]:=AM.cons hb (AM.nil w0)
 have fin:∀ (w':World) (ME:Value),w'.heap[b]?=some (ET x ME pl pr c)→HB w' ME (l.list ++ x :: r.list)→AB [b] w0 w'→Aj w' (.node l x r c) (some ⟨b,0,none⟩) (b :: (fl ++ fr))∧AB (b :: (fl ++ fr)) w0 w':=fun w' ME h1 h2 ho =>
  ⟨⟨b,ME,pl,pr,fl,fr,rfl,rfl,h1,h2,hl.keep ho hNb hnl,hr.keep ho hNb QG⟩,ho.weaken fun k hk=>by obtain rfl:=List.mem_singleton.1 hk;exact aCw⟩
 clear hnd;have hs:=St.nil w0;replace hs:=hs.AH hT AA;replace hs:=hs.AH hb (by simpa using Dq);cases l with
 | nil =>
   cases r with
   | nil =>
     obtain ⟨rfl,rfl⟩:=hl;obtain ⟨rfl,rfl⟩:=hr;refine AS func313 ntmps313 ?_;refine Jb ?_;refine dr [12] hs ?_;intro hX w hs;refine tks 0 9 ?_;refine dt 9 hX ?_;refine cl (h:=by exact NH x _) ?_;rintro v w' ⟨h1,ho⟩;replace hs:=hs.AP ho;obtain ⟨qW,rW,rfl,_⟩:=id h1;obtain ⟨R1,hs,h1⟩:=(h1).read hs rfl;refine Jn ?_;refine tks 10 2 ?_;refine dt 12 hX ?_
     repeat' (first|refine Nx.h ?_|(refine st hs ?_;intro w hs)|fail)
     refine dn ?_;refine en ?_;refine Jd ?_;refine JO ?_;have Ct:=(h1 _ (fun e he=>hs.ro e (by simp [he])));refine fin _ _ (hs.get At.head) (by simpa [RB.list] using Ct) (hs.AD [b] (by simp [hT]) sD)
   | node rl rx rr rc =>
     obtain ⟨rfl,rfl⟩:=hl;have Hj:=hr;obtain ⟨rb,eH,xQ,xA,rfl',zY,rfl,rfl,hrb,hrav,hrl,oF⟩:=hr;have Wx:=C7 hT hrb;have RD:rb≠b:=fun e=>by subst e;exact QG _ aCw aCw
     replace hs:=hs.AH hrb (by simp [Wx,RD]);obtain ⟨adR,cpR,rfl,_⟩:=id hrav;obtain ⟨RR,hs,hrav⟩:=(hrav).read hs rfl;refine AS func313 ntmps313 ?_;refine Jb ?_;refine dr [12] hs ?_;intro hX w hs;refine tks 0 9 ?_;refine dt 9 hX ?_;refine cl (h:=by exact NH x _) ?_;rintro v w' ⟨h1,ho⟩;replace hs:=hs.AP ho;obtain ⟨qW,rW,rfl,_⟩:=id h1;obtain ⟨R1,hs,h1⟩:=(h1).read hs rfl;refine Jn ?_;refine tks 10 2 ?_;refine dt 12 hX ?_
     repeat' (first|refine Nx.h ?_|(refine st hs ?_;intro w hs)|fail)
     refine dn ?_;refine en ?_
     repeat' (first|refine vs ?_|refine Aq ?_|refine Nx.h ?_|refine FP ?_|refine Eb ?_|fail)
     refine dr [19] hs ?_;intro hX w hs;refine tks 0 16 ?_;refine dt 16 hX ?_;refine cl (h:=by exact NT _ _ _ _ AA (by simp [RB.list]) (by simp only [RB.list,aCv,aCx,aDA] at hlen ⊢;omega) _ (h1 _ (fun e he=>hs.ro e (by simp [he]))) (hrav _ (fun e he=>hs.ro e (by simp [he])))) (k:=?_);rintro v w' ⟨h3,ho⟩;replace hs:=hs.AP ho;obtain ⟨v7,sK,rfl,_⟩:=id h3;obtain ⟨R3,hs,h3⟩:=(h3).read hs rfl;refine Jn ?_;refine tks 17 2 ?_;refine dt 19 hX ?_
     repeat' (first|refine Nx.h ?_|(refine st hs ?_;intro w hs)|fail)
     refine dn ?_;refine en ?_
     skip
     refine JO ?_;have Ct:=(h3 _ (fun e he=>hs.ro e (by simp [he])));refine fin _ _ (hs.get (At.tail At.head)) (by simpa [RB.list] using Ct) (hs.AD [b] (by simp [hT,hrb]) sD)
 | node ll lx lr lc =>
   cases r with
   | nil =>
     have hl0:=hl;obtain ⟨lb,X4,eZ,rR,sO,tB,rfl,rfl,hlb,hlav,GF,mP⟩:=hl;have hlt:=C7 hT hlb;have Qe:lb≠b:=fun e=>by subst e;exact hnl _ aCw aCw
     replace hs:=hs.AH hlb (by simp [hlt,Qe]);obtain ⟨adL,cpL,rfl,_⟩:=id hlav;obtain ⟨rfl,rfl⟩:=hr;obtain ⟨RL,hs,hlav⟩:=(hlav).read hs rfl;refine AS func313 ntmps313 ?_;refine Jb ?_;refine dr [12] hs ?_;intro hX w hs;refine tks 0 9 ?_;refine dt 9 hX ?_;refine cl (h:=by exact NH x _) ?_;rintro v w' ⟨h1,ho⟩;replace hs:=hs.AP ho;obtain ⟨qW,rW,rfl,_⟩:=id h1;obtain ⟨R1,hs,h1⟩:=(h1).read hs rfl;refine Jn ?_;refine tks 10 2 ?_;refine dt 12 hX ?_
     repeat' (first|refine Nx.h ?_|(refine st hs ?_;intro w hs)|fail)
     refine dn ?_;refine en ?_;refine Je ?_;refine dr [19] hs ?_;intro hX w hs;refine tks 0 16 ?_;refine dt 16 hX ?_;refine cl (h:=by exact NT _ _ _ _ (by simp [RB.list]) AA (by simp only [RB.list,aCv,aCx,aDA] at hlen ⊢;omega) _ (hlav _ (fun e he=>hs.ro e (by simp [he]))) (h1 _ (fun e he=>hs.ro e (by simp [he])))) (k:=?_);rintro v w' ⟨h2,ho⟩;replace hs:=hs.AP ho;obtain ⟨ad2,cp2,rfl,_⟩:=id h2;obtain ⟨R2,hs,h2⟩:=(h2).read hs rfl;refine Jn ?_;refine tks 17 2 ?_;refine dt 19 hX ?_
     repeat' (first|refine Nx.h ?_|(refine st hs ?_;intro w hs)|fail)
     refine dn ?_;refine en ?_;refine Jd ?_;refine JO ?_;have Ct:=(h2 _ (fun e he=>hs.ro e (by simp [he])));refine fin _ _ (hs.get (At.tail At.head)) (by simpa [RB.list] using Ct) (hs.AD [b] (by simp [hT,hlb]) sD)
   | node rl rx rr rc =>
     have hl0:=hl;obtain ⟨lb,X4,eZ,rR,sO,tB,rfl,rfl,hlb,hlav,GF,mP⟩:=hl;have hlt:=C7 hT hlb;have Qe:lb≠b:=fun e=>by subst e;exact hnl _ aCw aCw
     replace hs:=hs.AH hlb (by simp [hlt,Qe]);obtain ⟨adL,cpL,rfl,_⟩:=id hlav;have Hj:=hr;obtain ⟨rb,eH,xQ,xA,rfl',zY,rfl,rfl,hrb,hrav,hrl,oF⟩:=hr;have Wx:=C7 hT hrb;have RD:rb≠b:=fun e=>by subst e;exact QG _ aCw aCw
     have mW:rb≠lb:=fun e=>by subst e;exact hlr _ aCw aCw
     replace hs:=hs.AH hrb (by simp [Wx,RD,mW]);obtain ⟨adR,cpR,rfl,_⟩:=id hrav;obtain ⟨RL,hs,hlav⟩:=(hlav).read hs rfl;obtain ⟨RR,hs,hrav⟩:=(hrav).read hs rfl;refine AS func313 ntmps313 ?_;refine Jb ?_;refine dr [12] hs ?_;intro hX w hs;refine tks 0 9 ?_;refine dt 9 hX ?_;refine cl (h:=by exact NH x _) ?_;rintro v w' ⟨h1,ho⟩;replace hs:=hs.AP ho;obtain ⟨qW,rW,rfl,_⟩:=id h1;obtain ⟨R1,hs,h1⟩:=(h1).read hs rfl;refine Jn ?_;refine tks 10 2 ?_;refine dt 12 hX ?_
     repeat' (first|refine Nx.h ?_|(refine st hs ?_;intro w hs)|fail)
     refine dn ?_;refine en ?_;refine Je ?_;refine dr [19] hs ?_;intro hX w hs;refine tks 0 16 ?_;refine dt 16 hX ?_;refine cl (h:=by exact NT _ _ _ _ (by simp [RB.list]) AA (by simp only [RB.list,aCv,aCx,aDA] at hlen ⊢;omega) _ (hlav _ (fun e he=>hs.ro e (by simp [he]))) (h1 _ (fun e he=>hs.ro e (by simp [he])))) (k:=?_);rintro v w' ⟨h2,ho⟩;replace hs:=hs.AP ho;obtain ⟨ad2,cp2,rfl,_⟩:=id h2;obtain ⟨R2,hs,h2⟩:=(h2).read hs rfl;refine Jn ?_;refine tks 17 2 ?_;refine dt 19 hX ?_
     repeat' (first|refine Nx.h ?_|(refine st hs ?_;intro w hs)|fail)
     refine dn ?_;refine en ?_;refine Je ?_;refine dr [19] hs ?_;intro hX w hs;refine tks 0 16 ?_;refine dt 16 hX ?_;refine cl (h:=by exact NT _ _ _ _ AA (by simp [RB.list]) (by simp only [RB.list,aCv,aCx,aDA] at hlen ⊢;omega) _ (h2 _ (fun e he=>hs.ro e (by simp [he]))) (hrav _ (fun e he=>hs.ro e (by simp [he])))) (k:=?_);rintro v w' ⟨h3,ho⟩;replace hs:=hs.AP ho;obtain ⟨v7,sK,rfl,_⟩:=id h3;obtain ⟨R3,hs,h3⟩:=(h3).read hs rfl;refine Jn ?_;refine tks 17 2 ?_;refine dt 19 hX ?_
     repeat' (first|refine Nx.h ?_|(refine st hs ?_;intro w hs)|fail)
     refine dn ?_;refine en ?_
     skip
     refine JO ?_;have Ct:=(h3 _ (fun e he=>hs.ro e (by simp [he])));refine fin _ _ (hs.get (At.tail (At.tail At.head))) (by simpa [RB.list] using Ct) (hs.AD [b] (by simp [hT,hlb,hrb]) sD)
theorem perm_turn (b u:Nat) (A B C:List Nat):(u :: ((b :: (A ++ B)) ++ C)).Perm (b :: (A ++ (u :: (B ++ C)))):=by
 have h1:(u :: b :: (A ++ (B ++ C))).Perm (b :: u :: (A ++ (B ++ C))):=List.Perm.swap _ _ _;have h2:(b :: u :: (A ++ (B ++ C))).Perm (b :: (A ++ (u :: (B ++ C)))):=List.Perm.cons _ List.perm_middle.symm;have:=h1.trans h2;simpa using this
theorem AM.lt {w:World} {F:List Nat} (h:AM w F):∀ k∈F,k < w.heap.size:=fun k hk=>by
 obtain ⟨cs,fz,h⟩:=h k hk;exact lt_of_block h
def Ck (w0:World) (fp:List Nat) (t':RB Int) (v:Value) (w':World):Prop :=
 ∃ p' Ci,v = .pointer p'∧Aj w' t' p' Ci∧Ci.Nodup∧(∀ k∈Ci,k∈fp∨w0.heap.size≤k)∧AB fp w0 w'
theorem Kn (tb:Nat) (p0:Option Addr) (n0:Int) (l:RB Int) (x:Int) (rl:RB Int) (y:Int) (rr:RB Int) (c c2:Bool) (p:Option Addr) (fp:List Nat) (w0:World) (hT:w0.heap[tb]?=some (C6 p0 n0)) (h:Cc w0 l x (.node rl y rr c2) c p fp) (hnd:fp.Nodup) (hlen:(l.list ++ x :: (rl.list ++ y :: rr.list)).length≤1000000) :
 AO prog 315 #[.pointer (some ⟨tb,0,none⟩),.pointer p] w0 fun v w'=>Ck w0 fp (.node (.node l x rl true) y rr c) v w':=by
 obtain ⟨b,av,pl,pr,fl,fr,rfl,rfl,hb,hl,u,JZ,mC,prr,frl,KR,rfl,rfl,hu,_,hrl,Us⟩:=h;have hp:=perm_turn b u fl frl KR;have Re:=hp.nodup_iff.2 hnd;have hNb:AM w0 [u,b]:=AM.cons hu (AM.cons hb (AM.nil w0));simp only [aCv,aCx] at hlen
 obtain ⟨d1,d2,d3,d4,d5,d6,d7,d8⟩:u≠b∧(∀ k∈fl,k∉[u,b])∧(∀ k∈frl,k∉[u,b])∧(∀ k∈KR,k∉[u,b])∧(b :: (fl ++ frl)).Nodup∧u∉b :: (fl ++ frl)∧(∀ k∈KR,k∉b :: (fl ++ frl))∧(u :: ((b :: (fl ++ frl)) ++ KR)).Nodup:=by
  simp only [aDR,aDQ,aC6,aDG,aC4,aCu,aC1,or_false] at Re ⊢;grind
 have hs:=St.nil w0;replace hs:=hs.AH hb AA;replace hs:=hs.AH hu (by simpa using d1);refine AS func315 ntmps315 ?_
 repeat' (first|refine Sa ?_|(refine st hs ?_;intro w hs)|fail)
 have AL:AB [u,b] w0 _:=hs.AD [u,b] AA sD;have Bv:=hs.get (At.tail At.head);have Wv:=hs.get At.head;have Ei:=hl.keep AL hNb d2;have Vm:=hrl.keep AL hNb d3;have nJ:=Us.keep AL hNb d4;have CL:=head_keep hT AL hNb;clear hs;refine cl (h:=by exact EO tb p0 n0 l x rl true _ _ _ CL ⟨b,av,pl,mC,fl,frl,rfl,rfl,Bv,Ei,Vm⟩ d5 (by simp only [aCv,aCx];omega)) (k:=?_);rintro v w' ⟨Bo,AN⟩;have Mj:AM _ (b :: (fl ++ frl)):=Cc.nodes ⟨b,av,pl,mC,fl,frl,rfl,rfl,Bv,Ei,Vm⟩;have HN:=AN.block Wv d6;have nI:=nJ.keep AN Mj d7;have MD:=head_keep CL AN Mj;have hs:=St.nil w';refine Ja ?_;refine cl (h:=by exact EO tb p0 n0 (.node l x rl true) y rr c _ _ _ MD ⟨u,JZ,_,prr,_,KR,rfl,rfl,HN,Bo,nI⟩ d8 (by simp only [RB.list,aCv,aCx];omega)) (k:=?_);rintro v w'' ⟨Fv,AU⟩;have hs:=St.nil w'';refine Ja ?_;refine AG ?_;have e:∀ k,k∈u :: ((b :: (fl ++ frl)) ++ KR)→k∈b :: (fl ++ (u :: (frl ++ KR))):=fun k hk=>hp.mem_iff.1 hk;have o1:AB (b :: (fl ++ (u :: (frl ++ KR)))) w0 _:=AL.weaken AA;have o2:=o1.step AN (fun k hk => .inl (e k (aCy _ (aDC _ hk))));exact ⟨_,_,rfl,Fv,d8,fun k hk => .inl (e k hk),o2.step AU (fun k hk => .inl (e k hk))⟩
theorem Gf (tb:Nat) (p0:Option Addr) (n0:Int) (ll:RB Int) (y:Int) (lr:RB Int) (x:Int) (r:RB Int) (c c2:Bool) (p:Option Addr) (fp:List Nat) (w0:World) (hT:w0.heap[tb]?=some (C6 p0 n0)) (h:Cc w0 (.node ll y lr c2) x r c p fp) (hnd:fp.Nodup) (hlen:(ll.list ++ y :: (lr.list ++ x :: r.list)).length≤1000000) :
 AO prog 316 #[.pointer (some ⟨tb,0,none⟩),.pointer p] w0 fun v w'=>Ck w0 fp (.node ll y (.node lr x r true) c) v w':=by
 obtain ⟨b,av,pl,pr,fl,fr,rfl,rfl,hb,⟨u,JZ,UE,Q3,fll,flr,rfl,rfl,hu,_,GF,hlr⟩,hr⟩:=h;have hp:=(perm_turn u b fll flr fr).symm;have Re:=hp.nodup_iff.2 hnd;have hNb:AM w0 [u,b]:=AM.cons hu (AM.cons hb (AM.nil w0));simp only [aCv,aCx] at hlen
 obtain ⟨d1,d2,d3,d4,d5,d6,d7,d8⟩:u≠b∧(∀ k∈fr,k∉[u,b])∧(∀ k∈flr,k∉[u,b])∧(∀ k∈fll,k∉[u,b])∧(b :: (flr ++ fr)).Nodup∧u∉b :: (flr ++ fr)∧(∀ k∈fll,k∉b :: (flr ++ fr))∧(u :: (fll ++ (b :: (flr ++ fr)))).Nodup:=by
  simp only [aDR,aDQ,aC6,aDG,aC4,aCu,aC1,or_false] at Re ⊢;grind
 have hs:=St.nil w0;replace hs:=hs.AH hb AA;replace hs:=hs.AH hu (by simpa using d1);refine AS func316 ntmps316 ?_
 repeat' (first|refine Sa ?_|(refine st hs ?_;intro w hs)|fail)
 have AL:AB [u,b] w0 _:=hs.AD [u,b] AA sD;have Bv:=hs.get (At.tail At.head);have Wv:=hs.get At.head;have hrw:=hr.keep AL hNb d2;have Xc:=hlr.keep AL hNb d3;have nG:=GF.keep AL hNb d4;have CL:=head_keep hT AL hNb;clear hs;refine cl (h:=by exact EO tb p0 n0 lr x r true _ _ _ CL ⟨b,av,Q3,pr,flr,fr,rfl,rfl,Bv,Xc,hrw⟩ d5 (by simp only [aCv,aCx];omega)) (k:=?_);rintro v w' ⟨Bo,AN⟩;have Mj:AM _ (b :: (flr ++ fr)):=Cc.nodes ⟨b,av,Q3,pr,flr,fr,rfl,rfl,Bv,Xc,hrw⟩;have HN:=AN.block Wv d6;have o7:=nG.keep AN Mj d7;have MD:=head_keep CL AN Mj;have hs:=St.nil w';refine Ja ?_;refine cl (h:=by exact EO tb p0 n0 ll y (.node lr x r true) c _ _ _ MD ⟨u,JZ,UE,_,fll,_,rfl,rfl,HN,o7,Bo⟩ d8 (by simp only [RB.list,aCv,aCx];omega)) (k:=?_);rintro v w'' ⟨Fv,AU⟩;have hs:=St.nil w'';refine Ja ?_;refine AG ?_;have e:∀ k,k∈u :: (fll ++ (b :: (flr ++ fr)))→k∈b :: ((u :: (fll ++ flr)) ++ fr):=fun k hk=>hp.mem_iff.1 hk;have o1:AB (b :: ((u :: (fll ++ flr)) ++ fr)) w0 _:=AL.weaken AA;have o2:=o1.step AN (fun k hk => .inl (e k (aCy _ (aDE _ hk))));exact ⟨_,_,rfl,Fv,d8,fun k hk => .inl (e k hk),o2.step AU (fun k hk => .inl (e k hk))⟩
theorem GW (a:RB Int) (x:Int) (b:RB Int) (c1:Bool) (y:Int) (d:RB Int) (z:Int) (e:RB Int) (c2 c:Bool) (p:Option Addr) (fp:List Nat) (w0:World) (h:Aj w0 (.node (.node a x b c1) y (.node d z e c2) c) p fp) (hnd:fp.Nodup) :
 AO prog 317 #[.pointer p] w0 fun v w'=>Aj w' (.node (.node a x b !c1) y (.node d z e !c2) !c) p fp∧AB fp w0 w':=by
 obtain ⟨m,av,_,_,_,_,rfl,rfl,hm,Ct,⟨u,JZ,pa,pb,fa,fb,rfl,rfl,hu,Ms,ha,hb⟩,⟨v,wV,pd,pe,fd,fe,rfl,rfl,hv,oD,hd,he⟩⟩:=h;have hNb:AM w0 [v,u,m]:=AM.cons hv (AM.cons hu (AM.cons hm (AM.nil w0)))
 obtain ⟨d1,d2,d3,d4,d5,d6,d7⟩:u≠m∧v≠m∧v≠u∧(∀ k∈fa,k∉[v,u,m])∧(∀ k∈fb,k∉[v,u,m])∧(∀ k∈fd,k∉[v,u,m])∧(∀ k∈fe,k∉[v,u,m]):=by
  simp only [aDR,aDQ,aC6,aDG,aC4,aCu,aC1,or_false] at hnd ⊢;grind
 have hs:=St.nil w0;replace hs:=hs.AH hm AA;replace hs:=hs.AH hu (by simpa using d1);replace hs:=hs.AH hv (by simp [d2,d3]);refine AS func317 ntmps317 ?_
 repeat' (first|refine Sa ?_|(refine st hs ?_;intro w hs)|fail)
 refine dr [14] hs ?_;intro hX w hs;refine tks 0 14 ?_;refine dt 14 hX ?_
 repeat' (first|refine Nx.h ?_|(refine st hs ?_;intro w hs)|fail)
 refine dn ?_;refine en ?_;refine Jb ?_;refine dr [14] hs ?_;intro hX w hs;refine tks 0 14 ?_;refine dt 14 hX ?_
 repeat' (first|refine Nx.h ?_|(refine st hs ?_;intro w hs)|fail)
 refine dn ?_;refine en ?_
 skip
 refine JO ?_;have AL:AB [v,u,m] w0 _:=hs.AD [v,u,m] AA sD;refine ⟨⟨m,av,_,_,_,_,rfl,rfl,hs.get (At.tail (At.tail At.head)),Ct.keep AL hNb,⟨u,JZ,pa,pb,fa,fb,rfl,rfl,hs.get (At.tail At.head),Ms.keep AL hNb,ha.keep AL hNb d4,hb.keep AL hNb d5⟩,⟨v,wV,pd,pe,fd,fe,rfl,rfl,hs.get At.head,oD.keep AL hNb,hd.keep AL hNb d6,he.keep AL hNb d7⟩⟩,AL.weaken AA⟩
structure Has (w0:World) (tb:Nat) (p0:Option Addr) (n0:Int) (fp:List Nat) (t:RB Int) (p:Option Addr) (w:World):Prop where
 tree:∃ Ci,Aj w t p Ci∧Ci.Nodup∧(∀ k∈Ci,k∈fp∨w0.heap.size≤k)∧AB fp w0 w
 head:w.heap[tb]?=some (C6 p0 n0)
theorem Has.only {w0 w w':World} {tb:Nat} {p0:Option Addr} {n0:Int} {fp:List Nat} {t:RB Int} {p:Option Addr} (h:Has w0 tb p0 n0 fp t p w) (ho:AB [] w w'):Has w0 tb p0 n0 fp t p w':=by
 obtain ⟨⟨Ci,h1,h2,h3,h4⟩,h5⟩:=h;exact ⟨⟨Ci,h1.keep ho (AM.nil w) (fun k _=>by simp),h2,h3,h4.step ho AA⟩,head_keep h5 ho (AM.nil w)⟩
theorem Has.next {w0 w w':World} {tb:Nat} {p0:Option Addr} {n0:Int} {fp D8:List Nat} {t t':RB Int} {p:Option Addr} {v:Value} (h1:Aj w t p D8) (h2:∀ k∈D8,k∈fp∨w0.heap.size≤k) (h3:AB fp w0 w) (h4:w.heap[tb]?=some (C6 p0 n0)) (k:Ck w D8 t' v w') :
 ∃ p',v = .pointer p'∧Has w0 tb p0 n0 fp t' p' w':=by
 obtain ⟨p',Ci,rfl,k1,k2,k3,k4⟩:=k;refine ⟨p',rfl,⟨Ci,k1,k2,fun i hi=>?_,h3.step k4 h2⟩,head_keep h4 k4 h1.nodes⟩;have:=h3.size;rcases k3 i hi with h | h
 ·exact h2 i h
 ·exact .inr om
theorem JB (l:RB Int) (x:Int) (r:RB Int) (c:Bool):∃ l' x' r' c',RB.Db (.node l x r c) = .node l' x' r' c':=by
 unfold RB.Db;cases r with
 | nil=>exact ⟨_,_,_,_,rfl⟩
 | node rl y rr d =>
   cases d <;> cases h:l.red <;> simp only [RB.BE,RB.Av,RB.BS,h,aDk,Bool.not_false,Bool.and_true,aDw,Bool.and_self,cond_true,cond_false,RB.G7] <;> exact ⟨_,_,_,_,rfl⟩
theorem JC (l:RB Int) (x:Int) (r:RB Int) (c:Bool):∃ l' x' r' c',RB.EK (.node l x r c) = .node l' x' r' c':=by
 unfold RB.EK;cases l with
 | nil=>exact ⟨_,_,_,_,rfl⟩
 | node rl y rr d =>
   cases d <;> cases h:rl.red <;> simp only [RB.BE,RB.Av,RB.BS,h,aDk,Bool.not_false,Bool.and_true,aDw,Bool.and_self,cond_true,cond_false,RB.DD] <;> exact ⟨_,_,_,_,rfl⟩
theorem GV (tb:Nat) (p0:Option Addr) (n0:Int) (l:RB Int) (x:Int) (r:RB Int) (c:Bool) (p:Option Addr) (fp:List Nat) (w0:World) (hT:w0.heap[tb]?=some (C6 p0 n0)) (h:Cc w0 l x r c p fp) (hnd:fp.Nodup) (hlen:(l.list ++ x :: r.list).length≤1000000) :
 AO prog 310 #[.pointer (some ⟨tb,0,none⟩),.pointer p] w0 fun v w'=>Ck w0 fp (RB.mend (.node l x r c)) v w':=by
 have hs:=St.nil w0;refine AS func310 ntmps310 ?_;refine Ja ?_;clear hs;refine cl (h:=by exact EO tb p0 n0 l x r c _ _ _ hT h hnd hlen) ?_;rintro v w1 ⟨Bo,AL⟩;have hH:Has w0 tb p0 n0 fp (.node l x r c) p w1:=⟨⟨fp,Bo,hnd,fun k hk => .inl hk,AL⟩,head_keep hT AL h.nodes⟩;clear Bo AL;refine XS.nil ?_;refine Dw ?_;refine Ah ?_;refine Ah ?_
 refine B9 (fun _:Unit=>[(0,.pointer (some ⟨tb,0,none⟩)),(1,.pointer p),(4,.pointer none),(20,.bool (r.red && !l.red))]) (fun _ w=>Has w0 tb p0 n0 fp (.node l x r c) p w) ?_ ?_
 ·obtain ⟨⟨D8,⟨b,av,pl,pr,fl,fr,rfl,rfl,hb,Ct,hl,hr⟩,J9,hsub,ho⟩,hd⟩:=hH;have hH:Has w0 tb p0 n0 fp (.node l x r c) (some ⟨b,0,none⟩) w1:=⟨⟨_,⟨b,av,pl,pr,fl,fr,rfl,rfl,hb,Ct,hl,hr⟩,J9,hsub,ho⟩,hd⟩;have hs:=(St.nil w1).AH hb AA;refine Jk ?_;have AN:AB [] w1 _:=hs.AD [] (by simp [hb]) sD;refine AZ hs (h:=by exact Bg r pr fr _ (hr.keep AN (AM.nil _) AA)) ?_;intro w' ho hs;generalize hq:r.red=q;cases q
  ·refine Jj ?_;exact AQ () Ad (hH.only (hs.AD [] (by simp [hb]) sD))
  ·refine Jf ?_;have AN:AB [] w1 _:=hs.AD [] (by simp [hb]) sD;refine AZ hs (h:=by exact Bg l pl fl _ (hl.keep AN (AM.nil _) AA)) ?_;intro w' ho hs;generalize Gs:l.red=q2;refine Jc ?_;exact AQ () Ad (hH.only (hs.AD [] (by simp [hb]) sD))
 clear hH;rintro _ env w hH;refine B9 (fun s:Option Addr=>[(0,.pointer (some ⟨tb,0,none⟩)),(1,.pointer s),(4,.pointer none)]) (fun s w=>Has w0 tb p0 n0 fp (RB.Db (.node l x r c)) s w) ?_ ?_
 ·generalize hq:(r.red && !l.red)=q;cases q
  ·refine Jg ?_;refine AQ p Ad ?_;unfold RB.Db;rw [RB.BE,RB.Av,hq];exact hH
  ·obtain ⟨⟨D8,h1,h2,h3,h4⟩,h5⟩:=hH;simp only [aDB,aDf] at hq;obtain ⟨rl,y,rr,rfl⟩:=RB.Bt hq.1;have hs:=St.nil w;refine Ji ?_;refine cl (h:=by exact Kn tb p0 n0 l x rl y rr c true _ _ _ h5 h1.MJ h2 hlen) ?_;rintro v w' hv;obtain ⟨p',rfl,hH⟩:=Has.next h1 h3 h4 h5 hv
   have hs:=St.nil w';refine Jc ?_;refine AQ p' Ad ?_;unfold RB.Db;rw [RB.BE,RB.Av,RB.BS,hq.2];exact hH
 obtain ⟨l1,x1,r1,c1,e1⟩:=JB l x r c
 have aO:(l1.list ++ x1 :: r1.list).length≤1000000:=by
  have h1:(RB.Db (.node l x r c)).list=l.list ++ x :: r.list:=by
   unfold RB.Db;cases (RB.red _ && _) <;> simp only [cond_true,cond_false,RB.KB,RB.list]
  rw [e1] at h1;rw [← h1] at hlen;exact hlen
 rintro p1 env w hH;rw [e1] at hH;refine Ah ?_;refine Ah ?_;refine B9 (fun _:Unit=>[(0,.pointer (some ⟨tb,0,none⟩)),(1,.pointer p1),(4,.pointer none),(38,.bool (l1.red && l1.left.red))]) (fun _ w=>Has w0 tb p0 n0 fp (.node l1 x1 r1 c1) p1 w) ?_ ?_
 ·obtain ⟨⟨D8,⟨b,av,pl,pr,fl,fr,rfl,rfl,hb,Ct,hl,hr⟩,J9,hsub,ho⟩,hd⟩:=hH;have hH:Has w0 tb p0 n0 fp (.node l1 x1 r1 c1) (some ⟨b,0,none⟩) w:=⟨⟨_,⟨b,av,pl,pr,fl,fr,rfl,rfl,hb,Ct,hl,hr⟩,J9,hsub,ho⟩,hd⟩;cases hq:l1.red
  ·have hs:=(St.nil w).AH hb AA;refine Jk ?_;have AN:AB [] w _:=hs.AD [] (by simp [hb]) sD;refine AZ hs (h:=by exact Bg l1 pl fl _ (hl.keep AN (AM.nil _) AA)) ?_;intro w' ho hs;rw [hq];refine Jj ?_;exact AQ () Ad (hH.only (hs.AD [] (by simp [hb]) sD))
  ·obtain ⟨ll,y,lr,rfl⟩:=RB.Bt hq;have hl0:=hl;obtain ⟨u,JZ,UE,Q3,fll,flr,rfl,rfl,hu,Ms,GF,hlr⟩:=hl
   have Sm:u≠b:=fun e=>by
    subst e;simp at J9
   have hs:=((St.nil w).AH hb AA).AH hu (by simpa using Sm);refine Jk ?_;have AN:AB [] w _:=hs.AD [] (by simp [hb,hu]) sD;refine AZ hs (h:=by exact Bg _ _ _ _ (hl0.keep AN (AM.nil _) AA)) ?_;intro w' ho hs;rw [hq];refine Jf ?_;have AN:AB [] w _:=hs.AD [] (by simp [hb,hu]) sD;refine AZ hs (h:=by exact Bg _ _ _ _ (GF.keep AN (AM.nil _) AA)) ?_;intro w' ho hs;rw [RB.Av];generalize Gs:ll.red=q2;refine Jc ?_;exact AQ () Ad (hH.only (hs.AD [] (by simp [hb,hu]) sD))
 clear hH;rintro _ env w hH;refine B9 (fun s:Option Addr=>[(0,.pointer (some ⟨tb,0,none⟩)),(1,.pointer s),(4,.pointer none)]) (fun s w=>Has w0 tb p0 n0 fp (RB.EK (.node l1 x1 r1 c1)) s w) ?_ ?_
 ·generalize hq:(l1.red && l1.left.red)=q;cases q
  ·refine Jg ?_;refine AQ p1 Ad ?_;unfold RB.EK;rw [RB.Av,hq];exact hH
  ·obtain ⟨⟨D8,h1,h2,h3,h4⟩,h5⟩:=hH;simp only [aDB] at hq;obtain ⟨ll,y,lr,rfl⟩:=RB.Bt hq.1;have hs:=St.nil w;refine Ji ?_;refine cl (h:=by exact Gf tb p0 n0 ll y lr x1 r1 c1 true _ _ _ h5 h1.MJ h2 (by simpa [RB.list] using aO)) ?_;rintro v w' hv;obtain ⟨p',rfl,hH⟩:=Has.next h1 h3 h4 h5 hv
   have hs:=St.nil w';refine Jc ?_;refine AQ p' Ad ?_;unfold RB.EK;rw [RB.Av,RB.BS,hq.2];exact hH
 obtain ⟨l2,x2,r2,c2,e2⟩:=JC l1 x1 r1 c1;rintro p2 env w hH;rw [e2] at hH;refine Ah ?_;refine Ah ?_;refine B9 (fun _:Unit=>[(0,.pointer (some ⟨tb,0,none⟩)),(1,.pointer p2),(4,.pointer none),(53,.bool (l2.red && r2.red))]) (fun _ w=>Has w0 tb p0 n0 fp (.node l2 x2 r2 c2) p2 w) ?_ ?_
 ·obtain ⟨⟨D8,⟨b,av,pl,pr,fl,fr,rfl,rfl,hb,Ct,hl,hr⟩,J9,hsub,ho⟩,hd⟩:=hH;have hH:Has w0 tb p0 n0 fp (.node l2 x2 r2 c2) (some ⟨b,0,none⟩) w:=⟨⟨_,⟨b,av,pl,pr,fl,fr,rfl,rfl,hb,Ct,hl,hr⟩,J9,hsub,ho⟩,hd⟩;have hs:=(St.nil w).AH hb AA;refine Jk ?_;have AN:AB [] w _:=hs.AD [] (by simp [hb]) sD;refine AZ hs (h:=by exact Bg l2 pl fl _ (hl.keep AN (AM.nil _) AA)) ?_;intro w' ho hs;generalize hq:l2.red=q;cases q
  ·refine Jj ?_;exact AQ () Ad (hH.only (hs.AD [] (by simp [hb]) sD))
  ·refine Jf ?_;have AN:AB [] w _:=hs.AD [] (by simp [hb]) sD;refine AZ hs (h:=by exact Bg r2 pr fr _ (hr.keep AN (AM.nil _) AA)) ?_;intro w' ho hs;generalize Gs:r2.red=q2;refine Jc ?_;exact AQ () Ad (hH.only (hs.AD [] (by simp [hb]) sD))
 clear hH;rintro _ env w hH;refine B9 (fun _:Unit=>[(0,.pointer (some ⟨tb,0,none⟩)),(1,.pointer p2),(4,.pointer none)]) (fun _ w=>Has w0 tb p0 n0 fp (RB.EH (.node l2 x2 r2 c2)) p2 w) ?_ ?_
 ·generalize hq:(l2.red && r2.red)=q;cases q
  ·refine Jg ?_;refine AQ () Ad ?_;unfold RB.EH;rw [RB.Av,RB.BE,hq];exact hH
  ·obtain ⟨⟨D8,h1,h2,h3,h4⟩,h5⟩:=hH;simp only [aDB] at hq;obtain ⟨ll,y,lr,rfl⟩:=RB.Bt hq.1;obtain ⟨rl,z,rr,rfl⟩:=RB.Bt hq.2;have hs:=St.nil w;refine Ji ?_;refine cl (h:=by exact GW ll y lr true x2 rl z rr true c2 p2 D8 _ h1 h2) ?_;rintro v w' ⟨k1,k2⟩;have hs:=St.nil w';refine Jb ?_;refine AQ () Ad ⟨⟨D8,k1,h2,h3,h4.step k2 h3⟩,head_keep h5 k2 h1.nodes⟩
 rintro _ env w hH;have e3:RB.EH (.node l2 x2 r2 c2)=RB.mend (.node l x r c):=by rw [← e2,← e1];rfl
 rw [e3] at hH;have hs:=St.nil w;obtain ⟨⟨D8,h1,h2,h3,h4⟩,h5⟩:=hH;refine Ja ?_;refine AG ?_;exact ⟨_,D8,rfl,h1,h2,h3,h4.step (hs.AE rfl) AA⟩
theorem Ck.up {w0 w2 w3:World} {fp EF:List Nat} {t:RB Int} {v:Value} (k:Ck w2 EF t v w3) (ho:AB fp w0 w2) (hs:∀ k∈EF,k∈fp∨w0.heap.size≤k):Ck w0 fp t v w3:=by
 obtain ⟨p',Ci,rfl,k1,k2,k3,k4⟩:=k;refine ⟨p',Ci,rfl,k1,k2,fun i hi=>?_,ho.step k4 hs⟩;have:=ho.size;rcases k3 i hi with h | h
 ·exact hs i h
 ·exact .inr om
theorem PJ {w w' w2:World} {b:Nat} {y y2:Int} {av Og:Value} {pl pr p':Option Addr} {c c2:Bool} {fl fr:List Nat} {r l':RB Int} (hb:w.heap[b]?=some (ET y av pl pr c)) (hl:AM w fl) (hr:Aj w r pr fr) (hnd:(b :: (fl ++ fr)).Nodup)
 (k:Ck w fl l' (.pointer p') w') (ho:AB [b] w' w2) (Ds:w2.heap[b]?=some (ET y2 Og p' pr c2)) :
 ∃ EF,Cc w2 l' y2 r c2 (some ⟨b,0,none⟩) EF∧EF.Nodup∧(∀ i∈EF,i∈b :: (fl ++ fr)∨w.heap.size≤i)∧AB (b :: (fl ++ fr)) w w2:=by
 obtain ⟨p,Ci,e,k1,k2,k3,k4⟩:=k;obtain rfl:p'=p:=by injection e
 have OX:=lt_of_block hb;have wQ:=hr.nodes.lt;simp only [aC6,aDG,aC4] at hnd;obtain ⟨d1,d2,d3,d4⟩:=hnd
 have e1:b∉Ci:=fun hm=>by
  rcases k3 b hm with h | h
  ·exact d1 (.inl h)
  ·omega
 have e2:∀ i∈fr,i∉fl:=fun i hi hm=>d4 i hm i hi rfl;have CE:=k4.block hb (fun h=>d1 (.inl h));have hN:AM w' [b]:=AM.cons CE (AM.nil w');refine ⟨b :: (Ci ++ fr),⟨b,Og,p',pr,Ci,fr,rfl,rfl,Ds,k1.keep ho hN (fun i hi hm=>?_),(hr.keep k4 hl e2).keep ho hN (fun i hi hm=>?_)⟩,?_,?_,?_⟩
 ·obtain rfl:=List.mem_singleton.1 hm;exact e1 hi
 ·obtain rfl:=List.mem_singleton.1 hm;exact d1 (.inr hi)
 ·simp only [aC6,aDG,aC4];refine ⟨fun h=>?_,k2,d3,fun i hi j hj hij=>?_⟩
  ·rcases h with h | h
   ·exact e1 h
   ·exact d1 (.inr h)
  ·subst hij;rcases k3 i hi with h | h
   ·exact d4 i h i hj rfl
   ·have:=wQ i hj;omega
 ·intro i hi;rcases aCu.1 hi with rfl | hi
  ·exact .inl aCw
  ·rcases aC4.1 hi with hi | hi
   ·rcases k3 i hi with h | h
    ·exact .inl (aCy _ (aDC _ h))
    ·exact .inr h
   ·exact .inl (aCy _ (aDE _ hi))
 ·exact (k4.weaken (fun i hi=>aCy _ (aDC _ hi))).step ho (fun i hi => .inl (by obtain rfl:=List.mem_singleton.1 hi;exact aCw))
theorem NG {w w' w2:World} {b:Nat} {y y2:Int} {av Og:Value} {pl pr p':Option Addr} {c c2:Bool} {fl fr:List Nat} {l r':RB Int} (hb:w.heap[b]?=some (ET y av pl pr c)) (hl:Aj w l pl fl) (hr:AM w fr) (hnd:(b :: (fl ++ fr)).Nodup)
 (k:Ck w fr r' (.pointer p') w') (ho:AB [b] w' w2) (Ds:w2.heap[b]?=some (ET y2 Og pl p' c2)) :
 ∃ EF,Cc w2 l y2 r' c2 (some ⟨b,0,none⟩) EF∧EF.Nodup∧(∀ i∈EF,i∈b :: (fl ++ fr)∨w.heap.size≤i)∧AB (b :: (fl ++ fr)) w w2:=by
 obtain ⟨p,Ci,e,k1,k2,k3,k4⟩:=k;obtain rfl:p'=p:=by injection e
 have OX:=lt_of_block hb;have hls:=hl.nodes.lt;simp only [aC6,aDG,aC4] at hnd;obtain ⟨d1,d2,d3,d4⟩:=hnd
 have e1:b∉Ci:=fun hm=>by
  rcases k3 b hm with h | h
  ·exact d1 (.inr h)
  ·omega
 have e2:∀ i∈fl,i∉fr:=fun i hi hm=>d4 i hi i hm rfl;have CE:=k4.block hb (fun h=>d1 (.inr h));have hN:AM w' [b]:=AM.cons CE (AM.nil w');refine ⟨b :: (fl ++ Ci),⟨b,Og,pl,p',fl,Ci,rfl,rfl,Ds,(hl.keep k4 hr e2).keep ho hN (fun i hi hm=>?_),k1.keep ho hN (fun i hi hm=>?_)⟩,?_,?_,?_⟩
 ·obtain rfl:=List.mem_singleton.1 hm;exact d1 (.inl hi)
 ·obtain rfl:=List.mem_singleton.1 hm;exact e1 hi
 ·simp only [aC6,aDG,aC4];refine ⟨fun h=>?_,d2,k2,fun i hi j hj hij=>?_⟩
  ·rcases h with h | h
   ·exact d1 (.inl h)
   ·exact e1 h
  ·subst hij;rcases k3 i hj with h | h
   ·exact d4 i hi i h rfl
   ·have:=hls i hi;omega
 ·intro i hi;rcases aCu.1 hi with rfl | hi
  ·exact .inl aCw
  ·rcases aC4.1 hi with hi | hi
   ·exact .inl (aCy _ (aDC _ hi))
   ·rcases k3 i hi with h | h
    ·exact .inl (aCy _ (aDE _ h))
    ·exact .inr h
 ·exact (k4.weaken (fun i hi=>aCy _ (aDE _ hi))).step ho (fun i hi => .inl (by obtain rfl:=List.mem_singleton.1 hi;exact aCw))
def HM (a b:Int):Bool:=decide (a < b)
theorem FF (x:Int):∀ t:RB Int,(RB.ins HM t x).list.length=t.list.length+1
 | .nil=>rfl
 | .node l y r c=>by
   simp only [RB.ins];cases HM x y
   ·rw [cond_false,RB.DK];simp only [RB.list,aCv,aCx,FF x r];omega
   ·rw [cond_true,RB.DK];simp only [RB.list,aCv,aCx,FF x l];omega
theorem GU (tb:Nat) (p0:Option Addr) (n0:Int) (x:Int):∀ (t:RB Int) (p:Option Addr) (fp:List Nat) (w0:World) (hT:w0.heap[tb]?=some (C6 p0 n0)) (h:Aj w0 t p fp) (hnd:fp.Nodup) (hlen:t.list.length+1≤1000000),
 AO prog 303 #[.pointer (some ⟨tb,0,none⟩),.pointer p,.int .i64 x] w0 fun v w'=>Ck w0 fp (RB.ins HM t x) v w'
 | .nil,p,fp,w0,hT,⟨hp,hf⟩,hnd,hlen=>by
   subst hp hf;have hs:=(St.nil w0).AH hT AA;refine AS func303 ntmps303 ?_;refine Je ?_;refine cl (h:=by exact NH x _) ?_;rintro v w' ⟨h1,ho⟩;replace hs:=hs.AP ho;obtain ⟨qW,rW,rfl,_⟩:=id h1;obtain ⟨R1,hs,h1⟩:=(h1).read hs rfl;refine vs ?_;refine bx hs ?_;intro b w hz hs;refine Jc ?_;refine AG ?_;have hd:=(h1 _ (fun e he=>hs.ro e (by simp [he])));have ho:AB [] w0 _:=hs.AD [] (by simp [hT]) sD;have hnew:=hs.new (b,true) AA rfl;exact ⟨_,[b],rfl,⟨b,_,none,none,[],[],rfl,rfl,hs.get At.head,hd,⟨rfl,rfl⟩,⟨rfl,rfl⟩⟩,by simp,fun k hk => .inr (by obtain rfl:=List.mem_singleton.1 hk;exact hnew),ho⟩
 | .node l y r c,p,fp,w0,hT,⟨b,av,pl,pr,fl,fr,hp,hf,hb,Ct,hl,hr⟩,hnd,hlen=>by
   subst hp hf;have Dq:=C7 hT hb;have hs:=((St.nil w0).AH hT AA).AH hb (by simpa using Dq);simp only [RB.list,aCv,aCx] at hlen;refine AS func303 ntmps303 ?_;refine Jd ?_;refine dr [] hs ?_;intro hX w hs;refine tks 0 9 ?_;refine dt 9 hX ?_;refine AZ hs (h:=by exact R5 x y _) ?_;intro w' ho hs;refine Jn ?_;refine tk 10 hX ?_;refine en ?_;generalize hq:decide (x < y)=q;cases q
   ·have e:RB.ins HM (.node l y r c) x=RB.mend (.node l y (RB.ins HM r x) c):=by simp [RB.ins,HM,hq]
    rw [e];refine Jd ?_;have AL:AB [] w0 _:=hs.AD [] (by simp [hT,hb]) sD;have CL:=head_keep hT AL (AM.nil _);have Ei:=hl.keep AL (AM.nil _) AA;have hrw:=hr.keep AL (AM.nil _) AA;have Bv:=hs.get At.head;refine cl (h:=by exact GU tb p0 n0 x r pr fr _ CL hrw (by simp only [aC6,aDG] at hnd;exact hnd.2.2.1) om) (k:=?_);rintro v w' hk;obtain ⟨p',hv⟩:∃ p',v = .pointer p':=by obtain ⟨p',_,hv,_⟩:=hk;exact ⟨p',hv⟩
    subst hv;obtain ⟨_,_,_,_,_,_,k4⟩:=id hk;have Bo:=head_keep CL k4 hrw.nodes;have CE:=k4.block Bv (fun h=>by simp [h] at hnd);clear hs;have hs:=((St.nil w').AH Bo AA).AH CE (by simpa using Dq)
    repeat' (first|refine Sa ?_|(refine st hs ?_;intro w hs)|fail)
    have AU:AB [b] w' _:=hs.AD [b] (by simp [Bo]) sD;obtain ⟨EF,s1,s2,s3,s4⟩:=NG Bv Ei hrw.nodes hnd hk AU (hs.get At.head);refine cl (h:=by exact GV tb p0 n0 _ y _ c _ _ _ (head_keep Bo AU (AM.cons CE (AM.nil _))) s1 s2 (by simp only [aCv,aCx,FF];omega)) (k:=?_);rintro v w3 hm;have hsz:=AL.size;have hm2:=hm.up ((AL.weaken (G:=b :: (fl ++ fr)) AA).step s4 (fun k hk => .inl hk)) (fun k hk=>by rcases s3 k hk with h | h;exact .inl h;exact .inr om);have hs:=St.nil w3;refine Jc ?_;refine AG ?_;exact hm2
   ·have e:RB.ins HM (.node l y r c) x=RB.mend (.node (RB.ins HM l x) y r c):=by simp [RB.ins,HM,hq]
    rw [e];refine Je ?_;have AL:AB [] w0 _:=hs.AD [] (by simp [hT,hb]) sD;have CL:=head_keep hT AL (AM.nil _);have Ei:=hl.keep AL (AM.nil _) AA;have hrw:=hr.keep AL (AM.nil _) AA;have Bv:=hs.get At.head;refine cl (h:=by exact GU tb p0 n0 x l pl fl _ CL Ei (by simp only [aC6,aDG] at hnd;exact hnd.2.1) om) (k:=?_);rintro v w' hk;obtain ⟨p',hv⟩:∃ p',v = .pointer p':=by obtain ⟨p',_,hv,_⟩:=hk;exact ⟨p',hv⟩
    subst hv;obtain ⟨_,_,_,_,_,_,k4⟩:=id hk;have Bo:=head_keep CL k4 Ei.nodes;have CE:=k4.block Bv (fun h=>by simp [h] at hnd);clear hs;have hs:=((St.nil w').AH Bo AA).AH CE (by simpa using Dq)
    repeat' (first|refine Sa ?_|(refine st hs ?_;intro w hs)|fail)
    have AU:AB [b] w' _:=hs.AD [b] (by simp [Bo]) sD;obtain ⟨EF,s1,s2,s3,s4⟩:=PJ Bv Ei.nodes hrw hnd hk AU (hs.get At.head);refine cl (h:=by exact GV tb p0 n0 _ y _ c _ _ _ (head_keep Bo AU (AM.cons CE (AM.nil _))) s1 s2 (by simp only [aCv,aCx,FF];omega)) (k:=?_);rintro v w3 hm;have hsz:=AL.size;have hm2:=hm.up ((AL.weaken (G:=b :: (fl ++ fr)) AA).step s4 (fun k hk => .inl hk)) (fun k hk=>by rcases s3 k hk with h | h;exact .inl h;exact .inr om);have hs:=St.nil w3;refine Jc ?_;refine AG ?_;exact hm2
def RB.has {α:Type} (lt:α→α→Bool) (x:α):RB α→Bool
 | .nil=>false
 | .node l y r _=>bif lt x y then RB.has lt x l else bif lt y x then RB.has lt x r else true
theorem RB.PX {α:Type} {lt:α→α→Bool} {S:α→Prop} (ho:Cw lt S) {x:α} (hx:S x):∀ t:RB α,RB.Ki lt t.list→(∀ z∈t.list,S z)→(RB.has lt x t=true↔x∈t.list)
 | .nil,_,_=>by simp [RB.has,RB.list]
 | .node l y r c,hs,hS=>by
   obtain ⟨h1,h2,h3,h4,h5⟩:=RB.I1 hs;simp only [RB.list,aC4,aCu] at hS;have hl:=RB.PX ho hx l h1 fun z hz=>hS z (.inl hz);have hr:=RB.PX ho hx r h2 fun z hz=>hS z (.inr (.inr hz));have hy:=hS y (.inr (.inl rfl));simp only [RB.has,RB.list,aC4,aCu];cases hxy:lt x y
   ·cases Lh:lt y x
    ·simp only [cond_false,true_iff];exact .inr (.inl (ho.tri x y hx hy hxy Lh))
    ·simp only [cond_false,cond_true,hr];constructor
     ·exact fun h => .inr (.inr h)
     ·rintro (h | rfl | h)
      ·have:=RB.asym ho hx hy (h3 x h);rw [Lh] at this;cases this
      ·rw [ho.irr _ hx] at Lh;cases Lh
      ·exact h
   ·simp only [cond_true,hl];constructor
    ·exact .inl
    ·rintro (h | rfl | h)
     ·exact h
     ·rw [ho.irr _ hx] at hxy;cases hxy
     ·have:=RB.asym ho hy hx (h4 x h);rw [hxy] at this;cases this
theorem Pa (tb:Nat) (p:Option Addr) (n:Int) (t:RB Int) (fp:List Nat) (x:Int) (w0:World) (hT:w0.heap[tb]?=some (C6 p n)) (h:Aj w0 t p fp) :
 AO prog 302 #[.pointer (some ⟨tb,0,none⟩),.int .i64 x] w0 fun v w'=>v = .bool (RB.has HM x t)∧AB [] w0 w':=by
 have hs:=(St.nil w0).AH hT AA;refine AS func302 ntmps302 ?_;refine Jd ?_;have AL:AB [] w0 _:=hs.AD [] (by simp [hT]) sD;refine BM (fun _:Unit=>[]) (fun _ w=>RB.has HM x t=false∧AB [] w0 w) ?_ ?_
 ·refine BH (fun (s:RB Int × Option Addr)=>[(0,.pointer (some ⟨tb,0,none⟩)),(1,.int .i64 x),(5,.pointer s.2)])
   (fun s w=>RB.has HM x s.1=RB.has HM x t∧AB [] w0 w∧∃ fp,Aj w0 s.1 s.2 fp)
   (fun s=>s.1.list.length) (t,p) Ad ⟨rfl,AL,fp,h⟩ fun s env w ⟨h1,h2,EF,h3⟩=>?_
  clear hs;obtain ⟨s,ps⟩:=s;dsimp only at h1 h3 ⊢;have CL:=h2.block hT AA;cases s with
  | nil =>
    obtain ⟨rfl,rfl⟩:=h3;have hs:=St.nil w;refine Jd ?_;exact Au () Ad ⟨h1.symm,h2.step (hs.AE rfl) AA⟩
  | node l y r c =>
    obtain ⟨b,av,pl,pr,fl,fr,rfl,rfl,hb,Ct,hl,hr⟩:=h3;have Bv:=h2.block hb AA;have Dq:=C7 hT hb;have hs:=((St.nil w).AH CL AA).AH Bv (by simpa using Dq);refine Je ?_;refine dr [] hs ?_;intro hX w hs;refine tks 0 9 ?_;refine dt 9 hX ?_;refine AZ hs (h:=by exact R5 x y _) ?_;intro w' ho hs;refine Jn ?_;refine tk 10 hX ?_;refine en ?_;generalize hq:decide (x < y)=q;simp only [RB.has,HM,hq] at h1;cases q
    ·refine Jg ?_;refine dr [] hs ?_;intro hX w hs;refine tks 0 9 ?_;refine dt 9 hX ?_;refine AZ hs (h:=by exact R5 y x _) ?_;intro w' ho hs;refine Jn ?_;refine tk 10 hX ?_;refine en ?_;generalize Gs:decide (y < x)=q2;simp only [Gs,cond_false] at h1;cases q2
     ·refine Jd ?_;refine AG ?_;exact ⟨by rw [← h1];rfl,h2.step (hs.AD [] (by simp [CL,Bv]) sD) AA⟩
     ·refine Je ?_;exact A2 (r,pr) (by simp only [RB.list,aCv,aCx];omega) Ad ⟨h1,h2.step (hs.AD [] (by simp [CL,Bv]) sD) AA,_,hr⟩
    ·refine Je ?_;exact A2 (l,pl) (by simp only [RB.list,aCv,aCx];omega) Ad ⟨h1,h2.step (hs.AD [] (by simp [CL,Bv]) sD) AA,_,hl⟩
 ·rintro _ env w ⟨h1,h2⟩;clear hs;have hs:=St.nil w;refine Ja ?_;refine AG ?_;exact ⟨by rw [h1];rfl,h2.step (hs.AE rfl) AA⟩
theorem NV (l:RB Int) (x:Int) (r:RB Int) (c:Bool):∃ l' x' r' c',RB.EH (.node l x r c) = .node l' x' r' c':=by
 unfold RB.EH;cases l with
 | nil=>exact ⟨_,_,_,_,rfl⟩
 | node a y b d =>
   cases r with
   | nil=>cases d <;> exact ⟨_,_,_,_,rfl⟩
   | node u z v e=>cases d <;> cases e <;> exact ⟨_,_,_,_,rfl⟩
theorem KK (l:RB Int) (x:Int) (r:RB Int) (c:Bool):∃ l' x' r' c',RB.mend (.node l x r c) = .node l' x' r' c':=by
 unfold RB.mend;obtain ⟨l1,x1,r1,c1,e1⟩:=JB l x r c;obtain ⟨l2,x2,r2,c2,e2⟩:=JC l1 x1 r1 c1;rw [e1,e2];exact NV l2 x2 r2 c2
theorem Qq (x:Int) (t:RB Int):∃ l' x' r' c',RB.ins HM t x = .node l' x' r' c':=by
 cases t with
 | nil=>exact ⟨_,_,_,_,rfl⟩
 | node l y r c =>
   simp only [RB.ins];cases HM x y
   ·exact KK _ _ _ _
   ·exact KK _ _ _ _
theorem Aj.cZ {w w':World} {F:List Nat} (ho:AB F w w') (hF:∀ b∈F,∀ cs fz,w.heap[b]?≠some (.cells cs 3 fz)):∀ {t:RB Int} {p:Option Addr} {fp:List Nat},Aj w t p fp→(∀ b∈fp,b∉F)→Aj w' t p fp
 | .nil,p,fp,h,_=>h
 | .node l x r c,p,fp,⟨b,av,pl,pr,fl,fr,h1,h2,h3,h4,h5,h6⟩,hd=>by
   subst h2
   refine ⟨b,av,pl,pr,fl,fr,h1,rfl,ho.block h3 (hd b aCw),?_,Aj.cZ ho hF h5 fun k hk=>hd k (aCy _ (aDC _ hk)),
    Aj.cZ ho hF h6 fun k hk=>hd k (aCy _ (aDE _ hk))⟩
   obtain ⟨ad,cap,rfl,sJ⟩:=h4;refine ⟨ad,cap,rfl,fun hn=>?_⟩;obtain ⟨bb,off,cs,fz,g1,g2,g3,g4⟩:=sJ hn;exact ⟨bb,off,cs,fz,g1,g2,ho.block g3 (fun hm=>hF bb hm _ _ g3),g4⟩
theorem GQ {w w':World} {b tb:Nat} {t:RB Int} {p p0:Option Addr} {n0:Int} {fp:List Nat} {cs:Array Value} {fz:Nat × Nat} (h:Aj w t p fp) (ho:AB [b,tb] w w') (hb:w.heap[b]?=some (.cells cs 325 fz)) (hT:w.heap[tb]?=some (C6 p0 n0)) (h1:b∉fp) (h2:tb∉fp):Aj w' t p fp:=by
 refine h.cZ ho (fun k hk cs fz e=>?_) (fun k hk hm=>?_)
 ·simp only [aCu,aC1,or_false] at hk;rcases hk with rfl | rfl
  ·rw [hb] at e;cases e
  ·rw [hT] at e;cases e
 ·simp only [aCu,aC1,or_false] at hm;rcases hm with rfl | rfl
  ·exact h1 hk
  ·exact h2 hk
def Cb (w:World) (tb:Nat) (t:RB Int) (F:List Nat):Prop:=∃ p fp,F=tb :: fp∧w.heap[tb]?=some (C6 p t.list.length)∧Aj w t p fp∧fp.Nodup
def RB.insert (t:RB Int) (x:Int):RB Int:=bif RB.has HM x t then t else RB.blacken (RB.ins HM t x)
theorem Fx (tb:Nat) (t:RB Int) (F:List Nat) (x:Int) (w0:World) (h:Cb w0 tb t F) (hlen:t.list.length+1≤1000000) :
 AO prog 290 #[.pointer (some ⟨tb,0,none⟩),.int .i64 x] w0 fun v w'=>v = .bool (!RB.has HM x t)∧∃ F',Cb w' tb (RB.insert t x) F'∧(∀ k∈F',k∈F∨w0.heap.size≤k)∧AB F w0 w':=by
 obtain ⟨p,fp,rfl,hT,ht,hnd⟩:=h;have hs:=(St.nil w0).AH hT AA;refine AS func290 ntmps290 ?_;refine Ja ?_;have AL:AB [] w0 _:=hs.AD [] (by simp [hT]) sD;refine AZ hs (h:=by exact Pa tb p _ t fp x _ (hs.get At.head) (ht.keep AL (AM.nil _) AA)) ?_;intro w' ho hs;unfold RB.insert;generalize hq:RB.has HM x t=q;cases q
 ·refine Jd ?_;have AL:AB [] w0 _:=hs.AD [] (by simp [hT]) sD;have CL:=hs.get At.head;refine cl (h:=by exact GU tb p _ x t p fp _ CL (ht.keep AL (AM.nil _) AA) hnd hlen) ?_;rintro v w1 ⟨p',Ci,rfl,k1,k2,k3,k4⟩;have Bo:=head_keep CL k4 (ht.keep AL (AM.nil _) AA).nodes;obtain ⟨l',y,r',c,e⟩:=Qq x t;have hl':=FF x t;rw [e] at k1 hl' ⊢;obtain ⟨b,av,pl,pr,fl,fr,rfl,rfl,hb,Ct,hl,hr⟩:=k1;have Dq:=C7 Bo hb;clear hs;have hs:=((St.nil w1).AH Bo AA).AH hb (by simpa using Dq)
  repeat' (first|refine Sa ?_|(refine st hs ?_;intro w hs)|fail)
  have en:IntKind.i64.wrap ((t.list.length:Nat)+1)=((l'.list ++ y :: r'.list).length:Nat):=by
   have h1:(l'.list ++ y :: r'.list).length=t.list.length+1:=hl';rw [h1];exact KI om om
  rw [en] at hs;refine AG ?_;have AU:AB [b,tb] w1 _:=hs.AD [b,tb] AA sD;have hsz:=AL.size
  have OC:b∉fl∧b∉fr:=by
   simp only [aC6,aC4,not_or] at k2;exact k2.1
  have Ub:tb∉fl∧tb∉fr:=⟨(fun h=>by obtain ⟨_,_,h⟩:=hl.nodes tb h;rw [Bo] at h;cases h),(fun h=>by obtain ⟨_,_,h⟩:=hr.nodes tb h;rw [Bo] at h;cases h)⟩;have h2:=hs.get At.head;have h3:=hs.get (At.tail At.head);have o1:AB (tb :: fp) w0 w1:=(AL.weaken AA).step k4 (fun k hk => .inl (aCy _ hk));refine ⟨rfl,tb :: (b :: (fl ++ fr)),⟨_,_,rfl,h3,⟨b,av,pl,pr,fl,fr,rfl,rfl,h2,?_,?_,?_⟩,k2⟩,?_,?_⟩
  ·obtain ⟨ad,cap,rfl,hd⟩:=Ct;refine ⟨ad,cap,rfl,fun hn=>?_⟩;obtain ⟨bb,off,cs,fz,g1,g2,g3,g4⟩:=hd hn;refine ⟨bb,off,cs,fz,g1,g2,AU.block g3 (fun hm=>?_),g4⟩;simp only [aCu,aC1,or_false] at hm;rcases hm with rfl | rfl
   ·rw [hb] at g3;cases g3
   ·rw [Bo] at g3;cases g3
  ·exact GQ hl AU hb Bo OC.1 Ub.1
  ·exact GQ hr AU hb Bo OC.2 Ub.2
  ·intro k hk;rcases aCu.1 hk with rfl | hk
   ·exact .inl aCw
   ·rcases k3 k hk with h | h
    ·exact .inl (aCy _ h)
    ·exact .inr om
  ·refine o1.step AU (fun k hk=>?_);simp only [aCu,aC1,or_false] at hk;rcases hk with rfl | rfl
   ·rcases k3 k aCw with h | h
    ·exact .inl (aCy _ h)
    ·exact .inr om
   ·exact .inl aCw
 ·refine Je ?_;refine AG ?_;have AL:AB [] w0 _:=hs.AD [] (by simp [hT]) sD;exact ⟨rfl,_,⟨p,fp,rfl,hs.get At.head,ht.keep AL (AM.nil _) AA,hnd⟩,fun k hk => .inl hk,AL.weaken AA⟩
def places (l:List It):List Pt:=l.map It.p
def Dg (l:List It):List Pt:=l.flatMap fun a=>[a.p,a.d]
def spr (base:Int) (l:List It):Int:=(I3 (sinces base (Dg l)) - IX (sinces base (places l))) % 18446744073709551616
def Ip (ps:List Pt):List Value:=(ps.map Pt.cells).flatten
theorem PC (a b:List Pt):Ip (a ++ b)=Ip a ++ Ip b:=by simp [Ip]
def qI (w0 w:World) (v1 v2:Value) (a b:List Pt):Prop:=∃ G1 G2,B6 w 62 3 v1 a.length (Ip a) G1∧B6 w 62 3 v2 b.length (Ip b) G2∧(∀ k∈G1,w0.heap.size≤k∧k∉G2)∧(∀ k∈G2,w0.heap.size≤k)
theorem OQ (a:List Pt):∀ x∈a.map Pt.cells,x.length=3:=fun x hx=>by obtain ⟨p,_,rfl⟩:=List.mem_map.1 hx;rfl
theorem RF:∀ l:List It,(Dg l).length=2*l.length
 | []=>rfl
 | a :: l=>by have:=RF l;simp only [Dg,List.flatMap_cons,aCv,aCx,aDA] at *;omega
theorem Ru (base:Int) (l:List It) (sl:Value) (hm:l.length≤1000000) (w0:World) (hP:JU w0 sl l) :
 AO prog 219 #[.int .u64 base,sl] w0 fun v w'=>v = .int .u64 (spr base l)∧AB [] w0 w':=by
 obtain ⟨ad,cap,rfl,hD⟩:=hP;rw [aC0] at *;have hs:=St.nil w0;refine AS func219 ntmps219 ?_;refine Ja ?_;refine BM (fun (s:Value × Value)=>[(0,.int .u64 base),(5,s.1),(6,s.2)]) (fun s w=>AB [] w0 w∧qI w0 w s.1 s.2 (places l) (Dg l)) ?_ ?_
 ·refine BH (fun (s:Nat × Value × Value)=>[(0,.int .u64 base),(5,s.2.1),(6,s.2.2),(13,.slice ad l.length cap),(14,.int .i64 (l.length:Nat)),(15,.int .i64 (s.1:Nat))])
   (fun s w=>s.1≤l.length∧AB [] w0 w∧qI w0 w s.2.1 s.2.2 (places (l.take s.1)) (Dg (l.take s.1))) (fun s=>l.length - s.1) (0,.slice none 0 0,.slice none 0 0) Ad ⟨aC7 _,hs.AE rfl,[],[],.inl ⟨rfl,rfl,rfl,rfl⟩,.inl ⟨rfl,rfl,rfl,rfl⟩,by simp,by simp⟩ fun s env wl ⟨hi,BP,hT⟩=>?_
  obtain ⟨i,v5,v6⟩:=s;simp only at hi hT;clear hs;have hs:=St.nil wl
  repeat' (first|refine Sa ?_|refine Aw rfl (fun hc=>?_) fun hc=>?_|fail)
  ·have hlt:i < l.length:=by omega
   obtain ⟨b,off,cs,fz,rfl,_,hb,hcs⟩:=hD (fun h=>by simp at h;subst h;cases hlt);have hpk:=hcs i (It.cells l[i]) (by rw [aC8,aC3 hlt];rfl);have ei:=DP (m:=l.length) hlt om;have e1:places (l.take (i+1))=places (l.take i) ++ [l[i].p]:=by rw [CH hlt];unfold places;rw [aDa];rfl
   have e2:Dg (l.take (i+1))=Dg (l.take i) ++ [l[i].p,l[i].d]:=by rw [CH hlt];unfold Dg;rw [List.flatMap_append];rfl
   have n1:(places (l.take i)).length=i:=by simp [places];omega
   have n2:(Dg (l.take i)).length=2*i:=by rw [RF];simp;omega
   generalize l[i]=q at *;generalize places (l.take i)=A at *;generalize Dg (l.take i)=B at *;refine ix (h0:=(by omega)) (h1:=(by omega)) ?_;refine Ia (BP.block hb AA) hpk ?_;refine al hs ?_;intro b8 w8 hz hs
   repeat' (first|refine Nx.h ?_|(refine AV hs ?_;intro w hs)|fail)
   obtain ⟨G1,G2,h1,h2,hd,hn⟩:=hT;have KU:=h1.lt;have hl2:=h2.lt;refine dr [] hs ?_;intro hX w hs;refine tks 0 3 ?_;refine tks 5 5 ?_;refine pX 10 29 (q.p.cells ++ q.d.cells) hs ?_;intro f X w hp;have hs:=hp.st;apply BI 3 10 (f:=f) (X:=X) hX hp;exact rfl;exact rfl;(first | (apply AT AJ;exact rfl) | (apply EL AJ;exact rfl;exact rfl;exact rfl;exact rfl;exact rfl;(intro X;((repeat (first | exact CZ.nil | (apply CZ.one;exact rfl;(conv=>lhs;whnf);exact rfl;(repeat (first | exact Ak.nil | apply Ak.skip | apply Ak.cons))) | (apply CZ.agg;exact rfl;exact rfl;exact rfl;(repeat (first | exact Ak.nil | apply Ak.skip | apply Ak.cons)))))))));kernel_rfl;kernel_rfl;kernel_rfl;kernel_rfl;(intro X Y;(repeat (first | exact A4 | refine A5 ?_ (by exact rfl))));(intro w' hs;first|exact AI hs.hold|exact AI hs.hold.tail|exact Ab rfl);intro f X w hp;have hs:=hp.st;refine wN hp ?_;intro b3 w3 _ hp;replace hs:=hp.st;refine Jn ?_;apply BI 4 10 (f:=f) (X:=X) hX hp;exact rfl;exact rfl;(first | (apply AT AJ;exact rfl) | (apply EL AJ;exact rfl;exact rfl;exact rfl;exact rfl;exact rfl;(intro X;((repeat (first | exact CZ.nil | (apply CZ.one;exact rfl;(conv=>lhs;whnf);exact rfl;(repeat (first | exact Ak.nil | apply Ak.skip | apply Ak.cons))) | (apply CZ.agg;exact rfl;exact rfl;exact rfl;(repeat (first | exact Ak.nil | apply Ak.skip | apply Ak.cons)))))))));kernel_rfl;kernel_rfl;kernel_rfl;kernel_rfl;(intro X Y;(repeat (first | exact A4 | refine A5 ?_ (by exact rfl))));(intro w' hs;first|exact AI hs.hold|exact AI hs.hold.tail|exact Ab rfl);intro f X w hp;have hs:=hp.st;have Gc:=hs.get At.head;have k1:=h1.keep hs.only (by simp [olds,D0]);refine CF AJ rfl rfl rfl rfl rfl rfl rfl (by decide) (lit_cells (news:=q.p.cells) Gc) (by simp [Value.oneCell']) k1 om om ?_;intro M8 w4 ⟨G1',h3,RU⟩ Ar;have Nz:=hs.size;have hp:=hp.dW Ar KU rfl rfl (J:=fun w=>B6 w 62 3 M8 (A.length+1) (Ip A ++ q.p.cells) G1') h3 (fun _ _ ho h=>h.keep ho AA);replace hs:=hp.st;refine Jn ?_;apply Bb 10 (f:=f) (X:=X) hX hp;exact rfl;(first | (apply AT AJ;exact rfl) | (apply EL AJ;exact rfl;exact rfl;exact rfl;exact rfl;exact rfl;(intro X;((repeat (first | exact CZ.nil | (apply CZ.one;exact rfl;(conv=>lhs;whnf);exact rfl;(repeat (first | exact Ak.nil | apply Ak.skip | apply Ak.cons))) | (apply CZ.agg;exact rfl;exact rfl;exact rfl;(repeat (first | exact Ak.nil | apply Ak.skip | apply Ak.cons)))))))));kernel_rfl;kernel_rfl;(intro X Y;(repeat (first | exact A4 | refine A5 ?_ (by exact rfl))));(intro w' hs;first|exact AI hs.hold|exact AI hs.hold.tail|exact Ab rfl);intro b w hI hs;refine dt 11 hX ?_;have aA2:=hs.get At.head;have k2:=h2.keep hs.only (fun k hk hm=>by simp [olds,D0] at hm;exact (hd k hm).2 hk);refine CF AJ rfl rfl rfl rfl rfl rfl rfl (by decide) (lit_cells (news:=q.p.cells ++ q.d.cells) aA2) (by simp [Value.oneCell']) k2 om om ?_;intro v6' w6 ⟨G2',h4,Qm⟩ Ao;have hz5:=hs.size
   have h5:=hI.keep Ao (fun k hk hm=>by
    rcases RU k hk with h | h
    ·exact (hd k h).2 hm
    ·have:=hl2 k hm;omega)
   have Ww:=hI.lt;replace hs:=hs.dW Ao hl2 rfl rfl;refine Jn ?_;refine tks 12 2 ?_;refine en ?_;refine Ja ?_;have jX:=hs.size;have O2:=BP.size;refine A2 (i+1,M8,v6') (by show l.length - (i+1) < l.length - i;omega) (by (repeat (first | exact Ag | (apply A8;first | exact rfl | exact congrArg (Value.int .i64) ei)))) ⟨by show i+1≤l.length;omega,BP.step (hs.Bx.Bx.Bx.only) ?_,G1',G2',?_,?_,?_,?_⟩
   ·intro k hk;simp [olds,D0] at hk;rcases hk with hk | hk
    ·exact .inr (hn k hk)
    ·exact .inr (hd k hk).1
   ·simp only [e1];rw [PC,aCv];exact h5
   ·simp only [e2];rw [PC,aCv];exact h4
   ·intro k hk;have h7:=Ww k hk;refine ⟨?_,fun hm=>?_⟩
    ·rcases RU k hk with h | h
     ·exact (hd k h).1
     ·omega
    ·rcases Qm k hm with h | h
     ·rcases RU k hk with h' | h'
      ·exact (hd k h').2 h
      ·have:=hl2 k h;omega
     ·omega
   ·intro k hk;rcases Qm k hk with h | h
    ·exact hn k h
    ·omega
  ·have Mi:¬ ((i:Int) < l.length):=hc;have e:i=l.length:=by omega
   subst e;rw [aDK] at hT;exact Au (v5,v6) Ad ⟨BP,hT⟩
 ·rintro ⟨v5,v6⟩ env w ⟨BP,G1,G2,h1,h2,hd,hn⟩;simp only at h1 h2;clear hs;have hs:=St.nil w;have nP:(places l).length≤1000000:=by simp [places];exact hm
  have nB:(Dg l).length≤2000000:=by rw [RF];omega
  have l1:=h1.ls rfl AA (OQ _);have l2:=h2.ls rfl AA (OQ _);have m1:=uH (l:=sinces base (places l)) (fun d hd=>by obtain ⟨p,_,rfl⟩:=List.mem_map.1 hd;exact qK _ _);have m2:=tM (l:=sinces base (Dg l)) (fun d hd=>by obtain ⟨p,_,rfl⟩:=List.mem_map.1 hd;exact qK _ _);refine Ja ?_;refine AZ hs (h:=by exact TA base (places l) v5 om _ l1) ?_;intro w' ho hs;refine Ja ?_;refine AZ hs (h:=by exact TA base (Dg l) v6 om _ (l2.only (hs.AE rfl))) ?_;intro w' ho hs;refine Ja ?_;refine AG ?_;refine ⟨?_,BP.trans (hs.AE rfl)⟩;refine N5 ?_;unfold spr;obtain ⟨a1,a2⟩:=m1;obtain ⟨a3,a4⟩:=m2;simp only [wrap_u64];omega
end Go.Proofs.Q0
namespace Go.Proofs.Q0
open Go Go.RowKit Tryz
def Fo (w:World):RB Int→Option Addr→Prop
 | .nil,p=>p=none
 | .node l x r c,p=>∃ b av pl pr,p=some ⟨b,0,none⟩∧w.heap[b]?=some (ET x av pl pr c)∧Fo w l pl∧Fo w r pr
theorem Aj.shape {w:World}:∀ {t:RB Int} {p:Option Addr} {fp:List Nat},Aj w t p fp→Fo w t p
 | .nil,_,_,⟨h,_⟩=>h
 | .node l x r c,_,_,⟨b,av,pl,pr,fl,fr,h1,h2,h3,h4,h5,h6⟩=>⟨b,av,pl,pr,h1,h3,h5.shape,h6.shape⟩
def gC (w:World) (F:List Nat):Prop:=∀ b∈F,∀ cs fz,w.heap[b]?≠some (.cells cs 325 fz)
theorem Fo.keep {w w':World} {F:List Nat} (ho:AB F w w') (hF:gC w F):∀ {t:RB Int} {p:Option Addr},Fo w t p→Fo w' t p
 | .nil,_,h=>h
 | .node l x r c,_,⟨b,av,pl,pr,h1,h3,h5,h6⟩=>⟨b,av,pl,pr,h1,ho.block h3 (fun hm=>hF b hm _ _ h3),Fo.keep ho hF h5,Fo.keep ho hF h6⟩
theorem B6.OR {w:World} {v:Value} {n:Nat} {xs:List Value} {G:List Nat} (h:B6 w 3 1 v n xs G):gC w G:=by
 rcases h with ⟨_,_,_,rfl⟩ | ⟨g,cap,cur,_,rfl,_,_,_,_,hg⟩
 ·intro b hb;cases hb
 ·intro b hb cs fz e;obtain rfl:=List.mem_singleton.1 hb;rw [hg] at e;cases e
theorem B6.dat {w:World} {v:Value} {xs:List Int} {G:List Nat} (h:B6 w 3 1 v xs.length (ints xs) G):HB w v xs:=by
 rcases h with ⟨rfl,h2,h3,h4⟩ | ⟨g,cap,cur,rfl,rfl,h3,h4,h5,h6,hg⟩
 ·obtain rfl:=List.length_eq_zero_iff.1 h2;exact ⟨none,0,rfl,fun h=>absurd rfl h⟩
 ·refine ⟨_,cap,rfl,fun _=>⟨g,0,cur,(0,0),rfl,h3,hg,fun i d hi=>?_⟩⟩;have h7:(ints xs)[i]?=some (.int .i64 d):=by simp [ints,hi]
  rw [← h6,aDz] at h7;rw [aDO];split at h7
  ·exact h7
  ·cases h7
end Go.Proofs.Q0
namespace Go.Proofs.Q0
open Go Go.RowKit Tryz
attribute [local irreducible] XS XC XA AY AR A9 A1 A0 Aa Ae AW SE
theorem RB.NW {α:Type}:∀ t:RB α,t.depth≤t.list.length
 | .nil=>aC5 _
 | .node l x r c=>by
   have:=RB.NW l;have:=RB.NW r;simp only [RB.depth,RB.list,aCv,aCx];omega
theorem OS:∀ (t:RB Int) (p:Option Addr) (w0:World) (h:Fo w0 t p) (hlen:t.list.length≤1000000),AO prog 305 #[.pointer p] w0 fun v w'=>v = .int .i64 (t.depth:Nat)∧AB [] w0 w'
 | .nil,p,w0,h,hlen=>by
   have hp:p=none:=h;subst hp;have hs:=St.nil w0;refine AS func305 ntmps305 ?_;refine Je ?_;refine AG ?_;exact ⟨rfl,hs.AE rfl⟩
 | .node l x r c,p,w0,⟨b,av,pl,pr,hp,hb,hl,hr⟩,hlen=>by
   subst hp;simp only [RB.list,aCv,aCx] at hlen;have hs:=(St.nil w0).AH hb AA;refine AS func305 ntmps305 ?_;refine Jd ?_;refine dr [] hs ?_;intro hX w hs;refine tks 0 4 ?_;refine tks 5 4 ?_;refine dt 4 hX ?_;refine AZ hs (h:=by exact OS l pl _ (hl.keep (hs.AD [] (by simp [hb]) sD) (fun b h=>by cases h)) om) ?_;intro w' ho hs;refine Jn ?_;refine dt 9 hX ?_;refine AZ hs (h:=by exact OS r pr _ (hr.keep (hs.AD [] (by simp [hb]) sD) (fun b h=>by cases h)) om) ?_;intro w' ho hs;refine Jn ?_;refine tks 10 3 ?_;refine en ?_;refine Jb ?_;refine AG ?_;refine ⟨?_,hs.AD [] (by simp [hb]) sD⟩;have h1:=RB.NW l;have h2:=RB.NW r;refine congrArg (Value.int .i64) ?_;have e:(if (r.depth:Int) > (l.depth:Int) then (r.depth:Int) else (l.depth:Int))=((max l.depth r.depth:Nat):Int):=by split <;> omega
   show IntKind.i64.wrap (1+(if (r.depth:Int) > (l.depth:Int) then (r.depth:Int) else (l.depth:Int)))=((1+max l.depth r.depth:Nat):Int);rw [e];rw [KI om om];omega
theorem Y9 (tb:Nat) (t:RB Int) (F:List Nat) (w0:World) (h:Cb w0 tb t F) (hlen:t.list.length≤1000000) :
 AO prog 292 #[.pointer (some ⟨tb,0,none⟩)] w0 fun v w'=>v = .int .i64 (t.depth:Nat)∧AB [] w0 w':=by
 obtain ⟨p,fp,rfl,hT,ht,hnd⟩:=h;have hs:=(St.nil w0).AH hT AA;refine AS func292 ntmps292 ?_;refine Jd ?_;refine AZ hs (h:=by exact OS t p _ (ht.shape.keep (hs.AD [] (by simp [hT]) sD) (fun b h=>by cases h)) hlen) ?_;intro w' ho hs;refine Jc ?_;refine AG ?_;exact ⟨rfl,hs.AD [] (by simp [hT]) sD⟩
theorem MZ (w0:World):AO prog 298 #[.func (.func 299) #[] #[],.func (.func 300) #[] #[],.func (.func 301) #[] #[]] w0 fun v w'=>∃ tb F,v = .pointer (some ⟨tb,0,none⟩)∧Cb w' tb .nil F∧(∀ k∈F,w0.heap.size≤k)∧AB [] w0 w':=by
 have hs:=St.nil w0;refine AS func298 ntmps298 ?_;refine Ah ?_;refine Aq ?_;refine vs ?_;refine XS.nil ?_;refine Dw ?_;refine Ah ?_;refine Aq ?_;refine vs ?_;refine vs ?_;refine vs ?_;refine vs ?_;refine bx hs ?_;intro b w hz hs;refine Jc ?_;refine AG ?_;have hnew:=hs.new (b,true) AA rfl;exact ⟨b,[b],rfl,⟨none,[],rfl,hs.get At.head,⟨rfl,rfl⟩,List.nodup_nil⟩,fun k hk=>by obtain rfl:=List.mem_singleton.1 hk;exact hnew,hs.AE rfl⟩
theorem gP (w0:World):AO prog 289 #[] w0 fun v w'=>∃ tb F,v = .pointer (some ⟨tb,0,none⟩)∧Cb w' tb .nil F∧(∀ k∈F,w0.heap.size≤k)∧AB [] w0 w':=by
 have hs:=St.nil w0;refine AS func289 ntmps289 ?_;refine Ja ?_;refine cl (h:=by exact MZ _) ?_;rintro v w' ⟨tb,F,rfl,h1,h2,h3⟩;replace hs:=hs.AP h3;refine Jc ?_;refine AG ?_;exact ⟨tb,F,rfl,h1,h2,hs.AE rfl⟩
theorem B6.app {w w':World} {v':Value} {xs:List Int} {x:Int} {G:List Nat} (h:B6 w 3 1 v' (xs.length+1) (ints xs ++ [.int .i64 x]) G):B6 w 3 1 v' (xs ++ [x]).length (ints (xs ++ [x])) G:=by
 rw [aCv,← eB];exact h
theorem GN:∀ (t:RB Int) (p:Option Addr) (v0:Value) (xs:List Int) (G:List Nat) (w0:World) (h:Fo w0 t p) (hO:B6 w0 3 1 v0 xs.length (ints xs) G) (hlen:xs.length+t.list.length≤1000000),
 AO prog 304 #[.pointer p,v0] w0 fun v w'=>∃ G',B6 w' 3 1 v (xs ++ t.list).length (ints (xs ++ t.list)) G'∧(∀ k∈G',k∈G∨w0.heap.size≤k)∧AB G w0 w'
 | .nil,p,v0,xs,G,w0,h,hO,hlen=>by
   have hp:p=none:=h;subst hp;have hs:=St.nil w0;refine AS func304 ntmps304 ?_;refine Je ?_;refine AG ?_;have ho:=hs.AE rfl;rw [show xs ++ RB.nil.list=xs from aDP xs];exact ⟨G,hO.keep ho AA,fun k hk => .inl hk,ho.weaken AA⟩
 | .node l x r c,p,v0,xs,G,w0,⟨b,av,pl,pr,hp,hb,hl,hr⟩,hO,hlen=>by
   subst hp;simp only [RB.list,aCv,aCx] at hlen;have hs:=(St.nil w0).AH hb AA;refine AS func304 ntmps304 ?_;refine Jd ?_;refine dr [] hs ?_;intro hX w hs;refine tks 0 9 ?_;refine tks 10 4 ?_
   have fin:∀ (b2:Nat) (w3:World) (v1:Value) (G1:List Nat) (Lm:B6 w3 3 1 v1 (xs ++ l.list).length (ints (xs ++ l.list)) G1) (Mw:∀ k∈G1,k∈G∨w0.heap.size≤k) (AU:AB G w0 w3) (Ds:w3.heap[b2]?=some (.cells #[.int .i64 x] 3 (0,0))) (v2:Value) (w4:World) (h4:(∃ G',B6 w4 3 1 v2 ((xs ++ l.list).length+1) (ints (xs ++ l.list) ++ [.int .i64 x]) G'∧∀ i∈G',i∈G1∨w3.heap.size≤i)) (Ar:AB G1 w3 w4),
    AB G w0 w4∧∃ G2,B6 w4 3 1 v2 (xs ++ l.list ++ [x]).length (ints (xs ++ l.list ++ [x])) G2∧(∀ k∈G2,k∈G∨w0.heap.size≤k)∧Fo w4 r pr∧w4.heap[b]?=some (ET x av pl pr c):=by
    intro b2 w3 v1 G1 Lm Mw AU Ds v2 w4 ⟨G2,KT,KQ⟩ Ar;have hsz:=AU.size;have hn:=hO.OR;have KP:=Lm.OR;have Gc:=AU.block hb (fun hm=>hn b hm _ _ hb);refine ⟨AU.step Ar Mw,G2,B6.app (w':=w4) KT,fun k hk=>?_,((hr.keep AU hn).keep Ar KP),Ar.block Gc (fun hm=>KP b hm _ _ Gc)⟩;rcases KQ k hk with h | h
    ·exact Mw k h
    ·exact .inr om
   have hn:=hO.OR;have ZU:b∉G:=fun hm=>hn b hm _ _ hb;have AL:AB [] w0 _:=hs.AD [] (by simp [hb]) sD;refine HR 9 14 hX (h1:=?_) (h2:=?_)
   ·refine cl (h:=by exact GN l pl v0 xs G _ (hl.keep AL (fun b h=>by cases h)) (hO.keep AL AA) om) ?_;rintro v1 w1 ⟨G1,Lm,Mw,AN⟩;have AU:AB G w0 w1:=(AL.weaken AA).step AN (fun k hk => .inl hk);have hsz:=AL.size;have CE:=AU.block hb ZU;clear hs;have hs:=(St.nil w1).AH CE AA;refine Jn ?_;refine dt 14 hX ?_;refine bs hs ?_;intro b2 w2 Mz hs;refine Jn ?_;refine dt 15 hX ?_;have hnew:=hs.new (b2,true) AA rfl;have Ar:AB [] w1 w2:=hs.AD [] (by simp [CE]) sD;have yL:=Lm.keep Ar AA;have Ds:=hs.get At.head;have BL:AB G w0 w2:=AU.step Ar AA;refine CF AJ rfl rfl rfl rfl rfl rfl rfl (by decide) (lit_cells (news:=[.int .i64 x]) Ds) (by simp [Value.oneCell']) yL (by simp only [aCv];omega) (by simp only [aCv];omega) ?_;intro v2 w3 h3 Ao;obtain ⟨C8,G2,KT,KQ,SD,Gc⟩:=fin b2 w2 v1 G1 yL (fun k hk=>by rcases Mw k hk with h | h;exact .inl h;exact .inr om) BL Ds v2 w3 h3 Ao;clear hs;have hs:=(St.nil w3).AH Gc AA;refine Jn ?_;refine dt 16 hX ?_;refine cl (h:=by exact GN r pr v2 (xs ++ l.list ++ [x]) G2 _ SD KT (by simp only [aCv,aCx,aDA];omega)) (k:=?_);rintro v3 w4 ⟨G3,HG,Nv,E9⟩;have hb4:=E9.block Gc (fun hm=>KT.OR b hm _ _ Gc);clear hs;have hs:=(St.nil w4).AH hb4 AA;refine Jn ?_;refine tk 17 hX ?_;refine en ?_;refine Jb ?_;refine AG ?_;rw [show xs ++ l.list ++ [x] ++ r.list=xs ++ (RB.node l x r c).list by simp [RB.list]] at HG;have aAC:=C8.size;have Me:AB [] w4 _:=hs.AD [] (by simp [hb4]) sD;exact ⟨G3,HG.keep Me AA,fun k hk=>by rcases Nv k hk with h | h;exact KQ k h;exact .inr om,(C8.step E9 KQ).step Me AA⟩
   ·refine bs hs ?_;intro b2 w2 Mz hs;refine Jn ?_;refine dt 9 hX ?_;have hnew:=hs.new (b2,true) AA rfl;have Ar:AB [] w0 w2:=hs.AD [] (by simp [hb]) sD;have Ds:=hs.get At.head;refine cl (h:=by exact GN l pl v0 xs G _ (hl.keep Ar (fun b h=>by cases h)) (hO.keep Ar AA) om) ?_;rintro v1 w1 ⟨G1,Lm,Mw,AN⟩;have AU:AB G w0 w1:=(Ar.weaken AA).step AN (fun k hk => .inl hk);have hsz:=Ar.size;have CE:=AU.block hb ZU;have xH:=AN.block Ds (fun hm=>by have:=hO.lt b2 hm;omega);clear hs;have hs:=(St.nil w1).AH CE AA;refine Jn ?_;refine dt 15 hX ?_;refine CF AJ rfl rfl rfl rfl rfl rfl rfl (by decide) (lit_cells (news:=[.int .i64 x]) xH) (by simp [Value.oneCell']) Lm (by simp only [aCv];omega) (by simp only [aCv];omega) ?_;intro v2 w3 h3 Ao;obtain ⟨C8,G2,KT,KQ,SD,Gc⟩:=fin b2 w1 v1 G1 Lm (fun k hk=>by rcases Mw k hk with h | h;exact .inl h;exact .inr om) AU xH v2 w3 h3 Ao;clear hs;have hs:=(St.nil w3).AH Gc AA;refine Jn ?_;refine dt 16 hX ?_;refine cl (h:=by exact GN r pr v2 (xs ++ l.list ++ [x]) G2 _ SD KT (by simp only [aCv,aCx,aDA];omega)) (k:=?_);rintro v3 w4 ⟨G3,HG,Nv,E9⟩;have hb4:=E9.block Gc (fun hm=>KT.OR b hm _ _ Gc);clear hs;have hs:=(St.nil w4).AH hb4 AA;refine Jn ?_;refine tk 17 hX ?_;refine en ?_;refine Jb ?_;refine AG ?_;rw [show xs ++ l.list ++ [x] ++ r.list=xs ++ (RB.node l x r c).list by simp [RB.list]] at HG;have aAC:=C8.size;have Me:AB [] w4 _:=hs.AD [] (by simp [hb4]) sD;exact ⟨G3,HG.keep Me AA,fun k hk=>by rcases Nv k hk with h | h;exact KQ k h;exact .inr om,(C8.step E9 KQ).step Me AA⟩
theorem OY (tb:Nat) (t:RB Int) (F:List Nat) (w0:World) (h:Cb w0 tb t F) (hlen:t.list.length≤1000000) :
 AO prog 291 #[.pointer (some ⟨tb,0,none⟩)] w0 fun v w'=>HB w' v t.list∧AB [] w0 w':=by
 obtain ⟨p,fp,rfl,hT,ht,hnd⟩:=h;have hs:=(St.nil w0).AH hT AA;refine AS func291 ntmps291 ?_;refine Jd ?_;refine cl (h:=by exact GN t p _ [] [] _ (ht.shape.keep (hs.AD [] (by simp [hT]) sD) (fun b h=>by cases h)) (.inl ⟨rfl,rfl,rfl,rfl⟩) (by simpa using hlen)) ?_;rintro v w' ⟨G,hO,_,ho⟩;replace hs:=hs.AP ho;rw [aDV] at hO;obtain ⟨ad,cap,rfl,hd⟩:=hO.dat;obtain ⟨R,hs,hd⟩:=(show HB w' (.slice ad t.list.length cap) t.list from ⟨ad,cap,rfl,hd⟩).read hs rfl;refine Jc ?_;refine AG ?_;exact ⟨(hd _ (fun e he=>hs.ro e (by simp [he]))),hs.AD [] (by simp [hT]) sD⟩
theorem Xa {A B:List Int} {i:Nat} (h:A.take i=B.take i) (hA:i < A.length) (hB:i < B.length) (he:A[i]=B[i]):A.take (i+1)=B.take (i+1):=by
 rw [aDt,aDt,h,aC3 hA,aC3 hB,he]
theorem tG {i m:Nat} (h:i < m) (hm:m≤9223372036854775807):IntKind.i64.wrap ((i:Int)+1)=((i+1:Nat):Int):=by
 have e1:(i:Int)+1=((i+1:Nat):Int):=by omega
 rw [e1];exact KI om om
theorem iQ (va vb:Value) (A B:List Int) (hm:A.length≤9223372036854775807) (w0:World) (hA:HB w0 va A) (hB:HB w0 vb B) :
 AO prog 23 #[va,vb] w0 fun v w'=>v = .bool (decide (A=B))∧AB [] w0 w':=by
 obtain ⟨WL,ca,rfl,hA⟩:=hA;obtain ⟨XT,cb,rfl,hB⟩:=hB;have hs:=St.nil w0;refine AS func23 ntmps23 ?_
 repeat' (first|refine Sa ?_|refine xc_cond rfl (fun hc=>?_) fun hc=>?_|fail)
 ·refine AG ?_;refine ⟨congrArg Value.bool ?_,hs.AE rfl⟩;have hne:A≠B:=fun e=>by subst e;simp at hc
  exact (decide_eq_false hne).symm
 ·have Mf:A.length=B.length:=by
   have h:((A.length:Nat):Int)=B.length:=by simpa using hc
   omega
  refine BM (fun _:Unit=>[]) (fun _ w=>A=B∧AB [] w0 w) ?_ ?_
  ·refine BH (fun (i:Nat)=>[(0,.slice WL A.length ca),(1,.slice XT B.length cb),(12,.int .i64 (A.length:Nat)),(13,.int .i64 (i:Nat))])
    (fun i w=>i≤A.length∧A.take i=B.take i∧AB [] w0 w)
    (fun i=>A.length - i) 0 Ad ⟨aC7 _,by simp,hs.AE rfl⟩ fun i env w ⟨hi,ht,ho⟩=>?_
   clear hs;have hs:=St.nil w
   repeat' (first|refine Sa ?_|refine Aw rfl (fun hc=>?_) fun hc=>?_|fail)
   ·have hlt:i < A.length:=by omega
    have K5:i < B.length:=by omega
    obtain ⟨ba,oa,rI,fa,rfl,a2,a3,a4⟩:=hA (fun h=>by subst h;simp at hlt);obtain ⟨bb,ob,r7,fb,rfl,b2,b3,b4⟩:=hB (fun h=>by subst h;simp at K5);have ga:=a4 i _ (aC3 hlt);have gb:=b4 i _ (aC3 K5);have a3:=ho.block a3 AA;have b3:=ho.block b3 AA;have key:A[i]=B[i]→A.take (i+1)=B.take (i+1):=Xa ht hlt K5;have LZ:A[i]≠B[i]→A≠B:=fun h e=>h (by subst e;rfl);have ei:=tG hlt hm;have ga':rI[oa+((i:Nat):Int).toNat*1]?=some (.int .i64 A[i]):=by simpa using ga
    have gb':r7[ob+((i:Nat):Int).toNat*1]?=some (.int .i64 B[i]):=by simpa using gb
    generalize A[i]=x at *;generalize B[i]=y at *;by_cases e:ba=bb
    ·subst e;rw [a3] at b3;cases b3;replace hs:=hs.AH a3 AA;refine dr [] hs ?_;intro hX w hs;refine tks 0 2 ?_;refine tk 2 hX (hr:=fun w' hH=>BA AJ rfl rfl rfl om om) ?_;refine tk 3 hX (v := .int .i64 x) (hr:=fun w' hH=>r_load AJ rfl rfl (hH rfl) At.head ga') ?_;refine tks 4 2 ?_;refine tk 6 hX (hr:=fun w' hH=>BA AJ rfl rfl rfl om om) ?_;refine tk 7 hX (v := .int .i64 y) (hr:=fun w' hH=>r_load AJ rfl rfl (hH rfl) At.head gb') ?_;refine tk 8 hX ?_;refine en ?_
     repeat' (first|refine Sa ?_|refine xc_cond rfl (fun hc=>?_) fun hc=>?_|fail)
     ·refine AG ?_;exact ⟨congrArg Value.bool (decide_eq_false (LZ (by simpa using hc))).symm,ho.step (hs.AD [] (by simp [a3]) sD) AA⟩
     ·exact A2 (i+1) om (by (repeat (first | exact Ag | (apply A8;first | exact rfl | exact congrArg (Value.int .i64) ei)))) ⟨by omega,key (by simpa using hc),ho.step (hs.AD [] (by simp [a3]) sD) AA⟩
    ·replace hs:=(hs.AH a3 AA).AH b3 (by simpa using Ne.symm e);refine dr [] hs ?_;intro hX w hs;refine tks 0 2 ?_;refine tk 2 hX (hr:=fun w' hH=>BA AJ rfl rfl rfl om om) ?_;refine tk 3 hX (v := .int .i64 x) (hr:=fun w' hH=>r_load AJ rfl rfl (hH rfl) (At.tail At.head) ga') ?_;refine tks 4 2 ?_;refine tk 6 hX (hr:=fun w' hH=>BA AJ rfl rfl rfl om om) ?_;refine tk 7 hX (v := .int .i64 y) (hr:=fun w' hH=>r_load AJ rfl rfl (hH rfl) At.head gb') ?_;refine tk 8 hX ?_;refine en ?_
     repeat' (first|refine Sa ?_|refine xc_cond rfl (fun hc=>?_) fun hc=>?_|fail)
     ·refine AG ?_;exact ⟨congrArg Value.bool (decide_eq_false (LZ (by simpa using hc))).symm,ho.step (hs.AD [] (by simp [a3,b3]) sD) AA⟩
     ·exact A2 (i+1) om (by (repeat (first | exact Ag | (apply A8;first | exact rfl | exact congrArg (Value.int .i64) ei)))) ⟨by omega,key (by simpa using hc),ho.step (hs.AD [] (by simp [a3,b3]) sD) AA⟩
   ·have e:i=A.length:=by omega
    have Xp:A=B:=by
     have h1:A.take i=A:=aDM om;have h2:B.take i=B:=aDM om;rw [← h1,ht,h2]
    exact Au () Ad ⟨Xp,ho.step (hs.AE rfl) AA⟩
  ·rintro _ env w ⟨rfl,ho⟩;clear hs;have hs:=St.nil w;refine Ja ?_;refine AG ?_;exact ⟨congrArg Value.bool (decide_eq_true rfl).symm,ho.step (hs.AE rfl) AA⟩
theorem Cb.only {w w':World} {tb:Nat} {t:RB Int} {F:List Nat} (h:Cb w tb t F) (ho:AB [] w w'):Cb w' tb t F:=by
 obtain ⟨p,fp,h1,h2,h3,h4⟩:=h;exact ⟨p,fp,h1,ho.block h2 AA,h3.keep ho (AM.nil w) AA,h4⟩
def Kc (w0:World) (F:List Nat):Prop:=∀ k∈F,w0.heap.size≤k
theorem Kc.step {w0 w:World} {F F':List Nat} (h:Kc w0 F) (ho:AB [] w0 w) (hs:∀ k∈F',k∈F∨w.heap.size≤k):Kc w0 F':=fun k hk=>by
 have:=ho.size;rcases hs k hk with h' | h'
 ·exact h k h'
 ·omega
theorem AB.news {w0 w w':World} {F:List Nat} (ho:AB [] w0 w) (h:Kc w0 F) (ho':AB F w w'):AB [] w0 w':=ho.step ho' fun k hk => .inr (h k hk)
theorem cI (w0:World):AO prog 283 #[] w0 fun v w'=>v = .bool true∧AB [] w0 w':=by
 have hs:=St.nil w0;refine AS func283 ntmps283 ?_;refine Ja ?_;refine cl (h:=by exact gP _) ?_;rintro v w1 ⟨tb,F0,rfl,h0,hn,ho⟩;have o0:AB [] w0 w1:=(hs.AE rfl).step ho AA;have n0:Kc w0 F0:=fun k hk=>aC9 (hs.AE rfl).size (hn k hk);clear hs;have hs:=St.nil w1;refine Jd ?_;have oo:=hs.AE rfl;refine cl (h:=by exact Fx tb .nil F0 3 _ (h0.only oo) (by decide)) ?_;rintro v w2 ⟨rfl,F1,h1,s1,o1⟩;have n1:=n0.step (o0.step oo AA) s1;have o2:=(o0.step oo AA).news n0 o1;rw [show RB.has HM 3 (RB.nil:RB Int)=false from rfl];clear hs oo;have hs:=St.nil w2;refine Jf ?_;have oo:=hs.AE rfl;refine cl (h:=by exact Fx tb _ F1 1 _ (h1.only oo) (by decide)) ?_;rintro v w3 ⟨rfl,F2,h2,s2,o3⟩;have n2:=n1.step (o2.step oo AA) s2;have o4:=(o2.step oo AA).news n1 o3;rw [show RB.has HM 1 (RB.insert RB.nil 3)=false by decide];clear hs oo;have hs:=St.nil w3;refine Jf ?_;have oo:=hs.AE rfl;refine cl (h:=by exact Fx tb _ F2 2 _ (h2.only oo) (by decide)) ?_;rintro v w4 ⟨rfl,F3,h3,s3,o5⟩;have n3:=n2.step (o4.step oo AA) s3;have o6:=(o4.step oo AA).news n2 o5;rw [show RB.has HM 2 (RB.insert (RB.insert RB.nil 3) 1)=false by decide];have el:(RB.insert (RB.insert (RB.insert RB.nil 3) 1) 2).list=[1,2,3]:=by decide
 have ed:(RB.insert (RB.insert (RB.insert RB.nil 3) 1) 2).depth=2:=by decide
 generalize RB.insert (RB.insert (RB.insert RB.nil 3) 1) 2=t at *;clear hs oo;have hs:=St.nil w4;refine Ja ?_;refine cl (h:=by exact OY tb t F3 _ (h3.only (hs.AE rfl)) (by rw [el];decide)) (k:=?_);rintro v w' ⟨hd,ho⟩;replace hs:=hs.AP ho;rw [el] at hd;obtain ⟨ad,cp,rfl,_⟩:=id hd;obtain ⟨R,hs,hd⟩:=hd.read hs rfl;refine bs hs ?_;intro b w hz hs
 skip
 have hb:=hs.get At.head;refine AZ hs (h:=by exact iQ _ _ [1,2,3] [1,2,3] (by decide) _ (hd _ (fun e he=>hs.ro e (by simp [he]))) ⟨some ⟨b,0,none⟩,3,rfl,fun _=>⟨b,0,_,_,rfl,aC5 _,hb,fun i d h=>by match i,h with | 0,h=>simpa using h | 1,h=>simpa using h | 2,h=>simpa using h | i+3,h=>simp at h⟩⟩) ?_;intro w' ho hs;rw [show decide (([1,2,3]:List Int)=[1,2,3])=true from rfl];refine Jf ?_;refine AZ hs (h:=by exact Y9 tb t F3 _ (h3.only (hs.AE rfl)) (by rw [el];decide)) (k:=?_);intro w' ho hs;rw [ed];refine Jc ?_;refine AG ?_;exact ⟨rfl,o6.step (hs.AE rfl) AA⟩
end Go.Proofs.Q0
namespace Go.Proofs.Q0.IB
open Go Go.RowKit Tryz
attribute [local irreducible] XS XC XA AY AR A9 A1 A0 Aa Ae AW SE
abbrev IT:={a:It // a.In}
def Cy (x y:IT):Bool:=ahead x.1 y.1
def snr (x y:IT):IT:=bif due y.1 x.1 then y else x
def all? : RB IT→Option IT
 | .nil=>none
 | .node l x r _=>some (match all? r with | none=>(match all? l with | none=>x | some a=>snr a x) | some b=>snr (match all? l with | none=>x | some a=>snr a x) b)
def K8 (l:RB IT) (x:IT) (r:RB IT):IT:=match all? r with | none=>(match all? l with | none=>x | some a=>snr a x) | some b=>snr (match all? l with | none=>x | some a=>snr a x) b
abbrev ET (x:IT) (a:It) (pl pr:Option Addr) (c:Bool):Obj := .cells #[.int .u64 x.1.p.t,.int .u32 x.1.p.r,.int .u32 x.1.p.w,.int .i64 x.1.id,.int .u64 x.1.d.t,.int .u32 x.1.d.r,.int .u32 x.1.d.w,.int .u64 a.p.t,.int .u32 a.p.r,.int .u32 a.p.w,.int .i64 a.id,.int .u64 a.d.t,.int .u32 a.d.r,.int .u32 a.d.w,.pointer pl,.pointer pr,.bool c] 276 (0,0)
abbrev C6 (p:Option Addr) (n:Int):Obj := .cells #[.pointer p,.int .i64 n,.func (.func 176) #[] #[],.func (.func 177) #[] #[],.func (.func 178) #[] #[]] 199 (0,0)
def DC (_:World) (av:It) (l:RB IT) (x:IT) (r:RB IT):Prop:=av=(K8 l x r).1
theorem Mb (x y:IT) (w0:World):AO prog 176 #[iv x.1,iv y.1] w0 fun v w'=>v = .bool (Cy x y)∧AB [] w0 w':=UT x.1 y.1 x.2 y.2 w0
theorem H8 (a:It) (w0:World):AO prog 177 #[iv a] w0 fun v w'=>v=iv a∧AB [] w0 w':=by
 have hs:=St.nil w0;refine AS func177 ntmps177 ?_
 repeat' (first|refine Sa ?_|(refine AV hs ?_;intro w hs)|(refine al hs ?_;intro b w hz hs)|(refine bx hs ?_;intro b w hz hs)|fail)
 refine AG ?_;exact ⟨rfl,hs.AE rfl⟩
theorem its_one {w:World} {b:Nat} {a:It} (hb:w.heap[b]?=some (.cells a.cells.toArray 64 (0,0))):JU w (.slice (some ⟨b,0,none⟩) 1 1) [a] :=
 ⟨_,1,rfl,fun _=>⟨b,0,_,(0,0),rfl,aC5 _,hb,fun i x h=>by
  cases i with
  | zero =>
    simp only [aC2,List.getElem?_cons_zero,aDd] at h;subst h;exact pick_of rfl rfl
  | succ i=>simp at h⟩⟩
theorem Ix (x y:IT) (w0:World):AO prog 178 #[iv x.1,iv y.1] w0 fun v w'=>v=iv (snr x y).1∧AB [] w0 w':=by
 have e:soonest x.1 [y.1]=(snr x y).1:=by unfold soonest snr;simp only [aDZ,List.foldl_nil];cases due y.1 x.1 <;> rfl
 have hs:=St.nil w0;refine AS func178 ntmps178 ?_
 repeat' (first|refine Sa ?_|(refine al hs ?_;intro b w hz hs)|(refine bx hs ?_;intro b w hz hs)|(refine bs hs ?_;intro b w hz hs)|fail)
 refine cl (h:=by exact Yg x.1 [y.1] _ x.2 (by simp;exact y.2) AA _ (its_one (hs.get At.head))) (k:=?_);rw [e]
 rintro v w' ⟨rfl,ho⟩;replace hs:=hs.AP ho;repeat' (first|refine Nx.h ?_|(refine AV hs ?_;intro w hs)|fail)
 refine AG ?_;exact ⟨rfl,hs.AE rfl⟩
end Go.Proofs.Q0.IB
namespace Go.Proofs.Q0.IB
open Go Go.RowKit Tryz
theorem DC.keep {w w':World} {av:It} {l:RB IT} {x:IT} {r:RB IT} {F:List Nat} (h:DC w av l x r) (_:AB F w w') {q:Prop} (_:q):DC w' av l x r:=h
def Aj (w:World):RB IT→Option Addr→List Nat→Prop
 | .nil,p,fp=>p=none∧fp=[]
 | .node l x r c,p,fp=>∃ b av pl pr fl fr,p=some ⟨b,0,none⟩∧fp=b :: (fl ++ fr)∧w.heap[b]?=some (ET x av pl pr c)∧DC w av l x r∧Aj w l pl fl∧Aj w r pr fr
def Cc (w:World) (l:RB IT) (x:IT) (r:RB IT) (c:Bool) (p:Option Addr) (fp:List Nat):Prop :=
 ∃ b av pl pr fl fr,p=some ⟨b,0,none⟩∧fp=b :: (fl ++ fr)∧w.heap[b]?=some (ET x av pl pr c)∧Aj w l pl fl∧Aj w r pr fr
theorem Aj.MJ {w:World} {l:RB IT} {x:IT} {r:RB IT} {c:Bool} {p:Option Addr} {fp:List Nat} (h:Aj w (.node l x r c) p fp):Cc w l x r c p fp:=by
 obtain ⟨b,av,pl,pr,fl,fr,h1,h2,h3,h4,h5,h6⟩:=h;exact ⟨b,av,pl,pr,fl,fr,h1,h2,h3,h5,h6⟩
def AM (w:World) (F:List Nat):Prop:=∀ b∈F,∃ cs fz,w.heap[b]?=some (.cells cs 276 fz)
theorem AM.nil (w:World):AM w []:=fun b h=>by cases h
theorem AM.append {w:World} {F G:List Nat} (h:AM w F) (k:AM w G):AM w (F ++ G):=fun b hb=>by
 rcases aC4.1 hb with hb | hb
 ·exact h b hb
 ·exact k b hb
theorem AM.cons {w:World} {F:List Nat} {b:Nat} {cs:Array Value} {fz:Nat × Nat} (h:w.heap[b]?=some (.cells cs 276 fz)) (k:AM w F):AM w (b :: F):=fun b' hb=>by
 rcases aCu.1 hb with rfl | hb
 ·exact ⟨_,_,h⟩
 ·exact k b' hb
theorem Aj.nodes {w:World}:∀ {t:RB IT} {p:Option Addr} {fp:List Nat},Aj w t p fp→AM w fp
 | .nil,p,fp,⟨_,h⟩=>by subst h;exact AM.nil w
 | .node l x r c,p,fp,⟨b,av,pl,pr,fl,fr,h1,h2,h3,h4,h5,h6⟩=>by
   subst h2;exact .cons h3 (h5.nodes.append h6.nodes)
theorem Cc.nodes {w:World} {l:RB IT} {x:IT} {r:RB IT} {c:Bool} {p:Option Addr} {fp:List Nat} (h:Cc w l x r c p fp):AM w fp:=by
 obtain ⟨b,av,pl,pr,fl,fr,h1,h2,h3,h5,h6⟩:=h;subst h2;exact .cons h3 (h5.nodes.append h6.nodes)
theorem Aj.keep {w w':World} {F:List Nat} (ho:AB F w w') (hF:AM w F):∀ {t:RB IT} {p:Option Addr} {fp:List Nat},Aj w t p fp→(∀ b∈fp,b∉F)→Aj w' t p fp
 | .nil,p,fp,h,_=>h
 | .node l x r c,p,fp,⟨b,av,pl,pr,fl,fr,h1,h2,h3,h4,h5,h6⟩,hd=>by
   subst h2
   exact ⟨b,av,pl,pr,fl,fr,h1,rfl,ho.block h3 (hd b aCw),h4.keep ho hF,Aj.keep ho hF h5 fun k hk=>hd k (aCy _ (aDC _ hk)),
    Aj.keep ho hF h6 fun k hk=>hd k (aCy _ (aDE _ hk))⟩
theorem head_keep {w w':World} {F:List Nat} {tb:Nat} {p:Option Addr} {n:Int} (h:w.heap[tb]?=some (C6 p n)) (ho:AB F w w') (hF:AM w F):w'.heap[tb]?=some (C6 p n) :=
 ho.block h fun hb=>by
  obtain ⟨cs',lM,h5⟩:=hF tb hb;rw [h] at h5;cases h5
end Go.Proofs.Q0.IB
namespace Go.Proofs.Q0.IB
open Go Go.RowKit Tryz
attribute [local irreducible] XS XC XA AY AR A9 A1 A0 Aa Ae AW SE
theorem Bg (t:RB IT) (p:Option Addr) (fp:List Nat) (w0:World) (h:Aj w0 t p fp):AO prog 236 #[.pointer p] w0 fun v w'=>v = .bool t.red∧AB [] w0 w':=by
 have hs:=St.nil w0;cases t with
 | nil =>
   obtain ⟨rfl,rfl⟩:=h;refine AS func236 ntmps236 ?_
   repeat' (first|refine vs ?_|refine ps ?_|refine Aq ?_|refine Nx.h ?_|fail)
   refine AG ?_;exact ⟨rfl,hs.AE rfl⟩
 | node l x r c =>
   obtain ⟨b,av,pl,pr,fl,fr,rfl,h2,h3,h4,h5,h6⟩:=h;replace hs:=hs.AH h3 AA;refine AS func236 ntmps236 ?_;refine Ja ?_;refine AG ?_;exact ⟨rfl,hs.AD [] (by simp [h3]) sD⟩
theorem C7 {w:World} {tb b:Nat} {p:Option Addr} {n:Int} {cs:Array Value} {fz:Nat × Nat} (h:w.heap[tb]?=some (C6 p n)) (k:w.heap[b]?=some (.cells cs 276 fz)):b≠tb:=fun e=>by
 subst e;rw [h] at k;cases k
theorem EO (tb:Nat) (p0:Option Addr) (n0:Int) (l:RB IT) (x:IT) (r:RB IT) (c:Bool) (p:Option Addr) (fp:List Nat) (w0:World) (hT:w0.heap[tb]?=some (C6 p0 n0)) (h:Cc w0 l x r c p fp) (hnd:fp.Nodup) (hlen:(l.list ++ x :: r.list).length≤1000000) :
 AO prog 242 #[.pointer (some ⟨tb,0,none⟩),.pointer p] w0 fun v w'=>Aj w' (.node l x r c) p fp∧AB fp w0 w':=by
 obtain ⟨b,av,pl,pr,fl,fr,rfl,rfl,hb,hl,hr⟩:=h;have Dq:=C7 hT hb;obtain ⟨hnb,pW⟩:=aC6.1 hnd
 have hnl:∀ k∈fl,k∉[b]:=fun k hk hm=>by
  obtain rfl:=List.mem_singleton.1 hm;exact hnb (aDC _ hk)
 have QG:∀ k∈fr,k∉[b]:=fun k hk hm=>by
  obtain rfl:=List.mem_singleton.1 hm;exact hnb (aDE _ hk)
 have hlr:∀ k∈fl,k∉fr:=fun k hk hm=>(aDG.1 pW).2.2 k hk k hm rfl;have hNb:AM w0 [b]:=AM.cons hb (AM.nil w0)
 have fin:∀ (w':World) (ME:It),w'.heap[b]?=some (ET x ME pl pr c)→DC w' ME l x r→AB [b] w0 w'→Aj w' (.node l x r c) (some ⟨b,0,none⟩) (b :: (fl ++ fr))∧AB (b :: (fl ++ fr)) w0 w':=fun w' ME h1 h2 ho =>
  ⟨⟨b,ME,pl,pr,fl,fr,rfl,rfl,h1,h2,hl.keep ho hNb hnl,hr.keep ho hNb QG⟩,ho.weaken fun k hk=>by obtain rfl:=List.mem_singleton.1 hk;exact aCw⟩
 clear hnd;have hs:=St.nil w0;replace hs:=hs.AH hT AA;replace hs:=hs.AH hb (by simpa using Dq);cases l with
 | nil =>
   cases r with
   | nil =>
     obtain ⟨rfl,rfl⟩:=hl;obtain ⟨rfl,rfl⟩:=hr;refine AS func242 ntmps242 ?_;refine Jb ?_;refine dr [12] hs ?_;intro hX w hs;refine tks 0 9 ?_;refine dt 9 hX ?_;refine AZ hs (h:=by exact H8 x.1 _) ?_;intro w' ho hs;refine Jn ?_;refine tks 10 2 ?_;refine dt 12 hX ?_
     repeat' (first|refine Nx.h ?_|(refine AV hs ?_;intro w hs)|fail)
     refine dn ?_;refine en ?_;refine Jd ?_;refine JO ?_;exact fin _ _ (hs.get At.head) rfl (hs.AD [b] (by simp [hT]) sD)
   | node rl rx rr rc =>
     obtain ⟨rfl,rfl⟩:=hl;obtain ⟨rb,eH,xQ,xA,rfl',zY,rfl,rfl,hrb,hrav,hrl,oF⟩:=hr;have bD:eH=(K8 rl rx rr).1:=hrav;subst bD;have Wx:=C7 hT hrb;have RD:rb≠b:=fun e=>by subst e;exact QG _ aCw aCw
     replace hs:=hs.AH hrb (by simp [Wx,RD]);refine AS func242 ntmps242 ?_;refine Jb ?_;refine dr [12] hs ?_;intro hX w hs;refine tks 0 9 ?_;refine dt 9 hX ?_;refine AZ hs (h:=by exact H8 x.1 _) ?_;intro w' ho hs;refine Jn ?_;refine tks 10 2 ?_;refine dt 12 hX ?_
     repeat' (first|refine Nx.h ?_|(refine AV hs ?_;intro w hs)|fail)
     refine dn ?_;refine en ?_
     repeat' (first|refine vs ?_|refine Aq ?_|refine Nx.h ?_|refine FP ?_|refine Eb ?_|fail)
     refine dr [19] hs ?_;intro hX w hs;refine tks 0 16 ?_;refine dt 16 hX ?_;refine AZ hs (h:=by exact Ix x (K8 rl rx rr) _) ?_;intro w' ho hs;refine Jn ?_;refine tks 17 2 ?_;refine dt 19 hX ?_
     repeat' (first|refine Nx.h ?_|(refine AV hs ?_;intro w hs)|fail)
     refine dn ?_;refine en ?_
     skip
     refine JO ?_;exact fin _ _ (hs.get (At.tail At.head)) rfl (hs.AD [b] (by simp [hT,hrb]) sD)
 | node ll lx lr lc =>
   cases r with
   | nil =>
     obtain ⟨lb,X4,eZ,rR,sO,tB,rfl,rfl,hlb,hlav,GF,mP⟩:=hl;have SW:X4=(K8 ll lx lr).1:=hlav;subst SW;have hlt:=C7 hT hlb;have Qe:lb≠b:=fun e=>by subst e;exact hnl _ aCw aCw
     replace hs:=hs.AH hlb (by simp [hlt,Qe]);obtain ⟨rfl,rfl⟩:=hr;refine AS func242 ntmps242 ?_;refine Jb ?_;refine dr [12] hs ?_;intro hX w hs;refine tks 0 9 ?_;refine dt 9 hX ?_;refine AZ hs (h:=by exact H8 x.1 _) ?_;intro w' ho hs;refine Jn ?_;refine tks 10 2 ?_;refine dt 12 hX ?_
     repeat' (first|refine Nx.h ?_|(refine AV hs ?_;intro w hs)|fail)
     refine dn ?_;refine en ?_;refine Je ?_;refine dr [19] hs ?_;intro hX w hs;refine tks 0 16 ?_;refine dt 16 hX ?_;refine AZ hs (h:=by exact Ix (K8 ll lx lr) x _) ?_;intro w' ho hs;refine Jn ?_;refine tks 17 2 ?_;refine dt 19 hX ?_
     repeat' (first|refine Nx.h ?_|(refine AV hs ?_;intro w hs)|fail)
     refine dn ?_;refine en ?_;refine Jd ?_;refine JO ?_;exact fin _ _ (hs.get (At.tail At.head)) rfl (hs.AD [b] (by simp [hT,hlb]) sD)
   | node rl rx rr rc =>
     obtain ⟨lb,X4,eZ,rR,sO,tB,rfl,rfl,hlb,hlav,GF,mP⟩:=hl;have SW:X4=(K8 ll lx lr).1:=hlav;subst SW;have hlt:=C7 hT hlb;have Qe:lb≠b:=fun e=>by subst e;exact hnl _ aCw aCw
     replace hs:=hs.AH hlb (by simp [hlt,Qe]);obtain ⟨rb,eH,xQ,xA,rfl',zY,rfl,rfl,hrb,hrav,hrl,oF⟩:=hr;have bD:eH=(K8 rl rx rr).1:=hrav;subst bD;have Wx:=C7 hT hrb;have RD:rb≠b:=fun e=>by subst e;exact QG _ aCw aCw
     have mW:rb≠lb:=fun e=>by subst e;exact hlr _ aCw aCw
     replace hs:=hs.AH hrb (by simp [Wx,RD,mW]);refine AS func242 ntmps242 ?_;refine Jb ?_;refine dr [12] hs ?_;intro hX w hs;refine tks 0 9 ?_;refine dt 9 hX ?_;refine AZ hs (h:=by exact H8 x.1 _) ?_;intro w' ho hs;refine Jn ?_;refine tks 10 2 ?_;refine dt 12 hX ?_
     repeat' (first|refine Nx.h ?_|(refine AV hs ?_;intro w hs)|fail)
     refine dn ?_;refine en ?_;refine Je ?_;refine dr [19] hs ?_;intro hX w hs;refine tks 0 16 ?_;refine dt 16 hX ?_;refine AZ hs (h:=by exact Ix (K8 ll lx lr) x _) ?_;intro w' ho hs;refine Jn ?_;refine tks 17 2 ?_;refine dt 19 hX ?_
     repeat' (first|refine Nx.h ?_|(refine AV hs ?_;intro w hs)|fail)
     refine dn ?_;refine en ?_;refine Je ?_;refine dr [19] hs ?_;intro hX w hs;refine tks 0 16 ?_;refine dt 16 hX ?_;refine AZ hs (h:=by exact Ix (snr (K8 ll lx lr) x) (K8 rl rx rr) _) ?_;intro w' ho hs;refine Jn ?_;refine tks 17 2 ?_;refine dt 19 hX ?_
     repeat' (first|refine Nx.h ?_|(refine AV hs ?_;intro w hs)|fail)
     refine dn ?_;refine en ?_
     skip
     refine JO ?_;exact fin _ _ (hs.get (At.tail (At.tail At.head))) rfl (hs.AD [b] (by simp [hT,hlb,hrb]) sD)
end Go.Proofs.Q0.IB
