/- A part of the proof: what its functions compute. -/
import Derived.Test.YtkbcfknnieggbaaGreatDoorBaseV2
import Derived.Deep.SlicePairs
import Derived.Deep.Slices
set_option linter.unusedVariables false
set_option linter.unusedSimpArgs false
set_option maxRecDepth 100000
namespace Go.Proofs.YtkbcfknnieggbaaGreatDoorX
open Go Go.RowKit
attribute [local irreducible] XS XC XA thenE blockE retE loopE loopS cutB cutN doneE SE
def tot (x:Int):Int:=if InW x then x else 0
theorem tot_in (x:Int):InW (tot x):=by unfold tot;split;assumption;decide
theorem tell_tot (x:Int):tellV x = .tuple #[wv (tot x),.bool (decide (InW x))]:=by
  unfold tellV tot;split <;> rename_i h <;> simp [h]
theorem add_t (x y:Int) (hx:InW x) (hy:InW y) (w0:World):Ret Tryz.prog 167 #[wv x,wv y] w0 fun v w'=>v = .tuple #[wv (tot (x+y)),.bool (decide (InW (x+y)))]∧Only [] w0 w':=by
  have:=add_ret x y hx hy w0;rwa [tell_tot] at this
theorem sub_t (x y:Int) (hx:InW x) (hy:InW y) (w0:World):Ret Tryz.prog 164 #[wv x,wv y] w0 fun v w'=>v = .tuple #[wv (tot (x - y)),.bool (decide (InW (x - y)))]∧Only [] w0 w':=by
  have:=sub_ret x y hx hy w0;rwa [tell_tot] at this
theorem mul_t (x n:Int) (hx:InW x) (hn:In64 n) (w0:World):Ret Tryz.prog 162 #[wv x,.int .i64 n] w0 fun v w'=>v = .tuple #[wv (tot (x*n)),.bool (decide (InW (x*n)))]∧Only [] w0 w':=by
  have:=mul_ret x n hx hn.1 hn.2 w0;rwa [tell_tot] at this
theorem neg_t (x:Int) (hx:InW x) (w0:World):Ret Tryz.prog 219 #[wv x] w0 fun v w'=>v = .tuple #[wv (tot (-x)),.bool (decide (InW (-x)))]∧Only [] w0 w':=by
  have:=neg_ret x hx w0;rwa [tell_tot] at this
def sml (x:Int):Int:=if In64 x then x else 0
theorem small_t (x:Int) (hx:InW x) (w0:World):Ret Tryz.prog 129 #[wv x] w0 fun v w'=>v = .tuple #[.int .i64 (sml x),.bool (decide (In64 x))]∧Only [] w0 w':=by
  have:=small_ret x hx w0
  have e:smallV x = .tuple #[.int .i64 (sml x),.bool (decide (In64 x))]:=by unfold smallV sml;split <;> rename_i h <;> simp [h]
  rwa [e] at this
def movP (p:Pt) (g:Int):Option Pt:=atP p.t (g+p.r) p.w
theorem move_ret (p:Pt) (g:Int) (h:p.In) (hg:U64 g) (w0:World):Ret Tryz.prog 177 #[pv p,.int .u64 g] w0 fun v w'=>v=ptV (movP p g)∧Only [] w0 w':=by
  obtain ⟨⟨ht0,ht1⟩,⟨hr0,hr1⟩,hw0,hw1⟩:=h
  obtain ⟨hg0,hg1⟩:=hg
  have hs:=St.nil w0
  refine ret_of_xc Tryz.func177 (by kernel_rfl) rfl Tryz.ntmps177 rfl rfl rfl ?_
  repeat' (first|refine vs (k:=?_)|(refine al hs (k:=?_);intro b w hz hs)|(refine bx hs (k:=?_);intro b w hz hs)|refine qRg ?_|refine Nx.h ?_|fail)
  refine dr [] hs (k:=?_);intro hX w hs
  refine tk 0 hX (k:=?_)
  refine tk 2 hX (k:=?_)
  refine tk 3 hX (k:=?_)
  refine tk 4 hX (k:=?_)
  refine pd0 10 6 hs (k:=?_);intro f X w hp;have hs:=hp.st
  apply xa_pend 1 10 (f:=f) (X:=X) hX hp;exact rfl;exact rfl;(apply makes_alloc tabOk;exact rfl);kernel_rfl;kernel_rfl;kernel_rfl;kernel_rfl;(intro X Y;(repeat (first | exact pgg_base | refine pgg_step ?_ (by exact rfl))));(intro w' hs;first|exact se_hold hs.hold|exact se_hold hs.hold.tail|exact se_done rfl);intro f X w hp;have hs:=hp.st
  (with_reducible apply xs_call);exact rfl;exact rfl;exact ofU_ret g (by omega) (by omega) _
  rintro v w' ⟨rfl,ho⟩;replace hp:=hp.only ho;replace hs:=hp.st;repeat' (first|refine Nx.h ?_|fail)
  refine dn (k:=?_)
  apply xa_pend 5 10 (f:=f) (X:=X) hX hp;exact rfl;exact rfl;(apply makes_alloc tabOk;exact rfl);kernel_rfl;kernel_rfl;kernel_rfl;kernel_rfl;(intro X Y;(repeat (first | exact pgg_base | refine pgg_step ?_ (by exact rfl))));(intro w' hs;first|exact se_hold hs.hold|exact se_hold hs.hold.tail|exact se_done rfl);intro f X w hp;have hs:=hp.st
  (with_reducible apply xs_call);exact rfl;exact rfl;exact ofU32_ret p.r ⟨hr0,hr1⟩ _
  rintro v w' ⟨rfl,ho⟩;replace hp:=hp.only ho;replace hs:=hp.st;repeat' (first|refine Nx.h ?_|fail)
  refine dn (k:=?_)
  apply xa_pend 6 10 (f:=f) (X:=X) hX hp;exact rfl;exact rfl;(apply makes_alloc tabOk;exact rfl);kernel_rfl;kernel_rfl;kernel_rfl;kernel_rfl;(intro X Y;(repeat (first | exact pgg_base | refine pgg_step ?_ (by exact rfl))));(intro w' hs;first|exact se_hold hs.hold|exact se_hold hs.hold.tail|exact se_done rfl);intro f X w hp;have hs:=hp.st
  (with_reducible apply xs_call);exact rfl;exact rfl;exact add_ok g p.r (by unfold InW;omega) (by unfold InW;omega) (by unfold InW;omega) _
  rintro v w' ⟨rfl,ho⟩;replace hp:=hp.only ho;replace hs:=hp.st;repeat' (first|refine Nx.h ?_|fail)
  refine dn (k:=?_)
  refine tk 7 hX (hc:=by cases f <;> kernel_rfl) (k:=?_)
  refine tk 8 hX (hc:=by cases f <;> kernel_rfl) (k:=?_)
  refine tk 9 hX (hc:=by cases f <;> kernel_rfl) (k:=?_)
  apply xa_pendE 10 (f:=f) (X:=X) hX hp;exact rfl;(apply makes_alloc tabOk;exact rfl);kernel_rfl;kernel_rfl;(intro X Y;(repeat (first | exact pgg_base | refine pgg_step ?_ (by exact rfl))));(intro w' hs;first|exact se_hold hs.hold|exact se_hold hs.hold.tail|exact se_done rfl);intro b w hI hs
  refine dt 11 hX (k:=?_)
  repeat' (first|(refine stA hs (k:=?_);intro w hs)|refine Nx.h ?_|fail)
  refine dn (k:=?_)
  refine tk 12 hX (k:=?_)
  refine en (k:=?_)
  repeat' (first|refine vs (k:=?_)|refine qRg ?_|refine Nx.h ?_|fail)
  (with_reducible apply xs_call);exact rfl;exact rfl;exact at_ret p.t (g+p.r) p.w (by unfold InW;omega) _
  rintro v w' ⟨rfl,ho⟩;replace hs:=hs.call0 ho;repeat' (first|refine vs (k:=?_)|(refine stA hs (k:=?_);intro w hs)|refine Nx.h ?_|fail)
  first | refine rt (hq:=?_) | refine rt' (hq:=?_)
  exact ⟨rfl,hs.only0 rfl⟩
def cmpP (p q:Pt):Int:=if cmpI 0 (sn q.t p.t)=0 then cmpI (p.r*q.w) (q.r*p.w) else cmpI 0 (sn q.t p.t)
theorem prod32 {a b:Int} (ha:U32 a) (hb:U32 b):IntKind.u64.wrap (IntKind.u64.wrap a*IntKind.u64.wrap b)=a*b:=by
  rw [u64_of32 ha,u64_of32 hb]
  refine u64_id ⟨Int.mul_nonneg ha.1 hb.1,?_⟩
  have:=mul_rng (w:=a) (s:=b) (W:=4294967296) (S:=4294967296) ha.1 (Int.le_of_lt ha.2) (by have:=hb.1;omega) (Int.le_of_lt hb.2)
  have h1:=ha.2
  have h2:a*b≤a*4294967295:=Int.mul_le_mul_of_nonneg_left (by have:=hb.2;omega) ha.1
  omega
theorem pcmp_ret (p q:Pt) (hp':p.In) (hq:q.In) (w0:World):Ret Tryz.prog 222 #[pv p,pv q] w0 fun v w'=>v = .int .i64 (cmpP p q)∧Only [] w0 w':=by
  have hs:=St.nil w0
  refine ret_of_xc Tryz.func222 (by kernel_rfl) rfl Tryz.ntmps222 rfl rfl rfl ?_
  repeat' (first|refine vs (k:=?_)|(refine bx hs (k:=?_);intro b w hz hs)|refine qRg ?_|refine Nx.h ?_|fail)
  refine dr [] hs (k:=?_);intro hX w hs
  refine tk 0 hX (k:=?_)
  refine tk 1 hX (k:=?_)
  refine tk 2 hX (k:=?_)
  refine tk 3 hX (k:=?_)
  refine tk 6 hX (k:=?_)
  refine tk 7 hX (k:=?_)
  refine tk 8 hX (k:=?_)
  refine tk 9 hX (k:=?_)
  refine tk 10 hX (k:=?_)
  refine tk 11 hX (k:=?_)
  refine tk 12 hX (k:=?_)
  refine tk 13 hX (k:=?_)
  refine tk 14 hX (k:=?_)
  refine tk 15 hX (k:=?_)
  refine tk 16 hX (k:=?_)
  refine tk 17 hX (k:=?_)
  refine tk 18 hX (k:=?_)
  refine tk 19 hX (k:=?_)
  refine xa_set 17 (congrArg (Value.int .u64) (prod32 hp'.2.1 hq.2.2)) ?_
  refine xa_set 24 (congrArg (Value.int .u64) (prod32 hq.2.1 hp'.2.2)) ?_
  refine dt 4 hX (k:=?_)
  (with_reducible apply xs_call);exact rfl;exact rfl;exact since_ret q.t p.t _
  rintro v w' ⟨rfl,ho⟩;replace hs:=hs.call0 ho;repeat' (first|refine Nx.h ?_|fail)
  refine dn (k:=?_)
  refine dt 5 hX (k:=?_)
  (with_reducible apply xs_call);exact rfl;exact rfl;exact compareS_ret 0 (sn q.t p.t) _
  rintro v w' ⟨rfl,ho⟩;replace hs:=hs.call0 ho;repeat' (first|refine Nx.h ?_|fail)
  refine dn (k:=?_)
  refine dt 20 hX (k:=?_)
  (with_reducible apply xs_call);exact rfl;exact rfl;exact compareU_ret (p.r*q.w) (q.r*p.w) _
  rintro v w' ⟨rfl,ho⟩;replace hs:=hs.call0 ho;repeat' (first|refine Nx.h ?_|fail)
  refine dn (k:=?_)
  refine dt 21 hX (k:=?_)
  repeat' (first|(refine bs hs (k:=?_);intro b w hz hs)|refine Nx.h ?_|fail)
  refine dn (k:=?_)
  refine dt 22 hX (k:=?_)
  (with_reducible apply xs_call);exact rfl;exact rfl;exact or_ret _ _ _ _ _ (hs.get At.head)
  rintro v w' ⟨rfl,ho⟩;replace hs:=hs.call0 ho;repeat' (first|refine Nx.h ?_|fail)
  refine dn (k:=?_)
  refine tk 23 hX (k:=?_)
  refine en (k:=?_)
  repeat' (first|refine Nx.h ?_|fail)
  first | refine rt (hq:=?_) | refine rt' (hq:=?_)
  exact ⟨rfl,hs.only0 rfl⟩
def Pt.shift (p:Pt) (by_:Int):Pt:=⟨lat p.t by_,p.r,p.w⟩
theorem pshift_ret (p:Pt) (d:Int) (w0:World):Ret Tryz.prog 261 #[pv p,.int .u64 d] w0 fun v w'=>v=pv (p.shift d)∧Only [] w0 w':=by
  have hs:=St.nil w0
  refine ret_of_xc Tryz.func261 (by kernel_rfl) rfl Tryz.ntmps261 rfl rfl rfl ?_
  repeat' (first|refine vs (k:=?_)|(refine st hs (k:=?_);intro w hs)|(refine stA hs (k:=?_);intro w hs)|(refine al hs (k:=?_);intro b w hz hs)|(refine bx hs (k:=?_);intro b w hz hs)|refine qRg ?_|refine Nx.h ?_|fail)
  first | refine rt (hq:=?_) | refine rt' (hq:=?_)
  refine ⟨?_,hs.only0 rfl⟩
  unfold Pt.shift pv lat packed
  rw [wrap_u64]
end Go.Proofs.YtkbcfknnieggbaaGreatDoorX

namespace Go.Proofs.YtkbcfknnieggbaaGreatDoorX
open Go Go.RowKit
attribute [local irreducible] XS XC XA thenE blockE retE loopE loopS cutB cutN doneE SE
structure It where
  p:Pt
  id:Int
  d:Pt
deriving DecidableEq
abbrev It.cells (a:It):List Value:=[.int .u64 a.p.t,.int .u32 a.p.r,.int .u32 a.p.w,.int .i64 a.id,.int .u64 a.d.t,.int .u32 a.d.r,.int .u32 a.d.w]
def iv (a:It):Value := .agg #[.int .u64 a.p.t,.int .u32 a.p.r,.int .u32 a.p.w,.int .i64 a.id,.int .u64 a.d.t,.int .u32 a.d.r,.int .u32 a.d.w]
def It.In (a:It):Prop:=a.p.In∧In64 a.id∧a.d.In
instance (a:It):Decidable a.In:=by unfold It.In;infer_instance
def It.zero:It:=⟨.zero,0,.zero⟩
def It.right (a:It):Bool:=a.p.right && a.d.right && decide (a.p.w=a.d.w) && decide (0 < a.id) && decide (0≤sn a.d.t a.p.t) && decide (sn a.d.t a.p.t≤1152921504606846976)
set_option maxHeartbeats 1000000 in
theorem iright_ret (a:It) (w0:World):Ret Tryz.prog 139 #[iv a] w0 fun v w'=>v = .bool a.right∧Only [] w0 w':=by
  have hs:=St.nil w0
  refine ret_of_xc Tryz.func139 (by kernel_rfl) rfl Tryz.ntmps139 rfl rfl rfl ?_
  repeat' (first|refine vs (k:=?_)|(refine bx hs (k:=?_);intro b w hz hs)|refine qRg ?_|refine Nx.h ?_|fail)
  (with_reducible apply xs_call);exact rfl;exact rfl;exact since_ret a.d.t a.p.t _
  rintro v w' ⟨rfl,ho⟩;replace hs:=hs.call0 ho;repeat' (first|refine vs (k:=?_)|refine qRg ?_|refine Nx.h ?_|fail)
  (with_reducible apply xs_call);exact rfl;exact rfl;exact pright_ret a.p _
  rintro v w' ⟨rfl,ho⟩;replace hs:=hs.call0 ho;repeat' (first|refine vs (k:=?_)|refine ps (k:=?_)|refine Nx.h ?_|((with_reducible apply xs_guard);exact rfl;exact rfl;intro c hc;(fail_if_success have:true=c:=hc);(fail_if_success have:false=c:=hc);cases c)|fail)
  · first | refine rt (hq:=?_) | refine rt' (hq:=?_)
    refine ⟨?_,hs.only0 rfl⟩
    clear hs
    unfold It.right packed
    simp_all
  · (with_reducible apply xs_call);exact rfl;exact rfl;exact pright_ret a.d _
    rintro v w' ⟨rfl,ho⟩;replace hs:=hs.call0 ho;repeat' (first|refine vs (k:=?_)|refine ps (k:=?_)|refine Nx.h ?_|((with_reducible apply xs_guard);exact rfl;exact rfl;intro c hc;(fail_if_success have:true=c:=hc);(fail_if_success have:false=c:=hc);cases c)|fail)
    all_goals (first | refine rt (hq:=?_) | refine rt' (hq:=?_))
    all_goals refine ⟨?_,hs.only0 rfl⟩
    all_goals clear hs
    all_goals (unfold It.right packed;simp_all <;> omega)
def ahead (a b:It):Bool:=decide (cmpP a.p b.p < 0) || (decide (cmpP a.p b.p=0) && decide (a.id < b.id))
set_option maxHeartbeats 1000000 in
theorem ahead_ret (x y:It) (ha:x.In) (hb:y.In) (w0:World):Ret Tryz.prog 181 #[iv x,iv y] w0 fun v w'=>v = .bool (ahead x y)∧Only [] w0 w':=by
  have hs:=St.nil w0
  refine ret_of_xc Tryz.func181 (by kernel_rfl) rfl Tryz.ntmps181 rfl rfl rfl ?_
  repeat' (first|refine vs (k:=?_)|(refine bx hs (k:=?_);intro b w hz hs)|refine qRg ?_|refine Nx.h ?_|fail)
  (with_reducible apply xs_call);exact rfl;exact rfl;exact pcmp_ret x.p y.p ha.1 hb.1 _
  rintro v w' ⟨rfl,ho⟩;replace hs:=hs.call0 ho;repeat' (first|refine vs (k:=?_)|refine ps (k:=?_)|refine qRg ?_|refine Nx.h ?_|((with_reducible apply xs_guard);exact rfl;exact rfl;intro c hc;(fail_if_success have:true=c:=hc);(fail_if_success have:false=c:=hc);cases c)|fail)
  all_goals (first | refine rt (hq:=?_) | refine rt' (hq:=?_))
  all_goals refine ⟨?_,hs.only0 rfl⟩
  all_goals clear hs
  all_goals (unfold ahead packed;simp_all)
def due (a b:It):Bool:=decide (cmpP a.d b.d < 0) || (decide (cmpP a.d b.d=0) && ahead a b)
set_option maxHeartbeats 1000000 in
theorem due_ret (x y:It) (ha:x.In) (hb:y.In) (w0:World):Ret Tryz.prog 245 #[iv x,iv y] w0 fun v w'=>v = .bool (due x y)∧Only [] w0 w':=by
  have hs:=St.nil w0
  refine ret_of_xc Tryz.func245 (by kernel_rfl) rfl Tryz.ntmps245 rfl rfl rfl ?_
  repeat' (first|refine vs (k:=?_)|(refine bx hs (k:=?_);intro b w hz hs)|refine qRg ?_|refine Nx.h ?_|fail)
  (with_reducible apply xs_call);exact rfl;exact rfl;exact pcmp_ret x.d y.d ha.2.2 hb.2.2 _
  rintro v w' ⟨rfl,ho⟩;replace hs:=hs.call0 ho;repeat' (first|refine vs (k:=?_)|refine ps (k:=?_)|refine qRg ?_|refine Nx.h ?_|((with_reducible apply xs_guard);exact rfl;exact rfl;intro c hc;(fail_if_success have:true=c:=hc);(fail_if_success have:false=c:=hc);cases c)|fail)
  · first | refine rt (hq:=?_) | refine rt' (hq:=?_)
    refine ⟨?_,hs.only0 rfl⟩
    clear hs
    unfold due packed;simp_all
  · (with_reducible apply xs_call);exact rfl;exact rfl;exact ahead_ret x y ha hb _
    rintro v w' ⟨rfl,ho⟩;replace hs:=hs.call0 ho;repeat' (first|refine vs (k:=?_)|refine Nx.h ?_|fail)
    first | refine rt (hq:=?_) | refine rt' (hq:=?_)
    refine ⟨?_,hs.only0 rfl⟩
    clear hs
    unfold due packed;simp_all
  · first | refine rt (hq:=?_) | refine rt' (hq:=?_)
    refine ⟨?_,hs.only0 rfl⟩
    clear hs
    unfold due packed;simp_all
end Go.Proofs.YtkbcfknnieggbaaGreatDoorX

namespace Go.Proofs.YtkbcfknnieggbaaGreatDoorX
open Go Go.RowKit
attribute [local irreducible] XS XC XA thenE blockE retE loopE loopS cutB cutN doneE SE
theorem nx64 {i m:Nat} (h:i < m) (hm:m≤9223372036854775807):IntKind.i64.wrap ((i:Int)+1)=((i+1:Nat):Int):=by
  rw [wrap_i64];omega
def PsAt (w:World) (v:Value) (ps:List Pt):Prop:=LsAt w 47 3 v (ps.map Pt.cells)
def ItsAt (w:World) (v:Value) (l:List It):Prop:=LsAt w 49 7 v (l.map It.cells)
def sinces (base:Int) (ps:List Pt):List Int:=ps.map fun p=>sn p.t base
theorem minL_in {l:List Int} (h:∀ d∈l,In64 d):In64 (minL l):=by
  cases l with
  | nil=>decide
  | cons d l =>
    have:∀ (l:List Int) (a:Int),In64 a→(∀ d∈l,In64 d)→In64 (l.foldl (fun a b=>if b < a then b else a) a):=by
      intro l
      induction l with
      | nil=>intro a ha _;exact ha
      | cons b l ih =>
        intro a ha hl
        refine ih _ ?_ (fun d hd=>hl d (List.mem_cons_of_mem _ hd))
        show In64 (if b < a then b else a)
        split
        · exact hl b List.mem_cons_self
        · exact ha
    exact this l d (h d List.mem_cons_self) fun x hx=>h x (List.mem_cons_of_mem _ hx)
theorem maxL_in {l:List Int} (h:∀ d∈l,In64 d):In64 (maxL l):=by
  cases l with
  | nil=>decide
  | cons d l =>
    have:∀ (l:List Int) (a:Int),In64 a→(∀ d∈l,In64 d)→In64 (l.foldl (fun a b=>if b > a then b else a) a):=by
      intro l
      induction l with
      | nil=>intro a ha _;exact ha
      | cons b l ih =>
        intro a ha hl
        refine ih _ ?_ (fun d hd=>hl d (List.mem_cons_of_mem _ hd))
        show In64 (if b > a then b else a)
        split
        · exact hl b List.mem_cons_self
        · exact ha
    exact this l d (h d List.mem_cons_self) fun x hx=>h x (List.mem_cons_of_mem _ hx)
theorem take_next {α:Type} {l:List α} {i:Nat} (h:i < l.length):l.take (i+1)=l.take i ++ [l[i]]:=by simp
set_option maxHeartbeats 2000000 in
theorem floors_ret (base:Int) (ps:List Pt) (sl:Value) (hm:ps.length≤9223372036854775807) (w0:World) (hP:PsAt w0 sl ps) :
    Ret Tryz.prog 133 #[.int .u64 base,sl] w0 fun v w'=>v = .tuple #[.int .i64 (minL (sinces base ps)),.int .i64 (maxL (sinces base ps))]∧Only [] w0 w':=by
  obtain ⟨ad,cap,rfl,hD⟩:=hP
  rw [List.length_map] at *
  have hs:=St.nil w0
  refine ret_of_xc Tryz.func133 (by kernel_rfl) rfl Tryz.ntmps133 rfl rfl rfl ?_
  repeat' (first|refine vs (k:=?_)|refine qRg ?_|refine Nx.h ?_|fail)
  refine xc_cutB (fun (_:Unit)=>[(4,.int .i64 (minL (sinces base ps))),(5,.int .i64 (maxL (sinces base ps)))]) (fun _ w=>St w0 D0 [] w) ?_ ?_
  · refine xc_loopS (fun (i:Nat)=>[(0,.int .u64 base),(4,.int .i64 (minL (sinces base (ps.take i)))),(5,.int .i64 (maxL (sinces base (ps.take i)))),(9,.slice ad ps.length cap),(10,.int .i64 (ps.length:Nat)),(11,.int .i64 (i:Nat))])
      (fun i w=>i≤ps.length∧St w0 D0 [] w) (fun i=>ps.length - i) 0 (by (repeat (first | exact agree_nil | (apply agree_cons;exact rfl)))) ⟨Nat.zero_le _,hs⟩ fun i env w ⟨hi,hs⟩=>?_
    repeat' (first|refine vs (k:=?_)|refine qRg ?_|refine Nx.h ?_|(refine xc_if rfl (fun hc=>?_) (fun hc=>?_))|fail)
    · have hlt:i < ps.length:=by omega
      obtain ⟨b,off,cs,fz,rfl,_,hb,hcs⟩:=hD (fun h=>by simp at h;subst h;cases hlt)
      have hpk:=hcs i (Pt.cells ps[i]) (by rw [List.getElem?_map,List.getElem?_eq_getElem hlt];rfl)
      have hnx:sinces base (ps.take (i+1))=sinces base (ps.take i) ++ [sn ps[i].t base]:=by rw [take_next hlt];unfold sinces;rw [List.map_append];rfl
      have h0:sinces base (ps.take i)=[]↔i=0:=by
        unfold sinces
        rw [List.map_eq_nil_iff,List.take_eq_nil_iff]
        constructor
        · rintro (h | h)
          · exact h
          · subst h;simp at hlt
        · exact .inl
      have emin:=minL_snoc (sinces base (ps.take i)) (sn ps[i].t base)
      have emax:=maxL_snoc (sinces base (ps.take i)) (sn ps[i].t base)
      rw [← hnx] at emin emax
      have ei:=nx64 hlt hm
      generalize ps[i]=p at *
      refine ix (h0:=(by omega)) (h1:=(by omega)) (k:=?_)
      refine lhK ((hs.only0 rfl).block hb (by simp)) hpk (k:=?_)
      refine al hs (k:=?_);intro b7 w hz hs
      repeat' (first|refine vs (k:=?_)|(refine stA hs (k:=?_);intro w hs)|refine qRg ?_|refine Nx.h ?_|fail)
      (with_reducible apply xs_call);exact rfl;exact rfl;exact since_ret p.t base _
      rintro v w' ⟨rfl,ho⟩;replace hs:=hs.call0 ho;repeat' (first|refine vs (k:=?_)|refine qRg ?_|refine Nx.h ?_|(refine xc_if rfl (fun hc=>?_) (fun hc=>?_))|fail)
      · have hi0:i=0:=by omega
        rw [if_pos (h0.2 hi0)] at emin emax
        have e1:(if sn p.t base < sn p.t base then sn p.t base else sn p.t base)=minL (sinces base (ps.take (i+1))):=by rw [emin];split <;> rfl
        have e2:(if sn p.t base > sn p.t base then sn p.t base else sn p.t base)=maxL (sinces base (ps.take (i+1))):=by rw [emax];split <;> rfl
        exact loopS_next (i+1) (by omega) (by (repeat (first | exact agree_nil | (apply agree_cons;first | exact rfl | exact congrArg (Value.int .i64) e1 | exact congrArg (Value.int .i64) e2 | exact congrArg (Value.int .i64) ei)))) ⟨by omega,hs.forgetNew⟩
      · have hi0:¬ i=0:=by omega
        rw [if_neg (fun h=>hi0 (h0.1 h))] at emin emax
        exact loopS_next (i+1) (by omega) (by (repeat (first | exact agree_nil | (apply agree_cons;first | exact rfl | exact congrArg (Value.int .i64) emin.symm | exact congrArg (Value.int .i64) emax.symm | exact congrArg (Value.int .i64) ei)))) ⟨by omega,hs.forgetNew⟩
    · have e:i=ps.length:=by omega
      rw [e,List.take_length]
      exact cutB_exit () (by (repeat (first | exact agree_nil | (apply agree_cons;exact rfl)))) hs
  · rintro _ env w hs
    repeat' (first|refine vs (k:=?_)|refine qRg ?_|refine Nx.h ?_|fail)
    first | refine rt (hq:=?_) | refine rt' (hq:=?_)
    exact ⟨rfl,hs.only0 rfl⟩
def soonest (a:It) (l:List It):It:=l.foldl (fun a b=>bif due b a then b else a) a
theorem soonest_snoc (a:It) (l:List It) (b:It):soonest a (l ++ [b])=bif due b (soonest a l) then b else soonest a l:=by unfold soonest;rw [List.foldl_append];rfl
theorem soonest_in {a:It} (ha:a.In):∀ {l:List It},(∀ b∈l,b.In)→(soonest a l).In:=by
  intro l
  unfold soonest
  induction l generalizing a with
  | nil=>intro _;exact ha
  | cons b l ih =>
    intro hl
    refine ih ?_ (fun c hc=>hl c (List.mem_cons_of_mem _ hc))
    show (bif due b a then b else a).In
    cases due b a
    · exact ha
    · exact hl b List.mem_cons_self
set_option maxHeartbeats 2000000 in
theorem soonest_ret (x:It) (l:List It) (sl:Value) (hx:x.In) (hl:∀ b∈l,b.In) (hm:l.length≤9223372036854775807) (w0:World) (hP:ItsAt w0 sl l) :
    Ret Tryz.prog 223 #[iv x,sl] w0 fun v w'=>v=iv (soonest x l)∧Only [] w0 w':=by
  obtain ⟨ad,cap,rfl,hD⟩:=hP
  rw [List.length_map] at *
  have hs:=St.nil w0
  refine ret_of_xc Tryz.func223 (by kernel_rfl) rfl Tryz.ntmps223 rfl rfl rfl ?_
  refine xc_seq ?_
  refine xc_region ?_ ?_;exact rfl
  refine bx hs (k:=?_);intro b2 w hz hs
  refine al hs (k:=?_);intro b4 w hz hs
  repeat' (first|refine vs (k:=?_)|refine qRg ?_|refine Nx.h ?_|fail)
  refine xc_cutB (fun (_:Unit)=>[(2,.pointer (some ⟨b2,0,none⟩)),(4,.pointer (some ⟨b4,0,none⟩))]) (fun _ w=>St w0 D0 [(b4,.cells It.zero.cells.toArray 49,true),(b2,.cells (soonest x l).cells.toArray 49,true)] w) ?_ ?_
  · refine xc_loopS (fun (i:Nat)=>[(2,.pointer (some ⟨b2,0,none⟩)),(4,.pointer (some ⟨b4,0,none⟩)),(7,.slice ad l.length cap),(8,.int .i64 (l.length:Nat)),(9,.int .i64 (i:Nat))])
      (fun i w=>i≤l.length∧St w0 D0 [(b4,.cells It.zero.cells.toArray 49,true),(b2,.cells (soonest x (l.take i)).cells.toArray 49,true)] w) (fun i=>l.length - i) 0 (by (repeat (first | exact agree_nil | (apply agree_cons;exact rfl)))) ⟨Nat.zero_le _,hs⟩ fun i env w ⟨hi,hs⟩=>?_
    repeat' (first|refine vs (k:=?_)|refine qRg ?_|refine Nx.h ?_|(refine xc_if rfl (fun hc=>?_) (fun hc=>?_))|fail)
    · have hlt:i < l.length:=by omega
      obtain ⟨b,off,cs,fz,rfl,_,hb,hcs⟩:=hD (fun h=>by simp at h;subst h;cases hlt)
      have hpk:=hcs i (It.cells l[i]) (by rw [List.getElem?_map,List.getElem?_eq_getElem hlt];rfl)
      have hsn:=soonest_snoc x (l.take i) l[i]
      rw [← take_next hlt] at hsn
      have hin:=hl l[i] (List.getElem_mem hlt)
      have hin2:=soonest_in hx (l:=l.take i) (fun c hc=>hl c (List.mem_of_mem_take hc))
      have ei:=nx64 hlt hm
      generalize l[i]=q at *
      generalize soonest x (l.take i)=y at *
      refine ix (h0:=(by omega)) (h1:=(by omega)) (k:=?_)
      refine lhK ((hs.only0 rfl).block hb (by simp)) hpk (k:=?_)
      refine al hs (k:=?_);intro b6 w hz hs
      repeat' (first|refine vs (k:=?_)|(refine stA hs (k:=?_);intro w hs)|refine qRg ?_|refine Nx.h ?_|fail)
      (with_reducible apply xs_call);exact rfl;exact rfl;exact due_ret q y hin hin2 _
      rintro v w' ⟨rfl,ho⟩;replace hs:=hs.call0 ho;repeat' (first|refine vs (k:=?_)|(refine stA hs (k:=?_);intro w hs)|refine qRg ?_|refine Nx.h ?_|(refine xc_cond rfl (fun hc=>?_) (fun hc=>?_))|fail)
      · rw [hc,cond_true] at hsn
        exact loopS_next (i+1) (by omega) (by (repeat (first | exact agree_nil | (apply agree_cons;first | exact rfl | exact congrArg (Value.int .i64) ei)))) ⟨by omega,by rw [hsn];exact hs.forgetNew⟩
      · rw [hc,cond_false] at hsn
        exact loopS_next (i+1) (by omega) (by (repeat (first | exact agree_nil | (apply agree_cons;first | exact rfl | exact congrArg (Value.int .i64) ei)))) ⟨by omega,by rw [hsn];exact hs.forgetNew⟩
    · have e:i=l.length:=by omega
      rw [e,List.take_length] at hs
      exact cutB_exit () (by (repeat (first | exact agree_nil | (apply agree_cons;exact rfl)))) hs
  · rintro _ env w hs
    repeat' (first|refine vs (k:=?_)|(refine stA hs (k:=?_);intro w hs)|refine qRg ?_|refine Nx.h ?_|fail)
    first | refine rt (hq:=?_) | refine rt' (hq:=?_)
    exact ⟨rfl,hs.only0 rfl⟩
end Go.Proofs.YtkbcfknnieggbaaGreatDoorX

namespace Go.Proofs.YtkbcfknnieggbaaGreatDoorX
open Go Go.RowKit
def LsX (w:World) (k:Nat) (v:Value) (xs:List (List Value)):Prop :=
  ∃ ad cap,v = .slice ad xs.length cap∧(xs≠[]→∃ (b off:Nat) (cs:List Value) (E:TypeId) (fz:Nat × Nat),ad=some ⟨b,off,none⟩∧w.heap[b]?=some (.cells cs.toArray E fz)∧∀ (i:Nat) x,xs[i]?=some x→Pick cs (off+i*k) k x)
theorem LsX.only {w w':World} {k:Nat} {v:Value} {xs:List (List Value)} (h:LsX w k v xs) (ho:Only [] w w'):LsX w' k v xs:=by
  obtain ⟨ad,cap,rfl,h⟩:=h
  refine ⟨ad,cap,rfl,fun hn=>?_⟩
  obtain ⟨b,off,cs,E,fz,h1,h2,h3⟩:=h hn
  exact ⟨b,off,cs,E,fz,h1,ho.block h2 (by simp),h3⟩
theorem LsAt.x {w:World} {E k:Nat} {v:Value} {xs:List (List Value)} (h:LsAt w E k v xs):LsX w k v xs:=by
  obtain ⟨ad,cap,rfl,h⟩:=h
  refine ⟨ad,cap,rfl,fun hn=>?_⟩
  obtain ⟨b,off,cs,fz,h1,_,h2,h3⟩:=h hn
  exact ⟨b,off,cs,E,fz,h1,h2,h3⟩
end Go.Proofs.YtkbcfknnieggbaaGreatDoorX

namespace Go.Proofs.YtkbcfknnieggbaaGreatDoorX
open Go Go.RowKit Go.ChangeShapes Go.WideShapes Go.ChangeAt
theorem cell_block {w:World} {a:Addr} {v:Value} (h:w.cell? a=some v):∃ cs E fz,w.heap[a.block]?=some (.cells cs E fz)∧a.spot=none∧cs[a.off]?=some v:=by
  unfold World.cell? at h
  split at h
  · rename_i cs E fz hb
    split at h
    · cases h
    · rename_i hs
      exact ⟨cs,E,fz,hb,by simpa using hs,h⟩
  · cases h
theorem cell_of_block {w:World} {a:Addr} {v:Value} {cs:Array Value} {E:TypeId} {fz:Nat × Nat} (h:w.cell? a=some v) (hb:w.heap[a.block]?=some (.cells cs E fz)):cs[a.off]?=some v:=by
  obtain ⟨cs',E',fz',h1,_,h2⟩:=cell_block h
  rw [hb] at h1
  cases h1
  exact h2
theorem addr_add (b o k:Nat):(⟨b,o,none⟩:Addr).add k=⟨b,o+k,none⟩:=by
  unfold Addr.add
  split <;> simp_all
end Go.Proofs.YtkbcfknnieggbaaGreatDoorX

namespace Go.Proofs.YtkbcfknnieggbaaGreatDoorX
open Go Go.RowKit Go.ChangeShapes Go.WideShapes Go.ChangeAt
theorem rng_i64 {x:Int} (h:Lit.wf (.int .i64 x)=true):In64 x:=by
  have h:IntKind.i64.min≤x∧x≤IntKind.i64.max:=by simpa [Lit.wf] using h
  have e1:IntKind.i64.min=-9223372036854775808:=rfl
  have e2:IntKind.i64.max=9223372036854775807:=rfl
  unfold In64;omega
theorem rng_u64 {x:Int} (h:Lit.wf (.int .u64 x)=true):U64 x:=by
  have h:IntKind.u64.min≤x∧x≤IntKind.u64.max:=by simpa [Lit.wf] using h
  have e1:IntKind.u64.min=0:=rfl
  have e2:IntKind.u64.max=18446744073709551615:=rfl
  unfold U64;omega
theorem rng_u8 {x:Int} (h:Lit.wf (.int .u8 x)=true):0≤x∧x < 256:=by
  have h:IntKind.u8.min≤x∧x≤IntKind.u8.max:=by simpa [Lit.wf] using h
  have e1:IntKind.u8.min=0:=rfl
  have e2:IntKind.u8.max=255:=rfl
  omega
theorem rng_u32 {x:Int} (h:Lit.wf (.int .u32 x)=true):0≤x∧x < 4294967296:=by
  have h:IntKind.u32.min≤x∧x≤IntKind.u32.max:=by simpa [Lit.wf] using h
  have e1:IntKind.u32.min=0:=rfl
  have e2:IntKind.u32.max=4294967295:=rfl
  omega
theorem pick_at {cs:List Value}:∀ {vs:List Value} {off m:Nat},vs.length=m→(∀ j,j < m→cs[off+j]?=vs[j]?)→Pick cs off m vs
  | [],off,m,hm,h=>by subst hm;exact .nil
  | v :: vs,off,m,hm,h=>by
    subst hm
    refine .cons (by have:=h 0 (by simp);simpa using this) (pick_at rfl fun j hj=>?_)
    have:=h (j+1) (by simp;omega)
    rw [show off+1+j=off+(j+1) by omega]
    simpa using this
set_option maxRecDepth 100000 in
theorem open_rows {H:Type} {enc:TypeId × Value→H} {W:World} {r:Reach} {b0 base:Nat} {spare:Nat→Bool} {held:Bool} {v:Value} {d:DataW H} {p:List MemPlace} {α:Type} [Inhabited α] {t e k:Nat} {cells:α→List Value} {Q:α→Prop}
    (ht:Tryz.prog.underlying t=some (.slice e)) (ce:Tryz.prog.cellsOf e=k) (hk:0 < k) (hlen:∀ q,(cells q).length=k)
    (dec:∀ (fuel:Nat) (cs:List Value) x,DataW.trod enc Tryz.prog W base spare held fuel e cs=some x→∃ q,cs=cells q∧Q q)
    (hv:Value.okWide Tryz.prog W r b0 t v) (h:DataW.Trod enc Tryz.prog W base spare held t v d p):∃ xs:List α,LsX W k v (xs.map cells)∧∀ a∈xs,Q a:=by
  obtain ⟨a0,len,cap,rfl⟩:=okWide_slice ht hv
  obtain ⟨fuel,hf⟩:=h
  rcases Deep.open_slice ht hf with ⟨hc,hx⟩ | ⟨a,len',cap',m,n,D,Pl,hc,hb,hl,hm,hmm,hx,hall⟩
  · obtain ⟨rfl,rfl,rfl⟩:a0=none∧len=0∧cap=0:=by injection hc with h1 h2;injection h1 with h1 h2 h3;exact ⟨h1,h2,h3⟩
    exact ⟨[],⟨none,0,rfl,fun h=>absurd rfl h⟩,by simp⟩
  · obtain ⟨rfl,rfl,rfl⟩:a0=some a∧len=len'∧cap=cap':=by injection hc with h1 h2;injection h1 with h1 h2 h3;exact ⟨h1,h2,h3⟩
    have hlm:len≤m:=by rw [hmm];split <;> omega
    have each:∀ i,i < len→∃ q:α,W.cells? base (a.add (i*k)) k=some (cells q)∧Q q:=fun i hi=>by
      obtain ⟨cs',h1,h2⟩:=hall i (by omega)
      obtain ⟨q,rfl,hq⟩:=dec _ _ _ h2
      rw [ce] at h1
      exact ⟨q,h1,hq⟩
    obtain ⟨f,hfq⟩:=Deep.choose_lt each
    refine ⟨(List.range len).map f,⟨some a,cap,by simp,fun hn=>?_⟩,fun x hx=>by obtain ⟨i,hi,rfl⟩:=List.mem_map.1 hx;exact (hfq i (List.mem_range.1 hi)).2⟩
    have h0:0 < len:=by
      rcases Nat.eq_zero_or_pos len with h0 | h0
      · subst h0;exact absurd rfl hn
      · exact h0
    have hcell:∀ i,i < len→∀ j,j < k→W.cell? ((a.add (i*k)).add j)=(cells (f i))[j]?:=fun i hi=>(World.cells?_some (hfq i hi).1).2.2
    have hc0:=hcell 0 h0 0 hk
    rw [List.getElem?_eq_getElem (by rw [hlen];exact hk)] at hc0
    obtain ⟨cs,E,fz,hb',hsp,_⟩:=cell_block hc0
    obtain ⟨ab,ao,asp⟩:=a
    have e0:((⟨ab,ao,asp⟩:Addr).add (0*k)).add 0=⟨ab,ao,asp⟩:=by simp [Addr.add]
    rw [e0] at hb' hsp
    obtain rfl:asp=none:=hsp
    refine ⟨ab,ao,cs.toList,E,fz,rfl,by simpa using hb',fun i x hx=>?_⟩
    have hi:i < len:=by
      rcases Nat.lt_or_ge i len with h1 | h1
      · exact h1
      · rw [List.getElem?_eq_none (by simpa using h1)] at hx;cases hx
    have hx':cells (f i)=x:=by
      rw [List.getElem?_map,List.getElem?_map,List.getElem?_range hi] at hx
      exact Option.some.inj hx
    subst hx'
    refine pick_at (hlen _) fun j hj=>?_
    have g0:=hcell i hi j hj
    rw [addr_add,addr_add] at g0
    have g1:(cells (f i))[j]?=some ((cells (f i))[j]'(by rw [hlen];exact hj)):=List.getElem?_eq_getElem _
    rw [g1] at g0
    have:=cell_of_block g0 hb'
    rw [g1]
    simpa [Nat.add_assoc] using this
end Go.Proofs.YtkbcfknnieggbaaGreatDoorX

namespace Go.Proofs.YtkbcfknnieggbaaGreatDoorX
structure OrdOn {α:Type} (lt:α→α→Bool) (S:α→Prop):Prop where
  irr:∀ a,S a→lt a a=false
  tr:∀ a b c,S a→S b→S c→lt a b=true→lt b c=true→lt a c=true
  tri:∀ a b,S a→S b→lt a b=false→lt b a=false→a=b
inductive RB (α:Type) where
  | nil
  | node (l:RB α) (x:α) (r:RB α) (c:Bool)
namespace RB
variable {α : Type}
def red:RB α→Bool
  | nil=>false
  | node _ _ _ c=>c
def left:RB α→RB α
  | nil=>nil
  | node l _ _ _=>l
def right:RB α→RB α
  | nil=>nil
  | node _ _ r _=>r
def list:RB α→List α
  | nil=>[]
  | node l x r _=>l.list ++ x :: r.list
def depth:RB α→Nat
  | nil=>0
  | node l _ r _=>1+max l.depth r.depth
def toLeft:RB α→RB α
  | node l x (node rl y rr _) c=>node (node l x rl true) y rr c
  | t=>t
def toRight:RB α→RB α
  | node (node ll y lr _) x r c=>node ll y (node lr x r true) c
  | t=>t
def flip:RB α→RB α
  | node (node a x b c1) y (node d z e c2) c=>node (node a x b !c1) y (node d z e !c2) !c
  | t=>t
def mend1 (t:RB α):RB α:=bif t.right.red && !t.left.red then toLeft t else t
def mend2 (t:RB α):RB α:=bif t.left.red && t.left.left.red then toRight t else t
def mend3 (t:RB α):RB α:=bif t.left.red && t.right.red then flip t else t
def mend (t:RB α):RB α:=mend3 (mend2 (mend1 t))
def ins (lt:α→α→Bool):RB α→α→RB α
  | nil,x=>node nil x nil true
  | node l y r c,x=>bif lt x y then mend (node (ins lt l x) y r c) else mend (node l y (ins lt r x) c)
def blacken:RB α→RB α
  | nil=>nil
  | node l x r _=>node l x r false
theorem left_node (l:RB α) (x:α) (r:RB α) (c:Bool):(node l x r c).left=l:=rfl
theorem right_node (l:RB α) (x:α) (r:RB α) (c:Bool):(node l x r c).right=r:=rfl
theorem red_node (l:RB α) (x:α) (r:RB α) (c:Bool):(node l x r c).red=c:=rfl
theorem list_toLeft:∀ t:RB α,(toLeft t).list=t.list
  | nil=>rfl
  | node l x nil c=>rfl
  | node l x (node rl y rr _) c=>by simp [toLeft,list]
theorem list_toRight:∀ t:RB α,(toRight t).list=t.list
  | nil=>rfl
  | node nil x r c=>rfl
  | node (node ll y lr _) x r c=>by simp [toRight,list]
theorem list_flip:∀ t:RB α,(flip t).list=t.list
  | nil=>rfl
  | node nil x r c=>rfl
  | node (node a x b _) y nil c=>rfl
  | node (node a x b _) y (node d z e _) c=>by simp [flip,list]
theorem list_mend (t:RB α):(mend t).list=t.list:=by
  unfold mend mend3 mend2 mend1
  repeat' (cases (_ && _) <;> simp only [cond_true,cond_false])
  all_goals simp only [list_toLeft,list_toRight,list_flip]
theorem list_blacken:∀ t:RB α,(blacken t).list=t.list
  | nil=>rfl
  | node l x r c=>rfl
def insL (lt:α→α→Bool) (x:α):List α→List α
  | []=>[x]
  | y :: l=>bif lt x y then x :: y :: l else y :: insL lt x l
theorem insL_left {lt:α→α→Bool} {x y:α} (h:lt x y=true) (R:List α):∀ L:List α,insL lt x (L ++ y :: R)=insL lt x L ++ y :: R
  | []=>by simp [insL,h]
  | z :: L=>by
    simp only [List.cons_append,insL]
    cases lt x z <;> simp [insL_left h R L]
theorem insL_right {lt:α→α→Bool} {x:α} (R:List α):∀ L:List α,(∀ z∈L,lt x z=false)→insL lt x (L ++ R)=L ++ insL lt x R
  | [],_=>rfl
  | z :: L,h=>by
    simp only [List.cons_append,insL,h z List.mem_cons_self,cond_false]
    rw [insL_right R L fun z hz=>h z (List.mem_cons_of_mem _ hz)]
def Srt (lt:α→α→Bool) (l:List α):Prop:=l.Pairwise fun a b=>lt a b=true
theorem srt_node {lt:α→α→Bool} {L R:List α} {y:α} (h:Srt lt (L ++ y :: R)):Srt lt L∧Srt lt R∧(∀ z∈L,lt z y=true)∧(∀ z∈R,lt y z=true)∧∀ a∈L,∀ b∈R,lt a b=true:=by
  unfold Srt at *
  rw [List.pairwise_append,List.pairwise_cons] at h
  obtain ⟨h1,⟨h2,h3⟩,h4⟩:=h
  exact ⟨h1,h3,fun z hz=>h4 z hz y List.mem_cons_self,h2,fun a ha b hb=>h4 a ha b (List.mem_cons_of_mem _ hb)⟩
theorem asym {lt:α→α→Bool} {S:α→Prop} (ho:OrdOn lt S) {a b:α} (ha:S a) (hb:S b) (h:lt a b=true):lt b a=false:=by
  cases h2:lt b a
  · rfl
  · have h3:=ho.tr a b a ha hb ha h h2
    rw [ho.irr a ha] at h3
    cases h3
theorem list_ins {lt:α→α→Bool} {S:α→Prop} (ho:OrdOn lt S) {x:α} (hx:S x):∀ t:RB α,Srt lt t.list→(∀ z∈t.list,S z)→(ins lt t x).list=insL lt x t.list
  | nil,_,_=>rfl
  | node l y r c,hs,hS=>by
    obtain ⟨h1,h2,h3,h4,h5⟩:=srt_node hs
    simp only [list,List.mem_append,List.mem_cons] at hS
    have hl:=list_ins ho hx l h1 fun z hz=>hS z (.inl hz)
    have hr:=list_ins ho hx r h2 fun z hz=>hS z (.inr (.inr hz))
    have hy:=hS y (.inr (.inl rfl))
    simp only [ins,list]
    cases hxy:lt x y
    · rw [cond_false,list_mend]
      simp only [list,hr]
      rw [insL_right _ l.list fun z hz=>?_]
      · simp [insL,hxy]
      · have hz':=hS z (.inl hz)
        cases hxz:lt x z
        · rfl
        · rw [ho.tr x z y hx hz' hy hxz (h3 z hz)] at hxy;cases hxy
    · rw [cond_true,list_mend]
      simp only [list,hl]
      rw [insL_left hxy]
/-! ### Balance -/
inductive Ok:RB α→Nat→Prop
  | nil:Ok nil 0
  | black {l r:RB α} {x:α} {h:Nat}:Ok l h→Ok r h→r.red=false→Ok (node l x r false) (h+1)
  | red {l r:RB α} {x:α} {h:Nat}:Ok l h→Ok r h→l.red=false→r.red=false→Ok (node l x r true) h
inductive Alm:RB α→Nat→Prop
  | ok {t:RB α} {h:Nat}:Ok t h→Alm t h
  | rr {l r:RB α} {x:α} {h:Nat}:Ok l h→Ok r h→l.red=true→r.red=false→Alm (node l x r true) h
theorem Ok.blacken {t:RB α} {h:Nat} (k:Ok t h):∃ h',Ok (blacken t) h':=by
  cases k with
  | nil=>exact ⟨_,.nil⟩
  | black a b c=>exact ⟨_,.black a b c⟩
  | red a b c d=>exact ⟨_,.black a b d⟩
theorem red_true {t:RB α} (h:t.red=true):∃ l x r,t=node l x r true:=by
  cases t with
  | nil=>cases h
  | node l x r c=>exact ⟨l,x,r,by rw [show c=true from h]⟩
theorem Ok.inv_red {l r:RB α} {x:α} {h:Nat} (k:Ok (node l x r true) h):Ok l h∧Ok r h∧l.red=false∧r.red=false:=by
  cases k with
  | red a b c d=>exact ⟨a,b,c,d⟩
theorem Ok.inv_black {l r:RB α} {x:α} {h:Nat} (k:Ok (node l x r false) h):∃ h',h=h'+1∧Ok l h'∧Ok r h'∧r.red=false:=by
  cases k with
  | black a b c=>exact ⟨_,rfl,a,b,c⟩
theorem red_left_false {t:RB α} {h:Nat} (k:Ok t h) (hr:t.red=true):t.left.red=false:=by
  obtain ⟨l,x,r,rfl⟩:=red_true hr
  exact k.inv_red.2.2.1
theorem mendL_black {l r:RB α} {y:α} {h:Nat} (hl:Alm l h) (hr:Ok r h) (h1:r.red=false):Ok (mend (node l y r false)) (h+1):=by
  cases hl with
  | ok hl =>
    have hlr:(l.red && l.left.red)=false:=by
      cases hc:l.red
      · rfl
      · rw [red_left_false hl hc];rfl
    have:mend (node l y r false)=node l y r false:=by
      simp [mend,mend1,mend2,mend3,left_node,right_node,red_node,h1,hlr]
    rw [this]
    exact .black hl hr h1
  | rr a b c d =>
    obtain ⟨ll,z,lr,rfl⟩:=red_true c
    obtain ⟨p1,p2,p3,p4⟩:=a.inv_red
    simp [mend,mend1,mend2,mend3,left_node,right_node,red_node,h1,toRight,flip]
    exact .red (.black p1 p2 p4) (.black b hr h1) rfl rfl
theorem mendL_red {l r:RB α} {y:α} {h:Nat} (hl:Ok l h) (hr:Ok r h) (h1:r.red=false):Alm (mend (node l y r true)) h:=by
  have hlr:(l.red && l.left.red)=false:=by
    cases hc:l.red
    · rfl
    · rw [red_left_false hl hc];rfl
  have:mend (node l y r true)=node l y r true:=by
    simp [mend,mend1,mend2,mend3,left_node,right_node,red_node,h1,hlr]
  rw [this]
  cases hc:l.red
  · exact .ok (.red hl hr hc h1)
  · exact .rr hl hr hc h1
theorem mendR_black {l r:RB α} {y:α} {h:Nat} (hl:Ok l h) (hr:Ok r h):Ok (mend (node l y r false)) (h+1):=by
  cases hc:r.red
  · exact mendL_black (.ok hl) hr hc
  · obtain ⟨rl,z,rr,rfl⟩:=red_true hc
    obtain ⟨p1,p2,p3,p4⟩:=hr.inv_red
    cases hd:l.red
    · have:mend (node l y (node rl z rr true) false)=node (node l y rl true) z rr false:=by
        simp [mend,mend1,mend2,mend3,left_node,right_node,red_node,toLeft,hd,p4]
      rw [this]
      exact .black (.red hl p1 hd p3) p2 p4
    · obtain ⟨ll,u,lr,rfl⟩:=red_true hd
      obtain ⟨q1,q2,q3,q4⟩:=hl.inv_red
      have:mend (node (node ll u lr true) y (node rl z rr true) false)=node (node ll u lr false) y (node rl z rr false) true:=by
        simp [mend,mend1,mend2,mend3,left_node,right_node,red_node,flip,q3]
      rw [this]
      exact .red (.black q1 q2 q4) (.black p1 p2 p4) rfl rfl
theorem mendR_red {l r:RB α} {y:α} {h:Nat} (hl:Ok l h) (hr:Ok r h) (h1:l.red=false):Alm (mend (node l y r true)) h:=by
  cases hc:r.red
  · exact mendL_red hl hr hc
  · obtain ⟨rl,z,rr,rfl⟩:=red_true hc
    obtain ⟨p1,p2,p3,p4⟩:=hr.inv_red
    have:mend (node l y (node rl z rr true) true)=node (node l y rl true) z rr true:=by
      simp [mend,mend1,mend2,mend3,left_node,right_node,red_node,toLeft,h1,p4]
    rw [this]
    exact .rr (.red hl p1 h1 p3) p2 rfl p4
theorem ok_ins (lt:α→α→Bool) (x:α):∀ {t:RB α} {h:Nat},Ok t h→Alm (ins lt t x) h∧(t.red=false→Ok (ins lt t x) h):=by
  intro t h k
  induction k with
  | nil=>exact ⟨.ok (.red .nil .nil rfl rfl),fun _ => .red .nil .nil rfl rfl⟩
  | @black l r y h a b c ia ib =>
    have key:Ok (ins lt (node l y r false) x) (h+1):=by
      simp only [ins]
      cases lt x y
      · exact mendR_black a (ib.2 c)
      · exact mendL_black ia.1 b c
    exact ⟨.ok key,fun _=>key⟩
  | @red l r y h a b c d ia ib =>
    refine ⟨?_,fun h=>by cases h⟩
    simp only [ins]
    cases lt x y
    · exact mendR_red a (ib.2 d) c
    · exact mendL_red (ia.2 c) b d
def Good (t:RB α):Prop:=t.red=false∧∃ h,Ok t h
theorem Good.nil:Good (nil:RB α):=⟨rfl,0,.nil⟩
theorem blacken_red (t:RB α):(blacken t).red=false:=by cases t <;> rfl
theorem Good.ins {lt:α→α→Bool} {x:α} {t:RB α} (k:Good t):Good (blacken (ins lt t x)):=by
  obtain ⟨hr,h,k⟩:=k
  exact ⟨blacken_red _,((ok_ins lt x k).2 hr).blacken⟩
end RB
end Go.Proofs.YtkbcfknnieggbaaGreatDoorX

namespace Go.Proofs.YtkbcfknnieggbaaGreatDoorX
theorem sn_tri {a b c:Int} (h0:-9223372036854775808≤sn a b - sn c b) (h1:sn a b - sn c b < 9223372036854775808):sn a c=sn a b - sn c b:=by unfold sn at *;omega
theorem sn_lat {b k:Int} (h:In64 k):sn (lat b k) b=k:=by unfold sn lat;unfold In64 at h;omega
theorem lat_sn {t b:Int} (h:U64 t):lat b (sn t b)=t:=by unfold sn lat;unfold U64 at h;omega
theorem lat_zero {b:Int} (h:U64 b):lat b 0=b:=by unfold lat;unfold U64 at h;omega
theorem sn_self (b:Int):sn b b=0:=by unfold sn;omega
def Near (x y:Int):Prop:=-9223372036854775808≤x - y∧x - y < 9223372036854775808
theorem sn_near {a c b:Int} (h:Near (sn a b) (sn c b)):sn a c=sn a b - sn c b:=sn_tri h.1 h.2
theorem mul_lt_cancel {c a b:Int} (hc:0 < c) (h:c*a≤c*b):a≤b:=Int.le_of_mul_le_mul_left h hc
theorem fr_trans {a b c p q r:Int} (hp:0 < p) (hq:0 < q) (hr:0 < r) (h1:a*q≤b*p) (h2:b*r≤c*q):a*r≤c*p:=by
  have k1:=Int.mul_le_mul_of_nonneg_right h1 (Int.le_of_lt hr)
  have k2:=Int.mul_le_mul_of_nonneg_right h2 (Int.le_of_lt hp)
  refine mul_lt_cancel hq ?_
  have e1:q*(a*r)=a*q*r:=by grind
  have e2:b*p*r=b*r*p:=by grind
  have e3:c*q*p=q*(c*p):=by grind
  omega
theorem pright_all {p:Pt} (hp:p.In) (h:p.right=true):1≤p.w∧p.w≤1048576∧0≤p.r∧p.r < p.w:=by
  unfold Pt.right at h
  simp only [Bool.and_eq_true,decide_eq_true_eq] at h
  have:=mayW_iff.1 h.1
  exact ⟨this.1,this.2,hp.2.1.1,h.2⟩
theorem cmpP_frac {p q:Pt} (hp:p.In) (hq:q.In) (h1:p.right=true) (h2:q.right=true) {b:Int} (hn:Near (sn q.t b) (sn p.t b)):cmpP p q=cmpI (dist p b*q.w) (dist q b*p.w):=by
  have a1:=pright_all hp h1
  have a2:=pright_all hq h2
  unfold cmpP
  rw [sn_near hn]
  have d1:dist p b=p.w*sn p.t b+p.r:=rfl
  have d2:dist q b=q.w*sn q.t b+q.r:=rfl
  generalize sn p.t b=x at *
  generalize sn q.t b=y at *
  have e1:dist p b*q.w=p.w*q.w*x+p.r*q.w:=by rw [d1];grind
  have e2:dist q b*p.w=p.w*q.w*y+q.r*p.w:=by rw [d2];grind
  have m0:0 < p.w*q.w:=Int.mul_pos (by omega) (by omega)
  have m1:0≤p.r*q.w:=Int.mul_nonneg (by omega) (by omega)
  have m2:0≤q.r*p.w:=Int.mul_nonneg (by omega) (by omega)
  have m3:p.r*q.w < p.w*q.w:=Int.mul_lt_mul_of_pos_right (by omega) (by omega)
  have m4:q.r*p.w < p.w*q.w:=by rw [Int.mul_comm p.w];exact Int.mul_lt_mul_of_pos_right (by omega) (by omega)
  rw [e1,e2]
  generalize p.w*q.w=W at *
  generalize p.r*q.w=u at *
  generalize q.r*p.w=v at *
  rcases Int.lt_trichotomy x y with h | h | h
  · have:W*x+W≤W*y:=by have:=Int.mul_le_mul_of_nonneg_left (show x+1≤y by omega) (Int.le_of_lt m0);rwa [Int.mul_add,Int.mul_one] at this
    have c1:cmpI 0 (y - x)=-1:=by unfold cmpI;rw [if_pos (by omega)]
    rw [c1,if_neg (by decide)]
    unfold cmpI;rw [if_pos (by omega)]
  · subst h
    have c1:cmpI 0 (x - x)=0:=by unfold cmpI;rw [if_neg (by omega),if_neg (by omega)]
    rw [if_pos c1]
    unfold cmpI
    by_cases k:u < v
    · rw [if_pos k,if_pos (by omega)]
    · rw [if_neg k,if_neg (show ¬ W*x+u < W*x+v by omega)]
      by_cases k':v < u
      · rw [if_pos k',if_pos (by omega)]
      · rw [if_neg k',if_neg (by omega)]
  · have:W*y+W≤W*x:=by have:=Int.mul_le_mul_of_nonneg_left (show y+1≤x by omega) (Int.le_of_lt m0);rwa [Int.mul_add,Int.mul_one] at this
    have c1:cmpI 0 (y - x)=1:=by unfold cmpI;rw [if_neg (by omega),if_pos (by omega)]
    rw [c1,if_neg (by decide)]
    unfold cmpI;rw [if_neg (by omega),if_pos (by omega)]
theorem lex_ord {α:Type} {c:α→α→Int} {lt2:α→α→Bool} {S:α→Prop} (le:α→α→Prop) (h1:∀ a b,S a→S b→(c a b < 0↔¬ le b a)) (h0:∀ a b,S a→S b→(c a b=0↔le a b∧le b a)) (tot:∀ a b,S a→S b→le a b∨le b a)
    (tr:∀ a b d,S a→S b→S d→le a b→le b d→le a d) (o:OrdOn lt2 S):OrdOn (fun a b=>decide (c a b < 0) || (decide (c a b=0) && lt2 a b)) S where
  irr a ha:=by
    have k1:=h1 a a ha ha
    have:=tot a a ha ha
    simp only [o.irr a ha,Bool.and_false,Bool.or_false,decide_eq_false_iff_not,k1]
    rcases this with h | h <;> exact fun k=>k h
  tr a b d ha hb hd k1 k2:=by
    simp only [Bool.or_eq_true,Bool.and_eq_true,decide_eq_true_eq] at k1 k2 ⊢
    rw [h1 a b ha hb,h0 a b ha hb] at k1
    rw [h1 b d hb hd,h0 b d hb hd] at k2
    rw [h1 a d ha hd,h0 a d ha hd]
    have tab:=tot a b ha hb
    have tbd:=tot b d hb hd
    have x1:=tr d a b hd ha hb
    have x2:=tr b d a hb hd ha
    have x3:=tr a b d ha hb hd
    have x4:=tr d b a hd hb ha
    rcases k1 with k1 | ⟨⟨k1,k1'⟩,k3⟩
    · left;intro hda
      rcases k2 with k2 | ⟨⟨k2,k2'⟩,k4⟩
      · rcases tbd with h | h
        · exact k1 (x2 h hda)
        · exact k2 h
      · exact k1 (x2 k2 hda)
    · rcases k2 with k2 | ⟨⟨k2,k2'⟩,k4⟩
      · left;intro hda
        exact k2 (x1 hda k1)
      · right;exact ⟨⟨x3 k1 k2,x4 k2' k1'⟩,o.tr a b d ha hb hd k3 k4⟩
  tri a b ha hb k1 k2:=by
    simp only [Bool.or_eq_false_iff,Bool.and_eq_false_iff,decide_eq_false_iff_not] at k1 k2
    rw [h1 a b ha hb,h0 a b ha hb] at k1
    rw [h1 b a hb ha,h0 b a hb ha] at k2
    have q1:le b a:=Classical.not_not.1 k1.1
    have q2:le a b:=Classical.not_not.1 k2.1
    rcases k1.2 with h | h
    · exact absurd ⟨q2,q1⟩ h
    · rcases k2.2 with h' | h'
      · exact absurd ⟨q1,q2⟩ h'
      · exact o.tri a b ha hb h h'
structure Win (b lo:Int) (x:It):Prop where
  isin:x.In
  right:x.right=true
  low:lo≤sn x.p.t b
  high:sn x.p.t b+sn x.d.t x.p.t≤lo+4611686018427387904
theorem iright_all {x:It} (hx:x.In) (h:x.right=true):x.p.right=true∧x.d.right=true∧x.p.w=x.d.w∧0 < x.id∧0≤sn x.d.t x.p.t∧sn x.d.t x.p.t≤1152921504606846976∧(1≤x.p.w∧x.p.w≤1048576∧0≤x.p.r∧x.p.r < x.p.w)∧0≤x.d.r∧x.d.r < x.p.w:=by
  unfold It.right at h
  simp only [Bool.and_eq_true,decide_eq_true_eq] at h
  obtain ⟨⟨⟨⟨⟨h1,h2⟩,h3⟩,h4⟩,h5⟩,h6⟩:=h
  have a1:=pright_all hx.1 h1
  have a2:=pright_all hx.2.2 h2
  exact ⟨h1,h2,h3,h4,h5,h6,a1,a2.2.2.1,by omega⟩
def Mid (lo:Int):Prop:=-4611686018427387904≤lo∧lo≤0
theorem Win.dead {b lo:Int} {x:It} (h:Win b lo x) (hm:Mid lo):sn x.d.t b=sn x.p.t b+sn x.d.t x.p.t∧0≤sn x.d.t x.p.t∧sn x.p.t b≤lo+4611686018427387904:=by
  obtain ⟨_,_,_,_,h5,h6,_⟩:=iright_all h.isin h.right
  have h1:=h.low
  have h2:=h.high
  unfold Mid at hm
  refine ⟨?_,h5,by omega⟩
  unfold sn at *;omega
theorem Win.move {b lo c:Int} {x:It} (h:Win b lo x) (hm:Mid lo) (h0:lo≤sn c b) (h1:sn c b≤lo+4611686018427387904):Win c (lo - sn c b) x∧sn x.p.t c=sn x.p.t b - sn c b:=by
  have d:=h.dead hm
  have k1:=h.low
  have k2:=h.high
  unfold Mid at hm
  have e:sn x.p.t c=sn x.p.t b - sn c b:=sn_tri (by omega) (by omega)
  exact ⟨⟨h.isin,h.right,by omega,by omega⟩,e⟩
theorem dist_move {p:Pt} {b c k:Int} (e:sn p.t c=sn p.t b - k):dist p c=dist p b - p.w*k:=by
  unfold dist;rw [e,Int.mul_sub];omega
def leP (b:Int) (p q:Pt):Prop:=dist p b*q.w≤dist q b*p.w
theorem cmp_le {p q:Pt} {b:Int} (e:cmpP p q=cmpI (dist p b*q.w) (dist q b*p.w)):(cmpP p q < 0↔¬ leP b q p)∧(cmpP p q=0↔leP b p q∧leP b q p):=by
  rw [e];unfold leP cmpI
  split
  · constructor <;> constructor <;> intro <;> first | omega | skip
  · split
    · constructor <;> constructor <;> intro <;> first | omega | skip
    · constructor <;> constructor <;> intro <;> first | omega | skip
theorem ahead_ord {b lo:Int} (hm:Mid lo) {S:It→Prop} (hS:∀ x,S x→Win b lo x) (hi:∀ x y,S x→S y→x.id=y.id→x=y):OrdOn ahead S:=by
  have hc:∀ x y,S x→S y→cmpP x.p y.p=cmpI (dist x.p b*y.p.w) (dist y.p b*x.p.w):=fun x y hx hy=>by
    have a1:=hS x hx
    have a2:=hS y hy
    have d1:=a1.dead hm
    have d2:=a2.dead hm
    have l1:=a1.low
    have l2:=a2.low
    exact cmpP_frac a1.isin.1 a2.isin.1 (iright_all a1.isin a1.right).1 (iright_all a2.isin a2.right).1 (by unfold Near;unfold Mid at hm;omega)
  have hw:∀ x,S x→0 < x.p.w:=fun x hx=>by have:=(iright_all (hS x hx).isin (hS x hx).right).2.2.2.2.2.2.1;omega
  have oid:OrdOn (fun x y:It=>decide (x.id < y.id)) S:=by
    constructor
    · intro a _;simp
    · intro a b c _ _ _ h1 h2;simp only [decide_eq_true_eq] at *;omega
    · intro a b ha hb h1 h2;simp only [decide_eq_false_iff_not] at *;exact hi a b ha hb (by omega)
  exact lex_ord (c:=fun x y:It=>cmpP x.p y.p) (fun x y=>leP b x.p y.p) (fun x y hx hy=>(cmp_le (hc x y hx hy)).1) (fun x y hx hy=>(cmp_le (hc x y hx hy)).2) (fun x y _ _=>Int.le_total _ _) (fun x y z hx hy hz h1 h2=>fr_trans (hw x hx) (hw y hy) (hw z hz) h1 h2) oid
theorem due_ord {b lo:Int} (hm:Mid lo) {S:It→Prop} (hS:∀ x,S x→Win b lo x) (hi:∀ x y,S x→S y→x.id=y.id→x=y):OrdOn due S:=by
  have hc:∀ x y,S x→S y→cmpP x.d y.d=cmpI (dist x.d b*y.d.w) (dist y.d b*x.d.w):=fun x y hx hy=>by
    have a1:=hS x hx
    have a2:=hS y hy
    have d1:=a1.dead hm
    have d2:=a2.dead hm
    have l1:=a1.low
    have l2:=a2.low
    have r1:=iright_all a1.isin a1.right
    have r2:=iright_all a2.isin a2.right
    have u1:=a1.high
    have u2:=a2.high
    exact cmpP_frac a1.isin.2.2 a2.isin.2.2 r1.2.1 r2.2.1 (by unfold Near;unfold Mid at hm;omega)
  have hw:∀ x,S x→0 < x.d.w:=fun x hx=>by
    have:=iright_all (hS x hx).isin (hS x hx).right
    have h3:=this.2.2.1
    have h4:=this.2.2.2.2.2.2.1
    omega
  exact lex_ord (c:=fun x y:It=>cmpP x.d y.d) (fun x y=>leP b x.d y.d) (fun x y hx hy=>(cmp_le (hc x y hx hy)).1) (fun x y hx hy=>(cmp_le (hc x y hx hy)).2) (fun x y _ _=>Int.le_total _ _) (fun x y z hx hy hz h1 h2=>fr_trans (hw x hx) (hw y hy) (hw z hz) h1 h2) (ahead_ord hm hS hi)
end Go.Proofs.YtkbcfknnieggbaaGreatDoorX

namespace Go.Proofs.YtkbcfknnieggbaaGreatDoorX
open Go Go.RowKit
attribute [local irreducible] XS XC XA thenE blockE retE loopE loopS cutB cutN doneE SE
structure Mn where
  b:Int
  a:Int
  w:Int
  n:Int
deriving DecidableEq
abbrev Mn.cells (m:Mn):List Value:=[.int .u64 m.b,.int .i64 (m.a / 18446744073709551616),.int .u64 (m.a % 18446744073709551616),.int .u64 m.w,.int .i64 m.n]
def mv (m:Mn):Value := .agg #[.int .u64 m.b,.int .i64 (m.a / 18446744073709551616),.int .u64 (m.a % 18446744073709551616),.int .u64 m.w,.int .i64 m.n]
def Mn.In (m:Mn):Prop:=U64 m.b∧InW m.a∧U64 m.w∧In64 m.n
instance (m:Mn):Decidable m.In:=by unfold Mn.In;infer_instance
def Mn.zero:Mn:=⟨0,0,0,0⟩
def Mn.right (m:Mn):Bool:=bif decide (m.n=0) then decide (m.w=0) && decide (m.a=0) else decide (0 < m.n) && decide (m.n≤32) && decide (m.n≤m.w) && decide (m.w≤m.n*1048576)
theorem eqW0 (x:Int):(cellEq (.int .i64 (x / 18446744073709551616)) (.int .i64 0) && cellEq (.int .u64 (x % 18446744073709551616)) (.int .u64 0))=decide (x=0):=by
  show ((x / 18446744073709551616 == 0) && (x % 18446744073709551616 == 0))=_
  by_cases h:x=0
  · subst h;decide
  · rw [decide_eq_false h]
    cases h1:(x / 18446744073709551616 == 0)
    · rfl
    · cases h2:(x % 18446744073709551616 == 0)
      · rfl
      · simp only [beq_iff_eq] at h1 h2
        omega
set_option maxHeartbeats 2000000 in
theorem mright_ret (m:Mn) (w0:World):Ret Tryz.prog 128 #[mv m] w0 fun v w'=>v = .bool m.right∧Only [] w0 w':=by
  have hs:=St.nil w0
  refine ret_of_xc Tryz.func128 (by kernel_rfl) rfl Tryz.ntmps128 rfl rfl rfl ?_
  repeat' (first|refine vs (k:=?_)|refine ps (k:=?_)|(refine bx hs (k:=?_);intro b w hz hs)|refine qRg ?_|refine Nx.h ?_|((with_reducible apply xs_guard);exact rfl;exact rfl;intro c hc;(fail_if_success have:true=c:=hc);(fail_if_success have:false=c:=hc);cases c)|(refine xc_if rfl (fun hc=>?_) (fun hc=>?_))|fail)
  all_goals (first | refine rt (hq:=?_) | refine rt' (hq:=?_))
  all_goals refine ⟨?_,hs.only0 rfl⟩
  all_goals clear hs
  all_goals unfold Mn.right packed
  all_goals try rw [eqW0]
  all_goals simp only [wrap_u64] at *
  · rw [decide_eq_true ‹m.n=0›,cond_true];simp only [beq_eq_false_iff_ne,ne_eq] at hc;rw [decide_eq_false hc];rfl
  · rw [decide_eq_true ‹m.n=0›,cond_true];simp only [beq_iff_eq] at hc;rw [decide_eq_true hc];rfl
  · rw [decide_eq_false ‹¬ m.n=0›,cond_false,hc];rfl
  · rw [decide_eq_false ‹¬ m.n=0›,cond_false,‹decide (0 < m.n)=true›,hc];rfl
  · have h1:=of_decide_eq_true ‹decide (0 < m.n)=true›
    have h2:=of_decide_eq_true ‹decide (m.n≤32)=true›
    rw [show m.n % 18446744073709551616=m.n by omega] at hc
    rw [decide_eq_false ‹¬ m.n=0›,cond_false,‹decide (0 < m.n)=true›,‹decide (m.n≤32)=true›,hc];rfl
  · have h1:=of_decide_eq_true ‹decide (0 < m.n)=true›
    have h2:=of_decide_eq_true ‹decide (m.n≤32)=true›
    rw [show m.n % 18446744073709551616=m.n by omega] at hc
    rw [decide_eq_false ‹¬ m.n=0›,cond_false,‹decide (0 < m.n)=true›,‹decide (m.n≤32)=true›,hc,show m.n % 18446744073709551616*1048576 % 18446744073709551616=m.n*1048576 by omega];rfl
theorem mright_iff {m:Mn}:m.right=true↔(m.n=0∧m.w=0∧m.a=0)∨(0 < m.n∧m.n≤32∧m.n≤m.w∧m.w≤m.n*1048576):=by
  unfold Mn.right
  by_cases h:m.n=0
  · rw [decide_eq_true h,cond_true];simp;omega
  · rw [decide_eq_false h,cond_false];simp;omega
def mnV (o:Option Mn):Value := .tuple #[mv (o.getD .zero),.bool o.isSome]
theorem pright_iff {p:Pt}:p.right=true↔1≤p.w∧p.w≤1048576∧p.r < p.w:=by
  unfold Pt.right;rw [Bool.and_eq_true,mayW_iff,decide_eq_true_eq,and_assoc]
def addM (m:Mn) (p:Pt):Option Mn:=if m.right=true∧p.right=true∧m.n≠32∧InW (m.a+dist p m.b) then some ⟨m.b,m.a+dist p m.b,m.w+p.w,m.n+1⟩ else none
theorem addM_in {m:Mn} {p:Pt} {o:Mn} (hm:m.In) (h:addM m p=some o):o.In:=by
  unfold addM at h
  split at h
  · rename_i hc
    cases h
    obtain ⟨h1,h2,h3,h4⟩:=hc
    have h1:=mright_iff.1 h1
    have h2:=pright_iff.1 h2
    refine ⟨hm.1,h4,?_,?_⟩
    · show 0≤m.w+p.w∧m.w+p.w < 18446744073709551616;omega
    · show -9223372036854775808≤m.n+1∧m.n+1 < 9223372036854775808;omega
  · cases h
set_option maxHeartbeats 2000000 in
theorem madd_ret (m:Mn) (p:Pt) (hm:m.In) (hp':p.In) (w0:World):Ret Tryz.prog 185 #[mv m,pv p] w0 fun v w'=>v=mnV (addM m p)∧Only [] w0 w':=by
  have hs:=St.nil w0
  refine ret_of_xc Tryz.func185 (by kernel_rfl) rfl Tryz.ntmps185 rfl rfl rfl ?_
  repeat' (first|refine vs (k:=?_)|(refine al hs (k:=?_);intro b w hz hs)|(refine bx hs (k:=?_);intro b w hz hs)|refine qRg ?_|refine Nx.h ?_|fail)
  (with_reducible apply xs_call);exact rfl;exact rfl;exact mright_ret m _
  rintro v w' ⟨rfl,ho⟩;replace hs:=hs.call0 ho;repeat' (first|refine vs (k:=?_)|refine ps (k:=?_)|(refine stA hs (k:=?_);intro w hs)|refine qRg ?_|refine Nx.h ?_|refine qCt ?_|((with_reducible apply xs_guard);exact rfl;exact rfl;intro c hc;(fail_if_success have:true=c:=hc);(fail_if_success have:false=c:=hc);cases c)|fail)
  · (with_reducible apply xs_call);exact rfl;exact rfl;exact pright_ret p _
    rintro v w' ⟨rfl,ho⟩;replace hs:=hs.call0 ho;repeat' (first|refine vs (k:=?_)|refine ps (k:=?_)|(refine stA hs (k:=?_);intro w hs)|refine qRg ?_|refine Nx.h ?_|refine qCt ?_|((with_reducible apply xs_guard);exact rfl;exact rfl;intro c hc;(fail_if_success have:true=c:=hc);(fail_if_success have:false=c:=hc);cases c)|(refine xc_if rfl (fun hc=>?_) (fun hc=>?_))|fail)
    · first | refine rt (hq:=?_) | refine rt' (hq:=?_)
      refine ⟨?_,hs.only0 rfl⟩
      have:addM m p=none:=by unfold addM;rw [if_neg (fun h=>h.2.2.1 ‹_›)]
      rw [this];rfl
    · refine dr [] hs (k:=?_);intro hX w hs
      refine tk 0 hX (k:=?_)
      refine tk 1 hX (k:=?_)
      refine tk 2 hX (k:=?_)
      refine tk 3 hX (k:=?_)
      refine tk 4 hX (k:=?_)
      refine pd0 10 6 hs (k:=?_);intro f X w hp;have hs:=hp.st
      apply xa_pend 5 10 (f:=f) (X:=X) hX hp;exact rfl;exact rfl;(apply makes_alloc tabOk;exact rfl);kernel_rfl;kernel_rfl;kernel_rfl;kernel_rfl;(intro X Y;(repeat (first | exact pgg_base | refine pgg_step ?_ (by exact rfl))));(intro w' hs;first|exact se_hold hs.hold|exact se_hold hs.hold.tail|exact se_done rfl);intro f X w hp;have hs:=hp.st
      (with_reducible apply xs_call);exact rfl;exact rfl;exact dist_ret p m.b hp' _
      rintro v w' ⟨rfl,ho⟩;replace hp:=hp.only ho;replace hs:=hp.st;repeat' (first|refine Nx.h ?_|fail)
      refine dn (k:=?_)
      apply xa_pend 6 10 (f:=f) (X:=X) hX hp;exact rfl;exact rfl;(apply makes_alloc tabOk;exact rfl);kernel_rfl;kernel_rfl;kernel_rfl;kernel_rfl;(intro X Y;(repeat (first | exact pgg_base | refine pgg_step ?_ (by exact rfl))));(intro w' hs;first|exact se_hold hs.hold|exact se_hold hs.hold.tail|exact se_done rfl);intro f X w hp;have hs:=hp.st
      (with_reducible apply xs_call);exact rfl;exact rfl;exact add_t m.a (dist p m.b) hm.2.1 (dist_in hp' _) _
      rintro v w' ⟨rfl,ho⟩;replace hp:=hp.only ho;replace hs:=hp.st;repeat' (first|refine Nx.h ?_|fail)
      refine dn (k:=?_)
      refine tk 7 hX (hc:=by cases f <;> kernel_rfl) (k:=?_)
      refine tk 8 hX (hc:=by cases f <;> kernel_rfl) (k:=?_)
      refine tk 9 hX (hc:=by cases f <;> kernel_rfl) (k:=?_)
      apply xa_pendE 10 (f:=f) (X:=X) hX hp;exact rfl;(apply makes_alloc tabOk;exact rfl);kernel_rfl;kernel_rfl;(intro X Y;(repeat (first | exact pgg_base | refine pgg_step ?_ (by exact rfl))));(intro w' hs;first|exact se_hold hs.hold|exact se_hold hs.hold.tail|exact se_done rfl);intro b w hI hs
      refine dt 11 hX (k:=?_)
      repeat' (first|(refine stA hs (k:=?_);intro w hs)|refine Nx.h ?_|fail)
      refine dn (k:=?_)
      refine tk 12 hX (k:=?_)
      refine en (k:=?_)
      repeat' (first|refine vs (k:=?_)|(refine stA hs (k:=?_);intro w hs)|refine qRg ?_|refine Nx.h ?_|(refine xc_cond rfl (fun hc=>?_) (fun hc=>?_))|fail)
      · first | refine rt (hq:=?_) | refine rt' (hq:=?_)
        refine ⟨?_,hs.only0 rfl⟩
        have h4:¬ InW (m.a+dist p m.b):=by simpa using hc
        have:addM m p=none:=by unfold addM;rw [if_neg (fun h=>h4 h.2.2.2)]
        rw [this];rfl
      · first | refine rt (hq:=?_) | refine rt' (hq:=?_)
        refine ⟨?_,hs.only0 rfl⟩
        have h4:InW (m.a+dist p m.b):=by simpa using hc
        have h1:m.right=true:=by simpa using ‹(!m.right)=false›
        have h2:p.right=true:=by simpa using ‹(!p.right)=false›
        have:addM m p=some ⟨m.b,m.a+dist p m.b,m.w+p.w,m.n+1⟩:=by unfold addM;rw [if_pos ⟨h1,h2,‹_›,h4⟩]
        have h5:=mright_iff.1 h1
        have h6:=pright_iff.1 h2
        have e1:tot (m.a+dist p m.b)=m.a+dist p m.b:=if_pos h4
        have e2:IntKind.u64.wrap (m.w+IntKind.u64.wrap p.w)=m.w+p.w:=by simp only [wrap_u64];omega
        have e3:IntKind.i64.wrap (m.n+1)=m.n+1:=by simp only [wrap_i64];omega
        rw [this,e1,e2,e3];rfl
    · first | refine rt (hq:=?_) | refine rt' (hq:=?_)
      refine ⟨?_,hs.only0 rfl⟩
      have h2:p.right=false:=by simpa using hc
      have:addM m p=none:=by unfold addM;rw [if_neg (fun h=>by rw [h2] at h;cases h.2.1)]
      rw [this];rfl
  · first | refine rt (hq:=?_) | refine rt' (hq:=?_)
    refine ⟨?_,hs.only0 rfl⟩
    have h2:m.right=false:=by simpa using hc
    have:addM m p=none:=by unfold addM;rw [if_neg (fun h=>by rw [h2] at h;cases h.1)]
    rw [this];rfl
end Go.Proofs.YtkbcfknnieggbaaGreatDoorX

namespace Go.Proofs.YtkbcfknnieggbaaGreatDoorX
open Go Go.RowKit
attribute [local irreducible] XS XC XA thenE blockE retE loopE loopS cutB cutN doneE SE
def lessM (m:Mn) (p:Pt):Mn:=⟨m.b,m.a - dist p m.b,m.w - p.w,m.n - 1⟩
def takM (m:Mn) (p:Pt):Option Mn:=if m.right=true∧p.right=true∧m.n≠0∧p.w≤m.w∧InW (m.a - dist p m.b)∧(lessM m p).right=true then some (lessM m p) else none
theorem takM_in {m:Mn} {p:Pt} {o:Mn} (hm:m.In) (h:takM m p=some o):o.In:=by
  unfold takM at h
  split at h
  · rename_i hc
    cases h
    obtain ⟨h1,h2,h3,h4,h5,h6⟩:=hc
    have h1:=mright_iff.1 h1
    have h2:=pright_iff.1 h2
    refine ⟨hm.1,h5,?_,?_⟩
    · show 0≤m.w - p.w∧m.w - p.w < 18446744073709551616;omega
    · show -9223372036854775808≤m.n - 1∧m.n - 1 < 9223372036854775808;omega
  · cases h
set_option maxHeartbeats 4000000 in
theorem mtake_ret (m:Mn) (p:Pt) (hm:m.In) (hp':p.In) (w0:World):Ret Tryz.prog 188 #[mv m,pv p] w0 fun v w'=>v=mnV (takM m p)∧Only [] w0 w':=by
  have hs:=St.nil w0
  refine ret_of_xc Tryz.func188 (by kernel_rfl) rfl Tryz.ntmps188 rfl rfl rfl ?_
  repeat' (first|refine vs (k:=?_)|(refine al hs (k:=?_);intro b w hz hs)|(refine bx hs (k:=?_);intro b w hz hs)|refine qRg ?_|refine Nx.h ?_|fail)
  (with_reducible apply xs_call);exact rfl;exact rfl;exact mright_ret m _
  rintro v w' ⟨rfl,ho⟩;replace hs:=hs.call0 ho;repeat' (first|refine vs (k:=?_)|refine ps (k:=?_)|(refine stA hs (k:=?_);intro w hs)|refine qRg ?_|refine Nx.h ?_|refine qCt ?_|((with_reducible apply xs_guard);exact rfl;exact rfl;intro c hc;(fail_if_success have:true=c:=hc);(fail_if_success have:false=c:=hc);cases c)|fail)
  · (with_reducible apply xs_call);exact rfl;exact rfl;exact pright_ret p _
    rintro v w' ⟨rfl,ho⟩;replace hs:=hs.call0 ho;repeat' (first|refine vs (k:=?_)|refine ps (k:=?_)|(refine stA hs (k:=?_);intro w hs)|refine qRg ?_|refine Nx.h ?_|refine qCt ?_|((with_reducible apply xs_guard);exact rfl;exact rfl;intro c hc;(fail_if_success have:true=c:=hc);(fail_if_success have:false=c:=hc);cases c)|(refine xc_if rfl (fun hc=>?_) (fun hc=>?_))|fail)
    · simp only [wrap_u64] at hc
      have hU:=hp'.2.2
      unfold U32 at hU
      first | refine rt (hq:=?_) | refine rt' (hq:=?_)
      refine ⟨?_,hs.only0 rfl⟩
      have:takM m p=none:=by unfold takM;rw [if_neg (fun h=>by have:=h.2.2.2.1;omega)]
      rw [this];rfl
    · have h1:m.right=true:=by simpa using ‹(!m.right)=false›
      have h2:p.right=true:=by simpa using ‹(!p.right)=false›
      have h3:m.n≠0:=by simpa using ‹(m.n == 0)=false›
      have hU:=hp'.2.2
      have e0:=u64_of32 hU
      have hc':p.w≤m.w:=by rw [e0] at hc;omega
      have h5:=mright_iff.1 h1
      have h6:=pright_iff.1 h2
      refine dr [] hs (k:=?_);intro hX w hs
      refine tk 0 hX (k:=?_)
      refine tk 1 hX (k:=?_)
      refine tk 2 hX (k:=?_)
      refine tk 3 hX (k:=?_)
      refine tk 4 hX (k:=?_)
      refine pd0 10 6 hs (k:=?_);intro f X w hp;have hs:=hp.st
      apply xa_pend 5 10 (f:=f) (X:=X) hX hp;exact rfl;exact rfl;(apply makes_alloc tabOk;exact rfl);kernel_rfl;kernel_rfl;kernel_rfl;kernel_rfl;(intro X Y;(repeat (first | exact pgg_base | refine pgg_step ?_ (by exact rfl))));(intro w' hs;first|exact se_hold hs.hold|exact se_hold hs.hold.tail|exact se_done rfl);intro f X w hp;have hs:=hp.st
      (with_reducible apply xs_call);exact rfl;exact rfl;exact dist_ret p m.b hp' _
      rintro v w' ⟨rfl,ho⟩;replace hp:=hp.only ho;replace hs:=hp.st;repeat' (first|refine Nx.h ?_|fail)
      refine dn (k:=?_)
      apply xa_pend 6 10 (f:=f) (X:=X) hX hp;exact rfl;exact rfl;(apply makes_alloc tabOk;exact rfl);kernel_rfl;kernel_rfl;kernel_rfl;kernel_rfl;(intro X Y;(repeat (first | exact pgg_base | refine pgg_step ?_ (by exact rfl))));(intro w' hs;first|exact se_hold hs.hold|exact se_hold hs.hold.tail|exact se_done rfl);intro f X w hp;have hs:=hp.st
      (with_reducible apply xs_call);exact rfl;exact rfl;exact sub_t m.a (dist p m.b) hm.2.1 (dist_in hp' _) _
      rintro v w' ⟨rfl,ho⟩;replace hp:=hp.only ho;replace hs:=hp.st;repeat' (first|refine Nx.h ?_|fail)
      refine dn (k:=?_)
      refine tk 7 hX (hc:=by cases f <;> kernel_rfl) (k:=?_)
      refine tk 8 hX (hc:=by cases f <;> kernel_rfl) (k:=?_)
      refine tk 9 hX (hc:=by cases f <;> kernel_rfl) (k:=?_)
      apply xa_pendE 10 (f:=f) (X:=X) hX hp;exact rfl;(apply makes_alloc tabOk;exact rfl);kernel_rfl;kernel_rfl;(intro X Y;(repeat (first | exact pgg_base | refine pgg_step ?_ (by exact rfl))));(intro w' hs;first|exact se_hold hs.hold|exact se_hold hs.hold.tail|exact se_done rfl);intro b w hI hs
      refine dt 11 hX (k:=?_)
      repeat' (first|(refine stA hs (k:=?_);intro w hs)|refine Nx.h ?_|fail)
      refine dn (k:=?_)
      refine tk 12 hX (k:=?_)
      refine en (k:=?_)
      repeat' (first|refine vs (k:=?_)|refine ps (k:=?_)|(refine stA hs (k:=?_);intro w hs)|(refine al hs (k:=?_);intro b w hz hs)|refine qRg ?_|refine Nx.h ?_|refine qCt ?_|((with_reducible apply xs_guard);exact rfl;exact rfl;intro c hc;(fail_if_success have:true=c:=hc);(fail_if_success have:false=c:=hc);cases c)|fail)
      · have h4:InW (m.a - dist p m.b):=by simpa using hc
        have e1:tot (m.a - dist p m.b)=m.a - dist p m.b:=if_pos h4
        have e2:IntKind.u64.wrap (m.w - IntKind.u64.wrap p.w)=m.w - p.w:=by simp only [wrap_u64];omega
        have e3:IntKind.i64.wrap (m.n - 1)=m.n - 1:=by simp only [wrap_i64];omega
        (with_reducible apply xs_call);exact rfl;exact rfl;exact mright_ret ⟨m.b,tot (m.a - dist p m.b),IntKind.u64.wrap (m.w - IntKind.u64.wrap p.w),IntKind.i64.wrap (m.n - 1)⟩ _
        rw [show (⟨m.b,tot (m.a - dist p m.b),IntKind.u64.wrap (m.w - IntKind.u64.wrap p.w),IntKind.i64.wrap (m.n - 1)⟩:Mn)=lessM m p by rw [e1,e2,e3];rfl]
        rintro v w' ⟨rfl,ho⟩;replace hs:=hs.call0 ho;repeat' (first|refine vs (k:=?_)|(refine stA hs (k:=?_);intro w hs)|refine qRg ?_|refine Nx.h ?_|(refine xc_cond rfl (fun hc=>?_) (fun hc=>?_))|fail)
        · first | refine rt (hq:=?_) | refine rt' (hq:=?_)
          refine ⟨?_,hs.only0 rfl⟩
          have h7:(lessM m p).right=false:=by simpa using hc
          have:takM m p=none:=by unfold takM;rw [if_neg (fun h=>by rw [h7] at h;cases h.2.2.2.2.2)]
          rw [this];rfl
        · first | refine rt (hq:=?_) | refine rt' (hq:=?_)
          refine ⟨?_,hs.only0 rfl⟩
          have h7:(lessM m p).right=true:=by simpa using hc
          have:takM m p=some (lessM m p):=by unfold takM;rw [if_pos ⟨h1,h2,h3,hc',h4,h7⟩]
          rw [this,e1,e2,e3];rfl
      · first | refine rt (hq:=?_) | refine rt' (hq:=?_)
        refine ⟨?_,hs.only0 rfl⟩
        have h4:¬ InW (m.a - dist p m.b):=by simpa using hc
        have:takM m p=none:=by unfold takM;rw [if_neg (fun h=>h4 h.2.2.2.2.1)]
        rw [this];rfl
    · first | refine rt (hq:=?_) | refine rt' (hq:=?_)
      refine ⟨?_,hs.only0 rfl⟩
      have:takM m p=none:=by unfold takM;rw [if_neg (fun h=>h.2.2.1 (by simpa using hc))]
      rw [this];rfl
    · first | refine rt (hq:=?_) | refine rt' (hq:=?_)
      refine ⟨?_,hs.only0 rfl⟩
      have:takM m p=none:=by unfold takM;rw [if_neg (fun h=>absurd h.2.1 (by simpa using hc))]
      rw [this];rfl
  · first | refine rt (hq:=?_) | refine rt' (hq:=?_)
    refine ⟨?_,hs.only0 rfl⟩
    have h2:m.right=false:=by simpa using hc
    have:takM m p=none:=by unfold takM;rw [if_neg (fun h=>by rw [h2] at h;cases h.1)]
    rw [this];rfl
def rebM (m:Mn) (t:Int):Option Mn:=if m.right=true∧InW (m.a - m.w*sn t m.b) then some ⟨t,m.a - m.w*sn t m.b,m.w,m.n⟩ else none
theorem rebM_in {m:Mn} {t:Int} {o:Mn} (hm:m.In) (ht:U64 t) (h:rebM m t=some o):o.In:=by
  unfold rebM at h
  split at h
  · rename_i hc
    cases h
    exact ⟨ht,hc.2,hm.2.2⟩
  · cases h
set_option maxHeartbeats 4000000 in
theorem rebase_ret (m:Mn) (t:Int) (hm:m.In) (w0:World):Ret Tryz.prog 226 #[mv m,.int .u64 t] w0 fun v w'=>v=mnV (rebM m t)∧Only [] w0 w':=by
  have hs:=St.nil w0
  refine ret_of_xc Tryz.func226 (by kernel_rfl) rfl Tryz.ntmps226 rfl rfl rfl ?_
  repeat' (first|refine vs (k:=?_)|(refine al hs (k:=?_);intro b w hz hs)|(refine bx hs (k:=?_);intro b w hz hs)|refine qRg ?_|refine Nx.h ?_|fail)
  (with_reducible apply xs_call);exact rfl;exact rfl;exact mright_ret m _
  rintro v w' ⟨rfl,ho⟩;replace hs:=hs.call0 ho;repeat' (first|refine vs (k:=?_)|(refine stA hs (k:=?_);intro w hs)|refine qRg ?_|refine Nx.h ?_|(refine xc_cond rfl (fun hc=>?_) (fun hc=>?_))|fail)
  · first | refine rt (hq:=?_) | refine rt' (hq:=?_)
    refine ⟨?_,hs.only0 rfl⟩
    have h2:m.right=false:=by simpa using hc
    have:rebM m t=none:=by unfold rebM;rw [if_neg (fun h=>by rw [h2] at h;cases h.1)]
    rw [this];rfl
  · have h1:m.right=true:=by simpa using hc
    have h5:=mright_iff.1 h1
    have h6:=sn_rng t m.b
    have h7:=mul_rng (w:=m.w) (s:=sn t m.b) (W:=33554432) (S:=9223372036854775808) hm.2.2.1.1 (by omega) (by omega) (by omega)
    have hU:=hm.2.2.1
    refine dr [] hs (k:=?_);intro hX w hs
    refine tk 0 hX (k:=?_)
    refine tk 1 hX (k:=?_)
    refine tk 3 hX (k:=?_)
    refine tk 4 hX (k:=?_)
    refine tk 5 hX (k:=?_)
    refine pd0 11 6 hs (k:=?_);intro f X w hp;have hs:=hp.st
    apply xa_pend 2 11 (f:=f) (X:=X) hX hp;exact rfl;exact rfl;(apply makes_alloc tabOk;exact rfl);kernel_rfl;kernel_rfl;kernel_rfl;kernel_rfl;(intro X Y;(repeat (first | exact pgg_base | refine pgg_step ?_ (by exact rfl))));(intro w' hs;first|exact se_hold hs.hold|exact se_hold hs.hold.tail|exact se_done rfl);intro f X w hp;have hs:=hp.st
    (with_reducible apply xs_call);exact rfl;exact rfl;exact ofU_ret m.w hU.1 hU.2 _
    rintro v w' ⟨rfl,ho⟩;replace hp:=hp.only ho;replace hs:=hp.st;repeat' (first|refine Nx.h ?_|fail)
    refine dn (k:=?_)
    apply xa_pend 6 11 (f:=f) (X:=X) hX hp;exact rfl;exact rfl;(apply makes_alloc tabOk;exact rfl);kernel_rfl;kernel_rfl;kernel_rfl;kernel_rfl;(intro X Y;(repeat (first | exact pgg_base | refine pgg_step ?_ (by exact rfl))));(intro w' hs;first|exact se_hold hs.hold|exact se_hold hs.hold.tail|exact se_done rfl);intro f X w hp;have hs:=hp.st
    (with_reducible apply xs_call);exact rfl;exact rfl;exact since_ret t m.b _
    rintro v w' ⟨rfl,ho⟩;replace hp:=hp.only ho;replace hs:=hp.st;repeat' (first|refine Nx.h ?_|fail)
    refine dn (k:=?_)
    apply xa_pend 7 11 (f:=f) (X:=X) hX hp;exact rfl;exact rfl;(apply makes_alloc tabOk;exact rfl);kernel_rfl;kernel_rfl;kernel_rfl;kernel_rfl;(intro X Y;(repeat (first | exact pgg_base | refine pgg_step ?_ (by exact rfl))));(intro w' hs;first|exact se_hold hs.hold|exact se_hold hs.hold.tail|exact se_done rfl);intro f X w hp;have hs:=hp.st
    (with_reducible apply xs_call);exact rfl;exact rfl;exact mul_ok m.w (sn t m.b) (by unfold InW;omega) (by omega) (by omega) (by unfold InW;omega) _
    rintro v w' ⟨rfl,ho⟩;replace hp:=hp.only ho;replace hs:=hp.st;repeat' (first|refine Nx.h ?_|fail)
    refine dn (k:=?_)
    refine tk 8 hX (hc:=by cases f <;> kernel_rfl) (k:=?_)
    refine tk 9 hX (hc:=by cases f <;> kernel_rfl) (k:=?_)
    refine tk 10 hX (hc:=by cases f <;> kernel_rfl) (k:=?_)
    apply xa_pendE 11 (f:=f) (X:=X) hX hp;exact rfl;(apply makes_alloc tabOk;exact rfl);kernel_rfl;kernel_rfl;(intro X Y;(repeat (first | exact pgg_base | refine pgg_step ?_ (by exact rfl))));(intro w' hs;first|exact se_hold hs.hold|exact se_hold hs.hold.tail|exact se_done rfl);intro b w hI hs
    refine dt 12 hX (k:=?_)
    repeat' (first|(refine stA hs (k:=?_);intro w hs)|refine Nx.h ?_|fail)
    refine dn (k:=?_)
    refine tk 13 hX (k:=?_)
    refine en (k:=?_)
    repeat' (first|refine vs (k:=?_)|refine qRg ?_|refine Nx.h ?_|fail)
    (with_reducible apply xs_call);exact rfl;exact rfl;exact sub_t m.a (m.w*sn t m.b) hm.2.1 (by unfold InW;omega) _
    rintro v w' ⟨rfl,ho⟩;replace hs:=hs.call0 ho;repeat' (first|refine vs (k:=?_)|(refine stA hs (k:=?_);intro w hs)|(refine al hs (k:=?_);intro b w hz hs)|refine qRg ?_|refine Nx.h ?_|(refine xc_cond rfl (fun hc=>?_) (fun hc=>?_))|fail)
    · first | refine rt (hq:=?_) | refine rt' (hq:=?_)
      refine ⟨?_,hs.only0 rfl⟩
      have h4:¬ InW (m.a - m.w*sn t m.b):=by simpa using hc
      have:rebM m t=none:=by unfold rebM;rw [if_neg (fun h=>h4 h.2)]
      rw [this];rfl
    · first | refine rt (hq:=?_) | refine rt' (hq:=?_)
      refine ⟨?_,hs.only0 rfl⟩
      have h4:InW (m.a - m.w*sn t m.b):=by simpa using hc
      have:rebM m t=some ⟨t,m.a - m.w*sn t m.b,m.w,m.n⟩:=by unfold rebM;rw [if_pos ⟨h1,h4⟩]
      have e1:tot (m.a - m.w*sn t m.b)=m.a - m.w*sn t m.b:=if_pos h4
      rw [this,e1];rfl
def flM (m:Mn):Option Int:=if m.right=true∧m.n≠0∧In64 (m.a / m.w) then some (lat m.b (m.a / m.w)) else none
def tmV (o:Option Int):Value := .tuple #[.int .u64 (o.getD 0),.bool o.isSome]
set_option maxHeartbeats 2000000 in
theorem floor_ret (m:Mn) (hm:m.In) (w0:World):Ret Tryz.prog 76 #[mv m] w0 fun v w'=>v=tmV (flM m)∧Only [] w0 w':=by
  have hs:=St.nil w0
  refine ret_of_xc Tryz.func76 (by kernel_rfl) rfl Tryz.ntmps76 rfl rfl rfl ?_
  repeat' (first|refine vs (k:=?_)|(refine bx hs (k:=?_);intro b w hz hs)|refine qRg ?_|refine Nx.h ?_|fail)
  (with_reducible apply xs_call);exact rfl;exact rfl;exact mright_ret m _
  rintro v w' ⟨rfl,ho⟩;replace hs:=hs.call0 ho;repeat' (first|refine vs (k:=?_)|refine ps (k:=?_)|refine qRg ?_|refine Nx.h ?_|refine qCt ?_|((with_reducible apply xs_guard);exact rfl;exact rfl;intro c hc;(fail_if_success have:true=c:=hc);(fail_if_success have:false=c:=hc);cases c)|(refine xc_if rfl (fun hc=>?_) (fun hc=>?_))|fail)
  · first | refine rt (hq:=?_) | refine rt' (hq:=?_)
    refine ⟨?_,hs.only0 rfl⟩
    have:flM m=none:=by unfold flM;rw [if_neg (fun h=>h.2.1 ‹_›)]
    rw [this];rfl
  · have h1:m.right=true:=by simpa using ‹(!m.right)=false›
    have h5:=mright_iff.1 h1
    have hU:=hm.2.2.1
    (with_reducible apply xs_call);exact rfl;exact rfl;exact div_ok m.a m.w hm.2.1 (by omega) hU.2 _
    rintro v w' ⟨rfl,ho⟩;replace hs:=hs.call0 ho;repeat' (first|refine vs (k:=?_)|(refine stA hs (k:=?_);intro w hs)|(refine al hs (k:=?_);intro b w hz hs)|refine qRg ?_|refine Nx.h ?_|fail)
    (with_reducible apply xs_call);exact rfl;exact rfl;exact small_t (m.a / m.w) (div_in hm.2.1 (by omega)) _
    rintro v w' ⟨rfl,ho⟩;replace hs:=hs.call0 ho;repeat' (first|refine vs (k:=?_)|refine qRg ?_|refine Nx.h ?_|(refine xc_cond rfl (fun hc=>?_) (fun hc=>?_))|fail)
    · first | refine rt (hq:=?_) | refine rt' (hq:=?_)
      refine ⟨?_,hs.only0 rfl⟩
      have h4:¬ In64 (m.a / m.w):=by simpa using hc
      have:flM m=none:=by unfold flM;rw [if_neg (fun h=>h4 h.2.2)]
      rw [this];rfl
    · have h4:In64 (m.a / m.w):=by simpa using hc
      (with_reducible apply xs_call);exact rfl;exact rfl;exact vadd_ret m.b (sml (m.a / m.w)) _
      rintro v w' ⟨rfl,ho⟩;replace hs:=hs.call0 ho;repeat' (first|refine vs (k:=?_)|refine Nx.h ?_|fail)
      first | refine rt (hq:=?_) | refine rt' (hq:=?_)
      refine ⟨?_,hs.only0 rfl⟩
      have:flM m=some (lat m.b (m.a / m.w)):=by unfold flM;rw [if_pos ⟨h1,‹_›,h4⟩]
      have e1:sml (m.a / m.w)=m.a / m.w:=if_pos h4
      rw [this,e1];rfl
  · first | refine rt (hq:=?_) | refine rt' (hq:=?_)
    refine ⟨?_,hs.only0 rfl⟩
    have h2:m.right=false:=by simpa using hc
    have:flM m=none:=by unfold flM;rw [if_neg (fun h=>by rw [h2] at h;cases h.1)]
    rw [this];rfl
theorem inW0:InW 0:=by decide
theorem u640:U64 0:=by decide
theorem in640:In64 0:=by decide
def ofL:Mn→List Pt→Option Mn
  | m,[]=>some m
  | m,p :: ps=>(addM m p).bind fun m=>ofL m ps
def ofM (base:Int) (ps:List Pt):Option Mn:=ofL ⟨base,0,0,0⟩ ps
theorem ofL_snoc:∀ (l:List Pt) (m:Mn) (p:Pt),ofL m (l ++ [p])=(ofL m l).bind fun m=>addM m p
  | [],m,p=>by
    simp only [List.nil_append,ofL,Option.bind_some]
    cases addM m p <;> rfl
  | q :: l,m,p=>by
    simp only [List.cons_append,ofL]
    cases addM m q with
    | none=>rfl
    | some m'=>exact ofL_snoc l m' p
theorem ofL_none:∀ (l r:List Pt) (m:Mn),ofL m l=none→ofL m (l ++ r)=none
  | [],r,m,h=>by simp [ofL] at h
  | q :: l,r,m,h=>by
    simp only [List.cons_append,ofL] at h ⊢
    cases h1:addM m q with
    | none=>rfl
    | some m'=>rw [h1] at h;exact ofL_none l r m' h
set_option maxHeartbeats 4000000 in
theorem of_mean_ret (base:Int) (ps:List Pt) (sl:Value) (hbase:U64 base) (hps:∀ p∈ps,p.In) (hlen:ps.length≤9223372036854775807) (w0:World) (hP:PsAt w0 sl ps) :
    Ret Tryz.prog 190 #[.int .u64 base,sl] w0 fun v w'=>v=mnV (ofM base ps)∧Only [] w0 w':=by
  obtain ⟨ad,cap,rfl,hD⟩:=hP
  rw [List.length_map] at *
  have hs:=St.nil w0
  refine ret_of_xc Tryz.func190 (by kernel_rfl) rfl Tryz.ntmps190 rfl rfl rfl ?_
  refine xc_seq ?_
  refine xc_region ?_ ?_;exact rfl
  refine al hs (k:=?_);intro b4 w hz hs
  repeat' (first|refine vs (k:=?_)|refine Nx.h ?_|fail)
  refine xc_region ?_ ?_;exact rfl
  refine vs (k:=?_)
  refine vs (k:=?_)
  refine al hs (k:=?_);intro b6 w hz hs
  repeat' (first|refine vs (k:=?_)|(refine stA hs (k:=?_);intro w hs)|refine qRg ?_|refine Nx.h ?_|fail)
  refine xc_cutB (fun (_:Mn)=>[(4,.pointer (some ⟨b4,0,none⟩)),(6,.pointer (some ⟨b6,0,none⟩))]) (fun m w=>ofM base ps=some m∧St w0 D0 [(b6,.cells m.cells.toArray 118,true),(b4,.cells Mn.zero.cells.toArray 118,true)] w) ?_ ?_
  · refine xc_loopS (fun (s:Nat × Mn)=>[(4,.pointer (some ⟨b4,0,none⟩)),(6,.pointer (some ⟨b6,0,none⟩)),(13,.slice ad ps.length cap),(14,.int .i64 (ps.length:Nat)),(15,.int .i64 (s.1:Nat))])
      (fun s w=>s.1≤ps.length∧ofM base (ps.take s.1)=some s.2∧s.2.In∧St w0 D0 [(b6,.cells s.2.cells.toArray 118,true),(b4,.cells Mn.zero.cells.toArray 118,true)] w)
      (fun s=>ps.length - s.1) (0,⟨base,0,0,0⟩) (by (repeat (first | exact agree_nil | (apply agree_cons;exact rfl)))) ⟨Nat.zero_le _,rfl,⟨hbase,inW0,u640,in640⟩,hs⟩ fun s env w ⟨hi,ho,hin,hs⟩=>?_
    obtain ⟨i,m⟩:=s
    simp only at hi ho hin
    repeat' (first|refine vs (k:=?_)|refine qRg ?_|refine Nx.h ?_|(refine xc_if rfl (fun hc=>?_) (fun hc=>?_))|fail)
    · have hlt:i < ps.length:=by omega
      obtain ⟨b,off,cs,fz,rfl,_,hb,hcs⟩:=hD (fun h=>by have:=congrArg List.length h;rw [List.length_map,List.length_nil] at this;omega)
      have hpk:=hcs i (Pt.cells ps[i]) (by rw [List.getElem?_map,List.getElem?_eq_getElem hlt];rfl)
      have hpin:=hps ps[i] (List.getElem_mem hlt)
      have ei:=nx64 hlt hlen
      have hsn:ofM base (ps.take (i+1))=addM m ps[i]:=by rw [take_next hlt];unfold ofM at ho ⊢;rw [ofL_snoc,ho];rfl
      have hno:addM m ps[i]=none→ofM base ps=none:=fun h=>by
        have:=ofL_none (ps.take (i+1)) (ps.drop (i+1)) ⟨base,0,0,0⟩ (by rw [show ofL ⟨base,0,0,0⟩ (ps.take (i+1))=ofM base (ps.take (i+1)) from rfl,hsn,h])
        rwa [List.take_append_drop] at this
      generalize ps[i]=p at *
      refine ix (h0:=(by omega)) (h1:=(by omega)) (k:=?_)
      refine lhK ((hs.only0 rfl).block hb (by simp)) hpk (k:=?_)
      refine al hs (k:=?_);intro b8 w hz hs
      repeat' (first|refine vs (k:=?_)|(refine stA hs (k:=?_);intro w hs)|refine qRg ?_|refine Nx.h ?_|fail)
      (with_reducible apply xs_call);exact rfl;exact rfl;exact madd_ret m p hin hpin _
      cases ha:addM m p with
      | none =>
        rintro v w' ⟨rfl,ho⟩;replace hs:=hs.call0 ho;repeat' (first|refine vs (k:=?_)|(refine stA hs (k:=?_);intro w hs)|(refine al hs (k:=?_);intro b w hz hs)|refine qRg ?_|refine Nx.h ?_|refine qCt ?_|fail)
        first | refine rt (hq:=?_) | refine rt' (hq:=?_)
        refine ⟨?_,hs.only0 rfl⟩
        rw [hno ha];rfl
      | some m' =>
        rintro v w' ⟨rfl,ho⟩;replace hs:=hs.call0 ho;repeat' (first|refine vs (k:=?_)|(refine stA hs (k:=?_);intro w hs)|(refine al hs (k:=?_);intro b w hz hs)|refine qRg ?_|refine Nx.h ?_|refine qCf ?_|fail)
        rw [ha] at hsn
        exact loopS_next (i+1,m') (by show ps.length - (i+1) < ps.length - i;omega) (by (repeat (first | exact agree_nil | (apply agree_cons;first | exact rfl | exact congrArg (Value.int .i64) ei)))) ⟨by show i+1≤ps.length;omega,hsn,addM_in hin ha,hs.forgetNew.forgetNew⟩
    · have hc':¬ ((i:Int) < ps.length):=hc
      have e:i=ps.length:=by omega
      rw [e,List.take_length] at ho
      exact cutB_exit m (by (repeat (first | exact agree_nil | (apply agree_cons;exact rfl)))) ⟨ho,hs⟩
  · rintro m env w ⟨ho,hs⟩
    repeat' (first|refine vs (k:=?_)|(refine stA hs (k:=?_);intro w hs)|refine qRg ?_|refine Nx.h ?_|fail)
    first | refine rt (hq:=?_) | refine rt' (hq:=?_)
    refine ⟨?_,hs.only0 rfl⟩
    rw [ho];rfl
end Go.Proofs.YtkbcfknnieggbaaGreatDoorX

namespace Go.Proofs.YtkbcfknnieggbaaGreatDoorX
def sumD (b:Int):List It→Int
  | []=>0
  | a :: l=>dist a.p b+sumD b l
def sumW:List It→Int
  | []=>0
  | a :: l=>a.p.w+sumW l
theorem sumD_perm {b:Int} {l l':List It} (h:l.Perm l'):sumD b l=sumD b l':=by
  induction h with
  | nil=>rfl
  | cons _ _ ih=>simp only [sumD,ih]
  | swap _ _ _=>simp only [sumD];omega
  | trans _ _ h1 h2=>rw [h1,h2]
theorem sumW_perm {l l':List It} (h:l.Perm l'):sumW l=sumW l':=by
  induction h with
  | nil=>rfl
  | cons _ _ ih=>simp only [sumW,ih]
  | swap _ _ _=>simp only [sumW];omega
  | trans _ _ h1 h2=>rw [h1,h2]
theorem sum_rng {b lo hi:Int}:∀ {l:List It},(∀ x∈l,x.In∧x.right=true∧lo≤sn x.p.t b∧sn x.p.t b≤hi)→sumW l*lo≤sumD b l∧sumD b l+l.length≤sumW l*(hi+1)∧(l.length:Int)≤sumW l∧sumW l≤l.length*1048576
  | [],_=>by simp [sumD,sumW]
  | a :: l,h=>by
    obtain ⟨h1,h2,h3,h4⟩:=sum_rng fun x hx=>h x (List.mem_cons_of_mem _ hx)
    obtain ⟨k1,k2,k3,k4⟩:=h a List.mem_cons_self
    obtain ⟨_,_,_,_,_,_,⟨w1,w2,w3,w4⟩,_⟩:=iright_all k1 k2
    have m1:a.p.w*lo≤a.p.w*sn a.p.t b:=Int.mul_le_mul_of_nonneg_left k3 (by omega)
    have m2:a.p.w*sn a.p.t b≤a.p.w*hi:=Int.mul_le_mul_of_nonneg_left k4 (by omega)
    simp only [sumD,sumW,dist,List.length_cons,Int.add_mul,Int.mul_add,Int.mul_one] at *
    omega
theorem Win.rng {b lo:Int} {x:It} (h:Win b lo x) (hm:Mid lo):x.In∧x.right=true∧lo≤sn x.p.t b∧sn x.p.t b≤lo+4611686018427387904:=⟨h.isin,h.right,h.low,(h.dead hm).2.2⟩
structure IsM (m:Mn) (l:List It):Prop where
  a:m.a=sumD m.b l
  w:m.w=sumW l
  n:m.n=l.length
theorem IsM.perm {m:Mn} {l l':List It} (h:IsM m l) (p:l.Perm l'):IsM m l':=⟨h.a.trans (sumD_perm p),h.w.trans (sumW_perm p),by rw [h.n,p.length_eq]⟩
def AllW (b lo:Int) (l:List It):Prop:=Mid lo∧l.length≤32∧∀ x∈l,Win b lo x
theorem AllW.sum {b lo:Int} {l:List It} (h:AllW b lo l):sumW l*lo≤sumD b l∧sumD b l+l.length≤sumW l*(lo+4611686018427387904+1)∧(l.length:Int)≤sumW l∧sumW l≤l.length*1048576:=sum_rng fun x hx=>(h.2.2 x hx).rng h.1
theorem AllW.inW {b lo:Int} {l:List It} (h:AllW b lo l):InW (sumD b l):=by
  obtain ⟨h1,h2,h3,h4⟩:=h.sum
  obtain ⟨⟨m1,m2⟩,hl,_⟩:=h
  have k1:sumW l*(-4611686018427387904)≤sumW l*lo:=Int.mul_le_mul_of_nonneg_left m1 (by omega)
  have k2:sumW l*(lo+4611686018427387904+1)≤sumW l*4611686018427387905:=Int.mul_le_mul_of_nonneg_left (by omega) (by omega)
  unfold InW;omega
theorem AllW.right {m:Mn} {lo:Int} {l:List It} (h:AllW m.b lo l) (k:IsM m l):m.right=true:=by
  obtain ⟨h1,h2,h3,h4⟩:=h.sum
  have hl:=h.2.1
  rw [mright_iff]
  have e1:=k.a
  have e2:=k.w
  have e3:=k.n
  cases l with
  | nil=>left;simp only [sumD,sumW,List.length_nil] at *;omega
  | cons x l=>right;simp only [List.length_cons] at *;omega
theorem AllW.perm {b lo:Int} {l l':List It} (h:AllW b lo l) (p:l.Perm l'):AllW b lo l':=⟨h.1,by rw [← p.length_eq];exact h.2.1,fun x hx=>h.2.2 x (p.mem_iff.2 hx)⟩
theorem AllW.tail {b lo:Int} {a:It} {l:List It} (h:AllW b lo (a :: l)):AllW b lo l:=⟨h.1,by have:=h.2.1;simp only [List.length_cons] at this;omega,fun x hx=>h.2.2 x (List.mem_cons_of_mem _ hx)⟩
theorem AllW.head {b lo:Int} {a:It} {l:List It} (h:AllW b lo (a :: l)):Win b lo a:=h.2.2 a List.mem_cons_self
theorem add_is {m:Mn} {lo:Int} {a:It} {l:List It} (h:AllW m.b lo (a :: l)) (k:IsM m l):∃ m',addM m a.p=some m'∧m'.b=m.b∧IsM m' (a :: l):=by
  have hr:=h.tail.right k
  have hp:=(iright_all h.head.isin h.head.right).1
  have hw:=h.inW
  have hl:=h.2.1
  have e1:=k.a
  have e2:=k.w
  have e3:=k.n
  simp only [List.length_cons] at hl
  simp only [sumD] at hw
  refine ⟨_,if_pos ⟨hr,hp,by omega,by rw [e1,Int.add_comm];exact hw⟩,rfl,?_⟩
  constructor
  · simp only [sumD];omega
  · simp only [sumW];omega
  · simp only [List.length_cons];omega
theorem take_is {m:Mn} {lo:Int} {a:It} {l:List It} (h:AllW m.b lo (a :: l)) (k:IsM m (a :: l)):takM m a.p=some (lessM m a.p)∧IsM (lessM m a.p) l:=by
  have hr:=h.right k
  have hp:=(iright_all h.head.isin h.head.right).1
  have hw:=h.tail.inW
  have e1:=k.a
  have e2:=k.w
  have e3:=k.n
  have hs:=h.tail.sum.2.2.1
  simp only [sumD,sumW,List.length_cons] at e1 e2 e3
  have i:IsM (lessM m a.p) l:=⟨by simp only [lessM];omega,by simp only [lessM];omega,by simp only [lessM];omega⟩
  refine ⟨if_pos ⟨hr,hp,by omega,by omega,?_,(show AllW (lessM m a.p).b lo l from h.tail).right i⟩,i⟩
  rw [show m.a - dist a.p m.b=sumD m.b l by omega];exact hw
theorem AllW.mid {b lo:Int} {l:List It} (h:AllW b lo l) (hl:l≠[]):0 < sumW l∧lo≤sumD b l / sumW l∧sumD b l / sumW l≤lo+4611686018427387904:=by
  obtain ⟨h1,h2,h3,h4⟩:=h.sum
  have hp:0 < l.length:=List.length_pos_iff.2 hl
  refine ⟨by omega,Int.le_ediv_of_mul_le (by omega) (by rw [Int.mul_comm];exact h1),?_⟩
  have:=Int.ediv_lt_of_lt_mul (a:=sumD b l) (b:=lo+4611686018427387904+1) (c:=sumW l) (by omega) (by rw [Int.mul_comm];omega)
  omega
theorem floor_is {m:Mn} {lo:Int} {l:List It} (h:AllW m.b lo l) (k:IsM m l) (hl:l≠[]):flM m=some (lat m.b (sumD m.b l / sumW l)):=by
  obtain ⟨h1,h2,h3⟩:=h.mid hl
  have hm:=h.1
  unfold Mid at hm
  have hn:m.n≠0:=by rw [k.n];have:=List.length_pos_iff.2 hl;omega
  unfold flM
  rw [← k.a,← k.w] at *
  exact if_pos ⟨h.right k,hn,by unfold In64;omega⟩
theorem sumD_move {b c k:Int}:∀ {l:List It},(∀ x∈l,sn x.p.t c=sn x.p.t b - k)→sumD c l=sumD b l - sumW l*k
  | [],_=>by simp [sumD,sumW]
  | a :: l,h=>by
    simp only [sumD,sumW]
    rw [sumD_move fun x hx=>h x (List.mem_cons_of_mem _ hx),dist_move (h a List.mem_cons_self),Int.add_mul];omega
structure Cen (m:Mn) (l:List It):Prop where
  is:IsM m l
  u:U64 m.b
  a0:0≤m.a
  a1:m.a < m.w
  all:∃ lo,AllW m.b lo l
theorem AllW.move {b lo c:Int} {l:List It} (h:AllW b lo l) (h0:lo≤sn c b) (h1:sn c b≤lo+4611686018427387904):AllW c (lo - sn c b) l∧∀ x∈l,sn x.p.t c=sn x.p.t b - sn c b:=by
  have hm:=h.1
  unfold Mid at hm
  exact ⟨⟨by unfold Mid;omega,h.2.1,fun x hx=>((h.2.2 x hx).move h.1 h0 h1).1⟩,fun x hx=>((h.2.2 x hx).move h.1 h0 h1).2⟩
theorem centre_is {m:Mn} {lo:Int} {l:List It} (h:AllW m.b lo l) (k:IsM m l) (hl:l≠[]):∃ m',rebM m ((flM m).getD 0)=some m'∧Cen m' l:=by
  obtain ⟨h1,h2,h3⟩:=h.mid hl
  have hm:=h.1
  have hf:=floor_is h k hl
  rw [hf,Option.getD_some]
  unfold Mid at hm
  have e:sn (lat m.b (sumD m.b l / sumW l)) m.b=sumD m.b l / sumW l:=sn_lat (by unfold In64;omega)
  have hM:=h.move (c:=lat m.b (sumD m.b l / sumW l)) (by rw [e];exact h2) (by rw [e];exact h3)
  rw [e] at hM
  have hs:=sumD_move hM.2
  have ea:=k.a
  have ew:=k.w
  have em:m.a - m.w*(sumD m.b l / sumW l)=sumD m.b l % sumW l:=by rw [ea,ew];have:=Int.mul_ediv_add_emod (sumD m.b l) (sumW l);omega
  have n0:=Int.emod_nonneg (sumD m.b l) (show sumW l≠0 by omega)
  have n1:=Int.emod_lt_of_pos (sumD m.b l) h1
  have hi:InW (sumD m.b l % sumW l):=by
    have:=h.sum.2.2.2
    have:=h.2.1
    unfold InW;omega
  refine ⟨_,if_pos ⟨h.right k,by rw [e,em];exact hi⟩,⟨⟨?_,ew,k.n⟩,lat_in _ _,?_,?_,_,hM.1⟩⟩
  · show m.a - m.w*sn _ m.b=sumD _ l
    rw [e,hs,ea,ew]
  · show 0≤m.a - m.w*sn _ m.b
    rw [e,em];exact n0
  · show m.a - m.w*sn _ m.b < m.w
    rw [e,em,ew];exact n1
theorem Cen.now {m:Mn} {l:List It} (h:Cen m l) (hl:l≠[]):flM m=some m.b:=by
  obtain ⟨lo,k⟩:=h.all
  rw [floor_is k h.is hl,← h.is.a,← h.is.w,Int.ediv_eq_zero_of_lt h.a0 h.a1,lat_zero h.u]
def meanL:List It→Mn
  | [] => .zero
  | x :: l=>⟨lat x.p.t (sumD x.p.t (x :: l) / sumW (x :: l)),sumD x.p.t (x :: l) % sumW (x :: l),sumW (x :: l),(x :: l).length⟩
theorem Cen.perm {m:Mn} {l l':List It} (h:Cen m l) (p:l.Perm l'):Cen m l':=by
  obtain ⟨lo,k⟩:=h.all
  exact ⟨h.is.perm p,h.u,h.a0,h.a1,lo,k.perm p⟩
theorem Cen.eq {m:Mn}:∀ {l:List It},Cen m l→l≠[]→m=meanL l
  | [],_,h=>absurd rfl h
  | x :: l,h,_=>by
    obtain ⟨lo,k⟩:=h.all
    have d:=k.head.dead k.1
    have hM:=k.move (c:=x.p.t) k.head.low d.2.2
    have hs:=sumD_move hM.2
    have e:=lat_sn (b:=m.b) k.head.isin.1.1
    show m=⟨lat x.p.t (sumD x.p.t (x :: l) / sumW (x :: l)),sumD x.p.t (x :: l) % sumW (x :: l),sumW (x :: l),(x :: l).length⟩
    rw [hs,← h.is.a,← h.is.w,← h.is.n]
    have hw:0 < m.w:=by have:=h.a0;have:=h.a1;omega
    have q:(m.a - m.w*sn x.p.t m.b) / m.w=- sn x.p.t m.b:=by
      rw [Int.sub_eq_add_neg,← Int.mul_neg,Int.add_mul_ediv_left _ _ (by omega),Int.ediv_eq_zero_of_lt h.a0 h.a1];omega
    have r:(m.a - m.w*sn x.p.t m.b) % m.w=m.a:=by
      rw [Int.sub_eq_add_neg,← Int.mul_neg,Int.add_mul_emod_self_left,Int.emod_eq_of_lt h.a0 h.a1]
    rw [q,r]
    have:lat x.p.t (- sn x.p.t m.b)=m.b:=by
      have hu:=h.u
      have:=e
      unfold U64 at hu
      unfold lat at *;omega
    rw [this]
end Go.Proofs.YtkbcfknnieggbaaGreatDoorX

namespace Go.Proofs.YtkbcfknnieggbaaGreatDoorX
namespace RB
variable {α : Type}
def isNil:RB α→Bool
  | nil=>true
  | node _ _ _ _=>false
def both:RB α→Bool
  | node (node _ _ _ _) _ (node _ _ _ _) _=>true
  | _=>false
def setR:RB α→RB α→RB α
  | nil,_=>nil
  | node l x _ c,r=>node l x r c
def redLeft (t:RB α):RB α:=bif (flip t).right.left.red then flip (toLeft (setR (flip t) (toRight (flip t).right))) else flip t
def redRight (t:RB α):RB α:=bif (flip t).left.left.red then flip (toRight (flip t)) else flip t
def downL (t:RB α):Option (RB α):=bif !t.left.red && !t.left.left.red then (bif both t then some (redLeft t) else none) else some t
def downR (t:RB α):Option (RB α):=bif !t.right.red && !t.right.left.red then (bif both t then some (redRight t) else none) else some t
def least:RB α→Option α
  | nil=>none
  | node nil x _ _=>some x
  | node (node a y b c) _ _ _=>least (node a y b c)
def cutMin:Nat→RB α→Option (RB α)
  | 0,_=>none
  | k+1,t=>bif t.isNil then none else bif t.left.isNil then some nil else
    match downL t with
    | some (node l x r c)=>(cutMin k l).map fun l'=>mend (node l' x r c)
    | _=>none
def cut (lt:α→α→Bool) (x:α):Nat→RB α→Option (RB α)
  | 0,_=>none
  | _+1,nil=>none
  | k+1,node l y r c=>bif lt x y then
      (bif l.isNil then none else
        match downL (node l y r c) with
        | some (node l1 y1 r1 c1)=>(cut lt x k l1).map fun l'=>mend (node l' y1 r1 c1)
        | _=>none)
    else bif (bif l.red then toRight (node l y r c) else node l y r c).right.isNil then some nil else
      match downR (bif l.red then toRight (node l y r c) else node l y r c) with
      | some (node l2 y2 r2 c2)=>bif lt y2 x then (cut lt x k r2).map fun r'=>mend (node l2 y2 r' c2)
          else match least r2 with
            | some m=>(cutMin k r2).map fun r'=>mend (node l2 m r' c2)
            | none=>none
      | _=>none
theorem list_setR:∀ (t r:RB α),t.right.list=r.list→(setR t r).list=t.list
  | nil,r,h=>rfl
  | node l x r' c,r,h=>by simp only [setR,list];rw [← h];rfl
theorem list_redLeft (t:RB α):(redLeft t).list=t.list:=by
  unfold redLeft
  cases (flip t).right.left.red
  · rw [cond_false,list_flip]
  · rw [cond_true,list_flip,list_toLeft,list_setR _ _ (list_toRight _).symm,list_flip]
theorem list_redRight (t:RB α):(redRight t).list=t.list:=by
  unfold redRight
  cases (flip t).left.left.red
  · rw [cond_false,list_flip]
  · rw [cond_true,list_flip,list_toRight,list_flip]
theorem least_list:∀ t:RB α,least t=t.list.head?
  | nil=>rfl
  | node nil x _ _=>rfl
  | node (node a y b c) x r d=>by
    have:=least_list (node a y b c)
    simp only [least,list] at *
    rw [this]
    cases h:a.list with
    | nil=>simp
    | cons u v=>simp
theorem least_cons {t:RB α} (h:t.isNil=false):∃ m,least t=some m∧t.list=m :: t.list.tail:=by
  rw [least_list]
  cases hl:t.list with
  | nil=>cases t with
    | nil=>cases h
    | node l x r c=>simp [list] at hl
  | cons m l=>exact ⟨m,rfl,rfl⟩
theorem mend_id {l r:RB α} {x:α} {c:Bool} (h1:l.red=false) (h2:r.red=false):mend (node l x r c)=node l x r c:=by
  simp [mend,mend1,mend2,mend3,left_node,right_node,red_node,h1,h2]
theorem mendL_id {l r:RB α} {x:α} {c:Bool} {h:Nat} (hl:Ok l h) (h2:r.red=false):mend (node l x r c)=node l x r c:=by
  have hlr:(l.red && l.left.red)=false:=by
    cases hc:l.red
    · rfl
    · rw [red_left_false hl hc];rfl
  simp [mend,mend1,mend2,mend3,left_node,right_node,red_node,h2,hlr]
theorem mendR_stays {l r:RB α} {y:α} {h:Nat} (hr:Ok r h) (hl:l.red=false):(mend (node l y r false)).red=false:=by
  cases hc:r.red
  · rw [mend_id hl hc];rfl
  · obtain ⟨rl,z,rr,rfl⟩:=red_true hc
    obtain ⟨p1,p2,p3,p4⟩:=hr.inv_red
    have:mend (node l y (node rl z rr true) false)=node (node l y rl true) z rr false:=by
      simp [mend,mend1,mend2,mend3,left_node,right_node,red_node,toLeft,hl,p4]
    rw [this];rfl
theorem black_zero {t:RB α} (k:Ok t 0) (h:t.red=false):t=nil:=by
  cases k with
  | nil=>rfl
  | red a b c d=>cases h
theorem black_succ {t:RB α} {h:Nat} (k:Ok t (h+1)) (hr:t.red=false):∃ l x r,t=node l x r false∧Ok l h∧Ok r h∧r.red=false:=by
  cases k with
  | black a b c=>exact ⟨_,_,_,rfl,a,b,c⟩
  | red a b c d=>cases hr
theorem tail_mid (A B C:List α) (y:α):((A ++ y :: B) ++ C).tail=(A ++ y :: B).tail ++ C:=by cases A <;> simp
theorem list_ne {t:RB α} (h:t.isNil=false):t.list≠[]:=by
  cases t with
  | nil=>cases h
  | node l x r c=>simp [list]
structure Cut (t t':RB α) (h:Nat) (L:List α):Prop where
  ok:Ok t' h
  black:t.red=false→t'.red=false
  list:t'.list=L
theorem cutMin_ok:∀ (k:Nat) (t:RB α) (h:Nat),Ok t h→t.isNil=false→(t.red=true∨t.left.red=true)→t.list.length≤k→∃ t',cutMin k t=some t'∧Cut t t' h t.list.tail
  | 0,t,h,hk,hn,_,hl=>by
    have:=list_ne hn
    cases ht:t.list with
    | nil=>exact absurd ht this
    | cons a b=>rw [ht] at hl;simp at hl
  | k+1,nil,h,hk,hn,_,hl=>by cases hn
  | k+1,node l x r true,h,hk,hn,_,hl=>by
    obtain ⟨a,b,c,d⟩:=hk.inv_red
    simp only [list,List.length_append,List.length_cons] at hl
    cases h with
    | zero =>
      obtain rfl:=black_zero a c
      obtain rfl:=black_zero b d
      exact ⟨nil,rfl,.nil,(fun h=>by cases h),rfl⟩
    | succ h =>
      obtain ⟨ll,y,lr,rfl,a1,a2,a3⟩:=black_succ a c
      obtain ⟨rl,z,rr,rfl,b1,b2,b3⟩:=black_succ b d
      simp only [list,List.length_append,List.length_cons] at hl
      cases hc:ll.red
      · cases hd:rl.red
        · obtain ⟨t',e,q⟩:=cutMin_ok k (node ll y lr true) h (.red a1 a2 hc a3) rfl (.inl rfl) (by simp only [list,List.length_append,List.length_cons];omega)
          refine ⟨mend (node t' x (node rl z rr true) false),?_,mendR_black q.ok (.red b1 b2 hd b3),(fun h=>by cases h),?_⟩
          · simp [cutMin,isNil,downL,both,redLeft,flip,left_node,right_node,red_node,hc,hd,e]
          · rw [list_mend]
            simp only [list,q.list]
            rw [tail_mid]
        · obtain ⟨rll,u,rlr,rfl⟩:=red_true hd
          obtain ⟨e1,e2,e3,e4⟩:=b1.inv_red
          obtain ⟨t',e,q⟩:=cutMin_ok k (node (node ll y lr true) x rll false) (h+1) (.black (.red a1 a2 hc a3) e1 e3) rfl (.inr rfl) (by simp only [list,List.length_append,List.length_cons] at *;omega)
          have q2:=q.black rfl
          refine ⟨node t' u (node rlr z rr false) true,?_,.red q.ok (.black e2 b2 b3) q2 rfl,(fun h=>by cases h),?_⟩
          · have:=mend_id (l:=t') (r:=node rlr z rr false) (x:=u) (c:=true) q2 rfl
            simp [cutMin,isNil,downL,both,redLeft,flip,toLeft,toRight,setR,left_node,right_node,red_node,hc,e,this]
          · simp only [list,q.list]
            rw [tail_mid,tail_mid]
            simp
      · obtain ⟨t',e,q⟩:=cutMin_ok k (node ll y lr false) (h+1) (.black a1 a2 a3) rfl (.inr hc) (by simp only [list,List.length_append,List.length_cons];omega)
        have q2:=q.black rfl
        refine ⟨node t' x (node rl z rr false) true,?_,.red q.ok (.black b1 b2 b3) q2 rfl,(fun h=>by cases h),?_⟩
        · have:=mend_id (l:=t') (r:=node rl z rr false) (x:=x) (c:=true) q2 rfl
          simp [cutMin,isNil,downL,left_node,right_node,red_node,hc,e,this]
        · simp only [list,q.list]
          rw [tail_mid]
  | k+1,node l x r false,h,hk,hn,hc,hl=>by
    obtain ⟨h,rfl,a,b,c⟩:=hk.inv_black
    have hlr:l.red=true:=by rcases hc with hc | hc;cases hc;exact hc
    simp only [list,List.length_append,List.length_cons] at hl
    obtain ⟨ll,y,lr,rfl⟩:=red_true hlr
    obtain ⟨t',e,q⟩:=cutMin_ok k (node ll y lr true) h a rfl (.inl rfl) (by omega)
    have e2:=mendL_id (x:=x) (c:=false) q.ok c
    refine ⟨node t' x r false,?_,.black q.ok b c,fun _=>rfl,?_⟩
    · simp [cutMin,isNil,downL,left_node,right_node,red_node,e,e2]
    · simp only [list,q.list]
      rw [tail_mid]
end RB
end Go.Proofs.YtkbcfknnieggbaaGreatDoorX

set_option linter.unusedSectionVars false
namespace Go.Proofs.YtkbcfknnieggbaaGreatDoorX
namespace RB
variable {α : Type} [DecidableEq α]
def sans (x:α) (l:List α):List α:=l.filter fun z=>!decide (z=x)
theorem sans_append (x:α) (A B:List α):sans x (A ++ B)=sans x A ++ sans x B:=List.filter_append ..
theorem sans_none {x:α} {l:List α} (h:∀ z∈l,z≠x):sans x l=l:=List.filter_eq_self.2 fun z hz=>by simp [h z hz]
theorem sans_cons {x y:α} (h:y≠x) (l:List α):sans x (y :: l)=y :: sans x l:=by simp [sans,h]
theorem sans_self (x:α) (l:List α):sans x (x :: l)=sans x l:=by simp [sans]
structure In (lt:α→α→Bool) (S:α→Prop) (x:α) (l:List α):Prop where
  srt:Srt lt l
  s:∀ z∈l,S z
  mem:x∈l
variable {lt : α → α → Bool} {S : α → Prop} {x : α}
theorem lt_ne (ho:OrdOn lt S) {a b:α} (ha:S a) (h:lt a b=true):a≠b:=fun e=>by
  subst e
  rw [ho.irr a ha] at h
  cases h
theorem In.left (ho:OrdOn lt S) {L R:List α} {y:α} (h:In lt S x (L ++ y :: R)) (hxy:lt x y=true):In lt S x L∧sans x (L ++ y :: R)=sans x L ++ y :: R:=by
  obtain ⟨h1,h2,h3,h4,h5⟩:=srt_node h.srt
  have hx:=h.s x h.mem
  have hy:=h.s y (by simp)
  have hR:∀ z∈y :: R,z≠x:=fun z hz e=>by
    subst e
    rcases List.mem_cons.1 hz with rfl | hz
    · rw [ho.irr _ hx] at hxy;cases hxy
    · have:=asym ho hy hx (h4 z hz);rw [hxy] at this;cases this
  have hm:x∈L:=by
    rcases List.mem_append.1 h.mem with hm | hm
    · exact hm
    · exact absurd rfl (hR x hm)
  exact ⟨⟨h1,fun z hz=>h.s z (List.mem_append_left _ hz),hm⟩,by rw [sans_append,sans_none hR]⟩
theorem In.right (ho:OrdOn lt S) {L R:List α} {y:α} (h:In lt S x (L ++ y :: R)) (hxy:lt y x=true):In lt S x R∧sans x (L ++ y :: R)=L ++ y :: sans x R:=by
  obtain ⟨h1,h2,h3,h4,h5⟩:=srt_node h.srt
  have hx:=h.s x h.mem
  have hy:=h.s y (by simp)
  have hL:∀ z∈L,z≠x:=fun z hz e=>by
    subst e
    have:=asym ho hx hy (h3 z hz);rw [hxy] at this;cases this
  have hyx:=lt_ne ho hy hxy
  have hm:x∈R:=by
    rcases List.mem_append.1 h.mem with hm | hm
    · exact absurd rfl (hL x hm)
    · rcases List.mem_cons.1 hm with rfl | hm
      · exact absurd rfl hyx
      · exact hm
  exact ⟨⟨h2,fun z hz=>h.s z (by simp [hz]),hm⟩,by rw [sans_append,sans_none hL,sans_cons hyx]⟩
theorem In.eq (ho:OrdOn lt S) {L R:List α} {y:α} (h:In lt S x (L ++ y :: R)) (h6:lt x y=false) (h7:lt y x=false):sans x (L ++ y :: R)=L ++ R:=by
  obtain ⟨h1,h2,h3,h4,h5⟩:=srt_node h.srt
  have hx:=h.s x h.mem
  have hy:=h.s y (by simp)
  obtain rfl:=ho.tri x y hx hy h6 h7
  rw [sans_append,sans_self,sans_none,sans_none]
  · intro z hz e;subst e;have:=h4 _ hz;rw [ho.irr _ hx] at this;cases this
  · intro z hz e;subst e;have:=h3 _ hz;rw [ho.irr _ hx] at this;cases this
theorem In.up (ho:OrdOn lt S) {L R:List α} {y u:α} (h:In lt S x (L ++ y :: R)) (hu:u∈R) (hxy:lt x y=true):lt x u=true:=by
  obtain ⟨h1,h2,h3,h4,h5⟩:=srt_node h.srt
  exact ho.tr x y u (h.s x h.mem) (h.s y (by simp)) (h.s u (by simp [hu])) hxy (h4 u hu)
theorem In.down (ho:OrdOn lt S) {L R:List α} {y u:α} (h:In lt S x (L ++ y :: R)) (hu:u∈L) (hxy:lt x y=false):lt u x=true:=by
  obtain ⟨h1,h2,h3,h4,h5⟩:=srt_node h.srt
  have hx:=h.s x h.mem
  have hy:=h.s y (by simp)
  have hus:=h.s u (by simp [hu])
  have huy:=h3 u hu
  cases hyx:lt y x
  · rw [ho.tri x y hx hy hxy hyx];exact huy
  · exact ho.tr u y x hus hy hx huy hyx
def CutAt (lt:α→α→Bool) (S:α→Prop) (x:α) (k:Nat):Prop :=
  ∀ (t:RB α) (h:Nat),Ok t h→t.isNil=false→(t.red=true∨t.left.red=true)→t.list.length≤k→In lt S x t.list→∃ t',cut lt x k t=some t'∧Cut t t' h (sans x t.list)
theorem right_step (ho:OrdOn lt S) {k:Nat} (ih:CutAt lt S x k) {l r:RB α} {y:α} {c:Bool} {h:Nat} (hr:Ok r h) (hn:r.isNil=false) (hc:r.red=true∨r.left.red=true) (hl:r.list.length≤k) (hI:In lt S x (l.list ++ y :: r.list)) (hxy:lt x y=false) :
    ∃ m r',(bif lt y x then (cut lt x k r).map fun r'=>mend (node l y r' c) else match least r with
      | some m=>(cutMin k r).map fun r'=>mend (node l m r' c)
      | none=>none)=some (mend (node l m r' c))∧Ok r' h∧(r.red=false→r'.red=false)∧l.list ++ m :: r'.list=sans x (l.list ++ y :: r.list):=by
  cases hyx:lt y x
  · obtain ⟨m,hm,hm2⟩:=least_cons hn
    obtain ⟨r',e,q⟩:=cutMin_ok k r h hr hn hc hl
    refine ⟨m,r',by simp [hm,e],q.ok,q.black,?_⟩
    rw [hI.eq ho hxy hyx,q.list,← hm2]
  · obtain ⟨hI',e1⟩:=hI.right ho hyx
    obtain ⟨r',e,q⟩:=ih r h hr hn hc hl hI'
    exact ⟨y,r',by simp [e],q.ok,q.black,by rw [e1,q.list]⟩
theorem cut_pre (ho:OrdOn lt S) {k:Nat} (ih:CutAt lt S x k) {l r:RB α} {y:α} {h:Nat} (hl:Ok l h) (hr:Ok r h) (h1:l.red=false) (h2:r.red=true) (hxy:lt x y=false) (hlen:(node l y r false).list.length≤k+1) (hI:In lt S x (l.list ++ y :: r.list)) :
    ∃ t',cut lt x (k+1) (node l y r false)=some t'∧Cut (node l y r false) t' (h+1) (sans x (l.list ++ y :: r.list)):=by
  have hn:r.isNil=false:=by
    obtain ⟨a,b,c,rfl⟩:=red_true h2
    rfl
  simp only [list,List.length_append,List.length_cons] at hlen
  obtain ⟨m,r',e,e1,e2,e3⟩:=right_step ho ih (c:=false) hr hn (.inl h2) (by omega) hI hxy
  refine ⟨_,?_,mendR_black (y:=m) hl e1,fun _=>mendR_stays e1 h1,by rw [list_mend];exact e3⟩
  simp only [cut,hxy,h1,cond_false,downR,right_node,hn,h2,Bool.not_true,Bool.false_and]
  exact e
theorem cut_ok (ho:OrdOn lt S):∀ k,CutAt lt S x k
  | 0=>fun t h hk hn _ hl hI=>by
    have:=hI.mem
    cases ht:t.list with
    | nil=>rw [ht] at this;cases this
    | cons a b=>rw [ht] at hl;simp at hl
  | k+1=>fun t h hk hn hc hl hI=>by
    have ih:=cut_ok ho k
    cases t with
    | nil=>cases hn
    | node l y r c =>
    simp only [list,List.length_append,List.length_cons] at hl
    simp only [list] at hI
    cases hxy:lt x y
    · -- to the right
      cases c with
      | false =>
        obtain ⟨h,rfl,a,b,c⟩:=hk.inv_black
        have hlr:l.red=true:=by rcases hc with hc | hc;cases hc;exact hc
        obtain ⟨ll,z,lr,rfl⟩:=red_true hlr
        obtain ⟨a1,a2,a3,a4⟩:=a.inv_red
        simp only [list,List.length_append,List.length_cons] at hl
        have hzx:lt z x=true:=hI.down ho (by simp [list]) hxy
        have hI2:In lt S x (ll.list ++ z :: (node lr y r true).list):=by simpa [list] using hI
        obtain ⟨hI3,e1⟩:=hI2.right ho hzx
        obtain ⟨t',e,q⟩:=ih (node lr y r true) h (.red a2 b a4 c) rfl (.inl rfl) (by simp only [list,List.length_append,List.length_cons];omega) hI3
        refine ⟨mend (node ll z t' false),?_,mendR_black a1 q.ok,fun _=>mendR_stays q.ok a3,?_⟩
        · simp only [cut,hxy,cond_false,red_node,cond_true,toRight,right_node,isNil,downR,Bool.not_true,Bool.false_and,hzx]
          simp [e]
        · rw [list_mend]
          simp only [list]
          rw [q.list,← e1]
          simp [list]
      | true =>
        obtain ⟨a,b,c,d⟩:=hk.inv_red
        cases h with
        | zero =>
          obtain rfl:=black_zero a c
          obtain rfl:=black_zero b d
          refine ⟨nil,by simp [cut,hxy,red,right,isNil],.nil,(fun h=>by cases h),?_⟩
          have hm:=hI.mem
          simp [list] at hm
          subst hm
          simp [list,sans]
        | succ h =>
          obtain ⟨ll,u,lr,rfl,a1,a2,a3⟩:=black_succ a c
          obtain ⟨rl,z,rr,rfl,b1,b2,b3⟩:=black_succ b d
          simp only [list,List.length_append,List.length_cons] at hl
          cases hd:rl.red
          · cases he:ll.red
            · obtain ⟨m,r',e,e1,e2,e3⟩:=right_step ho ih (l:=node ll u lr true) (c:=false) (Ok.red (x:=z) b1 b2 hd b3) rfl (.inl rfl) (by simp only [list,List.length_append,List.length_cons];omega) (y:=y) (by simpa [list] using hI) hxy
              refine ⟨_,?_,mendR_black (y:=m) (.red a1 a2 he a3) e1,(fun h=>by cases h),by rw [list_mend];rw [show (node (node ll u lr true) m r' false).list=(node ll u lr true).list ++ m :: r'.list from rfl,e3];rfl⟩
              simp only [cut,hxy,cond_false,red_node,right_node,left_node,isNil,downR,hd,Bool.not_false,Bool.and_self,both,cond_true,redRight,flip,Bool.not_true,he]
              exact e
            · obtain ⟨p,v,s,rfl⟩:=red_true he
              obtain ⟨c1,c2,c3,c4⟩:=a1.inv_red
              have hux:lt u x=true:=hI.down ho (by simp [list]) hxy
              have hI2:In lt S x ((node p v s false).list ++ u :: (lr.list ++ y :: (node rl z rr true).list)):=by simpa [list] using hI
              obtain ⟨hI3,e1⟩:=hI2.right ho hux
              cases k with
              | zero=>omega
              | succ k =>
              have ih':=cut_ok ho k
              obtain ⟨t',e,q⟩:=cut_pre ho ih' a2 (Ok.red (x:=z) b1 b2 hd b3) a3 rfl hxy (by simp only [list,List.length_append,List.length_cons] at *;omega) hI3
              have q2:=q.black rfl
              have e5:=mend_id (l:=node p v s false) (r:=t') (x:=u) (c:=true) rfl q2
              refine ⟨node (node p v s false) u t' true,?_,.red (.black c1 c2 c4) q.ok rfl q2,(fun h=>by cases h),?_⟩
              · rw [cut]
                simp only [hxy,cond_false,red_node,right_node,left_node,isNil,downR,hd,Bool.not_false,Bool.and_self,both,cond_true,redRight,flip,toRight,Bool.not_true,hux]
                rw [← e5,e]
                rfl
              · simp only [list] at *
                rw [q.list,← e1]
                simp
          · obtain ⟨m,r',e,e1,e2,e3⟩:=right_step ho ih (l:=node ll u lr false) (c:=true) b rfl (.inr hd) (by simp only [list,List.length_append,List.length_cons];omega) (y:=y) (by simpa [list] using hI) hxy
            have q2:=e2 rfl
            have e5:=mend_id (l:=node ll u lr false) (r:=r') (x:=m) (c:=true) rfl q2
            refine ⟨node (node ll u lr false) m r' true,?_,.red a e1 rfl q2,(fun h=>by cases h),e3⟩
            rw [← e5]
            simp only [cut,hxy,cond_false,red_node,right_node,left_node,isNil,downR,hd,Bool.not_false,Bool.not_true,Bool.and_false,cond_true]
            exact e
    · -- to the left
      obtain ⟨hI1,eF⟩:=hI.left ho hxy
      cases c with
      | false =>
        obtain ⟨h,rfl,a,b,c⟩:=hk.inv_black
        have hlr:l.red=true:=by rcases hc with hc | hc;cases hc;exact hc
        obtain ⟨ll,z,lr,rfl⟩:=red_true hlr
        obtain ⟨t',e,q⟩:=ih _ h a rfl (.inl rfl) (by omega) hI1
        have e2:=mendL_id (x:=y) (c:=false) q.ok c
        refine ⟨node t' y r false,?_,.black q.ok b c,fun _=>rfl,?_⟩
        · simp [cut,hxy,isNil,downL,left_node,right_node,red_node,e,e2]
        · simp only [list] at *
          rw [q.list,eF]
      | true =>
        obtain ⟨a,b,c,d⟩:=hk.inv_red
        cases h with
        | zero =>
          obtain rfl:=black_zero a c
          have:=hI1.mem
          cases this
        | succ h =>
          obtain ⟨ll,u,lr,rfl,a1,a2,a3⟩:=black_succ a c
          obtain ⟨rl,z,rr,rfl,b1,b2,b3⟩:=black_succ b d
          simp only [list,List.length_append,List.length_cons] at hl
          cases he:ll.red
          · cases hd:rl.red
            · obtain ⟨t',e,q⟩:=ih (node ll u lr true) h (.red a1 a2 he a3) rfl (.inl rfl) (by simp only [list,List.length_append,List.length_cons];omega) hI1
              refine ⟨mend (node t' y (node rl z rr true) false),?_,mendR_black q.ok (.red b1 b2 hd b3),(fun h=>by cases h),?_⟩
              · simp [cut,hxy,isNil,downL,both,redLeft,flip,left_node,right_node,red_node,he,hd,e]
              · rw [list_mend]
                simp only [list] at *
                rw [q.list,eF]
            · obtain ⟨rll,v,rlr,rfl⟩:=red_true hd
              obtain ⟨c1,c2,c3,c4⟩:=b1.inv_red
              have hxv:lt x v=true:=hI.up ho (by simp [list]) hxy
              have hI2:In lt S x ((node (node ll u lr true) y rll false).list ++ v :: (node rlr z rr false).list):=by simpa [list] using hI
              obtain ⟨hI3,eF2⟩:=hI2.left ho hxv
              obtain ⟨t',e,q⟩:=ih (node (node ll u lr true) y rll false) (h+1) (.black (.red a1 a2 he a3) c1 c3) rfl (.inr rfl) (by simp only [list,List.length_append,List.length_cons] at *;omega) hI3
              have q2:=q.black rfl
              have e5:=mend_id (l:=t') (r:=node rlr z rr false) (x:=v) (c:=true) q2 rfl
              refine ⟨node t' v (node rlr z rr false) true,?_,.red q.ok (.black c2 b2 b3) q2 rfl,(fun h=>by cases h),?_⟩
              · simp [cut,hxy,isNil,downL,both,redLeft,flip,toLeft,toRight,setR,left_node,right_node,red_node,he,e,e5]
              · simp only [list] at *
                rw [q.list,← eF2]
                simp
          · obtain ⟨t',e,q⟩:=ih (node ll u lr false) (h+1) a rfl (.inr he) (by simp only [list,List.length_append,List.length_cons];omega) hI1
            have q2:=q.black rfl
            have e5:=mend_id (l:=t') (r:=node rl z rr false) (x:=y) (c:=true) q2 rfl
            refine ⟨node t' y (node rl z rr false) true,?_,.red q.ok b q2 rfl,(fun h=>by cases h),?_⟩
            · simp [cut,hxy,isNil,downL,left_node,right_node,red_node,he,e,e5]
            · simp only [list] at *
              rw [q.list,eF]
end RB
end Go.Proofs.YtkbcfknnieggbaaGreatDoorX

namespace Go.Proofs.YtkbcfknnieggbaaGreatDoorX
def valD:List Int→Int
  | []=>0
  | d :: ds=>d+10000*valD ds
def DOk (ds:List Int):Prop:=∀ d∈ds,0≤d∧d < 10000
def Trim (ds:List Int):Prop:=∀ d,ds.getLast?=some d→d≠0
theorem valD_append:∀ (xs ys:List Int),valD (xs ++ ys)=valD xs+10000 ^ xs.length*valD ys
  | [],ys=>by simp [valD]
  | x :: xs,ys=>by
    simp only [List.cons_append,valD,valD_append xs ys,List.length_cons]
    rw [Int.pow_succ]
    grind
theorem valD_snoc (xs:List Int) (d:Int):valD (xs ++ [d])=valD xs+10000 ^ xs.length*d:=by rw [valD_append];simp [valD]
theorem valD_nonneg:∀ {ds:List Int},DOk ds→0≤valD ds
  | [],_=>Int.le_refl _
  | d :: ds,h=>by
    have:=h d (by simp)
    have:=valD_nonneg (ds:=ds) fun x hx=>h x (List.mem_cons_of_mem _ hx)
    simp only [valD];omega
theorem valD_lt:∀ {ds:List Int},DOk ds→valD ds < 10000 ^ ds.length
  | [],_=>by simp [valD]
  | d :: ds,h=>by
    have:=h d (by simp)
    have:=valD_lt (ds:=ds) fun x hx=>h x (List.mem_cons_of_mem _ hx)
    simp only [valD,List.length_cons,Int.pow_succ];omega
theorem DOk.nil:DOk []:=by intro d h;cases h
theorem DOk.snoc {ds:List Int} {d:Int} (h:DOk ds) (h0:0≤d) (h1:d < 10000):DOk (ds ++ [d]):=fun x hx=>by
  rcases List.mem_append.1 hx with hx | hx
  · exact h x hx
  · simp at hx;subst hx;exact ⟨h0,h1⟩
theorem pow_pos' (n:Nat):(0:Int) < 10000 ^ n:=Int.pow_pos (by decide)
theorem pow_mono' {n m:Nat} (h:n≤m):(10000:Int) ^ n≤10000 ^ m:=by
  have:=Nat.pow_le_pow_right (show 0 < 10000 by decide) h
  have e:∀ k:Nat,((10000 ^ k:Nat):Int)=(10000:Int) ^ k:=fun k=>by simp
  rw [← e n,← e m]
  omega
theorem valD_ge {ds:List Int} (h:DOk ds) (ht:Trim ds) (hn:ds≠[]):10000 ^ (ds.length - 1)≤valD ds:=by
  obtain ⟨init,last,rfl⟩:∃ i l,ds=i ++ [l]:=⟨ds.dropLast,ds.getLast hn,(List.dropLast_concat_getLast hn).symm⟩
  have h1:=h last (by simp)
  have h2:last≠0:=ht last (by simp)
  have h3:=valD_nonneg (ds:=init) fun x hx=>h x (by simp [hx])
  rw [valD_snoc]
  have h4:=pow_pos' init.length
  have:(10000:Int) ^ init.length*1≤10000 ^ init.length*last:=Int.mul_le_mul_of_nonneg_left (by omega) (by omega)
  simp only [List.length_append,List.length_singleton,Nat.add_sub_cancel]
  omega
theorem valD_zero {ds:List Int} (h:DOk ds) (ht:Trim ds):valD ds=0↔ds=[]:=by
  refine ⟨fun hv=>?_,fun e=>by subst e;rfl⟩
  by_cases hn:ds=[]
  · exact hn
  · have:=valD_ge h ht hn
    have:=pow_pos' (ds.length - 1)
    omega
theorem len_le {ds:List Int} (h:DOk ds) (ht:Trim ds) {n:Nat} (hv:valD ds < 10000 ^ n):ds.length≤n:=by
  by_cases hn:ds=[]
  · subst hn;simp
  · have h1:=valD_ge h ht hn
    rcases Nat.lt_or_ge n ds.length with hl | hl
    · have h2:(10000:Int) ^ n≤10000 ^ (ds.length - 1):=pow_mono' (by omega)
      omega
    · exact hl
def dig (ds:List Int) (i:Nat):Int:=ds.getD i 0
theorem dig_rng {ds:List Int} (h:DOk ds) (i:Nat):0≤dig ds i∧dig ds i < 10000:=by
  unfold dig
  rw [List.getD_eq_getElem?_getD]
  cases he:ds[i]? with
  | none=>simp
  | some d=>exact h d (List.mem_of_getElem? he)
theorem dig_ge {ds:List Int} {i:Nat} (h:ds.length≤i):dig ds i=0:=by
  unfold dig;rw [List.getD_eq_getElem?_getD,List.getElem?_eq_none h];rfl
theorem valD_drop (ds:List Int) (i:Nat):valD (ds.drop i)=dig ds i+10000*valD (ds.drop (i+1)):=by
  rcases Nat.lt_or_ge i ds.length with h | h
  · rw [List.drop_eq_getElem_cons h]
    simp [valD,dig,h]
  · rw [List.drop_of_length_le h,List.drop_of_length_le (by omega),dig_ge h];simp [valD]
theorem valD_take (ds:List Int) (i:Nat):valD (ds.take (i+1))=valD (ds.take i)+10000 ^ i*dig ds i:=by
  rcases Nat.lt_or_ge i ds.length with h | h
  · have:ds.take (i+1)=ds.take i ++ [ds[i]]:=by simp
    rw [this,valD_snoc]
    simp [dig,h,Nat.min_eq_left (Nat.le_of_lt h)]
  · rw [List.take_of_length_le h,List.take_of_length_le (by omega),dig_ge h];simp
end Go.Proofs.YtkbcfknnieggbaaGreatDoorX

namespace Go.Proofs.YtkbcfknnieggbaaGreatDoorX
open Go Go.RowKit
attribute [local irreducible] XS XC XA thenE blockE retE loopE loopS cutB cutN doneE SE
def DAt (w:World) (sl:Value) (ds:List Int):Prop :=
  ∃ ad cap,sl = .slice ad ds.length cap∧(ds≠[]→∃ (b off:Nat) (cs:List Value) (fz:Nat × Nat),ad=some ⟨b,off,none⟩∧ds.length≤cap∧w.heap[b]?=some (.cells cs.toArray 3 fz)∧∀ i d,ds[i]?=some d→cs[off+i]?=some (.int .i64 d))
def sg (neg:Bool) (n:Int):Int:=bif neg then -n else n
def BigAt (w:World) (v:Value) (x:Int):Prop:=∃ neg sl ds,v = .agg #[.bool neg,sl]∧DAt w sl ds∧DOk ds∧Trim ds∧(ds=[]→neg=false)∧x=sg neg (valD ds)
theorem DAt.only {w w':World} {sl:Value} {ds:List Int} (h:DAt w sl ds) (ho:Only [] w w'):DAt w' sl ds:=by
  obtain ⟨ad,cap,rfl,h⟩:=h
  refine ⟨ad,cap,rfl,fun hn=>?_⟩
  obtain ⟨b,off,cs,fz,h1,h2,h3,h4⟩:=h hn
  exact ⟨b,off,cs,fz,h1,h2,ho.block h3 (by simp),h4⟩
theorem BigAt.only {w w':World} {v:Value} {x:Int} (h:BigAt w v x) (ho:Only [] w w'):BigAt w' v x:=by
  obtain ⟨neg,sl,ds,h1,h2,h3⟩:=h
  exact ⟨neg,sl,ds,h1,h2.only ho,h3⟩
theorem i64_small {n:Int} (h0:-9223372036854775808≤n) (h1:n < 9223372036854775808):IntKind.i64.wrap n=n:=by rw [wrap_i64];omega
theorem dig_get {ds:List Int} {i:Nat} (h:i < ds.length):ds[i]?=some (dig ds i):=by simp [dig,h]
theorem digit_ret (neg:Bool) (sl:Value) (ds:List Int) (w0:World) (hD:DAt w0 sl ds) (i:Nat):Ret Tryz.prog 68 #[.agg #[.bool neg,sl],.int .i64 (i:Nat)] w0 fun v w'=>v = .int .i64 (dig ds i)∧Only [] w0 w':=by
  obtain ⟨ad,cap,rfl,h⟩:=hD
  have hs:=St.nil w0
  refine ret_of_xc Tryz.func68 (by kernel_rfl) rfl Tryz.ntmps68 rfl rfl rfl ?_
  repeat' (first|refine vs (k:=?_)|(refine bx hs (k:=?_);intro b w hz hs)|refine qRg ?_|refine Nx.h ?_|(refine xc_if rfl (fun hc=>?_) (fun hc=>?_))|fail)
  · have hi:i < ds.length:=by omega
    obtain ⟨b',off,cs,fz,rfl,h1,h2,h3⟩:=h (by intro e;subst e;simp at hi)
    refine ix (h0:=(by omega)) (h1:=hc) (k:=?_)
    refine lh (cs:=cs) (off:=off+((i:Nat):Int).toNat*1) ((hs.only0 rfl).block h2 (by simp)) (v := .int .i64 (dig ds i)) (by simpa using h3 i _ (dig_get hi)) (k:=?_)
    repeat' (first|refine vs (k:=?_)|refine Nx.h ?_|fail)
    first | refine rt (hq:=?_) | refine rt' (hq:=?_)
    exact ⟨rfl,hs.only0 rfl⟩
  · first | refine rt (hq:=?_) | refine rt' (hq:=?_)
    refine ⟨?_,hs.only0 rfl⟩
    rw [dig_ge (by omega)];rfl
theorem take_dig {ds:List Int} {k:Nat} (h:dig ds k=0):valD (ds.take (k+1))=valD (ds.take k):=by rw [valD_take,h];simp
theorem trim_ret (neg:Bool) (sl:Value) (ds:List Int) (w0:World) (hD:DAt w0 sl ds) (hok:DOk ds) (hlen:ds.length < 4611686018427387904):Ret Tryz.prog 64 #[.agg #[.bool neg,sl]] w0 fun v w'=>BigAt w' v (sg neg (valD ds))∧Only [] w0 w':=by
  obtain ⟨ad,cap,rfl,h⟩:=hD
  have hs:=St.nil w0
  refine ret_of_xc Tryz.func64 (by kernel_rfl) rfl Tryz.ntmps64 rfl rfl rfl ?_
  refine xc_seq ?_
  refine xc_region ?_ ?_;exact rfl
  refine bx hs (k:=?_);intro b1 w hz hs
  refine al hs (k:=?_);intro b2 w hz hs
  repeat' (first|refine Nx.h ?_|fail)
  refine xc_cutB (fun (m:Nat)=>[(1,.pointer (some ⟨b1,0,none⟩)),(2,.pointer (some ⟨b2,0,none⟩))])
    (fun m w=>m≤ds.length∧valD (ds.take m)=valD ds∧(m≠0→dig ds (m - 1)≠0)∧St w0 D0 [(b2,.cells #[.bool false,.slice none 0 0] 82,true),(b1,.cells #[.bool neg,.slice ad m cap] 82,true)] w) ?_ ?_
  · refine xc_loopS (fun (m:Nat)=>[(1,.pointer (some ⟨b1,0,none⟩)),(2,.pointer (some ⟨b2,0,none⟩))])
      (fun m w=>m≤ds.length∧valD (ds.take m)=valD ds∧St w0 D0 [(b2,.cells #[.bool false,.slice none 0 0] 82,true),(b1,.cells #[.bool neg,.slice ad m cap] 82,true)] w)
      (fun m=>m) ds.length (by (repeat (first | exact agree_nil | (apply agree_cons;exact rfl)))) ⟨Nat.le_refl _,by rw [List.take_length],hs⟩ fun m env w ⟨hm,hv,hs⟩=>?_
    refine xc_seq ?_
    refine xc_seq ?_
    refine xc_region ?_ ?_;exact rfl
    refine vs (k:=?_)
    refine vs (k:=?_)
    refine vs (k:=?_)
    refine vs (k:=?_)
    refine vs (k:=?_)
    refine xs_late 7 rfl ?_;intro c hc;cases c
    · repeat' (first|refine vs (k:=?_)|refine ps (k:=?_)|refine Nx.h ?_|refine qCf ?_|fail)
      have hm0:m=0:=by have:=of_decide_eq_false hc;omega
      exact cutB_exit m (by (repeat (first | exact agree_nil | (apply agree_cons;exact rfl)))) ⟨hm,hv,fun h=>absurd hm0 h,hs⟩
    · have hm0:0 < m:=by have:=of_decide_eq_true hc;omega
      have e1:IntKind.i64.wrap ((m:Int) - 1)=((m - 1:Nat):Int):=by
        have:(m:Int) - 1=((m - 1:Nat):Int):=by omega
        rw [this]
        exact i64_small (by omega) (by omega)
      obtain ⟨b',off,cs,fz,rfl,h1,h2,h3⟩:=h (by intro e;subst e;simp at hm;omega)
      refine vs (k:=?_)
      refine vs (k:=?_)
      refine vs (k:=?_)
      refine vs (k:=?_)
      refine vs (k:=?_)
      refine vs (k:=?_)
      rw [e1]
      refine ix (h0:=(by omega)) (h1:=(by omega)) (k:=?_)
      refine lh (cs:=cs) (off:=off+((m - 1:Nat):Int).toNat*1) ((hs.only0 rfl).block h2 (by simp)) (v := .int .i64 (dig ds (m - 1))) (by simpa using h3 (m - 1) _ (dig_get (by omega))) (k:=?_)
      refine vs (k:=?_)
      refine vs (k:=?_)
      repeat' (first|refine vs (k:=?_)|refine qRg ?_|refine Nx.h ?_|(refine xc_if rfl (fun hc=>?_) (fun hc=>?_))|fail)
      · rw [e1]
        refine sl (l:=0) (h:=m - 1) (hlo:=rfl) (hhi:=⟨_,rfl⟩) (h1:=by omega) (h2:=by omega) (h3:=by omega) (k:=?_)
        repeat' (first|refine vs (k:=?_)|(refine st hs (k:=?_);intro w hs)|refine Nx.h ?_|fail)
        have hd0:dig ds (m - 1)=0:=by simpa using hc
        have hx:valD (ds.take (m - 1))=valD ds:=by rw [← take_dig hd0,show m - 1+1=m by omega];exact hv
        exact loopS_next (m - 1) (by omega) (by (repeat (first | exact agree_nil | (apply agree_cons;exact rfl)))) ⟨by omega,hx,hs⟩
      · have hd0:dig ds (m - 1)≠0:=by simpa using hc
        exact cutB_exit m (by (repeat (first | exact agree_nil | (apply agree_cons;exact rfl)))) ⟨hm,hv,fun _=>hd0,hs⟩
  · rintro m env w ⟨hm,hv,hd,hs⟩
    have ht:Trim (ds.take m):=fun d hl=>by
      rw [List.getLast?_eq_getElem?,List.length_take,Nat.min_eq_left hm] at hl
      rcases Nat.eq_zero_or_pos m with h0 | h0
      · subst h0;simp at hl
      · rw [List.getElem?_take,if_pos (by omega),dig_get (by omega)] at hl
        cases hl
        exact hd (by omega)
    have hok':DOk (ds.take m):=fun d hm=>hok d (List.mem_of_mem_take hm)
    repeat' (first|refine vs (k:=?_)|(refine stA hs (k:=?_);intro w hs)|refine qRg ?_|refine Nx.h ?_|(refine xc_if rfl (fun hc=>?_) (fun hc=>?_))|fail)
    · first | refine rt (hq:=?_) | refine rt' (hq:=?_)
      have hm0 : m = 0 := by have : ((m : Nat) : Int) = 0 := by simpa using hc
                             omega
      subst hm0
      refine ⟨⟨false,.slice none 0 0,[],rfl,⟨none,0,rfl,fun h=>absurd rfl h⟩,DOk.nil,(fun d h=>by cases h),fun _=>rfl,?_⟩,hs.only0 rfl⟩
      rw [← hv];cases neg <;> simp [sg,valD]
    · first | refine rt (hq:=?_) | refine rt' (hq:=?_)
      have hm0 : m ≠ 0 := by have : ¬ ((m : Nat) : Int) = 0 := by simpa using hc
                             omega
      have hl:(ds.take m).length=m:=by simp [Nat.min_eq_left hm]
      obtain ⟨b',off,cs,fz,rfl,h1,h2,h3⟩:=h (by intro e;subst e;simp at hm;omega)
      refine ⟨⟨neg,.slice (some ⟨b',off,none⟩) m cap,ds.take m,rfl,⟨some ⟨b',off,none⟩,cap,by rw [hl],fun _=>⟨b',off,cs,fz,rfl,by omega,(hs.only0 rfl).block h2 (by simp),fun i d hi=>?_⟩⟩,hok',ht,fun e=>?_,by rw [hv]⟩,hs.only0 rfl⟩
      · rw [List.getElem?_take] at hi
        split at hi
        · exact h3 i d hi
        · cases hi
      · rw [e] at hl;simp at hl;omega
end Go.Proofs.YtkbcfknnieggbaaGreatDoorX

namespace Go.Proofs.YtkbcfknnieggbaaGreatDoorX
open Go Go.RowKit
attribute [local irreducible] XS XC XA thenE blockE retE loopE loopS cutB cutN doneE SE
def ints (xs:List Int):List Value:=xs.map (Value.int .i64)
theorem ints_snoc (xs:List Int) (d:Int):ints xs ++ [.int .i64 d]=ints (xs ++ [d]):=by simp [ints]
theorem own_dat {wb:World} {v:Value} {n:Nat} {xs:List Int} {H:List Ent} {w:World} {D:Ctx} (h:OwnS wb D H 3 1 v n (ints xs) w) (hn:n=xs.length):DAt w v xs:=by
  subst hn
  rcases h with ⟨rfl,h0,hx,hs⟩ | ⟨g,cap,cur,rfl,hc,hl,hxl,ht,hs⟩
  · have:xs=[]:=by simpa using h0
    subst this
    exact ⟨none,0,rfl,fun h=>absurd rfl h⟩
  · refine ⟨_,cap,rfl,fun _=>⟨g,0,cur,(0,0),rfl,hc,hs.get At.head,fun i d hi=>?_⟩⟩
    have h1:(ints xs)[i]?=some (.int .i64 d):=by simp [ints,hi]
    rw [← ht,List.getElem?_take] at h1
    split at h1
    · simpa using h1
    · cases h1
theorem OwnS.st {wb:World} {v:Value} {n k e:Nat} {xs:List Value} {H:List Ent} {w:World} {D:Ctx} (h:OwnS wb D H e k v n xs w):St wb D H w:=by
  rcases h with ⟨_,_,_,hs⟩ | ⟨g,cap,cur,_,_,_,_,_,hs⟩
  · exact hs
  · exact hs.forgetNew
structure Plus (A B xs:List Int) (i:Nat) (c:Int):Prop where
  len:xs.length=i
  ok:DOk xs
  c0:0≤c
  c1:c≤1
  le:i≤max A.length B.length+1
  last:max A.length B.length < i→c=0
  sum:valD xs+10000 ^ i*c=valD (A.take i)+valD (B.take i)
theorem plus_next {A B xs:List Int} {i:Nat} {c:Int} (hA:DOk A) (hB:DOk B) (h:Plus A B xs i c) (hgo:i < A.length∨i < B.length∨0 < c) :
    Plus A B (xs ++ [(dig A i+dig B i+c) % 10000]) (i+1) ((dig A i+dig B i+c) / 10000):=by
  obtain ⟨h1,h2,h3,h4,h5,h6,h7⟩:=h
  have a1:=dig_rng hA i
  have b1:=dig_rng hB i
  refine ⟨by simp [h1],h2.snoc (by omega) (by omega),by omega,by omega,by omega,fun hl=>?_,?_⟩
  · have:max A.length B.length≤i:=by omega
    rw [dig_ge (show A.length≤i by omega),dig_ge (show B.length≤i by omega)]
    omega
  · rw [valD_snoc,h1,valD_take,valD_take,Int.pow_succ]
    have e:=Int.mul_ediv_add_emod (dig A i+dig B i+c) 10000
    generalize (dig A i+dig B i+c) / 10000=q at *
    generalize (dig A i+dig B i+c) % 10000=r at *
    have:(10000:Int) ^ i*r+10000 ^ i*10000*q=10000 ^ i*(dig A i+dig B i+c):=by rw [← e];grind
    have e3:(10000:Int) ^ i*(dig A i+dig B i+c)=10000 ^ i*dig A i+10000 ^ i*dig B i+10000 ^ i*c:=by grind
    omega
theorem plus_end {A B xs:List Int} {i:Nat} {c:Int} (h:Plus A B xs i c) (h1:A.length≤i) (h2:B.length≤i) (h3:¬ 0 < c):valD xs=valD A+valD B:=by
  have hs:=h.sum
  have hc:c=0:=by have:=h.c0;omega
  rw [hc,List.take_of_length_le h1,List.take_of_length_le h2] at hs
  simpa using hs
set_option maxHeartbeats 1000000 in
theorem plus_ret (na nb:Bool) (sa sb:Value) (A B:List Int) (w0:World) (hDA:DAt w0 sa A) (hDB:DAt w0 sb B) (hA:DOk A) (hB:DOk B) (lA:A.length≤1000) (lB:B.length≤1000) :
    Ret Tryz.prog 65 #[.agg #[.bool na,sa],.agg #[.bool nb,sb]] w0 fun v w'=>(∃ ds,DAt w' v ds∧DOk ds∧ds.length≤1001∧valD ds=valD A+valD B)∧Only [] w0 w':=by
  obtain ⟨ada,ca,rfl,hDA'⟩:=id hDA
  obtain ⟨adb,cb,rfl,hDB'⟩:=id hDB
  have hs:=St.nil w0
  refine ret_of_xc Tryz.func65 (by kernel_rfl) rfl Tryz.ntmps65 rfl rfl rfl ?_
  refine xc_seq ?_
  refine xc_region ?_ ?_;exact rfl
  refine bx hs (k:=?_);intro b2 w hz hs
  refine bx hs (k:=?_);intro b3 w hz hs
  repeat' (first|refine vs (k:=?_)|refine qRg ?_|refine Nx.h ?_|fail)
  refine xc_cutB (fun (s:Value)=>[(5,s)]) (fun v w=>∃ xs c i,Plus A B xs i c∧A.length≤i∧B.length≤i∧¬ 0 < c∧OwnS w0 D0 [(b3,.cells #[.bool nb,.slice adb B.length cb] 82,true),(b2,.cells #[.bool na,.slice ada A.length ca] 82,true)] 3 1 v i (ints xs) w) ?_ ?_
  · refine xc_loopS (fun (s:Nat × Int × Value × List Int)=>[(2,.pointer (some ⟨b2,0,none⟩)),(3,.pointer (some ⟨b3,0,none⟩)),(5,s.2.2.1),(6,.int .i64 s.2.1),(7,.int .i64 (s.1:Nat))])
      (fun s w=>Plus A B s.2.2.2 s.1 s.2.1∧OwnS w0 D0 [(b3,.cells #[.bool nb,.slice adb B.length cb] 82,true),(b2,.cells #[.bool na,.slice ada A.length ca] 82,true)] 3 1 s.2.2.1 s.1 (ints s.2.2.2) w)
      (fun s=>max A.length B.length+2 - s.1) (0,0,.slice none 0 0,[]) (by (repeat (first | exact agree_nil | (apply agree_cons;exact rfl)))) ⟨⟨rfl,DOk.nil,by decide,by decide,by omega,by omega,by simp [valD]⟩,.inl ⟨rfl,rfl,rfl,hs⟩⟩ fun s env w hI=>?_
    obtain ⟨hp,hO⟩:=hI
    clear hs
    generalize hi:s.1=i at *
    generalize hcc:s.2.1=c at *
    generalize hvv:s.2.2.1=v at *
    generalize hxs:s.2.2.2=xs at *
    have hs:=hO.st
    refine xc_seq ?_
    refine xc_seq ?_
    refine xc_cutN (fun (_:Unit)=>[(2,.pointer (some ⟨b2,0,none⟩)),(3,.pointer (some ⟨b3,0,none⟩)),(5,v),(6,.int .i64 c),(7,.int .i64 (i:Nat)),(24,.bool (decide (i < A.length∨i < B.length∨0 < c)))]) (fun _ w'=>w'=w) ?_ ?_
    · refine xc_region ?_ ?_;exact rfl
      refine vs (k:=?_)
      refine vs (k:=?_)
      refine vs (k:=?_)
      refine vs (k:=?_)
      refine vs (k:=?_)
      refine vs (k:=?_)
      refine xs_late 14 rfl ?_;intro c h14;cases c
      · refine vs (k:=?_)
        refine vs (k:=?_)
        refine vs (k:=?_)
        refine vs (k:=?_)
        refine vs (k:=?_)
        refine vs (k:=?_)
        refine vs (k:=?_)
        refine xs_late 21 rfl ?_;intro c h21;cases c
        · repeat' (first|refine vs (k:=?_)|refine Nx.h ?_|fail)
          have e24:decide (0 < c)=decide (i < A.length∨i < B.length∨0 < c):=by
            have h1:=of_decide_eq_false h14
            have h2:=of_decide_eq_false h21
            apply decide_eq_decide.2
            omega
          exact cutN_normal () (by (repeat (first | exact agree_nil | (apply agree_cons;first | exact rfl | exact congrArg Value.bool e24)))) rfl
        · repeat' (first|refine vs (k:=?_)|refine ps (k:=?_)|refine Nx.h ?_|fail)
          have e24:true=decide (i < A.length∨i < B.length∨0 < c):=by
            have h2:=of_decide_eq_true h21
            exact (decide_eq_true (by omega)).symm
          exact cutN_normal () (by (repeat (first | exact agree_nil | (apply agree_cons;first | exact rfl | exact congrArg Value.bool e24)))) rfl
      · repeat' (first|refine vs (k:=?_)|refine ps (k:=?_)|refine Nx.h ?_|fail)
        have e24:true=decide (i < A.length∨i < B.length∨0 < c):=by
          have h2:=of_decide_eq_true h14
          exact (decide_eq_true (by omega)).symm
        exact cutN_normal () (by (repeat (first | exact agree_nil | (apply agree_cons;first | exact rfl | exact congrArg Value.bool e24)))) rfl
    rintro _ env _ rfl
    repeat' (first|refine Nx.h ?_|(refine xc_if rfl (fun hc=>?_) (fun hc=>?_))|fail)
    · have hA1:=dig_rng hA i
      have hB1:=dig_rng hB i
      have hc0:=hp.c0
      have hc1:=hp.c1
      have hle:=hp.le
      have eS:IntKind.i64.wrap (IntKind.i64.wrap (dig A i+dig B i)+c)=dig A i+dig B i+c:=by
        have e1:IntKind.i64.wrap (dig A i+dig B i)=dig A i+dig B i:=i64_small (by omega) (by omega)
        rw [e1]
        exact i64_small (by omega) (by omega)
      have ei:IntKind.i64.wrap ((i:Int)+1)=((i+1:Nat):Int):=by
        have e1:(i:Int)+1=((i+1:Nat):Int):=by omega
        rw [e1]
        exact i64_small (by omega) (by omega)
      clear hs
      rcases hO with ⟨rfl,hn,hx,hs⟩ | ⟨g,cap,cur,rfl,hcap,hcl,hxl,htk,hs⟩
      all_goals (
        refine dr [] hs (k:=?_);intro hX w hs
        refine tk 0 hX (k:=?_)
        refine tk 1 hX (k:=?_)
        refine tk 3 hX (k:=?_)
        refine tk 4 hX (k:=?_)
        refine tk 7 hX (k:=?_)
        refine dt 2 hX (k:=?_)
        (with_reducible apply xs_call);exact rfl;exact rfl;exact digit_ret na _ A _ (hDA.only (hs.only0 rfl)) i
        rintro v w' ⟨rfl,ho⟩;replace hs:=hs.call0 ho;repeat' (first|refine Nx.h ?_|fail)
        refine dn (k:=?_)
        refine dt 5 hX (k:=?_)
        (with_reducible apply xs_call);exact rfl;exact rfl;exact digit_ret nb _ B _ (hDB.only (hs.only0 rfl)) i
        rintro v w' ⟨rfl,ho⟩;replace hs:=hs.call0 ho;repeat' (first|refine Nx.h ?_|fail)
        refine dn (k:=?_)
        refine tk 6 hX (k:=?_)
        refine tk 8 hX (k:=?_)
        rw [eS]
        refine tk 9 hX (k:=?_)
        refine en (k:=?_)
        repeat' (first|refine vs (k:=?_)|(refine bs hs (k:=?_);intro b w hz hs)|refine qRg ?_|refine Nx.h ?_|fail)
        refine apd (k:=i) (xs:=ints xs) (news:=[.int .i64 ((dig A i+dig B i+c) % 10000)]) (by first | exact .inl ⟨rfl,hn,hx,hs⟩ | exact .inr ⟨_,_,_,rfl,hcap,hcl,hxl,htk,hs.swap⟩) (hk:=by omega) (hk':=by simp only [maxLen];omega) (kk:=?_)
        intro v' w hO' hv'
        rw [ints_snoc] at hO'
        clear hs
        have hs:=hO'.st
        repeat' (first|refine vs (k:=?_)|refine qRg ?_|refine Nx.h ?_|fail)
        exact loopS_next (i+1,(dig A i+dig B i+c) / 10000,v',xs ++ [(dig A i+dig B i+c) % 10000]) (by simp only [hi];omega) (by (repeat (first | exact agree_nil | (apply agree_cons;first | exact rfl | exact congrArg (Value.int .i64) ei)))) ⟨plus_next hA hB hp hc,hO'⟩)
    · exact cutB_exit v (by (repeat (first | exact agree_nil | (apply agree_cons;exact rfl)))) ⟨xs,c,i,hp,by omega,by omega,by omega,hO⟩
  · rintro v env w ⟨xs,c,i,hp,h1,h2,h3,hO⟩
    have hs:=hO.st
    repeat' (first|refine vs (k:=?_)|refine qRg ?_|refine Nx.h ?_|fail)
    first | refine rt (hq:=?_) | refine rt' (hq:=?_)
    exact ⟨⟨xs,own_dat hO hp.len.symm,hp.ok,by have:=hp.le;have:=hp.len;omega,plus_end hp h1 h2 h3⟩,hs.only0 rfl⟩
end Go.Proofs.YtkbcfknnieggbaaGreatDoorX

namespace Go.Proofs.YtkbcfknnieggbaaGreatDoorX
open Go Go.RowKit
abbrev nodeO (x:Int) (av:Value) (pl pr:Option Addr) (c:Bool):Obj := .cells #[.int .i64 x,av,.pointer pl,.pointer pr,.bool c] 349 (0,0)
abbrev treeO (p:Option Addr) (n:Int):Obj := .cells #[.pointer p,.int .i64 n,.func (.func 302) #[] #[],.func (.func 303) #[] #[],.func (.func 304) #[] #[]] 347 (0,0)
def TreeAt (w:World):RB Int→Option Addr→List Nat→Prop
  | .nil,p,fp=>p=none∧fp=[]
  | .node l x r c,p,fp=>∃ b av pl pr fl fr,p=some ⟨b,0,none⟩∧fp=b :: (fl ++ fr)∧w.heap[b]?=some (nodeO x av pl pr c)∧DAt w av (l.list ++ x :: r.list)∧TreeAt w l pl fl∧TreeAt w r pr fr
def StaleAt (w:World) (l:RB Int) (x:Int) (r:RB Int) (c:Bool) (p:Option Addr) (fp:List Nat):Prop :=
  ∃ b av pl pr fl fr,p=some ⟨b,0,none⟩∧fp=b :: (fl ++ fr)∧w.heap[b]?=some (nodeO x av pl pr c)∧TreeAt w l pl fl∧TreeAt w r pr fr
theorem TreeAt.stale {w:World} {l:RB Int} {x:Int} {r:RB Int} {c:Bool} {p:Option Addr} {fp:List Nat} (h:TreeAt w (.node l x r c) p fp):StaleAt w l x r c p fp:=by
  obtain ⟨b,av,pl,pr,fl,fr,h1,h2,h3,h4,h5,h6⟩:=h
  exact ⟨b,av,pl,pr,fl,fr,h1,h2,h3,h5,h6⟩
def Nodes (w:World) (F:List Nat):Prop:=∀ b∈F,∃ cs fz,w.heap[b]?=some (.cells cs 349 fz)
theorem Nodes.nil (w:World):Nodes w []:=fun b h=>by cases h
theorem Nodes.append {w:World} {F G:List Nat} (h:Nodes w F) (k:Nodes w G):Nodes w (F ++ G):=fun b hb=>by
  rcases List.mem_append.1 hb with hb | hb
  · exact h b hb
  · exact k b hb
theorem Nodes.cons {w:World} {F:List Nat} {b:Nat} {cs:Array Value} {fz:Nat × Nat} (h:w.heap[b]?=some (.cells cs 349 fz)) (k:Nodes w F):Nodes w (b :: F):=fun b' hb=>by
  rcases List.mem_cons.1 hb with rfl | hb
  · exact ⟨_,_,h⟩
  · exact k b' hb
theorem TreeAt.nodes {w:World}:∀ {t:RB Int} {p:Option Addr} {fp:List Nat},TreeAt w t p fp→Nodes w fp
  | .nil,p,fp,⟨_,h⟩=>by subst h;exact Nodes.nil w
  | .node l x r c,p,fp,⟨b,av,pl,pr,fl,fr,h1,h2,h3,h4,h5,h6⟩=>by
    subst h2
    exact .cons h3 (h5.nodes.append h6.nodes)
theorem StaleAt.nodes {w:World} {l:RB Int} {x:Int} {r:RB Int} {c:Bool} {p:Option Addr} {fp:List Nat} (h:StaleAt w l x r c p fp):Nodes w fp:=by
  obtain ⟨b,av,pl,pr,fl,fr,h1,h2,h3,h5,h6⟩:=h
  subst h2
  exact .cons h3 (h5.nodes.append h6.nodes)
theorem DAt.keep {w w':World} {v:Value} {xs:List Int} {F:List Nat} (h:DAt w v xs) (ho:Only F w w') (hF:Nodes w F):DAt w' v xs:=by
  obtain ⟨ad,cap,rfl,h⟩:=h
  refine ⟨ad,cap,rfl,fun hn=>?_⟩
  obtain ⟨b,off,cs,fz,h1,h2,h3,h4⟩:=h hn
  refine ⟨b,off,cs,fz,h1,h2,ho.block h3 fun hb=>?_,h4⟩
  obtain ⟨cs',fz',h5⟩:=hF b hb
  rw [h3] at h5
  cases h5
theorem TreeAt.keep {w w':World} {F:List Nat} (ho:Only F w w') (hF:Nodes w F):∀ {t:RB Int} {p:Option Addr} {fp:List Nat},TreeAt w t p fp→(∀ b∈fp,b∉F)→TreeAt w' t p fp
  | .nil,p,fp,h,_=>h
  | .node l x r c,p,fp,⟨b,av,pl,pr,fl,fr,h1,h2,h3,h4,h5,h6⟩,hd=>by
    subst h2
    exact ⟨b,av,pl,pr,fl,fr,h1,rfl,ho.block h3 (hd b List.mem_cons_self),h4.keep ho hF,TreeAt.keep ho hF h5 fun k hk=>hd k (List.mem_cons_of_mem _ (List.mem_append_left _ hk)),
      TreeAt.keep ho hF h6 fun k hk=>hd k (List.mem_cons_of_mem _ (List.mem_append_right _ hk))⟩
theorem head_keep {w w':World} {F:List Nat} {tb:Nat} {p:Option Addr} {n:Int} (h:w.heap[tb]?=some (treeO p n)) (ho:Only F w w') (hF:Nodes w F):w'.heap[tb]?=some (treeO p n) :=
  ho.block h fun hb=>by
    obtain ⟨cs',fz',h5⟩:=hF tb hb
    rw [h] at h5
    cases h5
end Go.Proofs.YtkbcfknnieggbaaGreatDoorX

namespace Go.Proofs.YtkbcfknnieggbaaGreatDoorX
open Go Go.RowKit
attribute [local irreducible] XS XC XA thenE blockE retE loopE loopS cutB cutN doneE SE
theorem less_ret (a b:Int) (w0:World):Ret Tryz.prog 302 #[.int .i64 a,.int .i64 b] w0 fun v w'=>v = .bool (decide (a < b))∧Only [] w0 w':=by
  have hs:=St.nil w0
  refine ret_of_xc Tryz.func302 (by kernel_rfl) rfl Tryz.ntmps302 rfl rfl rfl ?_
  repeat' (first|refine vs (k:=?_)|refine qRg ?_|refine Nx.h ?_|fail)
  first | refine rt (hq:=?_) | refine rt' (hq:=?_)
  exact ⟨rfl,hs.only0 rfl⟩
theorem one_ret (a:Int) (w0:World):Ret Tryz.prog 303 #[.int .i64 a] w0 fun v w'=>DAt w' v [a]∧Only [] w0 w':=by
  have hs:=St.nil w0
  refine ret_of_xc Tryz.func303 (by kernel_rfl) rfl Tryz.ntmps303 rfl rfl rfl ?_
  repeat' (first|refine vs (k:=?_)|(refine bs hs (k:=?_);intro b w hz hs)|refine qRg ?_|refine Nx.h ?_|fail)
  first | refine rt (hq:=?_) | refine rt' (hq:=?_)
  refine ⟨⟨_,_,rfl,fun _=>⟨_,0,[.int .i64 a],(0,0),rfl,Nat.le_refl _,hs.get At.head,fun i d h=>?_⟩⟩,hs.only0 rfl⟩
  cases i with
  | zero=>simpa using h
  | succ i=>simp at h
theorem ints_one (xs:List Int):(xs.map (Value.int .i64)).all Value.oneCell'=true:=by simp [Value.oneCell']
theorem DAt.cells {w:World} {ad:Option Addr} {cap n:Nat} {xs:List Int} (h:DAt w (.slice ad n cap) xs) (hn:xs≠[]):∃ b off,ad=some ⟨b,off,none⟩∧n=xs.length∧n≤cap∧∀ (j:Nat) u,(ints xs)[j]?=some u→w.cell? ((⟨b,off,none⟩:Addr).add j)=some u:=by
  obtain ⟨ad',cap',e,h⟩:=h
  cases e
  obtain ⟨b,off,cs,fz,rfl,h2,h3,h4⟩:=h hn
  refine ⟨b,off,rfl,rfl,h2,fun j u hj=>?_⟩
  rw [add_addr]
  unfold ints at hj
  rw [List.getElem?_map] at hj
  obtain ⟨d,hd,rfl⟩:=Option.map_eq_some_iff.1 hj
  simp [World.cell?,h3,h4 j d hd]
theorem both_ret (va vb:Value) (A B:List Int) (hA0:A≠[]) (hB0:B≠[]) (hlen:A.length+B.length≤1000000) (w0:World) (hA:DAt w0 va A) (hB:DAt w0 vb B) :
    Ret Tryz.prog 304 #[va,vb] w0 fun v w'=>DAt w' v (A ++ B)∧Only [] w0 w':=by
  obtain ⟨aa,ca,rfl,_⟩:=id hA
  obtain ⟨ab,cb,rfl,_⟩:=id hB
  have hs:=St.nil w0
  refine ret_of_xc Tryz.func304 (by kernel_rfl) rfl Tryz.ntmps304 rfl rfl rfl ?_
  refine xc_seq ?_
  refine xc_region ?_ ?_;exact rfl
  refine vs (k:=?_)
  refine XS.nil ?_
  refine then_of ?_
  refine xc_seq ?_
  refine xc_region ?_ ?_;exact rfl
  refine xs_buildSlice0 tabOk rfl rfl hs ?_
  intro v1 w1 hO hv1
  refine vs (k:=?_)
  have ho1:=hO.st.only0 rfl
  obtain ⟨b,off,rfl,_,_,hc⟩:=(hA.only ho1).cells hA0
  refine xs_appendS tabOk rfl rfl rfl rfl rfl rfl (by simp [ints]) (List.length_pos_iff.2 hA0) hc (List.all_eq_true.1 (ints_one A)) hO (by omega) (by omega) ?_
  intro v2 w2 hO hv2
  refine vs (k:=?_)
  have ho2:=hO.st.only0 rfl
  obtain ⟨b',off',rfl,_,_,hc'⟩:=(hB.only ho2).cells hB0
  refine xs_appendS tabOk rfl rfl rfl rfl rfl rfl (by simp [ints]) (List.length_pos_iff.2 hB0) hc' (List.all_eq_true.1 (ints_one B)) hO (by omega) (by omega) ?_
  intro v3 w3 hO hv3
  have hs:=hO.st
  repeat' (first|refine vs (k:=?_)|refine Nx.h ?_|fail)
  first | refine rt (hq:=?_) | refine rt' (hq:=?_)
  refine ⟨?_,hs.only0 rfl⟩
  have e:ints A ++ ints B=ints (A ++ B):=by simp [ints]
  simp only [List.nil_append] at hO
  rw [e] at hO
  exact own_dat hO (by simp)
theorem isRed_ret (t:RB Int) (p:Option Addr) (fp:List Nat) (w0:World) (h:TreeAt w0 t p fp):Ret Tryz.prog 317 #[.pointer p] w0 fun v w'=>v = .bool t.red∧Only [] w0 w':=by
  have hs:=St.nil w0
  cases t with
  | nil =>
    obtain ⟨rfl,rfl⟩:=h
    refine ret_of_xc Tryz.func317 (by kernel_rfl) rfl Tryz.ntmps317 rfl rfl rfl ?_
    repeat' (first|refine vs (k:=?_)|refine ps (k:=?_)|refine qRg ?_|refine Nx.h ?_|fail)
    first | refine rt (hq:=?_) | refine rt' (hq:=?_)
    exact ⟨rfl,hs.only0 rfl⟩
  | node l x r c =>
    obtain ⟨b,av,pl,pr,fl,fr,rfl,h2,h3,h4,h5,h6⟩:=h
    replace hs:=hs.track h3 (by simp)
    refine ret_of_xc Tryz.func317 (by kernel_rfl) rfl Tryz.ntmps317 rfl rfl rfl ?_
    repeat' (first|refine vs (k:=?_)|refine qRg ?_|refine Nx.h ?_|fail)
    first | refine rt (hq:=?_) | refine rt' (hq:=?_)
    exact ⟨rfl,hs.onlyF [] (by simp [h3]) (by simp [D0])⟩
end Go.Proofs.YtkbcfknnieggbaaGreatDoorX
