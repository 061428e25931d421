/- A part of the proof: what its functions compute. -/
import Derived.Test.YtalffooghioekaaGreatDoorBaseN7
import Derived.Shelf.SlMaps.Clone
import Derived.Ground.SlmcProg
import Derived.Laws.OwnMore
set_option linter.unusedVariables false
set_option linter.unusedSimpArgs false
set_option maxRecDepth 100000
namespace Go.Proofs.YtalffooghioekaaGreatDoorX
open Go Go.RowKit
open IB (IT ITsAt flatT)
attribute [local irreducible] XS XC XA thenE blockE retE loopE loopS cutB cutN doneE SE
abbrev RsAt (w:World) (v:Value) (l:List RT):Prop:=LsAt w 66 10 v (l.map fun a=>a.1.cells)
theorem rs_of {w:World} {v:Value} {l:List RT} {G:List Nat} (h:SlV w 66 10 v l.length (flatR l) G):RsAt w v l :=
  h.ls rfl (by simp) (fun x hx=>by obtain ⟨a,_,rfl⟩:=List.mem_map.1 hx;rfl)
def runN (l:List RT):Nat:=(l.filter fun a=>!a.1.asleep).length
theorem runN_app (a b:List RT):runN (a ++ b)=runN a+runN b:=by simp [runN,List.filter_append]
theorem runN_le (l:List RT):runN l≤l.length:=List.length_filter_le _ _
set_option maxHeartbeats 2000000 in
theorem runnable_ret (sb:Nat) (s:Ss) (F:List Nat) (w0:World) (h:SAt w0 sb s F) (hn:s.l.length≤1000000) :
    Ret Tryz.prog 268 #[.pointer (some ⟨sb,0,none⟩)] w0 fun v w'=>v = .int .i64 (runN s.l:Nat)∧Only [] w0 w':=by
  have hs:=St.nil w0
  refine ret_of_xc Tryz.func268 (by kernel_rfl) rfl Tryz.ntmps268 rfl rfl rfl ?_
  repeat' (first|refine vs (k:=?_)|refine qRg ?_|refine Nx.h ?_|fail)
  have ho:=hs.only0 rfl
  (with_reducible apply xs_call);exact rfl;exact rfl;exact reqs_ret sb s F _ (h.only ho) hn
  rintro v2 w2 ⟨⟨G,hG,_⟩,ho2⟩
  obtain ⟨ad,cap,rfl,hD⟩:=rs_of hG
  rw [List.length_map]
  rw [List.length_map] at hD
  have hoA:=ho.trans ho2
  clear hs
  have hs:=St.nil w2
  repeat' (first|refine vs (k:=?_)|refine Nx.h ?_|fail)
  refine xc_cutB (fun (_:Unit)=>[(3,.int .i64 (runN s.l:Nat))]) (fun _ w=>Only [] w2 w) ?_ ?_
  · refine xc_loopS (fun (x:Nat)=>[(3,.int .i64 (runN (s.l.take x):Nat)),(7,.slice ad s.l.length cap),(8,.int .i64 (s.l.length:Nat)),(9,.int .i64 (x:Nat))])
      (fun x w=>x≤s.l.length∧Only [] w2 w) (fun x=>s.l.length - x) 0 (by (repeat (first | exact agree_nil | (apply agree_cons;exact rfl)))) ⟨Nat.zero_le _,hs.only0 rfl⟩ fun i env wl ⟨hi,ho0⟩=>?_
    clear hs
    have hs:=St.nil wl
    repeat' (first|refine vs (k:=?_)|refine qRg ?_|refine Nx.h ?_|(refine xc_if rfl (fun hc=>?_) (fun hc=>?_))|fail)
    · have hlt:i < s.l.length:=by omega
      obtain ⟨b,off,cs,fz,rfl,_,hb,hcs⟩:=hD (fun h=>by rw [List.map_eq_nil_iff.1 h] at hlt;cases hlt)
      have hpk:=hcs i (Rq.cells s.l[i].1) (by rw [List.getElem?_map,List.getElem?_eq_getElem hlt];rfl)
      have ei:=nx64 (m:=s.l.length) hlt (by omega)
      have et:runN (s.l.take (i+1))=runN (s.l.take i)+bif s.l[i].1.asleep then 0 else 1:=by rw [take_next hlt,runN_app];congr 1;unfold runN;rw [List.filter_cons,List.filter_nil];cases s.l[i].1.asleep <;> rfl
      have hle:=runN_le (s.l.take i)
      rw [List.length_take] at hle
      have ec:=nx64 (i:=runN (s.l.take i)) (m:=s.l.length+1) (by omega) (by omega)
      generalize s.l[i]=q at *
      refine ix (h0:=(by omega)) (h1:=(by omega)) (k:=?_)
      refine lhK (ho0.block hb (by simp)) hpk (k:=?_)
      refine al hs (k:=?_);intro b8 w8 hz hs
      repeat' (first|refine vs (k:=?_)|(refine stA hs (k:=?_);intro w hs)|refine qRg ?_|refine Nx.h ?_|(refine xc_cond rfl (fun hc=>?_) (fun hc=>?_))|fail)
      · have eq:q.1.asleep=false:=by simpa using ‹(!q.1.asleep)=true›
        rw [eq] at et
        refine loopS_next (i+1) (by show s.l.length - (i+1) < s.l.length - i;omega) ?_ ⟨by show i+1≤_;omega,ho0.trans (hs.only0 rfl)⟩
        rw [et]
        (repeat (first | exact agree_nil | (apply agree_cons;first | exact rfl | exact congrArg (Value.int .i64) ei | exact congrArg (Value.int .i64) ec)))
      · have eq:q.1.asleep=true:=by simpa using ‹(!q.1.asleep)=false›
        rw [eq] at et
        refine loopS_next (i+1) (by show s.l.length - (i+1) < s.l.length - i;omega) ?_ ⟨by show i+1≤_;omega,ho0.trans (hs.only0 rfl)⟩
        rw [et]
        (repeat (first | exact agree_nil | (apply agree_cons;first | exact rfl | exact congrArg (Value.int .i64) ei)))
    · have e:i=s.l.length:=by omega
      subst e
      rw [List.take_length]
      exact cutB_exit () (by (repeat (first | exact agree_nil | (apply agree_cons;exact rfl)))) ho0
  · rintro _ env w ho0
    clear hs
    have hs:=St.nil w
    repeat' (first|refine vs (k:=?_)|refine qRg ?_|refine Nx.h ?_|fail)
    first | refine rt (hq:=?_) | refine rt' (hq:=?_)
    exact ⟨rfl,(hoA.trans ho0).trans (hs.only0 rfl)⟩
end Go.Proofs.YtalffooghioekaaGreatDoorX

namespace Go.Proofs.YtalffooghioekaaGreatDoorX
open Go Go.RowKit
open IB (IT ITsAt flatT)
attribute [local irreducible] XS XC XA thenE blockE retE loopE loopS cutB cutN doneE SE
structure Gn where
  id:Int
  lag:Int
  r:Rq
abbrev Gn.cells (g:Gn):List Value := .int .i64 g.id :: .int .i64 (g.lag / 18446744073709551616) :: .int .u64 (g.lag % 18446744073709551616) :: g.r.cells
def gv (g:Gn):Value := .agg g.cells.toArray
def Gn.zero:Gn:=⟨0,0,.zero⟩
def goes (q:Qs) (a:RT):Bool:=a.1.asleep && decide (owedQ q (idR a)≥0)
def gnOf (q:Qs) (a:RT):Gn:=⟨idR a,lagQ q (idR a),a.1⟩
def nextS (s:Ss):Option Gn:=(s.l.find? (goes s.q)).map (gnOf s.q)
def gnV (o:Option Gn):Value := .tuple #[gv (o.getD .zero),.bool o.isSome]
theorem find_next {l:List RT} {p:RT→Bool} {i:Nat} (h:i < l.length) (hn:(l.take i).find? p=none) (hp:p l[i]=false):(l.take (i+1)).find? p=none:=by
  rw [take_next h,List.find?_append,hn,List.find?_singleton,hp];rfl
theorem find_here {l:List RT} {p:RT→Bool} {i:Nat} (h:i < l.length) (hn:(l.take i).find? p=none) (hp:p l[i]=true):l.find? p=some l[i]:=by
  conv=>lhs;rw [← List.take_append_drop i l]
  rw [List.find?_append,hn,List.drop_eq_getElem_cons h,List.find?_cons,hp];rfl
set_option maxHeartbeats 4000000 in
theorem next_ret (sb:Nat) (s:Ss) (F:List Nat) (w0:World) (h:SAt w0 sb s F) (hn:s.l.length≤1000000) :
    Ret Tryz.prog 251 #[.pointer (some ⟨sb,0,none⟩)] w0 fun v w'=>v=gnV (nextS s)∧Only [] w0 w':=by
  have hS:=h
  obtain ⟨qb,mb,Fq,rfl,h1,h2,h3,h4,h5⟩:=h
  have hs:=(St.nil w0).track h1 (by simp)
  refine ret_of_xc Tryz.func251 (by kernel_rfl) rfl Tryz.ntmps251 rfl rfl rfl ?_
  refine xc_seq ?_
  refine xc_region ?_ ?_;exact rfl
  refine al hs (k:=?_);intro b2 w hz hs
  have g2:=hs.new (b2,true) (by simp) rfl
  simp only at g2
  repeat' (first|refine vs (k:=?_)|refine qRg ?_|refine Nx.h ?_|fail)
  have ho:=hs.onlyF [] (by simp [h1]) (by simp [D0])
  (with_reducible apply xs_call);exact rfl;exact rfl;exact reqs_ret sb s _ _ (hS.only ho) hn
  rintro v2 w2 ⟨⟨G,hG,_⟩,ho2⟩;replace hs:=hs.call0 ho2
  have hD:=rs_of hG
  obtain ⟨ad,cap,rfl,hD⟩:=hD
  rw [List.length_map]
  rw [List.length_map] at hD
  have hk2:=hs.get At.head
  have hsb2:=hs.get (At.tail At.head)
  have n2s:b2≠sb:=by have:=lt_of_block h1;omega
  have hoA:Only [] w0 w2:=hs.onlyF [] (by simp [h1]) (by simp [D0])
  have hz2:=hoA.size
  clear hs
  have hs:=((St.nil w2).track hsb2 (by simp)).track hk2 (by simpa using n2s)
  repeat' (first|refine vs (k:=?_)|refine Nx.h ?_|fail)
  refine xc_cutB (fun (_:Unit)=>[(0,.pointer (some ⟨sb,0,none⟩)),(2,.pointer (some ⟨b2,0,none⟩))]) (fun _ w=>Only [] w2 w∧nextS s=none) ?_ ?_
  · refine xc_loopS (fun (x:Nat)=>[(0,.pointer (some ⟨sb,0,none⟩)),(2,.pointer (some ⟨b2,0,none⟩)),(11,.slice ad s.l.length cap),(12,.int .i64 (s.l.length:Nat)),(13,.int .i64 (x:Nat))])
      (fun x w=>x≤s.l.length∧Only [] w2 w∧(s.l.take x).find? (goes s.q)=none) (fun x=>s.l.length - x) 0 (by (repeat (first | exact agree_nil | (apply agree_cons;exact rfl)))) ⟨Nat.zero_le _,hs.onlyF [] (by simp [hsb2,hk2]) (by simp [D0]),rfl⟩ fun i env wl ⟨hi,ho0,hnone⟩=>?_
    clear hs
    have hbl:=ho0.block hk2 (by simp)
    have hsl:=ho0.block hsb2 (by simp)
    have hs:=((St.nil wl).track hsl (by simp)).track hbl (by simpa using n2s)
    have hSl:=hS.only (hoA.trans ho0)
    repeat' (first|refine vs (k:=?_)|refine qRg ?_|refine Nx.h ?_|(refine xc_if rfl (fun hc=>?_) (fun hc=>?_))|fail)
    · have hlt:i < s.l.length:=by omega
      obtain ⟨b,off,cs,fz,rfl,_,hb,hcs⟩:=hD (fun h=>by rw [List.map_eq_nil_iff.1 h] at hlt;cases hlt)
      have hpk:=hcs i (Rq.cells s.l[i].1) (by rw [List.getElem?_map,List.getElem?_eq_getElem hlt];rfl)
      have ei:=nx64 (m:=s.l.length) hlt (by omega)
      have eNo:=find_next hlt hnone
      have eHe:=find_here hlt hnone
      have hin:=s.l[i].2.1.2.1
      generalize s.l[i]=q at *
      refine ix (h0:=(by omega)) (h1:=(by omega)) (k:=?_)
      refine lhK (ho0.block hb (by simp)) hpk (k:=?_)
      refine al hs (k:=?_);intro b8 w8 hz hs
      repeat' (first|(refine stA hs (k:=?_);intro w hs)|refine Nx.h ?_|fail)
      refine dr [] hs (k:=?_);intro hX w hs
      refine tk 0 hX (k:=?_)
      refine tk 1 hX (k:=?_)
      refine tk 2 hX (k:=?_)
      refine tk 3 hX (k:=?_)
      refine tk 4 hX (k:=?_)
      refine tk 5 hX (k:=?_)
      refine tk 6 hX (k:=?_)
      refine dt 7 hX (k:=?_)
      have hoB:=(hoA.trans ho0).trans (hs.onlyF [] (by simp [hsl,hbl]) (by simp [D0]))
      (with_reducible apply xs_call);exact rfl;exact rfl;exact qowed_ret qb s.q Fq (idR q) _ (h3.only hoB) hin
      generalize hg:owedQ s.q (idR q)=ow
      generalize errN (s.q.f (idR q)).isSome=er
      rintro v w' ⟨rfl,ho⟩;replace hs:=hs.call0 ho;repeat' (first|refine Nx.h ?_|fail)
      refine dn (k:=?_)
      refine tk 8 hX (k:=?_)
      refine tk 9 hX (k:=?_)
      refine tk 10 hX (k:=?_)
      refine tk 11 hX (k:=?_)
      refine tk 12 hX (k:=?_)
      refine en (k:=?_)
      repeat' (first|refine vs (k:=?_)|refine ps (k:=?_)|refine qRg ?_|refine Nx.h ?_|refine qCf ?_|((with_reducible apply xs_guard);exact rfl;exact rfl;intro c hc;(fail_if_success have:true=c:=hc);(fail_if_success have:false=c:=hc);cases c)|(refine xc_if rfl (fun hc=>?_) (fun hc=>?_))|fail)
      · have ef:goes s.q q=false:=by unfold goes;rw [show q.1.asleep=false by assumption];rfl
        exact loopS_next (i+1) (by show s.l.length - (i+1) < s.l.length - i;omega) (by (repeat (first | exact agree_nil | (apply agree_cons;first | exact rfl | exact congrArg (Value.int .i64) ei)))) ⟨by show i+1≤_;omega,ho0.trans (hs.onlyF [] (by simp [hsl,hbl]) (by simp [D0])),eNo ef⟩
      · have ef:goes s.q q=true:=by unfold goes;rw [show q.1.asleep=true by assumption,hg,decide_eq_true (show ow≥0 by assumption)];rfl
        have ev:nextS s=some (gnOf s.q q):=by unfold nextS;rw [eHe ef];rfl
        refine dr [] hs (k:=?_);intro hX w hs
        refine tk 0 hX (k:=?_)
        refine tk 1 hX (k:=?_)
        refine tk 2 hX (k:=?_)
        refine tk 3 hX (k:=?_)
        refine tk 4 hX (k:=?_)
        refine tk 5 hX (k:=?_)
        refine tk 6 hX (k:=?_)
        refine pd0 11 8 hs (k:=?_);intro f X w hp;have hs:=hp.st
        apply xa_pend 7 11 (f:=f) (X:=X) hX hp;exact rfl;exact rfl;(apply makes_alloc tabOk;exact rfl);kernel_rfl;kernel_rfl;kernel_rfl;kernel_rfl;(intro X Y;(repeat (first | exact pgg_base | refine pgg_step ?_ (by exact rfl))));(intro w' hs;first|exact se_hold hs.hold|exact se_hold hs.hold.tail|exact se_done rfl);intro f X w hp;have hs:=hp.st
        have hoC:=(hoA.trans ho0).trans (hs.onlyF [] (by simp [hsl,hbl]) (by simp [D0]))
        (with_reducible apply xs_call);exact rfl;exact rfl;exact qlag_ret qb s.q Fq (idR q) _ (h3.only hoC) hin
        rintro v w' ⟨rfl,ho⟩;replace hp:=hp.only ho;replace hs:=hp.st;repeat' (first|refine Nx.h ?_|fail)
        refine dn (k:=?_)
        refine tk 8 hX (hc:=by cases f <;> kernel_rfl) (k:=?_)
        refine tk 9 hX (hc:=by cases f <;> kernel_rfl) (k:=?_)
        refine tk 10 hX (hc:=by cases f <;> kernel_rfl) (k:=?_)
        apply xa_pendE 11 (f:=f) (X:=X) hX hp;exact rfl;(apply makes_alloc tabOk;exact rfl);kernel_rfl;kernel_rfl;(intro X Y;(repeat (first | exact pgg_base | refine pgg_step ?_ (by exact rfl))));(intro w' hs;first|exact se_hold hs.hold|exact se_hold hs.hold.tail|exact se_done rfl);intro b w hI hs
        refine dt 12 hX (k:=?_)
        repeat' (first|(refine stA hs (k:=?_);intro w hs)|refine Nx.h ?_|fail)
        refine dn (k:=?_)
        refine tk 13 hX (k:=?_)
        refine en (k:=?_)
        repeat' (first|refine vs (k:=?_)|(refine stA hs (k:=?_);intro w hs)|refine qRg ?_|refine Nx.h ?_|fail)
        first | refine rt (hq:=?_) | refine rt' (hq:=?_)
        rw [ev]
        exact ⟨rfl,(hoA.trans ho0).step (hs.onlyF [b2] (by simp [hsl]) (by simp [D0])) (fun k hk => .inr (by obtain rfl:=List.mem_singleton.1 hk;exact g2))⟩
      · have ef:goes s.q q=false:=by unfold goes;rw [hg,decide_eq_false (show ¬ ow≥0 by assumption),Bool.and_false]
        exact loopS_next (i+1) (by show s.l.length - (i+1) < s.l.length - i;omega) (by (repeat (first | exact agree_nil | (apply agree_cons;first | exact rfl | exact congrArg (Value.int .i64) ei)))) ⟨by show i+1≤_;omega,ho0.trans (hs.onlyF [] (by simp [hsl,hbl]) (by simp [D0])),eNo ef⟩
    · have e:i=s.l.length:=by omega
      subst e
      rw [List.take_length] at hnone
      exact cutB_exit () (by (repeat (first | exact agree_nil | (apply agree_cons;exact rfl)))) ⟨ho0,by unfold nextS;rw [hnone];rfl⟩
  · rintro _ env w ⟨ho0,hnone⟩
    clear hs
    have hbl:=ho0.block hk2 (by simp)
    have hs:=(St.nil w).track hbl (by simp)
    repeat' (first|refine vs (k:=?_)|(refine stA hs (k:=?_);intro w hs)|refine qRg ?_|refine Nx.h ?_|fail)
    first | refine rt (hq:=?_) | refine rt' (hq:=?_)
    rw [hnone]
    exact ⟨rfl,(hoA.trans ho0).step (hs.onlyF [b2] (by simp) (by simp [D0])) (fun k hk => .inr (by obtain rfl:=List.mem_singleton.1 hk;exact g2))⟩
end Go.Proofs.YtalffooghioekaaGreatDoorX

namespace Go.Proofs.YtalffooghioekaaGreatDoorX
open Go Go.RowKit
open IB (IT ITsAt flatT)
attribute [local irreducible] XS XC XA thenE blockE retE loopE loopS cutB cutN doneE SE
inductive Flushes:Ss→List Gn→Ss→Prop
  | done {s:Ss}:nextS s=none→Flushes s [] s
  | step {s s':Ss} {g:Gn} {l:List Gn} {a:IT}:nextS s=some g→s.q.f g.id=some a→CutOk a s.q.t→Flushes (exitS s g.id) l s'→Flushes s (g :: l) s'
def flatG (l:List Gn):List Value:=(l.map Gn.cells).flatten
theorem flatG_snoc (l:List Gn) (g:Gn):flatG (l ++ [g])=flatG l ++ g.cells:=by simp [flatG]
theorem next_id {s:Ss} {g:Gn} (h:nextS s=some g):In64 g.id:=by
  obtain ⟨a,_,rfl⟩:=Option.map_eq_some_iff.1 h
  exact a.2.1.2.1
theorem cutT_len {a:IT} {t:RB IT} (h:CutOk a t):(cutT a t).list.length≤t.list.length:=by
  unfold cutT
  cases e:RB.has IB.ltT a t
  · exact Nat.le_refl _
  · have:=(h e).2
    rw [cond_true,RB.list_blacken]
    omega
theorem exit_small {s:Ss} {id:Int} {a:IT} (hf:s.q.f id=some a) (hc:CutOk a s.q.t) (ho:OrdR s.l):(exitS s id).l.length≤s.l.length∧(exitS s id).q.t.list.length≤s.q.t.list.length:=by
  constructor
  · show (delR id s.l).length≤_
    rw [len_del ho]
    split <;> omega
  · show (leaveQ s.q id).t.list.length≤_
    unfold leaveQ
    rw [hf]
    exact cutT_len hc
theorem SAt.ord {w:World} {sb:Nat} {s:Ss} {F:List Nat} (h:SAt w sb s F):OrdR s.l:=by obtain ⟨qb,mb,Fq,rfl,h1,h2,h3,h4,h5⟩:=h;exact h5
theorem slv_set {w:World} {e k n:Nat} {v:Value} {xs:List Value} {G F:List Nat} {sb:Nat} {s:Ss} (h:SlV w e k v n xs G) (hS:SAt w sb s F) (ho:okS (.cells #[] e (0,0))=true):∀ b∈G,b∉F:=fun b hb=>by
  rcases h with ⟨_,_,_,rfl⟩ | ⟨g,cap,cur,_,rfl,_,_,_,_,hg⟩
  · cases hb
  · obtain rfl:=List.mem_singleton.1 hb
    exact hS.not hg ho
set_option maxHeartbeats 4000000 in
theorem flush_ret (sb:Nat) (s s':Ss) (l:List Gn) (F:List Nat) (w0:World) (h:SAt w0 sb s F) (hn:s.l.length≤1000000) (hq:s.q.t.list.length≤1000000) (hl:l.length≤1000000) (hF:Flushes s l s') :
    Ret Tryz.prog 235 #[.pointer (some ⟨sb,0,none⟩)] w0 fun v w'=>(∃ G,SlV w' 197 13 v l.length (flatG l) G∧∀ k∈G,w0.heap.size≤k)∧∃ F',SAt w' sb s' F'∧(∀ k∈F',k∈F∨w0.heap.size≤k)∧Only F w0 w':=by
  have hs:=St.nil w0
  refine ret_of_xc Tryz.func235 (by kernel_rfl) rfl Tryz.ntmps235 rfl rfl rfl ?_
  repeat' (first|refine vs (k:=?_)|refine qRg ?_|refine Nx.h ?_|fail)
  refine xc_cutB (fun (_:Unit)=>[]) (fun _ _=>False) ?_ ?_
  · refine xc_loopS (fun (x:List Gn × List Gn × Value × Ss × List Nat)=>[(0,.pointer (some ⟨sb,0,none⟩)),(3,x.2.2.1)])
      (fun x w=>x.2.1 ++ x.1=l∧Flushes x.2.2.2.1 x.1 s'∧x.2.2.2.1.l.length≤1000000∧x.2.2.2.1.q.t.list.length≤1000000∧(∃ G,SlV w 197 13 x.2.2.1 x.2.1.length (flatG x.2.1) G∧∀ k∈G,w0.heap.size≤k)∧SAt w sb x.2.2.2.1 x.2.2.2.2∧(∀ k∈x.2.2.2.2,k∈F∨w0.heap.size≤k)∧Only F w0 w)
      (fun x=>x.1.length) (l,[],.slice none 0 0,s,F) (by (repeat (first | exact agree_nil | (apply agree_cons;exact rfl)))) ⟨rfl,hF,hn,hq,⟨[],.inl ⟨rfl,rfl,rfl,rfl⟩,by simp⟩,h,fun k hk => .inl hk,(hs.only0 rfl).weaken (by simp)⟩ fun x env wl hI=>?_
    obtain ⟨r,acc,v3,s1,F1⟩:=x
    simp only at hI
    obtain ⟨hacc,hFl,hn1,hq1,⟨G,hG,hGn⟩,hS1,hF1,ho0⟩:=hI
    clear hs
    have hs:=St.nil wl
    have hsz:=ho0.size
    have hal:acc.length≤1000000:=by rw [← hacc,List.length_append] at hl;omega
    repeat' (first|refine vs (k:=?_)|refine qRg ?_|refine Nx.h ?_|fail)
    (with_reducible apply xs_call);exact rfl;exact rfl;exact next_ret sb s1 F1 _ hS1 hn1
    cases hFl with
    | done hnx =>
      rw [hnx]
      rintro v w' ⟨rfl,ho⟩;replace hs:=hs.call0 ho;repeat' (first|refine vs (k:=?_)|(refine stA hs (k:=?_);intro w hs)|(refine al hs (k:=?_);intro b w hz hs)|refine qRg ?_|refine Nx.h ?_|refine qCt ?_|fail)
      first | refine rt (hq:=?_) | refine rt' (hq:=?_)
      rw [List.append_nil] at hacc
      subst hacc
      exact ⟨⟨G,hG.keep (hs.only0 rfl) (by simp),hGn⟩,F1,hS1.only (hs.only0 rfl),hF1,ho0.step (hs.only0 rfl) (by simp)⟩
    | step hnx hf hc hFl' =>
      rename_i g r' a
      rw [hnx]
      have hid:=next_id hnx
      have hsm:=exit_small hf hc hS1.ord
      rintro v w' ⟨rfl,ho⟩;replace hs:=hs.call0 ho;repeat' (first|refine vs (k:=?_)|(refine stA hs (k:=?_);intro w hs)|(refine al hs (k:=?_);intro b w hz hs)|refine qRg ?_|refine Nx.h ?_|refine qCf ?_|fail)
      have hoN:=hs.only0 rfl
      have hSN:=hS1.only hoN
      have hapart:=hSN.apart hs rfl
      (with_reducible apply xs_call);exact rfl;exact rfl;exact exit_ret sb s1 F1 g.id _ hSN hid hq1 a hf hc
      rintro v wE ⟨rfl,F2,hS2,hF2,hoE⟩
      replace hs:=hs.call hoE hapart (by simp [D0])
      have k4:=hs.get At.head
      have hG1:=hG.keep hoN (by simp)
      have hG2:=hG1.keep hoE (slv_set hG1 hSN rfl)
      have hzN:=hoN.size
      have hzE:=hoE.size
      have hoA:Only F w0 wE:=(ho0.step hoN (by simp)).step hoE hF1
      have hF2':∀ k∈F2,k∈F∨w0.heap.size≤k:=fun k hk=>by
        rcases hF2 k hk with h | h
        · exact hF1 k h
        · exact .inr (by omega)
      clear hs
      have hs:=(St.nil wE).track k4 (by simp)
      refine XS.nil ?_
      refine then_of ?_
      repeat' (first|refine vs (k:=?_)|(refine bs hs (k:=?_);intro b w hz hs)|refine qRg ?_|fail)
      have hb20:=hs.get At.head
      have hoB:=hs.onlyF [] (by simp [k4]) (by simp [D0])
      have hzB:=hoB.size
      have hGB:=hG2.keep hoB (by simp)
      have hSB:=hS2.only hoB
      refine xs_appendW tabOk rfl rfl rfl rfl rfl rfl rfl (by decide) (lit_cells (news:=g.cells) hb20) (by simp [Value.oneCell']) hGB (by omega) (by omega) ?_
      intro v5 w5 ⟨G',hG',hGn'⟩ ho5
      have hS5:=hSB.keepD ho5 (fun k hk hm=>slv_set hGB hSB rfl k hm hk)
      clear hs
      have hs:=St.nil w5
      repeat' (first|refine vs (k:=?_)|refine Nx.h ?_|fail)
      refine loopS_next (r',acc ++ [g],v5,exitS s1 g.id,F2) (by show r'.length < (g :: r').length;simp) (by (repeat (first | exact agree_nil | (apply agree_cons;exact rfl)))) ⟨by show (acc ++ [g]) ++ r'=l;rw [List.append_assoc];exact hacc,hFl',by show (exitS s1 g.id).l.length≤_;omega,by show (exitS s1 g.id).q.t.list.length≤_;omega,⟨G',?_,?_⟩,hS5.only (hs.only0 rfl),hF2',((hoA.step hoB (by simp)).step ho5 (fun k hk => .inr (hGn k hk))).step (hs.only0 rfl) (by simp)⟩
      · simp only [List.length_append,List.length_cons,List.length_nil,flatG_snoc]
        exact hG'.keep (hs.only0 rfl) (by simp)
      · intro k hk
        rcases hGn' k hk with h | h
        · exact hGn k h
        · omega
  · rintro _ _ _ hI
    exact hI.elim
end Go.Proofs.YtalffooghioekaaGreatDoorX

namespace Go.Proofs.YtalffooghioekaaGreatDoorX
open Go Go.RowKit
open IB (IT ITsAt flatT)
attribute [local irreducible] XS XC XA thenE blockE retE loopE loopS cutB cutN doneE SE
def chBase (s:Qs) (a:IT):Int:=(anchA (plain (othT a.1.id s.t.list))).getD a.1.p.t
def chE (s:Qs) (a:IT):Int :=
  bif !a.1.right then 2 else bif !(s.f a.1.id).isSome then 14 else bif !within (chBase s a) (plain (othT a.1.id s.t.list ++ [a])) then 8 else 0
def swapQ (s:Qs) (o a:IT):Qs:={ putQ (cutQ s o) a with c:=s.c }
def chQ (s:Qs) (a:IT):Qs:=bif decide (chE s a=0) then (match s.f a.1.id with | some o=>swapQ s o a | none=>s) else s
theorem vals_getO (f:Int→Option IT) (i:Int):(vals f i).getD (iv .zero)=iv (IB.valO (f i)):=by unfold vals;cases f i <;> rfl
set_option maxHeartbeats 4000000 in
theorem qchange_ret (qb:Nat) (s:Qs) (F:List Nat) (a:IT) (w0:World) (h:QAt w0 qb s F) (hlen:s.t.list.length+1≤1000000) (hn:s.n < 1000000) (hd:∀ o,s.f a.1.id=some o→CutOk o s.t) :
    Ret Tryz.prog 182 #[.pointer (some ⟨qb,0,none⟩),iv a.1] w0 fun v w'=>v = .int .i64 (chE s a)∧∃ F',QAt w' qb (chQ s a) F'∧(∀ k∈F',k∈F∨w0.heap.size≤k)∧Only F w0 w':=by
  have hq:=h
  obtain ⟨tb,mb,Ft,rfl,h1,h2,h3,h4,h5⟩:=h
  have hs:=(St.nil w0).track h1 (by simp)
  have same:∀ w',Only [] w0 w'→∃ F',QAt w' qb s F'∧(∀ k∈F',k∈qb :: mb :: Ft∨w0.heap.size≤k)∧Only (qb :: mb :: Ft) w0 w':=fun w' ho=>⟨_,hq.only ho,fun k hk => .inl hk,ho.weaken (by simp)⟩
  refine ret_of_xc Tryz.func182 (by kernel_rfl) rfl Tryz.ntmps182 rfl rfl rfl ?_;refine xc_seq ?_;refine xc_region ?_ ?_;exact rfl;refine bx hs (k:=?_);intro bq wq hzq hs;repeat' (first|refine vs (k:=?_)|refine qRg ?_|refine Nx.h ?_|refine qCf ?_|fail)
  have hbq:=hs.new (bq,true) (by simp) rfl
  simp only at hbq
  refine dr [] hs (k:=?_);intro hX w hs
  refine tk 0 hX (k:=?_)
  refine tk 1 hX (k:=?_)
  refine tk 2 hX (k:=?_)
  refine tk 3 hX (k:=?_)
  refine tk 4 hX (k:=?_)
  refine tk 5 hX (k:=?_)
  refine pd0 10 5 hs (k:=?_);intro f X w hp;have hs:=hp.st
  apply xa_pend 6 10 (f:=f) (X:=X) hX hp;exact rfl;exact rfl;(apply makes_alloc tabOk;exact rfl);kernel_rfl;kernel_rfl;kernel_rfl;kernel_rfl;(intro X Y;(repeat (first | exact pgg_base | refine pgg_step ?_ (by exact rfl))));(intro w' hs;first|exact se_hold hs.hold|exact se_hold hs.hold.tail|exact se_done rfl);intro f X w hp;have hs:=hp.st
  have ho:=hs.onlyF [] (by simp [h1]) (by simp [D0])
  refine xs_look (e:=64) (z:=iv .zero) (h2.keep ho (by simp)) a.2.2.1 (by kernel_rfl) (by kernel_rfl) (k:=?_)
  rw [vals_getO,vals_isSome]
  generalize hx:IB.valO (s.f a.1.id)=x
  repeat' (first|refine Nx.h ?_|fail)
  refine dn (k:=?_)
  refine tk 7 hX (hc:=by cases f <;> kernel_rfl) (k:=?_)
  refine tk 8 hX (hc:=by cases f <;> kernel_rfl) (k:=?_)
  refine tk 9 hX (hc:=by cases f <;> kernel_rfl) (k:=?_)
  apply xa_pendE 10 (f:=f) (X:=X) hX hp;exact rfl;(apply makes_alloc tabOk;exact rfl);kernel_rfl;kernel_rfl;(intro X Y;(repeat (first | exact pgg_base | refine pgg_step ?_ (by exact rfl))));(intro w' hs;first|exact se_hold hs.hold|exact se_hold hs.hold.tail|exact se_done rfl);intro b w hI hs
  refine dt 11 hX (k:=?_)
  repeat' (first|(refine stA hs (k:=?_);intro w hs)|refine Nx.h ?_|fail)
  refine dn (k:=?_)
  refine tk 12 hX (k:=?_)
  refine en (k:=?_)
  repeat' (first|refine vs (k:=?_)|refine qRg ?_|refine Nx.h ?_|fail)
  have hb5:=hs.new _ List.mem_cons_self rfl
  simp only at hb5
  have ho:=hs.onlyF [] (by simp [h1]) (by simp [D0])
  have lb5:=lt_of_block (hs.get At.head)
  have lbq:=lt_of_block (hs.get (At.tail At.head))
  have lqb:=lt_of_block (hs.get (At.tail (At.tail At.head)))
  (with_reducible apply xs_call);exact rfl;exact rfl;exact qothers_ret qb s _ a.1.id _ (hq.only ho) (by omega)
  rintro v1 w1 ⟨⟨G,hG,hGn⟩,ho1⟩;replace hs:=hs.call0 ho1
  have hz:=ho.size
  have hGn':∀ k∈G,w0.heap.size≤k:=fun k hk=>by have:=hGn k hk;omega
  have hGne:∀ k∈G,k≠b∧k≠bq∧k≠qb:=fun k hk=>by have:=hGn k hk;omega
  have hoA:=hs.onlyF [] (by simp [h1]) (by simp [D0])
  have c1:=hs.get At.head
  have c2:=hs.get (At.tail At.head)
  have c3:=hs.get (At.tail (At.tail At.head))
  have hnd:=hs.nd
  simp only [List.map_cons,List.nodup_cons,List.mem_cons,List.map_nil,List.not_mem_nil,or_false,not_or] at hnd
  have hle:=othT_le a.1.id s.t.list
  have hL:ItsAt w1 v1 (plain (othT a.1.id s.t.list)):=IB.its_of hG
  clear hs
  have hs:=(((St.nil w1).track c3 (by simp)).track c2 (by simpa using hnd.2.1)).track c1 (by simp [hnd.1.1,hnd.1.2])
  have e0:chBase s a=(anchA (plain (othT a.1.id s.t.list))).getD a.1.p.t:=rfl
  have eE:chE s a=bif !a.1.right then 2 else bif !(s.f a.1.id).isSome then 14 else bif !within (chBase s a) (plain (othT a.1.id s.t.list ++ [a])) then 8 else 0:=rfl
  generalize chBase s a=B at *
  generalize hO:othT a.1.id s.t.list=O at *
  repeat' (first|refine vs (k:=?_)|refine qRg ?_|refine Nx.h ?_|fail)
  have ho2:=hs.onlyF [] (by simp [c1,c2,c3]) (by simp [D0])
  (with_reducible apply xs_call);exact rfl;exact rfl;exact anchor_ret (plain O) v1 (fun x hx=>by obtain ⟨y,_,rfl⟩:=List.mem_map.1 hx;exact y.2) (by simp [plain];omega) _ (hL.only ho2)
  rintro v2 w2 ⟨rfl,ho⟩;replace hs:=hs.call0 ho
  refine vs (k:=?_)
  refine vs (k:=?_)
  refine vs (k:=?_)
  refine vs (k:=?_)
  refine vs (k:=?_)
  refine XS.nil ?_
  refine then_of ?_
  refine xc_seq ?_
  refine xc_cutN (fun _:Unit=>[(0,.pointer (some ⟨qb,0,none⟩)),(3,.pointer (some ⟨bq,0,none⟩)),(4,.int .i64 0),(5,.pointer (some ⟨b,0,none⟩)),(6,.bool (s.f a.1.id).isSome),(7,v1),(8,.int .u64 B)]) (fun _ w=>St w1 D0 [(b,itQ x,false),(bq,itQ a.1,false),(qb,queueO s.m tb mb s.c,false)] w) ?_ ?_
  · cases hA:anchA (plain O) with
    | none =>
      rw [hA] at e0
      rw [e0]
      repeat' (first|refine vs (k:=?_)|refine qRg ?_|refine Nx.h ?_|refine qCt ?_|fail)
      exact cutN_normal () (by (repeat (first | exact agree_nil | (apply agree_cons;exact rfl)))) hs
    | some t =>
      rw [hA] at e0
      rw [e0]
      repeat' (first|refine vs (k:=?_)|refine qRg ?_|refine Nx.h ?_|refine qCf ?_|fail)
      exact cutN_normal () (by (repeat (first | exact agree_nil | (apply agree_cons;exact rfl)))) hs
  clear hs ho
  rintro _ env w hs
  repeat' (first|refine vs (k:=?_)|refine qRg ?_|refine Nx.h ?_|fail)
  (with_reducible apply xs_call);exact rfl;exact rfl;exact iright_ret a.1 _
  have chq:∀ n,chE s a=n→n≠0→chQ s a=s:=fun n e hn=>by unfold chQ;rw [e,decide_eq_false hn];rfl
  rintro v w' ⟨rfl,ho⟩;replace hs:=hs.call0 ho;repeat' (first|refine vs (k:=?_)|(refine bs hs (k:=?_);intro b w hz hs)|refine qRg ?_|refine Nx.h ?_|(refine xc_cond rfl (fun hc=>?_) (fun hc=>?_))|fail)
  · first | refine rt (hq:=?_) | refine rt' (hq:=?_)
    have ho:=hs.onlyF [] (by simp [c1,c2,c3]) (by simp [D0])
    have e:chE s a=2:=by rw [eE,show (!a.1.right)=true by simpa using hc];rfl
    refine ⟨by rw [e];rfl,?_⟩
    rw [chq 2 e (by decide)]
    exact same _ (hoA.trans ho)
  · first | refine rt (hq:=?_) | refine rt' (hq:=?_)
    have ho:=hs.onlyF [] (by simp [c1,c2,c3]) (by simp [D0])
    have e:chE s a=14:=by rw [eE,show (!a.1.right)=false by assumption,hc];rfl
    refine ⟨by rw [e];rfl,?_⟩
    rw [chq 14 e (by decide)]
    exact same _ (hoA.trans ho)
  · have r1:(!a.1.right)=false:=by assumption
    have r2:(s.f a.1.id).isSome=true:=by simpa using hc
    obtain ⟨o,hf⟩:=Option.isSome_iff_exists.1 r2
    rw [hf] at hx
    obtain rfl:o.1=x:=hx
    rw [r1,r2] at eE
    have hb4:=hs.get At.head
    have ho4:=hs.onlyF [] (by simp [c1,c2,c3]) (by simp [D0])
    refine xs_appendW tabOk rfl rfl rfl rfl rfl rfl rfl (by decide) (lit_cells (news:=a.1.cells) hb4) (by simp [Value.oneCell']) (hG.keep ho4 (by simp)) (by omega) (by omega) ?_
    intro v2 w2 ⟨G',hG2,hG2'⟩ ho3
    have hoB:Only [] w0 w2:=(hoA.trans ho4).news hGn' ho3
    have d1:=ho3.block (hs.get (At.tail At.head)) (fun hm=>(hGne _ hm).1 rfl)
    have d2:=ho3.block (hs.get (At.tail (At.tail At.head))) (fun hm=>(hGne _ hm).2.1 rfl)
    have d3:=ho3.block (hs.get (At.tail (At.tail (At.tail At.head)))) (fun hm=>(hGne _ hm).2.2 rfl)
    have hL2:ItsAt w2 v2 (plain (O ++ [a])):=IB.its_of (G:=G') (by
      rw [IB.flatT_app,List.length_append]
      exact hG2)
    clear hs
    have hs:=(((St.nil w2).track d3 (by simp)).track d2 (by simpa using hnd.2.1)).track d1 (by simp [hnd.1.1,hnd.1.2])
    skip
    have ho5:=hs.onlyF [] (by simp [d1,d2,d3]) (by simp [D0])
    (with_reducible apply xs_call);exact rfl;exact rfl;exact within_ret B (plain (O ++ [a])) v2 (by simp [plain];omega) _ (hL2.only ho5)
    generalize hwi:within B (plain (O ++ [a]))=wi
    rw [hwi] at eE
    cases wi
    · rintro v w' ⟨rfl,ho⟩;replace hs:=hs.call0 ho;repeat' (first|refine vs (k:=?_)|refine qRg ?_|refine Nx.h ?_|refine qCt ?_|fail)
      first | refine rt (hq:=?_) | refine rt' (hq:=?_)
      have ho:=hs.onlyF [] (by simp [d1,d2,d3]) (by simp [D0])
      refine ⟨by rw [eE];rfl,?_⟩
      rw [chq 8 eE (by decide)]
      exact same _ (hoB.trans ho)
    · have hQ:chQ s a=swapQ s o a:=by unfold chQ;rw [eE,hf];rfl
      rintro v w' ⟨rfl,ho⟩;replace hs:=hs.call0 ho;repeat' (first|refine vs (k:=?_)|refine qRg ?_|refine Nx.h ?_|refine qCf ?_|fail)
      have ho:=hs.onlyF [] (by simp [d1,d2,d3]) (by simp [D0])
      have hoC:=hoB.trans ho
      have hqC:=hq.only hoC
      have hzC:=hoC.size
      (with_reducible apply xs_call);exact rfl;exact rfl;exact qcut_ret qb s _ o _ hqC (by omega) (hd o hf)
      rintro v3 w3 ⟨F1,hA1,hF1,ho6⟩
      have q2:=ho6.block (hs.get (At.tail At.head)) (hqC.not (hs.get (At.tail At.head)) (by decide) (by decide) (by decide))
      have hlenc:(cutQ s o).t.list.length≤s.t.list.length:=cutT_len (hd o hf)
      have hnc:(cutQ s o).n≤s.n:=by show (if (s.f o.1.id).isSome then s.n - 1 else s.n)≤s.n;split <;> omega
      have hoD:Only (qb :: mb :: Ft) w0 w3:=(hoC.weaken (by simp)).step ho6 (fun k hk => .inl hk)
      have hzD:=hoD.size
      clear hs
      have hs:=(St.nil w3).track q2 (by simp)
      repeat' (first|refine vs (k:=?_)|refine qRg ?_|refine Nx.h ?_|fail)
      have ho7:=hs.onlyF [] (by simp [q2]) (by simp [D0])
      have hA2:=hA1.only ho7
      have hz7:=ho7.size
      (with_reducible apply xs_call);exact rfl;exact rfl;exact qput_ret qb (cutQ s o) F1 a _ hA2 (by omega) (by omega)
      rintro v4 w4 ⟨F2,hA3,hF2,ho8⟩
      obtain ⟨tb',mb',Ft',rfl,g1,g2,g3,g4,g5⟩:=hA3
      have hoE:Only (qb :: mb :: Ft) w0 w4:=(hoD.step ho7 (by simp)).step ho8 (fun k hk=>by
        rcases hF1 k hk with h | h
        · exact .inl h
        · exact .inr (by omega))
      have hQP:QP w4 qb tb' mb' Ft' (putQ (cutQ s o) a):=⟨g1,g2,g3⟩
      clear hs
      have hs:=(St.nil w4).track g1 (by simp)
      repeat' (first|refine vs (k:=?_)|(refine st hs (k:=?_);intro w hs)|refine qRg ?_|refine Nx.h ?_|fail)
      first | refine rt (hq:=?_) | refine rt' (hq:=?_)
      have ho9:Only [qb] w4 _:=hs.onlyF [qb] (by simp) (by simp [D0])
      have hP:=hQP.own ho9 (hs.get At.head)
      refine ⟨by rw [eE];rfl,?_⟩
      rw [hQ]
      refine ⟨qb :: mb' :: Ft',⟨tb',mb',Ft',rfl,hP.q,hP.M,hP.T,g4,h5⟩,fun k hk=>?_,hoE.step ho9 (fun k hk => .inl (by obtain rfl:=List.mem_singleton.1 hk;simp))⟩
      rcases hF2 k hk with h | h
      · rcases hF1 k h with h | h
        · exact .inl h
        · exact .inr (by omega)
      · exact .inr (by omega)
end Go.Proofs.YtalffooghioekaaGreatDoorX

namespace Go.Proofs.YtalffooghioekaaGreatDoorX
open Go Go.RowKit
open IB (IT ITsAt flatT)
attribute [local irreducible] XS XC XA thenE blockE retE loopE loopS cutB cutN doneE SE
theorem put1_ret (qb:Nat) (s:Qs) (F:List Nat) (r:RT) (w0:World) (h:QAt w0 qb s F) (hlen:s.t.list.length+1≤1000000) (hn:s.n < 1000000) (hd:∀ o,s.f (itR r).1.id=some o→CutOk o s.t) :
    Ret Tryz.prog 181 #[.pointer (some ⟨qb,0,none⟩),rv r.1] w0 fun v w'=>v = .int .i64 (chE s (itR r))∧∃ F',QAt w' qb (chQ s (itR r)) F'∧(∀ k∈F',k∈F∨w0.heap.size≤k)∧Only F w0 w':=by
  have hs:=St.nil w0
  refine ret_of_xc Tryz.func181 (by kernel_rfl) rfl Tryz.ntmps181 rfl rfl rfl ?_
  repeat' (first|refine vs (k:=?_)|(refine bx hs (k:=?_);intro b w hz hs)|refine qRg ?_|refine Nx.h ?_|fail)
  have ho:=hs.only0 rfl
  (with_reducible apply xs_call);exact rfl;exact rfl;exact qchange_ret qb s F (itR r) _ (h.only ho) hlen hn hd
  rintro v w1 ⟨rfl,F',hA,hF',ho1⟩
  have hz:=ho.size
  clear hs
  have hs:=St.nil w1
  repeat' (first|refine vs (k:=?_)|refine Nx.h ?_|fail)
  first | refine rt (hq:=?_) | refine rt' (hq:=?_)
  exact ⟨rfl,F',hA.only (hs.only0 rfl),fun k hk=>by rcases hF' k hk with h | h;exact .inl h;exact .inr (by omega),((ho.weaken (by simp)).step ho1 (fun k hk => .inl hk)).step (hs.only0 rfl) (by simp)⟩
def putE' (s:Ss) (r:RT):Int:=layE r.1 (chE s.q (itR r))
def putS (s:Ss) (r:RT):Ss:=layS s r (chE s.q (itR r)) (chQ s.q (itR r))
theorem sput_ret (sb:Nat) (s:Ss) (F:List Nat) (r:RT) (w0:World) (h:SAt w0 sb s F) (hl:s.l.length < 1000000) (hlen:s.q.t.list.length+1≤1000000) (hn:s.q.n < 1000000) (hd:∀ o,s.q.f (itR r).1.id=some o→CutOk o s.q.t) :
    Ret Tryz.prog 142 #[.pointer (some ⟨sb,0,none⟩),rv r.1] w0 fun v w'=>v = .int .i64 (putE' s r)∧∃ F',SAt w' sb (putS s r) F'∧(∀ k∈F',k∈F∨w0.heap.size≤k)∧Only F w0 w':=by
  have hs:=St.nil w0
  refine ret_of_xc Tryz.func142 (by kernel_rfl) rfl Tryz.ntmps142 rfl rfl rfl ?_
  repeat' (first|refine vs (k:=?_)|(refine bx hs (k:=?_);intro b w hz hs)|refine qRg ?_|refine Nx.h ?_|fail)
  have ho:=hs.only0 rfl
  (with_reducible apply xs_call);exact rfl;exact rfl;exact slay_ret 181 sb s F r (chE s.q (itR r)) (chQ s.q (itR r)) _ (h.only ho) hl (fun qb Fq w hq _=>put1_ret qb s.q Fq r w hq hlen hn hd)
  rintro v w1 ⟨rfl,F',hA,hF',ho1⟩
  have hz:=ho.size
  clear hs
  have hs:=St.nil w1
  repeat' (first|refine vs (k:=?_)|refine Nx.h ?_|fail)
  first | refine rt (hq:=?_) | refine rt' (hq:=?_)
  exact ⟨rfl,F',hA.only (hs.only0 rfl),fun k hk=>by rcases hF' k hk with h | h;exact .inl h;exact .inr (by omega),((ho.weaken (by simp)).step ho1 (fun k hk => .inl hk)).step (hs.only0 rfl) (by simp)⟩
end Go.Proofs.YtalffooghioekaaGreatDoorX

namespace Go.Proofs.YtalffooghioekaaGreatDoorX
open IB (IT)
theorem ofL_is {lo:Int}:∀ {l2 l1:List It} {m:Mn},AllW m.b lo (l1 ++ l2)→IsM m l1→∃ m',ofL m (places l2)=some m'∧m'.b=m.b∧IsM m' (l1 ++ l2)
  | [],l1,m,h,k=>⟨m,rfl,rfl,by rwa [List.append_nil]⟩
  | a :: l2,l1,m,h,k=>by
    have hp:(l1 ++ a :: l2).Perm ((a :: l1) ++ l2):=List.perm_middle
    have h2:=h.perm hp
    have h3:AllW m.b lo (a :: l1):=⟨h2.1,by have:=h2.2.1;simp only [List.length_append,List.length_cons] at this ⊢;omega,fun x hx=>h2.2.2 x (List.mem_append_left _ hx)⟩
    obtain ⟨m1,e1,e2,e3⟩:=add_is h3 k
    obtain ⟨m2,e4,e5,e6⟩:=ofL_is (l2:=l2) (l1:=a :: l1) (m:=m1) (by rw [e2];exact h2) e3
    refine ⟨m2,?_,e5.trans e2,e6.perm hp.symm⟩
    show (addM m a.p).bind (fun m=>ofL m (places l2))=some m2
    rw [e1];exact e4
theorem AllW.at {b lo:Int} {x:It} {l:List It} (h:AllW b lo (x :: l)):AllW x.p.t (lo - sn x.p.t b) (x :: l):=(h.move h.head.low (h.head.dead h.1).2.2).1
theorem mean_of {b lo:Int} {l:List It} (h:AllW b lo l) (hl:l≠[]):Cen (meanL l) l∧anchA l=some (meanL l).b:=by
  obtain ⟨x,r,rfl⟩:=List.exists_cons_of_ne_nil hl
  have hw:=h.at
  obtain ⟨m,e1,e2,e3⟩:=ofL_is (l1:=[]) (l2:=x :: r) (m:=⟨x.p.t,0,0,0⟩) hw ⟨rfl,rfl,rfl⟩
  have e2':m.b=x.p.t:=e2
  have hw':AllW m.b (lo - sn x.p.t b) (x :: r):=by rw [e2'];exact hw
  obtain ⟨m',e4,e5⟩:=centre_is hw' e3 hl
  have hf:=floor_is hw' e3 hl
  have e6:=e5.eq hl
  rw [← e6]
  refine ⟨e5,?_⟩
  show (ofM x.p.t (places (x :: r))).bind flM=_
  unfold ofM
  rw [e1,Option.bind_some,hf]
  rw [hf] at e4
  simp only [Option.getD_some,rebM] at e4
  split at e4
  · cases e4;rfl
  · cases e4
theorem meanL_perm {b lo:Int} {l l':List It} (h:AllW b lo l) (p:l.Perm l'):meanL l=meanL l':=by
  by_cases e:l=[]
  · subst e;rw [p.nil_eq]
  · exact ((mean_of h e).1.perm p).eq (fun k=>e (by subst k;exact p.symm.nil_eq.symm))
theorem QI.winp {s:Qs} (h:QI s) {a:IT} (hr:a.1.right=true) (hn:s.t.list.length < 32) {L:List It} (hL:L.Perm (a.1 :: plain s.t.list)) (hw:within (preM s a).b L=true):∃ lo,AllW (preM s a).b lo (a.1 :: plain s.t.list):=by
  obtain ⟨lo,k⟩:=h.win
  rw [within_mem (l':=a.1 :: plain s.t.list) (fun x=>hL.mem_iff)] at hw
  refine win_of (fun x hx=>?_) hw ?_ ?_ (by simp only [plain,List.length_cons,List.length_map];omega)
  · rcases List.mem_cons.1 hx with rfl | hx
    · exact ⟨a.2,hr⟩
    · exact ⟨(k.2.2 x hx).isin,(k.2.2 x hx).right⟩
  all_goals by_cases e:s.t.list=[]
  · rw [preM_nil e];exact ⟨a.1,by simp,by show sn a.1.p.t a.1.p.t≤0;rw [sn_self];omega⟩
  · rw [preM_ne e];obtain ⟨⟨x,k1,k2⟩,_⟩:=low_mid (h.cen e) (plain_ne e);exact ⟨x,by simp [k1],k2⟩
  · rw [preM_nil e];exact ⟨a.1,by simp,by show 0≤sn a.1.p.t a.1.p.t;rw [sn_self];omega⟩
  · rw [preM_ne e];obtain ⟨_,⟨x,k1,k2⟩⟩:=low_mid (h.cen e) (plain_ne e);exact ⟨x,by simp [k1],k2⟩
theorem QI.clock {s:Qs} (h:QI s) (c:Int):QI { s with c:=c }:=⟨h.good,h.srt,h.f,h.n,h.len,h.cen,h.nil⟩
theorem put_perm2 {r:RT}:∀ {l:List RT},OrdR l→(putR r l).Perm (r :: delR (idR r) l)
  | [],_ => .refl _
  | a :: l,h=>by
    have hd:=h.head
    have hlt:∀ {b:RT},idR r≤idR a→b∈l→decide (idR b≠idR r)=true:=fun h1 hb=>by have:=hd _ hb;simp;omega
    have ih:=put_perm2 (r:=r) h.tail
    unfold putR delR
    rw [List.filter_cons]
    split
    · rename_i h1
      rw [if_pos (by simp;omega),List.filter_eq_self.2 (fun b hb=>hlt (by omega) hb)]
    · split
      · rename_i h1 h2
        rw [if_neg (by simp;omega),List.filter_eq_self.2 (fun b hb=>hlt (by omega) hb)]
      · rename_i h1 h2
        rw [if_pos (by simp;omega)]
        exact (ih.cons a).trans (.swap _ _ _)
def othA (A:As) (id:Int):List It:=its (delR id A.l)
def chBaseA (A:As) (a:It):Int:=if othA A a.id=[] then a.p.t else (meanL (othA A a.id)).b
def changeA (A:As) (a:It):Int:=bif !a.right then 2 else bif !(findR A.l a.id).isSome then 14 else bif !within (chBaseA A a) (othA A a.id ++ [a]) then 8 else 0
def putE (A:As) (r:RT):Int:=layE r.1 (changeA A r.1.i)
def putA (A:As) (r:RT):As:=if putE A r=0 then ⟨putR r A.l,A.c⟩ else A
theorem oth_perm {s:Ss} {A:As} (h:Rep s A) (id:Int):(othT id s.q.t.list).Perm ((delR id A.l).map itR):=by
  unfold othT delR
  have:((A.l.filter fun a=>decide (idR a≠id)).map itR)=(A.l.map itR).filter fun a=>decide (a.1.id≠id):=by rw [List.filter_map];rfl
  rw [this]
  exact h.p.filter _
theorem Rep.oth {s:Ss} {A:As} (h:Rep s A) (id:Int):(plain (othT id s.q.t.list)).Perm (othA A id):=by
  unfold othA
  rw [← its_itR];exact plain_perm (oth_perm h id)
theorem Rep.chBase {s:Ss} {A:As} (h:Rep s A) (a:IT):Go.Proofs.YtalffooghioekaaGreatDoorX.chBase s.q a=chBaseA A a.1:=by
  unfold Go.Proofs.YtalffooghioekaaGreatDoorX.chBase chBaseA
  have hp:=h.oth a.1.id
  by_cases e:othA A a.1.id=[]
  · rw [if_pos e]
    rw [e] at hp
    rw [hp.eq_nil];rfl
  · rw [if_neg e]
    obtain ⟨lo,k⟩:=h.q.win
    have k2:AllW s.q.m.b lo (plain (othT a.1.id s.q.t.list)):=⟨k.1,by have:=k.2.1;have:=othT_le a.1.id s.q.t.list;simp only [plain,List.length_map] at *;omega,fun x hx=>by
      obtain ⟨y,hy,rfl⟩:=List.mem_map.1 hx
      exact plain_win k y (List.mem_filter.1 hy).1⟩
    have ne:plain (othT a.1.id s.q.t.list)≠[]:=fun k=>e (by rw [k] at hp;exact hp.nil_eq.symm)
    rw [(mean_of k2 ne).2,Option.getD_some,meanL_perm k2 hp]
theorem Rep.put {s:Ss} {A:As} (h:Rep s A) (r:RT):putE' s r=putE A r∧Rep (putS s r) (putA A r)∧∀ o,s.q.f (itR r).1.id=some o→CutOk o s.q.t:=by
  have hcut:∀ o,s.q.f (itR r).1.id=some o→CutOk o s.q.t:=fun o ho=>(h.q.cut ((h.q.f _ _).1 ho).1).2.2.2.2
  have hch:chE s.q (itR r)=changeA A r.1.i:=by
    unfold chE changeA
    rw [h.fs,h.chBase,within_mem (l:=plain (othT (itR r).1.id s.q.t.list ++ [itR r])) (l':=othA A r.1.i.id ++ [r.1.i]) (fun x=>by
      rw [show plain (othT (itR r).1.id s.q.t.list ++ [itR r])=plain (othT (itR r).1.id s.q.t.list) ++ [(itR r).1] from List.map_append ..,List.mem_append,List.mem_append,(h.oth _).mem_iff];rfl)]
    rfl
  have he:putE' s r=putE A r:=by unfold putE' putE;rw [hch]
  refine ⟨he,?_,hcut⟩
  unfold putA
  by_cases e0:putE A r=0
  · rw [if_pos e0]
    have hr:r.1.right=true:=by
      unfold putE layE at e0
      cases k:r.1.right
      · rw [k] at e0;cases e0
      · rfl
    have hj:changeA A r.1.i=0:=by unfold putE layE at e0;rw [hr] at e0;exact e0
    have hjq:chE s.q (itR r)=0:=by rw [hch];exact hj
    have hj':=hjq
    unfold chE at hj'
    cases k1:(itR r).1.right with
    | false=>rw [k1] at hj';cases hj'
    | true =>
    cases k2:s.q.f (itR r).1.id with
    | none=>rw [k1,k2] at hj';cases hj'
    | some o =>
    cases k4:within (Go.Proofs.YtalffooghioekaaGreatDoorX.chBase s.q (itR r)) (plain (othT (itR r).1.id s.q.t.list ++ [itR r])) with
    | false=>rw [k1,k2,k4] at hj';cases hj'
    | true =>
      obtain ⟨ho1,ho2⟩:=(h.q.f _ _).1 k2
      obtain ⟨c1,c2,c3,c4,c5⟩:=h.q.cut ho1
      have hot:othT (itR r).1.id s.q.t.list=RB.sans o s.q.t.list:=by
        unfold othT RB.sans
        refine List.filter_congr fun x hx=>?_
        by_cases e:x=o
        · subst e;simp [ho2]
        · have:x.1.id≠(itR r).1.id:=fun e'=>e (h.q.inj x hx o ho1 (by omega))
          simp [this,e]
      have hb:(preM (cutQ s.q o) (itR r)).b=Go.Proofs.YtalffooghioekaaGreatDoorX.chBase s.q (itR r):=by
        unfold Go.Proofs.YtalffooghioekaaGreatDoorX.chBase
        rw [hot,← c2]
        by_cases e:(cutQ s.q o).t.list=[]
        · rw [preM_nil e,e];rfl
        · obtain ⟨lo,k⟩:=c1.win
          have hm:=mean_of k (plain_ne e)
          rw [preM_ne e,hm.2,← (c1.cen e).eq (plain_ne e)];rfl
      have hfn:(cutQ s.q o).f (itR r).1.id=none:=by
        cases k:(cutQ s.q o).f (itR r).1.id with
        | none=>rfl
        | some y =>
          obtain ⟨y1,y2⟩:=(c1.f _ _).1 k
          rw [c2,← hot] at y1
          have:=(List.mem_filter.1 y1).2
          simp only [decide_eq_true_eq] at this
          exact absurd y2 this
      have hlen:=c3.length_eq
      have hle:=h.q.len
      simp only [List.length_cons] at hlen
      obtain ⟨lo,hw⟩:=c1.winp (a:=itR r) k1 (by rw [c2];omega) (L:=plain (othT (itR r).1.id s.q.t.list ++ [itR r])) (by
        rw [hot,c2,show plain (RB.sans o s.q.t.list ++ [itR r])=plain (RB.sans o s.q.t.list) ++ [(itR r).1] from List.map_append ..]
        exact List.perm_append_comm) (by rw [hb];exact k4)
      obtain ⟨p1,p2,p3⟩:=c1.put (a:=itR r) hfn hw
      have hE:putS s r=⟨swapQ s.q o (itR r),putR r s.l⟩:=by
        unfold putS layS chQ;rw [hr,hjq,k2];rfl
      rw [hE]
      refine ⟨p1.clock _,by rw [h.l],?_,h.c,fun x hx=>?_,ord_put h.o⟩
      · show (putQ (cutQ s.q o) (itR r)).t.list.Perm ((putR r A.l).map itR)
        refine p2.trans ?_
        rw [c2,← hot]
        exact ((oth_perm h _).cons _).trans ((put_perm2 h.o).map itR).symm
      · rcases mem_put hx with rfl | hx
        · exact hr
        · exact h.r x hx
  · rw [if_neg e0]
    have:putS s r=s:=by
      unfold putS layS
      cases k:r.1.right
      · rfl
      · have:chE s.q (itR r)≠0:=fun e=>e0 (by rw [← he];unfold putE' layE;rw [k];exact e)
        unfold chQ
        rw [decide_eq_false this];rfl
    rw [this];exact h
theorem del_perm {l:List RT} {a:RT} {i:Int} (ho:OrdR l) (hf:findR l i=some a):l.Perm (a :: delR i l):=by
  obtain ⟨h1,h2⟩:=findR_some hf
  have:l.Nodup:=(List.Pairwise.imp (fun h e=>by subst e;omega) (List.pairwise_map.1 ho))
  clear hf
  induction l with
  | nil=>cases h1
  | cons b l ih =>
    have hd:=ho.head
    unfold delR
    rw [List.filter_cons]
    rcases List.mem_cons.1 h1 with rfl | h1
    · rw [if_neg (by simp [h2]),List.filter_eq_self.2 (fun x hx=>by have:=hd x hx;simp;omega)]
    · have:=hd a h1
      rw [if_pos (by simp;omega)]
      exact ((ih ho.tail h1 (List.nodup_cons.1 ‹(b :: l).Nodup›).2).cons b).trans (.swap _ _ _)
end Go.Proofs.YtalffooghioekaaGreatDoorX

namespace Go.Proofs.YtalffooghioekaaGreatDoorX
open Go Go.RowKit
open IB (IT ITsAt flatT)
attribute [local irreducible] XS XC XA thenE blockE retE loopE loopS cutB cutN doneE SE
def soonId (q:Qs):Int:=(IB.valO (soonQ q)).id
set_option maxHeartbeats 4000000 in
theorem settle_ret (sb:Nat) (s s':Ss) (l:List Gn) (F:List Nat) (w0:World) (h:SAt w0 sb s F) (hn:s.l.length≤1000000) (hq:s.q.t.list.length≤1000000) (hl:l.length≤1000000) (hF:Flushes s l s') :
    Ret Tryz.prog 206 #[.pointer (some ⟨sb,0,none⟩)] w0 fun v w'=>∃ sl,v = .tuple #[sl,.int .i64 (soonId s'.q)]∧(∃ G,SlV w' 197 13 sl l.length (flatG l) G∧∀ k∈G,w0.heap.size≤k)∧∃ F',SAt w' sb s' F'∧(∀ k∈F',k∈F∨w0.heap.size≤k)∧Only F w0 w':=by
  have hs:=St.nil w0
  refine ret_of_xc Tryz.func206 (by kernel_rfl) rfl Tryz.ntmps206 rfl rfl rfl ?_
  repeat' (first|refine vs (k:=?_)|refine qRg ?_|refine Nx.h ?_|refine qCf ?_|fail)
  have hoa:=hs.only0 rfl
  have hz:=hoa.size
  (with_reducible apply xs_call);exact rfl;exact rfl;exact flush_ret sb s s' l F _ (h.only hoa) hn hq hl hF
  rintro v1 w1 ⟨⟨G,hG,hGn⟩,F1,hS1,hF1,ho1⟩
  have hS1':=hS1
  obtain ⟨qb,mb,Fq,rfl,h1,h2,h3,h4,h5⟩:=hS1
  clear hs
  have hs:=(St.nil w1).track h1 (by simp)
  repeat' (first|refine vs (k:=?_)|refine qRg ?_|refine Nx.h ?_|fail)
  have ho2:=hs.onlyF [] (by simp [h1]) (by simp [D0])
  (with_reducible apply xs_call);exact rfl;exact rfl;exact qsoonest_ret qb s'.q Fq _ (h3.only ho2)
  rintro v w' ⟨rfl,ho⟩;replace hs:=hs.call0 ho;repeat' (first|refine vs (k:=?_)|(refine stA hs (k:=?_);intro w hs)|(refine al hs (k:=?_);intro b w hz hs)|refine Nx.h ?_|fail)
  refine dr [] hs (k:=?_);intro hX w hs
  refine tk 0 hX (k:=?_)
  refine tk 1 hX (k:=?_)
  refine tk 2 hX (k:=?_)
  refine tk 3 hX (k:=?_)
  refine tk 4 hX (k:=?_)
  refine en (k:=?_)
  repeat' (first|refine Nx.h ?_|fail)
  first | refine rt (hq:=?_) | refine rt' (hq:=?_)
  have ho3:=hs.onlyF [] (by simp [h1]) (by simp [D0])
  exact ⟨v1,rfl,⟨G,hG.keep ho3 (by simp),fun k hk=>by have:=hGn k hk;omega⟩,_,hS1'.only ho3,fun k hk=>by
    rcases hF1 k hk with h | h
    · exact .inl h
    · exact .inr (by omega),((hoa.weaken (by simp)).step ho1 (fun k hk => .inl hk)).step ho3 (by simp)⟩
end Go.Proofs.YtalffooghioekaaGreatDoorX

namespace Go.Proofs.YtalffooghioekaaGreatDoorX
open IB (IT)
theorem over_ok {m:Mn} {l:List It} (h:Cen m l) {x:It} (hx:x∈l):ovM m x.p=some (ovL m x.p)∧InW (ovL m x.p):=by
  obtain ⟨lo,k⟩:=h.all
  have hw:=k.2.2 x hx
  have hr:=k.right h.is
  obtain ⟨r1,_,_,_,_,_,⟨w1,w2,w3,w4⟩,_⟩:=iright_all hw.isin hw.right
  have hn:m.n≠0:=by rw [h.is.n];have:=List.length_pos_of_mem hx;omega
  have h8:=had_rng hw.isin.1 hr r1
  have hm:=mright_iff.1 hr
  have a0:=h.a0
  have a1:=h.a1
  have h9:=mul_rng (w:=m.a) (s:=x.p.w) (W:=33554432) (S:=1048576) (by omega) (by omega) (by omega) (by omega)
  have h10:=mul_rng (w:=m.w) (s:=dist x.p m.b) (W:=33554432) (S:=9671406556917033397649408+1048576) (by omega) (by omega) h8.2.1 h8.2.2
  have e:=Int.mul_comm (dist x.p m.b) m.w
  have i1:InW (m.a*x.p.w):=by unfold InW;omega
  have i2:InW (ovL m x.p):=by unfold ovL InW;rw [e];omega
  unfold ovM
  exact ⟨if_pos ⟨hr,hn,r1,i1,i2⟩,i2⟩
def mA (A:As):Mn:=meanL (its A.l)
def ovA (A:As) (a:RT):Int:=ovL (mA A) a.1.i.p
def lagR (A:As) (a:RT):Int:=ovA A a / (mA A).w
def owedA (A:As) (id:Int):Int:=match findR A.l id with | some a=>cmpI (ovA A a) 0 | none=>0
def lagA (A:As) (id:Int):Int:=match findR A.l id with | some a=>lagR A a | none=>0
theorem Rep.over {s:Ss} {A:As} (h:Rep s A) {a:RT} (ha:a∈A.l):ovM s.q.m a.1.i.p=some (ovA A a)∧InW (ovA A a)∧s.q.m=mA A:=by
  have hne:A.l≠[]:=List.ne_nil_of_mem ha
  have e:=h.mean hne
  have:=over_ok (h.cen hne) (x:=a.1.i) (List.mem_map_of_mem ha)
  rw [e] at this
  exact ⟨by rw [e];exact this.1,this.2,e⟩
theorem Rep.owed {s:Ss} {A:As} (h:Rep s A) (id:Int):owedQ s.q id=owedA A id:=by
  unfold owedQ owedA
  rw [h.f]
  cases e:findR A.l id with
  | none=>rfl
  | some a =>
    have:=h.over (findR_some e).1
    show cmpI ((ovM s.q.m a.1.i.p).getD 0) 0=_
    rw [this.1];rfl
theorem Rep.lag {s:Ss} {A:As} (h:Rep s A) (id:Int):lagQ s.q id=lagA A id:=by
  unfold lagQ lagA
  rw [h.f]
  cases e:findR A.l id with
  | none=>rfl
  | some a =>
    have:=h.over (findR_some e).1
    show ((rdM s.q.m a.1.i.p).getD 0)=_
    unfold rdM lagR
    rw [this.1,this.2.2];rfl
def goesA (A:As) (a:RT):Bool:=a.1.asleep && decide (0≤ovA A a)
def gnA (A:As) (a:RT):Gn:=⟨idR a,lagR A a,a.1⟩
def flushN:Nat→As→List Gn × As
  | 0,A=>([],A)
  | n+1,A=>match A.l.find? (goesA A) with
    | none=>([],A)
    | some a=>(gnA A a :: (flushN n (extA A (idR a))).1,(flushN n (extA A (idR a))).2)
def flushA (A:As):List Gn × As:=flushN A.l.length A
theorem cmp_nonneg {x:Int}:cmpI x 0≥0↔0≤x:=by unfold cmpI;split <;> (try split) <;> omega
theorem find_congr {α:Type} {p q:α→Bool}:∀ {l:List α},(∀ x∈l,p x=q x)→l.find? p=l.find? q
  | [],_=>rfl
  | a :: l,h=>by
    rw [List.find?_cons,List.find?_cons,h a List.mem_cons_self,find_congr fun x hx=>h x (List.mem_cons_of_mem _ hx)]
theorem Rep.next {s:Ss} {A:As} (h:Rep s A):nextS s=(A.l.find? (goesA A)).map (gnA A):=by
  unfold nextS
  rw [h.l,find_congr (q:=goesA A) (fun a ha=>by
    unfold goes goesA
    rw [h.owed]
    unfold owedA
    rw [findR_at h.o ha]
    simp only [cmp_nonneg])]
  cases e:A.l.find? (goesA A) with
  | none=>rfl
  | some a =>
    have ha:=List.mem_of_find?_eq_some e
    show some (gnOf s.q a)=some (gnA A a)
    unfold gnOf gnA
    rw [h.lag]
    unfold lagA
    rw [findR_at h.o ha]
theorem Rep.flushN:∀ {n:Nat} {s:Ss} {A:As},Rep s A→A.l.length≤n→∃ s',Flushes s (flushN n A).1 s'∧Rep s' (flushN n A).2
  | 0,s,A,h,hn=>⟨s,.done (by rw [h.next,List.eq_nil_of_length_eq_zero (Nat.le_zero.1 hn)];rfl),h⟩
  | n+1,s,A,h,hn=>by
    unfold Go.Proofs.YtalffooghioekaaGreatDoorX.flushN
    cases e:A.l.find? (goesA A) with
    | none=>exact ⟨s,.done (by rw [h.next,e];rfl),h⟩
    | some a =>
      have ha:=List.mem_of_find?_eq_some e
      have hf:=findR_at h.o ha
      obtain ⟨e1,e2,e3⟩:=h.exit hf
      have hl:(extA A (idR a)).l.length≤n:=by
        unfold extA
        simp only [hf,Option.isSome_some,if_true]
        have:=(del_perm h.o hf).length_eq
        simp only [List.length_cons] at this ⊢
        omega
      obtain ⟨s',k1,k2⟩:=e3.flushN hl
      exact ⟨s',.step (by rw [h.next,e];rfl) e1 e2 k1,k2⟩
theorem Rep.flush {s:Ss} {A:As} (h:Rep s A):∃ s',Flushes s (flushA A).1 s'∧Rep s' (flushA A).2:=h.flushN (Nat.le_refl _)
def MinOf (X:List IT):Option IT→Prop
  | none=>X=[]
  | some m=>m∈X∧∀ y∈X,due y.1 m.1=false
theorem snr_min {S:IT→Prop} (o:OrdOn (fun x y:IT=>due x.1 y.1) S) {X Y:List IT} (hX:∀ z∈X,S z) (hY:∀ z∈Y,S z) {x y:IT} (h1:MinOf X (some x)) (h2:MinOf Y (some y)) {Z:List IT} (hZ:∀ z,z∈Z↔z∈X∨z∈Y):MinOf Z (some (IB.snr x y)):=by
  obtain ⟨x1,x2⟩:=h1
  obtain ⟨y1,y2⟩:=h2
  have sx:=hX x x1
  have sy:=hY y y1
  unfold IB.snr
  cases e:due y.1 x.1
  · refine ⟨(hZ _).2 (.inl x1),fun z hz=>?_⟩
    rcases (hZ z).1 hz with hz | hz
    · exact x2 z hz
    · cases k:due z.1 x.1
      · exact k
      · exfalso
        cases k2:due y.1 z.1
        · have:=o.tri z y (hY z hz) sy (y2 z hz) k2
          subst this;rw [e] at k;cases k
        · have:=o.tr y z x sy (hY z hz) sx k2 k
          rw [show due y.1 x.1=true from this] at e;cases e
  · refine ⟨(hZ _).2 (.inr y1),fun z hz=>?_⟩
    rcases (hZ z).1 hz with hz | hz
    · cases k:due z.1 y.1
      · exact k
      · have:=o.tr z y x (hX z hz) sy sx k e
        exact absurd (x2 z hz) (by rw [show due z.1 x.1=true from this];simp)
    · exact y2 z hz
theorem all_min {S:IT→Prop} (o:OrdOn (fun x y:IT=>due x.1 y.1) S):∀ {t:RB IT},(∀ z∈t.list,S z)→MinOf t.list (IB.all? t)
  | .nil,_=>rfl
  | .node l x r c,h=>by
    have hl:=all_min o (t:=l) fun z hz=>h z (by simp [RB.list,hz])
    have hr:=all_min o (t:=r) fun z hz=>h z (by simp [RB.list,hz])
    have hx:S x:=h x (by simp [RB.list])
    have h0:MinOf [x] (some x):=⟨by simp,fun y hy=>by obtain rfl:=List.mem_singleton.1 hy;exact o.irr y hx⟩
    have hL:∀ z∈l.list,S z:=fun z hz=>h z (by simp [RB.list,hz])
    have hR:∀ z∈r.list,S z:=fun z hz=>h z (by simp [RB.list,hz])
    have h1x:∀ z∈[x],S z:=fun z hz=>by obtain rfl:=List.mem_singleton.1 hz;exact hx
    have h1:MinOf (l.list ++ [x]) (some (match IB.all? l with | none=>x | some a=>IB.snr a x)):=by
      cases e:IB.all? l with
      | none=>rw [e] at hl;rw [show l.list=[] from hl];exact h0
      | some a=>rw [e] at hl;exact snr_min o hL h1x hl h0 (fun z=>by simp)
    have h1':∀ z∈l.list ++ [x],S z:=fun z hz=>by
      rcases List.mem_append.1 hz with hz | hz
      · exact hL z hz
      · exact h1x z hz
    show MinOf (l.list ++ x :: r.list) (some _)
    cases e:IB.all? r with
    | none=>rw [e] at hr;rw [show r.list=[] from hr];exact h1
    | some b=>rw [e] at hr;exact snr_min o h1' hR h1 hr (fun z=>by simp [or_assoc])
theorem fold_min {S:IT→Prop} (o:OrdOn (fun x y:IT=>due x.1 y.1) S) {q:IT→Bool}:∀ {t:RB IT} {acc:Option IT} {X Z:List IT},(∀ z∈t.list,S z)→(∀ z∈X,S z)→MinOf X acc→t.list.Pairwise (fun a b=>q b=true→q a=true)→(∀ z,z∈Z↔z∈X∨(z∈t.list∧q z=true))→MinOf Z (IB.foldT q t acc)
  | .nil,acc,X,Z,_,_,h,_,hZ=>by
    have:∀ z,z∈Z↔z∈X:=fun z=>by rw [hZ];simp [RB.list]
    unfold IB.foldT
    cases acc with
    | none=>exact List.eq_nil_iff_forall_not_mem.2 fun z hz=>by have:=(this z).1 hz;rw [show X=[] from h] at this;cases this
    | some m=>exact ⟨(this m).2 h.1,fun y hy=>h.2 y ((this y).1 hy)⟩
  | .node l x r c,acc,X,Z,hS,hX,h,hp,hZ=>by
    have hx:S x:=hS x (by simp [RB.list])
    have hL:∀ z∈l.list,S z:=fun z hz=>hS z (by simp [RB.list,hz])
    have hR:∀ z∈r.list,S z:=fun z hz=>hS z (by simp [RB.list,hz])
    obtain ⟨p1,p2,p3⟩:=List.pairwise_append.1 (show (l.list ++ x :: r.list).Pairwise _ from hp)
    obtain ⟨p4,p5⟩:=List.pairwise_cons.1 p2
    have h1x:∀ z∈[x],S z:=fun z hz=>by obtain rfl:=List.mem_singleton.1 hz;exact hx
    have h0:MinOf [x] (some x):=⟨by simp,fun y hy=>by obtain rfl:=List.mem_singleton.1 hy;exact o.irr y hx⟩
    unfold IB.foldT
    cases e:q x
    · refine fold_min o hL hX h p1 fun z=>?_
      rw [hZ]
      constructor
      · rintro (h1 | ⟨h1,h2⟩)
        · exact .inl h1
        · rcases List.mem_append.1 (show z∈l.list ++ x :: r.list from h1) with h1 | h1
          · exact .inr ⟨h1,h2⟩
          · rcases List.mem_cons.1 h1 with rfl | h1
            · rw [e] at h2;cases h2
            · have:=p4 z h1 h2;rw [e] at this;cases this
      · rintro (h1 | ⟨h1,h2⟩)
        · exact .inl h1
        · exact .inr ⟨by show z∈l.list ++ x :: r.list;simp [h1],h2⟩
    · have hql:∀ z∈l.list,q z=true:=fun z hz=>p3 z hz x List.mem_cons_self e
      have a1:MinOf (X ++ l.list) (IB.allO acc l):=by
        have hl:=all_min o hL
        unfold IB.allO
        cases e1:IB.all? l with
        | none=>rw [e1] at hl;rw [show l.list=[] from hl,List.append_nil];exact h
        | some a =>
          rw [e1] at hl
          unfold IB.addO
          cases acc with
          | none=>rw [show X=[] from h];exact hl
          | some m=>exact snr_min o hX hL h hl (fun z=>by simp)
      have hXL:∀ z∈X ++ l.list,S z:=fun z hz=>by
        rcases List.mem_append.1 hz with hz | hz
        · exact hX z hz
        · exact hL z hz
      have a2:MinOf (X ++ l.list ++ [x]) (IB.addO (IB.allO acc l) x):=by
        unfold IB.addO
        cases e1:IB.allO acc l with
        | none=>rw [e1] at a1;rw [show X ++ l.list=[] from a1];exact h0
        | some m=>rw [e1] at a1;exact snr_min o hXL h1x a1 h0 (fun z=>by simp [or_assoc])
      refine fold_min (X:=X ++ l.list ++ [x]) o hR (fun z hz=>?_) a2 p5 fun z=>?_
      · rcases List.mem_append.1 hz with hz | hz
        · exact hXL z hz
        · exact h1x z hz
      · rw [hZ]
        constructor
        · rintro (h1 | ⟨h1,h2⟩)
          · exact .inl (by simp [h1])
          · rcases List.mem_append.1 (show z∈l.list ++ x :: r.list from h1) with h1 | h1
            · exact .inl (by simp [h1])
            · rcases List.mem_cons.1 h1 with rfl | h1
              · exact .inl (by simp)
              · exact .inr ⟨h1,h2⟩
        · rintro (h1 | ⟨h1,h2⟩)
          · rcases List.mem_append.1 h1 with h1 | h1
            · rcases List.mem_append.1 h1 with h1 | h1
              · exact .inl h1
              · exact .inr ⟨by show z∈l.list ++ x :: r.list;simp [h1],hql z h1⟩
            · obtain rfl:=List.mem_singleton.1 h1
              exact .inr ⟨by show z∈l.list ++ z :: r.list;simp,e⟩
          · exact .inr ⟨by show z∈l.list ++ x :: r.list;simp [h1],h2⟩
def eligA (A:As):List RT:=A.l.filter fun a=>decide (0≤ovA A a)
def firstDue:List RT→Option RT
  | []=>none
  | a :: l=>some (l.foldl (fun a b=>bif due b.1.i a.1.i then b else a) a)
def soonA (A:As):Option RT:=firstDue (eligA A)
def soonId' (o:Option RT):Int:=match o with | none=>0 | some a=>idR a
def MinR (X:List RT):Option RT→Prop
  | none=>X=[]
  | some m=>m∈X∧∀ y∈X,due y.1.i m.1.i=false
theorem first_min {S:RT→Prop} (o:OrdOn (fun x y:RT=>due x.1.i y.1.i) S):∀ {X:List RT},(∀ z∈X,S z)→MinR X (firstDue X)
  | [],_=>rfl
  | a :: l,h=>by
    suffices H:∀ (l:List RT) (a:RT) (Y:List RT),(∀ z∈Y,S z)→(∀ z∈l,S z)→MinR Y (some a)→MinR (Y ++ l) (some (l.foldl (fun a b=>bif due b.1.i a.1.i then b else a) a)) from
      H l a [a] (fun z hz=>h z (by simp at hz;simp [hz])) (fun z hz=>h z (List.mem_cons_of_mem _ hz)) ⟨by simp,fun y hy=>by obtain rfl:=List.mem_singleton.1 hy;exact o.irr y (h y List.mem_cons_self)⟩
    intro l
    induction l with
    | nil=>intro a Y _ _ h;rw [List.append_nil];exact h
    | cons b l ih =>
      intro a Y hY hl h
      rw [List.foldl_cons,show Y ++ b :: l=(Y ++ [b]) ++ l by simp]
      have hb:=hl b List.mem_cons_self
      have ha:=hY a h.1
      refine ih _ _ (fun z hz=>?_) (fun z hz=>hl z (List.mem_cons_of_mem _ hz)) ?_
      · rcases List.mem_append.1 hz with hz | hz
        · exact hY z hz
        · obtain rfl:=List.mem_singleton.1 hz;exact hb
      · cases e:due b.1.i a.1.i
        · refine ⟨by simp [h.1],fun y hy=>?_⟩
          rcases List.mem_append.1 hy with hy | hy
          · exact h.2 y hy
          · obtain rfl:=List.mem_singleton.1 hy;exact e
        · refine ⟨by simp,fun y hy=>?_⟩
          rcases List.mem_append.1 hy with hy | hy
          · show due y.1.i b.1.i=false
            cases k:due y.1.i b.1.i
            · rfl
            · have:=o.tr y b a (hY y hy) hb ha k e
              exact absurd (h.2 y hy) (by rw [show due y.1.i a.1.i=true from this];simp)
          · obtain rfl:=List.mem_singleton.1 hy;exact o.irr y hb
theorem OrdR.inj {l:List RT} (h:OrdR l):∀ x∈l,∀ y∈l,idR x=idR y→x=y:=fun x hx y hy e=>by
  have h1:=findR_at h hx
  rw [e,findR_at h hy] at h1
  exact (Option.some.inj h1).symm
theorem ahead_le {b lo:Int} {x y:It} (hx:Win b lo x) (hy:Win b lo y) (hm:Mid lo) (h:ahead x y=true):leP b x.p y.p:=by
  have d1:=hx.dead hm
  have d2:=hy.dead hm
  have l1:=hx.low
  have l2:=hy.low
  have hc:=cmp_le (cmpP_frac hx.isin.1 hy.isin.1 (iright_all hx.isin hx.right).1 (iright_all hy.isin hy.right).1 (b:=b) (by unfold Near;unfold Mid at hm;omega))
  unfold ahead at h
  simp only [Bool.or_eq_true,Bool.and_eq_true,decide_eq_true_eq] at h
  rcases h with h | h
  · have:=hc.1.1 h;unfold leP at *;omega
  · exact (hc.2.1 h.1).1
theorem elig_ahead {m:Mn} {l:List It} (h:Cen m l) {x y:It} (hx:x∈l) (hy:y∈l) (ha:ahead x y=true) (he:elig m y.p=true):elig m x.p=true:=by
  obtain ⟨lo,k⟩:=h.all
  have wx:=k.2.2 x hx
  have wy:=k.2.2 y hy
  have hl:=ahead_le wx wy k.1 ha
  unfold elig at he ⊢
  rw [(over_ok h hx).1]
  rw [(over_ok h hy).1] at he
  simp only [Option.isSome_some,Option.getD_some,Bool.true_and,decide_eq_true_eq] at he ⊢
  have p1:=(iright_all wx.isin wx.right).2.2.2.2.2.2.1
  have p2:=(iright_all wy.isin wy.right).2.2.2.2.2.2.1
  have a0:=h.a0
  have a1:=h.a1
  have:=fr_trans (p:=x.p.w) (q:=y.p.w) (r:=m.w) (by omega) (by omega) (by omega) hl (show dist y.p m.b*m.w≤m.a*y.p.w by unfold ovL at he;omega)
  unfold ovL;omega
def soonI (A:As):It:=match soonA A with | none => .zero | some a=>a.1.i
theorem Rep.soon {s:Ss} {A:As} (h:Rep s A):IB.valO (soonQ s.q)=soonI A∧(soonQ s.q).isSome=(soonA A).isSome:=by
  obtain ⟨lo,hW⟩:=h.q.win
  have hwin:=plain_win hW
  have o1:OrdOn (fun x y:IT=>due x.1 y.1) (·∈s.q.t.list):=dueT hwin hW.1 h.q.inj
  have hin:∀ a:RT,a∈A.l→itR a∈s.q.t.list:=fun a ha=>h.p.mem_iff.2 (List.mem_map_of_mem ha)
  have o2:OrdOn (fun x y:RT=>due x.1.i y.1.i) (·∈A.l):=⟨fun a ha=>o1.irr (itR a) (hin a ha),fun a b c ha hb hc=>o1.tr (itR a) (itR b) (itR c) (hin a ha) (hin b hb) (hin c hc),fun a b ha hb k1 k2=>by
    have:=o1.tri (itR a) (itR b) (hin a ha) (hin b hb) k1 k2
    exact h.o.inj a ha b hb (congrArg (fun z:IT=>z.1.id) this)⟩
  have hmono:s.q.t.list.Pairwise (fun a b=>elig s.q.m b.1.p=true→elig s.q.m a.1.p=true):=by
    by_cases e:s.q.t.list=[]
    · rw [e];exact List.Pairwise.nil
    · refine List.Pairwise.imp_of_mem (fun {a b} ha hb hab=>?_) h.q.srt
      exact elig_ahead (h.q.cen e) (List.mem_map_of_mem ha) (List.mem_map_of_mem hb) hab
  have hE:∀ a∈A.l,elig s.q.m a.1.i.p=decide (0≤ovA A a):=fun a ha=>by
    unfold elig
    rw [(h.over ha).1];rfl
  have hm:MinOf ((eligA A).map itR) (soonQ s.q):=fold_min (X:=[]) o1 (fun z hz=>hz) (fun z hz=>by cases hz) rfl hmono fun z=>by
    rw [List.mem_map]
    constructor
    · rintro ⟨a,ha,rfl⟩
      obtain ⟨h1,h2⟩:=List.mem_filter.1 ha
      exact .inr ⟨hin a h1,by show elig s.q.m a.1.i.p=true;rw [hE a h1];exact h2⟩
    · rintro (h1 | ⟨h1,h2⟩)
      · cases h1
      · obtain ⟨a,ha,rfl⟩:=List.mem_map.1 (h.p.mem_iff.1 h1)
        exact ⟨a,List.mem_filter.2 ⟨ha,by rw [← hE a ha];exact h2⟩,rfl⟩
  have hr:MinR (eligA A) (soonA A):=first_min o2 fun z hz=>(List.mem_filter.1 hz).1
  cases e1:soonQ s.q with
  | none =>
    rw [e1] at hm
    have:eligA A=[]:=List.map_eq_nil_iff.1 hm
    unfold soonI soonA
    rw [this];exact ⟨rfl,rfl⟩
  | some m =>
    rw [e1] at hm
    obtain ⟨h1,h2⟩:=hm
    obtain ⟨a,ha,rfl⟩:=List.mem_map.1 h1
    cases e2:soonA A with
    | none=>rw [e2] at hr;rw [show eligA A=[] from hr] at ha;cases ha
    | some b =>
      rw [e2] at hr
      obtain ⟨h3,h4⟩:=hr
      have:a=b:=o2.tri a b (List.mem_filter.1 ha).1 (List.mem_filter.1 h3).1 (h4 a ha) (h2 (itR b) (List.mem_map_of_mem h3))
      subst this
      unfold soonI
      rw [e2];exact ⟨rfl,rfl⟩
theorem Rep.soonId {s:Ss} {A:As} (h:Rep s A):Go.Proofs.YtalffooghioekaaGreatDoorX.soonId s.q=soonId' (soonA A):=by
  unfold Go.Proofs.YtalffooghioekaaGreatDoorX.soonId
  rw [h.soon.1]
  unfold soonI
  cases soonA A <;> rfl
end Go.Proofs.YtalffooghioekaaGreatDoorX

namespace Go.Proofs.YtalffooghioekaaGreatDoorX
open Go Go.RowKit Go.Maps Go.Shelf
open IB (IT ITsAt flatT)
attribute [local irreducible] XS XC XA thenE blockE retE loopE loopS cutB cutN doneE SE
theorem mcloneI_ret (b c:Nat) (f:Int→Option Value) (w0:World) (h:MapAt w0 b f c):Ret Tryz.prog 189 #[.map (some b)] w0 fun v w'=>(∃ mb,v = .map (some mb)∧MapAt w' mb f c∧w0.heap.size≤mb)∧Only [] w0 w':=by
  obtain ⟨D,h1,h2⟩:=h
  exact ret_of_calls (by kernel_rfl) ((AnyW.maps_Clone_owns Tryz.cloneI 3 hld b c D w0 h1).mono fun e w' ⟨he,k1,k2,k3⟩=>⟨_,he,⟨_,rfl,⟨D,k1,h2⟩,Nat.le_refl _⟩,Only.of_below k3⟩)
theorem mcloneR_ret (b c:Nat) (f:Int→Option Value) (w0:World) (h:MapAt w0 b f c):Ret Tryz.prog 159 #[.map (some b)] w0 fun v w'=>(∃ mb,v = .map (some mb)∧MapAt w' mb f c∧w0.heap.size≤mb)∧Only [] w0 w':=by
  obtain ⟨D,h1,h2⟩:=h
  exact ret_of_calls (by kernel_rfl) ((AnyW.maps_Clone_owns Tryz.cloneR 3 hld b c D w0 h1).mono fun e w' ⟨he,k1,k2,k3⟩=>⟨_,he,⟨_,rfl,⟨D,k1,h2⟩,Nat.le_refl _⟩,Only.of_below k3⟩)
set_option maxHeartbeats 4000000 in
theorem qclone_ret (qb:Nat) (s:Qs) (F:List Nat) (w0:World) (h:QAt w0 qb s F) :
    Ret Tryz.prog 158 #[.pointer (some ⟨qb,0,none⟩)] w0 fun v w'=>(∃ q' F',v = .pointer (some ⟨q',0,none⟩)∧QAt w' q' s F'∧∀ k∈F',w0.heap.size≤k)∧Only [] w0 w':=by
  obtain ⟨tb,mb,Ft,rfl,h1,h2,h3,h4,h5⟩:=h
  have hs:=(St.nil w0).track h1 (by simp)
  refine ret_of_xc Tryz.func158 (by kernel_rfl) rfl Tryz.ntmps158 rfl rfl rfl ?_
  repeat' (first|refine vs (k:=?_)|refine qRg ?_|refine Nx.h ?_|refine qCf ?_|fail)
  refine dr [] hs (k:=?_);intro hX w hs
  refine tk 0 hX (k:=?_)
  refine tk 1 hX (k:=?_)
  refine tk 2 hX (k:=?_)
  refine tk 3 hX (k:=?_)
  refine tk 4 hX (k:=?_)
  refine tk 5 hX (k:=?_)
  refine tk 6 hX (k:=?_)
  refine tk 7 hX (k:=?_)
  refine tk 9 hX (k:=?_)
  refine tk 10 hX (k:=?_)
  refine tk 11 hX (k:=?_)
  refine tk 12 hX (k:=?_)
  refine tk 14 hX (k:=?_)
  refine tk 15 hX (k:=?_)
  refine tk 16 hX (k:=?_)
  refine tk 17 hX (k:=?_)
  refine dt 8 hX (k:=?_)
  have ho:=hs.onlyF [] (by simp [h1]) (by simp [D0])
  (with_reducible apply xs_call);exact rfl;exact rfl;exact IB.dclone_ret tb s.t Ft _ (h3.only ho)
  rintro v w1 ⟨⟨t',Ft',rfl,k3,hF⟩,ho1⟩;replace hs:=hs.call0 ho1;repeat' (first|refine Nx.h ?_|fail)
  have n1:=ho.size
  refine dn (k:=?_)
  refine dt 13 hX (k:=?_)
  have ho2:=hs.onlyF [] (by simp [h1]) (by simp [D0])
  (with_reducible apply xs_call);exact rfl;exact rfl;exact mcloneI_ret mb s.n _ _ (h2.keep ho2 (by simp))
  rintro v w2 ⟨⟨m',rfl,k2,hm⟩,ho3⟩;replace hs:=hs.call0 ho3
  have n2:=ho2.size
  have l3:=k3.lt
  have hoA:=hs.onlyF [] (by simp [h1]) (by simp [D0])
  have kq:=hs.get At.head
  have n3:=hoA.size
  have n4:=ho3.size
  clear hs
  have hs:=(St.nil w2).track kq (by simp)
  repeat' (first|refine Nx.h ?_|fail)
  refine dn (k:=?_)
  refine tk 18 hX (k:=?_)
  refine dt 19 hX (k:=?_)
  repeat' (first|(refine bx hs (k:=?_);intro b w hz hs)|refine Nx.h ?_|fail)
  have n5:=hs.new _ (List.mem_cons_self) rfl
  simp only at n5
  refine dn (k:=?_)
  refine tk 20 hX (k:=?_)
  refine en (k:=?_)
  repeat' (first|refine Nx.h ?_|fail)
  first | refine rt (hq:=?_) | refine rt' (hq:=?_)
  have ho4:=hs.onlyF [] (by simp [kq]) (by simp [D0])
  exact ⟨⟨_,_,rfl,⟨t',m',Ft',rfl,hs.get At.head,k2.keep ho4 (by simp),(k3.only ho3).only ho4,h4,h5⟩,fun k hk=>by
    simp only [List.mem_cons] at hk
    rcases hk with rfl | rfl | hk
    · omega
    · omega
    · have:=hF k hk;omega⟩,hoA.step ho4 (by simp)⟩
set_option maxHeartbeats 4000000 in
theorem sclone_ret (sb:Nat) (s:Ss) (F:List Nat) (w0:World) (h:SAt w0 sb s F) :
    Ret Tryz.prog 114 #[.pointer (some ⟨sb,0,none⟩)] w0 fun v w'=>(∃ s' F',v = .pointer (some ⟨s',0,none⟩)∧SAt w' s' s F'∧∀ k∈F',w0.heap.size≤k)∧Only [] w0 w':=by
  obtain ⟨qb,mb,Fq,rfl,h1,h2,h3,h4,h5⟩:=h
  have hs:=(St.nil w0).track h1 (by simp)
  refine ret_of_xc Tryz.func114 (by kernel_rfl) rfl Tryz.ntmps114 rfl rfl rfl ?_
  repeat' (first|refine vs (k:=?_)|refine qRg ?_|refine Nx.h ?_|refine qCf ?_|fail)
  refine dr [] hs (k:=?_);intro hX w hs
  refine tk 0 hX (k:=?_)
  refine tk 1 hX (k:=?_)
  refine tk 2 hX (k:=?_)
  refine tk 3 hX (k:=?_)
  refine tk 5 hX (k:=?_)
  refine tk 6 hX (k:=?_)
  refine tk 7 hX (k:=?_)
  refine tk 8 hX (k:=?_)
  refine dt 4 hX (k:=?_)
  have ho:=hs.onlyF [] (by simp [h1]) (by simp [D0])
  (with_reducible apply xs_call);exact rfl;exact rfl;exact qclone_ret qb s.q Fq _ (h3.only ho)
  rintro v w1 ⟨⟨q',Fq',rfl,k3,hF⟩,ho1⟩;replace hs:=hs.call0 ho1;repeat' (first|refine Nx.h ?_|fail)
  have n1:=ho.size
  refine dn (k:=?_)
  refine dt 9 hX (k:=?_)
  have ho2:=hs.onlyF [] (by simp [h1]) (by simp [D0])
  (with_reducible apply xs_call);exact rfl;exact rfl;exact mcloneR_ret mb s.l.length _ _ (h2.keep ho2 (by simp))
  rintro v w2 ⟨⟨m',rfl,k2,hm⟩,ho3⟩;replace hs:=hs.call0 ho3
  have n2:=ho2.size
  have l3:=k3.lt
  have hoA:=hs.onlyF [] (by simp [h1]) (by simp [D0])
  have kq:=hs.get At.head
  have n3:=hoA.size
  have n4:=ho3.size
  clear hs
  have hs:=(St.nil w2).track kq (by simp)
  repeat' (first|refine Nx.h ?_|fail)
  refine dn (k:=?_)
  refine tk 10 hX (k:=?_)
  refine dt 11 hX (k:=?_)
  repeat' (first|(refine bx hs (k:=?_);intro b w hz hs)|refine Nx.h ?_|fail)
  have n5:=hs.new _ (List.mem_cons_self) rfl
  simp only at n5
  refine dn (k:=?_)
  refine tk 12 hX (k:=?_)
  refine en (k:=?_)
  repeat' (first|refine Nx.h ?_|fail)
  first | refine rt (hq:=?_) | refine rt' (hq:=?_)
  have ho4:=hs.onlyF [] (by simp [kq]) (by simp [D0])
  exact ⟨⟨_,_,rfl,⟨q',m',Fq',rfl,hs.get At.head,k2.keep ho4 (by simp),(k3.only ho3).only ho4,fun hm'=>by have:=l3 _ hm';omega,h5⟩,fun k hk=>by
    simp only [List.mem_cons] at hk
    rcases hk with rfl | rfl | hk
    · omega
    · omega
    · have:=hF k hk;omega⟩,hoA.step ho4 (by simp)⟩
end Go.Proofs.YtalffooghioekaaGreatDoorX

namespace Go.Proofs.YtalffooghioekaaGreatDoorX
open Go Go.RowKit
open IB (IT ITsAt flatT)
attribute [local irreducible] XS XC XA thenE blockE retE loopE loopS cutB cutN doneE SE
def SetAt (w:World) (sb:Nat) (A:As) (F:List Nat):Prop:=∃ s,SAt w sb s F∧Rep s A
theorem SetAt.keepD {w w':World} {sb:Nat} {A:As} {F G:List Nat} (h:SetAt w sb A F) (ho:Only G w w') (hd:∀ k∈F,k∉G):SetAt w' sb A F:=by obtain ⟨s,h1,h2⟩:=h;exact ⟨s,h1.keepD ho hd,h2⟩
theorem SetAt.only {w w':World} {sb:Nat} {A:As} {F:List Nat} (h:SetAt w sb A F) (ho:Only [] w w'):SetAt w' sb A F:=h.keepD ho (by simp)
theorem SetAt.lt {w:World} {sb:Nat} {A:As} {F:List Nat} (h:SetAt w sb A F):∀ k∈F,k < w.heap.size:=by obtain ⟨s,h1,h2⟩:=h;exact h1.lt
theorem SetAt.not {w:World} {sb:Nat} {A:As} {F:List Nat} (h:SetAt w sb A F) {b:Nat} {cs:Array Value} {ty:Nat} {fz:Nat × Nat} (hb:w.heap[b]?=some (.cells cs ty fz)) (ho:okS (.cells cs ty fz)=true):b∉F:=by obtain ⟨s,h1,h2⟩:=h;exact h1.not hb ho
def QuAt (w:World) (qb:Nat) (A:As):Prop:=∃ s F,QAt w qb s.q F∧Rep s A
theorem QuAt.only {w w':World} {qb:Nat} {A:As} (h:QuAt w qb A) (ho:Only [] w w'):QuAt w' qb A:=by obtain ⟨s,F,h1,h2⟩:=h;exact ⟨s,F,h1.only ho,h2⟩
theorem SetAt.opn {w:World} {sb:Nat} {A:As} {F:List Nat} (h:SetAt w sb A F):∃ qb mb,w.heap[sb]?=some (setO qb mb)∧QuAt w qb A:=by
  obtain ⟨s,⟨qb,mb,Fq,rfl,h1,h2,h3,h4⟩,hr⟩:=h
  exact ⟨qb,mb,h1,s,Fq,h3,hr⟩
theorem SetAt.rep {w:World} {sb:Nat} {A:As} {F:List Nat} (h:SetAt w sb A F):∃ s,Rep s A:=by obtain ⟨s,h1,h2⟩:=h;exact ⟨s,h2⟩
theorem Rep.small {s:Ss} {A:As} (h:Rep s A):s.l.length < 1000000∧s.q.t.list.length+1≤1000000∧s.q.n < 1000000∧A.l.length≤1000000:=by
  have:=h.le
  have:=h.len
  have:=h.q.n
  rw [h.l];omega
def Left (w0:World) (sb:Nat) (A:As) (F:List Nat) (w':World):Prop:=∃ F',SetAt w' sb A F'∧(∀ k∈F',k∈F∨w0.heap.size≤k)∧Only F w0 w'
theorem anew_ret (c:Int) (hc:U64 c) (w0:World):Ret Tryz.prog 112 #[.int .u64 c] w0 fun v w'=>(∃ sb F,v = .pointer (some ⟨sb,0,none⟩)∧SetAt w' sb ⟨[],c⟩ F∧∀ k∈F,w0.heap.size≤k)∧Only [] w0 w' :=
  (snew_ret c hc w0).mono fun v w' ⟨⟨sb,F,h1,h2,h3⟩,ho⟩=>⟨⟨sb,F,h1,⟨_,h2,Rep.new c⟩,h3⟩,ho⟩
theorem aenter_ret (sb:Nat) (A:As) (F:List Nat) (r:RT) (w0:World) (h:SetAt w0 sb A F):Ret Tryz.prog 168 #[.pointer (some ⟨sb,0,none⟩),rv r.1] w0 fun v w'=>v = .int .i64 (entE A r)∧Left w0 sb (entA A r) F w':=by
  obtain ⟨s,h1,h2⟩:=h
  obtain ⟨k1,k2⟩:=h2.enter r
  rw [← k1]
  exact (enter_ret sb s F r w0 h1 h2.small.1 h2.small.2.1 h2.small.2.2.1).mono fun v w' ⟨e,F',a,b⟩=>⟨e,F',⟨_,a,k2⟩,b⟩
theorem aput_ret (sb:Nat) (A:As) (F:List Nat) (r:RT) (w0:World) (h:SetAt w0 sb A F):Ret Tryz.prog 142 #[.pointer (some ⟨sb,0,none⟩),rv r.1] w0 fun v w'=>v = .int .i64 (putE A r)∧Left w0 sb (putA A r) F w':=by
  obtain ⟨s,h1,h2⟩:=h
  obtain ⟨k1,k2,k3⟩:=h2.put r
  rw [← k1]
  exact (sput_ret sb s F r w0 h1 h2.small.1 h2.small.2.1 h2.small.2.2.1 k3).mono fun v w' ⟨e,F',a,b⟩=>⟨e,F',⟨_,a,k2⟩,b⟩
theorem areq_ret (sb:Nat) (A:As) (F:List Nat) (id:Int) (w0:World) (h:SetAt w0 sb A F) (hid:In64 id):Ret Tryz.prog 55 #[.pointer (some ⟨sb,0,none⟩),.int .i64 id] w0 fun v w'=>v = .tuple #[rv (getL A.l id),.bool (findR A.l id).isSome]∧Only [] w0 w':=by
  obtain ⟨s,h1,h2⟩:=h
  rw [← h2.l]
  exact req_ret sb s F id w0 h1 hid
theorem aclone_ret (sb:Nat) (A:As) (F:List Nat) (w0:World) (h:SetAt w0 sb A F):Ret Tryz.prog 114 #[.pointer (some ⟨sb,0,none⟩)] w0 fun v w'=>(∃ s' F',v = .pointer (some ⟨s',0,none⟩)∧SetAt w' s' A F'∧∀ k∈F',w0.heap.size≤k)∧Only [] w0 w':=by
  obtain ⟨s,h1,h2⟩:=h
  exact (sclone_ret sb s F w0 h1).mono fun v w' ⟨⟨s',F',e,a,b⟩,ho⟩=>⟨⟨s',F',e,⟨s,a,h2⟩,b⟩,ho⟩
theorem alag_ret (qb:Nat) (A:As) (id:Int) (w0:World) (h:QuAt w0 qb A) (hid:In64 id):Ret Tryz.prog 71 #[.pointer (some ⟨qb,0,none⟩),.int .i64 id] w0 fun v w'=>v = .tuple #[wv (lagA A id),.int .i64 (errN (findR A.l id).isSome)]∧Only [] w0 w':=by
  obtain ⟨s,F,h1,h2⟩:=h
  rw [← h2.lag,← h2.fs]
  exact qlag_ret qb s.q F id w0 h1 hid
theorem anow_ret (qb:Nat) (A:As) (w0:World) (h:QuAt w0 qb A):Ret Tryz.prog 26 #[.pointer (some ⟨qb,0,none⟩)] w0 fun v w'=>v = .int .u64 (nowA A)∧Only [] w0 w':=by
  obtain ⟨s,F,h1,h2⟩:=h
  rw [← h2.now]
  exact qnow_ret qb s.q F w0 h1
theorem alen_ret (qb:Nat) (A:As) (w0:World) (h:QuAt w0 qb A):Ret Tryz.prog 67 #[.pointer (some ⟨qb,0,none⟩)] w0 fun v w'=>v = .int .i64 (A.l.length:Nat)∧Only [] w0 w':=by
  obtain ⟨s,F,h1,h2⟩:=h
  rw [← h2.len]
  exact qlen_ret qb s.q F w0 h1
def MeanFor (A:As) (m:Mn):Prop:=if A.l=[] then m.a=0∧m.w=0∧m.n=0 else m=mA A
theorem Rep.meanFor {s:Ss} {A:As} (h:Rep s A):MeanFor A s.q.m:=by
  unfold MeanFor
  by_cases e:A.l=[]
  · rw [if_pos e];exact h.q.nil (h.nil.2 e)
  · rw [if_neg e];exact h.mean e
def run1 (A:As):Int:=soonId' (soonA (flushA A).2)
theorem asettle_ret (sb:Nat) (A:As) (F:List Nat) (w0:World) (h:SetAt w0 sb A F) :
    Ret Tryz.prog 206 #[.pointer (some ⟨sb,0,none⟩)] w0 fun v w'=>∃ sl,v = .tuple #[sl,.int .i64 (run1 A)]∧(∃ G,SlV w' 197 13 sl (flushA A).1.length (flatG (flushA A).1) G∧∀ k∈G,w0.heap.size≤k)∧Left w0 sb (flushA A).2 F w':=by
  obtain ⟨s,h1,h2⟩:=h
  obtain ⟨s',k1,k2⟩:=h2.flush
  have hl:∀ n B,(flushN n B).1.length≤n:=fun n=>by
    induction n with
    | zero=>intro B;exact Nat.le_refl _
    | succ n ih =>
      intro B
      unfold flushN
      cases B.l.find? (goesA B) with
      | none=>exact Nat.zero_le _
      | some a=>simp only [List.length_cons];have:=ih (extA B (idR a));omega
  have:=h2.small
  have hle:=hl A.l.length A
  unfold run1
  rw [← k2.soonId]
  exact (settle_ret sb s s' (flushA A).1 F w0 h1 (by omega) (by omega) (by show (flushN _ _).1.length≤_;omega) k1).mono fun v w' ⟨sl,e,a,F',b,c⟩=>⟨sl,e,a,F',⟨_,b,k2⟩,c⟩
end Go.Proofs.YtalffooghioekaaGreatDoorX

namespace Go.Proofs.YtalffooghioekaaGreatDoorX
open Go Go.RowKit
section
variable {P : Program} {ops : Array Oper} {QE : Exit → Env → World → Prop} {n : Nat} {rest : List Oper} {env : Env} {w : World} {T : Tab}
  {d:Option Nat} {ty:Nat} {pos:String} {aft:Array Edge} {g:Option (Nat × Bool)}
theorem append_0 {t e:Nat} (ht:P.underlying t=some (.slice e)) {i:TypeInfo} (hi:P.info? e=some i) {size:Nat} {v y:Value} {k:Nat} {xs ys:List Value} {G Gy:List Nat} (hO:SlV w e size v k xs G) (hY:SlV w e size y 0 ys Gy):(Builtin.append_ #[t,t] ty #[v,y]).run P w = .ok v w:=by
  rcases hY with ⟨rfl,-⟩ | ⟨b,c,cur,rfl,-⟩ <;> rcases hO with ⟨rfl,-⟩ | ⟨b',c',cur',rfl,-,hn,-⟩
  · simp [Builtin.append_,run_underlying ht,sizeOf,typeInfo,hi,Builtin.lenOf,Builtin.firstCells]
  · simp [Builtin.append_,run_underlying ht,sizeOf,typeInfo,hi,Builtin.lenOf,Builtin.firstCells,hn,storeCells]
  · simp [Builtin.append_,run_underlying ht,sizeOf,typeInfo,hi,Builtin.lenOf,Builtin.firstCells,loadCells,loadCellsFrom,Result.andThen]
  · simp [Builtin.append_,run_underlying ht,sizeOf,typeInfo,hi,Builtin.lenOf,Builtin.firstCells,loadCells,loadCellsFrom,Result.andThen,hn,storeCells]
theorem xs_appendL (hT:TabOk P T) {t e size bytes:Nat} {zs:List Value} {x y:Operand} {v u:Value} {k c:Nat} {xs ys:List Value} {G Gy:List Nat} (hw:wantedE ops env g=true) (hsl:look t T.sls=some (e,size,bytes)) (hz:look e T.zs=some zs) (hzl:Nat.beq zs.length size=true)
    (hx:ev env x=v) (hy:ev env y=u) (h1:∀ u∈ys,u.oneCell'=true) (hO:SlV w e size v k xs G) (hY:SlV w e size u c ys Gy)
    (hk:(k+c)*bytes≤140737488355328) (hk':k+c≤9223372036854775807) (kk:∀ v' w',(∃ G',SlV w' e size v' (k+c) (xs ++ ys) G'∧∀ i∈G',i∈G∨w.heap.size≤i)→Only G w w'→XS P ops QE n rest (updO env d v') w') :
    XS P ops QE n (⟨d,.call { callee := .builtin .append,args:=#[x,y],argTypes:=#[t,t] },ty,pos,aft,g⟩ :: rest) env w:=by
  by_cases h0:c=0
  · subst h0
    obtain ⟨hu,i,hi,hs1,hs2⟩:=sl_parts (hT.sl hsl)
    have hr:=append_0 (ty:=ty) hu hi hO hY
    have e:ys=[]:=by
      rcases hY with ⟨_,_,h,_⟩ | ⟨_,_,_,_,_,_,_,h,_⟩
      · exact h
      · exact List.eq_nil_of_length_eq_zero (by rw [h,Nat.zero_mul])
    refine XS.value hw (v:=v) (w':=w) ?_ (kk v w ⟨G,by rw [e,List.append_nil];exact hO,fun i hi => .inl hi⟩ (Only.refl _ _))
    simp [execOp,resolve,Sem.run_bind,invoke,builtin,hx,hy,hr]
  · rcases hY with ⟨_,h,_⟩ | ⟨b,cap,cur,rfl,hG,hc,hcl,hl,ht,hb⟩
    · exact absurd h h0
    · refine xs_appendW (c:=c) (m:=cap) (a:=⟨b,0,none⟩) hT hw hsl hz hzl hx hy hl (by omega) (fun j u hj=>?_) h1 hO hk hk' kk
      have:cur[j]?=some u:=by
        rw [← ht,List.getElem?_take] at hj
        split at hj
        · exact hj
        · cases hj
      exact lit_cells hb j u this
end
end Go.Proofs.YtalffooghioekaaGreatDoorX

namespace Go.Proofs.YtalffooghioekaaGreatDoorX
open Go Go.RowKit
attribute [local irreducible] XS XC XA thenE blockE retE loopE loopS cutB cutN doneE SE
end Go.Proofs.YtalffooghioekaaGreatDoorX

namespace Go.Proofs.YtalffooghioekaaGreatDoorX
open Go Go.RowKit
attribute [local irreducible] XS XC XA thenE blockE retE loopE loopS cutB cutN doneE SE
structure Cs where
  A:As
  run:Int
  carr:Int
abbrev coreO (sb:Nat) (run carr:Int):Obj := .cells #[.pointer (some ⟨sb,0,none⟩),.int .i64 run,.int .i64 (carr / 18446744073709551616),.int .u64 (carr % 18446744073709551616)] 72 (0,0)
def CAt (w:World) (cb:Nat) (c:Cs) (F:List Nat):Prop:=∃ sb Fs,F=cb :: Fs∧w.heap[cb]?=some (coreO sb c.run c.carr)∧SetAt w sb c.A Fs∧InW c.carr∧In64 c.run
theorem coreOk (sb:Nat) (run carr:Int):okS (coreO sb run carr)=true:=by rfl
theorem CAt.nod {w:World} {cb sb:Nat} {r k:Int} {A:As} {Fs:List Nat} (h:w.heap[cb]?=some (coreO sb r k)) (hS:SetAt w sb A Fs):cb∉Fs:=hS.not h (coreOk sb r k)
theorem CAt.keepD {w w':World} {cb:Nat} {c:Cs} {F G:List Nat} (h:CAt w cb c F) (ho:Only G w w') (hd:∀ k∈F,k∉G):CAt w' cb c F:=by
  obtain ⟨sb,Fs,rfl,h1,h2,h3⟩:=h
  exact ⟨sb,Fs,rfl,ho.block h1 (hd cb (by simp)),h2.keepD ho (fun k hk=>hd k (by simp [hk])),h3⟩
theorem CAt.only {w w':World} {cb:Nat} {c:Cs} {F:List Nat} (h:CAt w cb c F) (ho:Only [] w w'):CAt w' cb c F:=h.keepD ho (by simp)
theorem CAt.lt {w:World} {cb:Nat} {c:Cs} {F:List Nat} (h:CAt w cb c F):∀ k∈F,k < w.heap.size:=by
  obtain ⟨sb,Fs,rfl,h1,h2,h3⟩:=h
  intro k hk
  rcases List.mem_cons.1 hk with rfl | hk
  · exact lt_of_block h1
  · exact h2.lt k hk
def okC:Obj→Bool
  | .cells cs ty f=>okS (.cells cs ty f) && !(Nat.beq ty 72)
  | _=>false
theorem CAt.not {w:World} {cb:Nat} {c:Cs} {F:List Nat} (h:CAt w cb c F) {b:Nat} {cs:Array Value} {ty:Nat} {fz:Nat × Nat} (hb:w.heap[b]?=some (.cells cs ty fz)) (ho:okC (.cells cs ty fz)=true):b∉F:=fun hm=>by
  obtain ⟨sb,Fs,rfl,h1,h2,h3⟩:=h
  simp only [okC,Bool.and_eq_true,Bool.not_eq_true'] at ho
  rcases List.mem_cons.1 hm with rfl | hm
  · exact blocks_ne hb h1 (fun e=>by rw [e] at ho;exact absurd ho.2 (by decide)) rfl
  · exact h2.not hb ho.1 hm
theorem CAt.rep {w:World} {cb:Nat} {c:Cs} {F:List Nat} (h:CAt w cb c F):(∃ s,Rep s c.A)∧InW c.carr:=by
  obtain ⟨sb,Fs,rfl,h1,h2,h3⟩:=h
  exact ⟨h2.rep,h3.1⟩
def newC (clock:Int):Cs:=⟨⟨[],clock⟩,0,0⟩
theorem cnew_ret (clock:Int) (hc:U64 clock) (w0:World):Ret Tryz.prog 60 #[.int .u64 clock] w0 fun v w'=>(∃ cb F,v = .pointer (some ⟨cb,0,none⟩)∧CAt w' cb (newC clock) F∧∀ k∈F,w0.heap.size≤k)∧Only [] w0 w':=by
  have hs:=St.nil w0
  refine ret_of_xc Tryz.func60 (by kernel_rfl) rfl Tryz.ntmps60 rfl rfl rfl ?_
  repeat' (first|refine vs (k:=?_)|refine qRg ?_|refine Nx.h ?_|fail)
  (with_reducible apply xs_call);exact rfl;exact rfl;exact anew_ret clock hc _
  rintro v w1 ⟨⟨sb,F,rfl,h1,h2⟩,ho1⟩;replace hs:=hs.call0 ho1
  have hoA:=hs.only0 rfl
  have hz:=hoA.size
  have hl:=h1.lt
  clear hs
  have hs:=St.nil w1
  repeat' (first|refine vs (k:=?_)|(refine bx hs (k:=?_);intro b w hz hs)|refine Nx.h ?_|fail)
  have hb:=hs.new _ List.mem_cons_self rfl
  simp only at hb
  first | refine rt (hq:=?_) | refine rt' (hq:=?_)
  have ho2:=hs.only0 rfl
  exact ⟨⟨_,_,rfl,⟨sb,F,rfl,hs.get At.head,h1.only ho2,inW0,in640⟩,fun k hk=>by
    rcases List.mem_cons.1 hk with rfl | hk
    · omega
    · have:=h2 k hk;omega⟩,hoA.trans ho2⟩
set_option maxHeartbeats 4000000 in
theorem cclone_ret (cb:Nat) (c:Cs) (F:List Nat) (w0:World) (h:CAt w0 cb c F):Ret Tryz.prog 63 #[.pointer (some ⟨cb,0,none⟩)] w0 fun v w'=>(∃ cb' F',v = .pointer (some ⟨cb',0,none⟩)∧CAt w' cb' c F'∧∀ k∈F',w0.heap.size≤k)∧Only [] w0 w':=by
  obtain ⟨sb,Fs,rfl,h1,h2,h3,h4⟩:=h
  have hs:=(St.nil w0).track h1 (by simp)
  refine ret_of_xc Tryz.func63 (by kernel_rfl) rfl Tryz.ntmps63 rfl rfl rfl ?_
  repeat' (first|refine vs (k:=?_)|refine qRg ?_|refine Nx.h ?_|refine qCf ?_|fail)
  refine dr [] hs (k:=?_);intro hX w hs
  refine tk 0 hX (k:=?_)
  refine tk 1 hX (k:=?_)
  refine tk 2 hX (k:=?_)
  refine tk 3 hX (k:=?_)
  refine tk 5 hX (k:=?_)
  refine tk 6 hX (k:=?_)
  refine tk 7 hX (k:=?_)
  refine tk 8 hX (k:=?_)
  refine tk 9 hX (k:=?_)
  refine tk 10 hX (k:=?_)
  refine tk 11 hX (k:=?_)
  refine tk 12 hX (k:=?_)
  refine dt 4 hX (k:=?_)
  have ho:=hs.onlyF [] (by simp [h1]) (by simp [D0])
  (with_reducible apply xs_call);exact rfl;exact rfl;exact aclone_ret sb c.A Fs _ (h2.only ho)
  rintro v w1 ⟨⟨s',Fs',rfl,k3,hF⟩,ho1⟩;replace hs:=hs.call0 ho1
  have n1:=ho.size
  have l3:=k3.lt
  have hoA:=hs.onlyF [] (by simp [h1]) (by simp [D0])
  have kq:=hs.get At.head
  have n3:=hoA.size
  clear hs
  have hs:=(St.nil w1).track kq (by simp)
  repeat' (first|refine Nx.h ?_|fail)
  refine dn (k:=?_)
  refine tk 13 hX (k:=?_)
  refine dt 14 hX (k:=?_)
  repeat' (first|(refine bx hs (k:=?_);intro b w hz hs)|refine Nx.h ?_|fail)
  have n5:=hs.new _ (List.mem_cons_self) rfl
  simp only at n5
  refine dn (k:=?_)
  refine tk 15 hX (k:=?_)
  refine en (k:=?_)
  repeat' (first|refine Nx.h ?_|fail)
  first | refine rt (hq:=?_) | refine rt' (hq:=?_)
  have ho4:=hs.onlyF [] (by simp [kq]) (by simp [D0])
  exact ⟨⟨_,_,rfl,⟨s',Fs',rfl,hs.get At.head,k3.only ho4,h3,h4⟩,fun k hk=>by
    rcases List.mem_cons.1 hk with rfl | hk
    · omega
    · have:=hF k hk;omega⟩,hoA.step ho4 (by simp)⟩
theorem lagof_ret (cb:Nat) (c:Cs) (F:List Nat) (id:Int) (w0:World) (h:CAt w0 cb c F) (hid:In64 id):Ret Tryz.prog 132 #[.pointer (some ⟨cb,0,none⟩),.int .i64 id] w0 fun v w'=>v=wv (lagA c.A id)∧Only [] w0 w':=by
  obtain ⟨sb,Fs,rfl,h1,h2,h3⟩:=h
  obtain ⟨qb,mb,g1,g2⟩:=h2.opn
  have n1:cb≠sb:=blocks_ne h1 g1 (by decide)
  have hs:=((St.nil w0).track g1 (by simp)).track h1 (by simpa using n1)
  refine ret_of_xc Tryz.func132 (by kernel_rfl) rfl Tryz.ntmps132 rfl rfl rfl ?_
  repeat' (first|refine vs (k:=?_)|(refine al hs (k:=?_);intro b w hz hs)|refine qRg ?_|refine Nx.h ?_|fail)
  have ho:=hs.onlyF [] (by simp [h1,g1]) (by simp [D0])
  (with_reducible apply xs_call);exact rfl;exact rfl;exact alag_ret qb c.A id _ (g2.only ho) hid
  rintro v w' ⟨rfl,ho⟩;replace hs:=hs.call0 ho;repeat' (first|refine vs (k:=?_)|(refine stA hs (k:=?_);intro w hs)|(refine al hs (k:=?_);intro b w hz hs)|refine qRg ?_|refine Nx.h ?_|fail)
  first | refine rt (hq:=?_) | refine rt' (hq:=?_)
  exact ⟨rfl,hs.onlyF [] (by simp [h1,g1]) (by simp [D0])⟩
def carryW (x lag:Int):Int:=if InW (x+caF 0 [lag]) then x+caF 0 [lag] else great
theorem caF_in (x:Int) (hx:InW x):InW (caF 0 [x]):=by
  unfold caF caF
  split
  · rename_i h;exact h
  · exact great_in
theorem carryW_in (x lag:Int):InW (carryW x lag):=by
  unfold carryW
  split
  · rename_i h;exact h
  · exact great_in
theorem wat_1 {w:World} {b:Nat} {x:Int} (hb:w.heap[b]?=some (.cells #[.int .i64 (x / 18446744073709551616),.int .u64 (x % 18446744073709551616)] 70 (0,0))):WAt w (.slice (some ⟨b,0,none⟩) 1 1) [x] :=
  ⟨_,1,rfl,fun _=>⟨b,0,_,_,(0,0),rfl,hb,fun i x h=>by
    rcases i with _ | i
    · cases h;exact ⟨rfl,rfl⟩
    · simp at h⟩⟩
theorem csize_min (w0:World):Ret Tryz.prog 179 #[.agg #[.int .i64 (-9223372036854775808),.int .u64 0]] w0 fun v w'=>v=wv great∧Only [] w0 w':=by
  have h:=csize_ret (-170141183460469231731687303715884105728) (by decide) w0
  rw [show wv (-170141183460469231731687303715884105728) = .agg #[.int .i64 (-9223372036854775808),.int .u64 0] by kernel_rfl,show sizeW (-170141183460469231731687303715884105728)=great by decide] at h
  exact h
set_option maxHeartbeats 4000000 in
theorem carry_ret (cb sb:Nat) (run carr lag:Int) (w0:World) (h:w0.heap[cb]?=some (coreO sb run carr)) (hc':InW carr) (hl:InW lag):Ret Tryz.prog 141 #[.pointer (some ⟨cb,0,none⟩),wv lag] w0 fun v w'=>w'.heap[cb]?=some (coreO sb run (carryW carr lag))∧Only [cb] w0 w':=by
  have hs:=(St.nil w0).track h (by simp)
  refine ret_of_xc Tryz.func141 (by kernel_rfl) rfl Tryz.ntmps141 rfl rfl rfl ?_
  repeat' (first|(refine bx hs (k:=?_);intro b w hz hs)|refine qRg ?_|refine Nx.h ?_|fail)
  refine dr [] hs (k:=?_);intro hX w hs
  refine tk 0 hX (k:=?_)
  refine tk 1 hX (k:=?_)
  refine tk 2 hX (k:=?_)
  refine tk 3 hX (k:=?_)
  refine tk 4 hX (k:=?_)
  refine pd0 11 4 hs (k:=?_);intro f X w hp;have hs:=hp.st
  apply xa_pend 5 11 (f:=f) (X:=X) hX hp;exact rfl;exact rfl;(apply makes_alloc tabOk;exact rfl);kernel_rfl;kernel_rfl;kernel_rfl;kernel_rfl;(intro X Y;(repeat (first | exact pgg_base | refine pgg_step ?_ (by exact rfl))));(intro w' hs;first|exact se_hold hs.hold|exact se_hold hs.hold.tail|exact se_done rfl);intro f X w hp;have hs:=hp.st
  refine bsP hp (k:=?_);intro b5 w5 _ hp;replace hs:=hp.st
  repeat' (first|refine Nx.h ?_|fail)
  refine dn (k:=?_)
  apply xa_pend 6 11 (f:=f) (X:=X) hX hp;exact rfl;exact rfl;(apply makes_alloc tabOk;exact rfl);kernel_rfl;kernel_rfl;kernel_rfl;kernel_rfl;(intro X Y;(repeat (first | exact pgg_base | refine pgg_step ?_ (by exact rfl))));(intro w' hs;first|exact se_hold hs.hold|exact se_hold hs.hold.tail|exact se_done rfl);intro f X w hp;have hs:=hp.st
  (with_reducible apply xs_call);exact rfl;exact rfl;exact carried_ret [lag] _ (fun i x e=>by rcases i with _ | i;cases e;exact hl;simp at e) (by simp) _ (wat_1 (hs.get At.head))
  rintro v w' ⟨rfl,ho⟩;replace hp:=hp.only ho;replace hs:=hp.st;repeat' (first|refine Nx.h ?_|fail)
  refine dn (k:=?_)
  have hca:=caF_in lag hl
  have eC:carryW carr lag=if InW (carr+caF 0 [lag]) then carr+caF 0 [lag] else great:=rfl
  generalize caF 0 [lag]=y at *
  apply xa_pend 7 11 (f:=f) (X:=X) hX hp;exact rfl;exact rfl;(apply makes_alloc tabOk;exact rfl);kernel_rfl;kernel_rfl;kernel_rfl;kernel_rfl;(intro X Y;(repeat (first | exact pgg_base | refine pgg_step ?_ (by exact rfl))));(intro w' hs;first|exact se_hold hs.hold|exact se_hold hs.hold.tail|exact se_done rfl);intro f X w hp;have hs:=hp.st
  (with_reducible apply xs_call);exact rfl;exact rfl;exact add_t carr y hc' hca _
  rintro v w' ⟨rfl,ho⟩;replace hp:=hp.only ho;replace hs:=hp.st;repeat' (first|refine Nx.h ?_|fail)
  refine dn (k:=?_)
  refine tk 8 hX (hc:=by cases f <;> kernel_rfl) (k:=?_)
  refine tk 9 hX (hc:=by cases f <;> kernel_rfl) (k:=?_)
  refine tk 10 hX (hc:=by cases f <;> kernel_rfl) (k:=?_)
  apply xa_pendE 11 (f:=f) (X:=X) hX hp;exact rfl;(apply makes_alloc tabOk;exact rfl);kernel_rfl;kernel_rfl;(intro X Y;(repeat (first | exact pgg_base | refine pgg_step ?_ (by exact rfl))));(intro w' hs;first|exact se_hold hs.hold|exact se_hold hs.hold.tail|exact se_done rfl);intro b w hI hs
  refine dt 12 hX (k:=?_)
  repeat' (first|(refine stA hs (k:=?_);intro w hs)|refine Nx.h ?_|fail)
  refine dn (k:=?_)
  refine tk 13 hX (k:=?_)
  refine en (k:=?_)
  by_cases hi:InW (carr+y)
  · rw [if_pos hi] at eC
    rw [eC,decide_eq_true hi]
    rw [show tot (carr+y)=carr+y from if_pos hi] at hs ⊢
    repeat' (first|refine vs (k:=?_)|(refine stA hs (k:=?_);intro w hs)|refine qRg ?_|refine Nx.h ?_|refine qCf ?_|fail)
    first | refine rt' (vs:=[]) (hr:=resOk_nil) (hq:=?_) | refine rt (vs:=[]) (hr:=resOk_nil) (hq:=?_)
    exact ⟨hs.get (At.tail (At.tail (At.tail At.head))),hs.onlyF [cb] (by simp) (by simp [D0])⟩
  · rw [if_neg hi] at eC
    rw [eC,decide_eq_false hi]
    repeat' (first|refine vs (k:=?_)|refine qRg ?_|refine Nx.h ?_|refine qCt ?_|fail)
    (with_reducible apply xs_call);exact rfl;exact rfl;exact csize_min _
    rintro v w' ⟨rfl,ho⟩;replace hs:=hs.call0 ho;repeat' (first|refine vs (k:=?_)|(refine stA hs (k:=?_);intro w hs)|refine qRg ?_|refine Nx.h ?_|fail)
    first | refine rt' (vs:=[]) (hr:=resOk_nil) (hq:=?_) | refine rt (vs:=[]) (hr:=resOk_nil) (hq:=?_)
    exact ⟨hs.get (At.tail (At.tail (At.tail At.head))),hs.onlyF [cb] (by simp) (by simp [D0])⟩
end Go.Proofs.YtalffooghioekaaGreatDoorX

namespace Go.Proofs.YtalffooghioekaaGreatDoorX
open Go Go.RowKit
attribute [local irreducible] XS XC XA thenE blockE retE loopE loopS cutB cutN doneE SE
structure Pr where
  id:Int
  ns:Int
  done:Bool
deriving DecidableEq
abbrev Pr.cells (p:Pr):List Value:=[.int .i64 p.id,.int .u64 p.ns,.bool p.done]
def flatPr (l:List Pr):List Value:=(l.map Pr.cells).flatten
structure Rp where
  g:List Gn
  p:List Pr
def Rp.none:Rp:=⟨[],[]⟩
abbrev SlG (w:World) (v:Value) (l:List Gn) (G:List Nat):Prop:=SlV w 197 13 v l.length (flatG l) G
abbrev SlP (w:World) (v:Value) (l:List Pr) (G:List Nat):Prop:=SlV w 195 3 v l.length (flatPr l) G
abbrev repO (vg vp:Value):Obj := .cells #[vg,vp] 151 (0,0)
def RpAt (w:World) (rb:Nat) (r:Rp) (F:List Nat):Prop:=∃ vg vp Gg Gp,F=rb :: (Gg ++ Gp)∧w.heap[rb]?=some (repO vg vp)∧SlG w vg r.g Gg∧SlP w vp r.p Gp
theorem slv_ne {w:World} {e k n:Nat} {v:Value} {xs:List Value} {G:List Nat} (h:SlV w e k v n xs G) {b:Nat} {cs:Array Value} {ty:Nat} {fz:Nat × Nat} (hb:w.heap[b]?=some (.cells cs ty fz)) (hne:ty≠e):b∉G:=fun hm=>by
  rcases h with ⟨_,_,_,rfl⟩ | ⟨g,cap,cur,_,rfl,_,_,_,_,hg⟩
  · cases hm
  · obtain rfl:=List.mem_singleton.1 hm
    exact blocks_ne hb hg hne rfl
theorem slv_at {w:World} {e k n:Nat} {v:Value} {xs:List Value} {G:List Nat} (h:SlV w e k v n xs G):∀ b∈G,∃ cs,w.heap[b]?=some (.cells cs e (0,0)):=fun b hb=>by
  rcases h with ⟨_,_,_,rfl⟩ | ⟨g,cap,cur,_,rfl,_,_,_,_,hg⟩
  · cases hb
  · obtain rfl:=List.mem_singleton.1 hb;exact ⟨_,hg⟩
theorem slv_form {w:World} {e k n:Nat} {v:Value} {xs:List Value} {G:List Nat} (h:SlV w e k v n xs G):∃ ad cap,v = .slice ad n cap:=by
  rcases h with ⟨rfl,rfl,_⟩ | ⟨g,cap,cur,rfl,_⟩
  · exact ⟨_,_,rfl⟩
  · exact ⟨_,_,rfl⟩
theorem slv_two {w:World} {e k n e' k' n':Nat} {v v':Value} {xs xs':List Value} {G G':List Nat} (h:SlV w e k v n xs G) (h':SlV w e' k' v' n' xs' G') (hne:e≠e'):∀ b∈G,b∉G':=fun b hb=>by
  obtain ⟨cs,hc⟩:=slv_at h b hb
  exact slv_ne h' hc hne
theorem slv_core {w:World} {e k n:Nat} {v:Value} {xs:List Value} {G:List Nat} (h:SlV w e k v n xs G) {cb:Nat} {c:Cs} {F:List Nat} (hc:CAt w cb c F) (ho:okC (.cells #[] e (0,0))=true):∀ b∈G,b∉F:=fun b hb=>by
  obtain ⟨cs,hb'⟩:=slv_at h b hb
  exact hc.not hb' ho
theorem RpAt.keepD {w w':World} {rb:Nat} {r:Rp} {F G:List Nat} (h:RpAt w rb r F) (ho:Only G w w') (hd:∀ k∈F,k∉G):RpAt w' rb r F:=by
  obtain ⟨vg,vp,Gg,Gp,rfl,h1,h2,h3⟩:=h
  exact ⟨vg,vp,Gg,Gp,rfl,ho.block h1 (hd rb (by simp)),h2.keep ho (fun k hk=>hd k (by simp [hk])),h3.keep ho (fun k hk=>hd k (by simp [hk]))⟩
theorem RpAt.only {w w':World} {rb:Nat} {r:Rp} {F:List Nat} (h:RpAt w rb r F) (ho:Only [] w w'):RpAt w' rb r F:=h.keepD ho (by simp)
theorem RpAt.apart {w:World} {rb:Nat} {r:Rp} {F:List Nat} (h:RpAt w rb r F) {cb:Nat} {c:Cs} {Fc:List Nat} (hc:CAt w cb c Fc):∀ k∈F,k∉Fc:=fun k hk=>by
  obtain ⟨vg,vp,Gg,Gp,rfl,h1,h2,h3⟩:=h
  simp only [List.mem_cons,List.mem_append] at hk
  rcases hk with rfl | hk | hk
  · exact hc.not h1 rfl
  · exact slv_core h2 hc rfl k hk
  · exact slv_core h3 hc rfl k hk
theorem RpAt.lt {w:World} {rb:Nat} {r:Rp} {F:List Nat} (h:RpAt w rb r F):∀ k∈F,k < w.heap.size:=fun k hk=>by
  obtain ⟨vg,vp,Gg,Gp,rfl,h1,h2,h3⟩:=h
  simp only [List.mem_cons,List.mem_append] at hk
  rcases hk with rfl | hk | hk
  · exact lt_of_block h1
  · exact h2.lt k hk
  · exact h3.lt k hk
def carryL (x:Int) (l:List Gn):Int:=l.foldl (fun x g=>carryW x g.lag) x
theorem carryL_in {x:Int} (hx:InW x):∀ {l:List Gn},InW (carryL x l):=fun {l}=>by
  induction l generalizing x with
  | nil=>exact hx
  | cons g l ih=>exact ih (carryW_in _ _)
theorem carryL_snoc (x:Int) (l:List Gn) (g:Gn):carryL x (l ++ [g])=carryW (carryL x l) g.lag:=by unfold carryL;rw [List.foldl_append];rfl
def goneC (c:Cs):List Gn:=(flushA c.A).1
def setC (c:Cs):Cs:=⟨(flushA c.A).2,run1 c.A,carryL c.carr (goneC c)⟩
theorem lagR_in {s:Ss} {A:As} (h:Rep s A) {a:RT} (ha:a∈A.l):InW (lagR A a):=by
  have h1:=h.over ha
  unfold lagR
  have:=(h.cen (List.ne_nil_of_mem ha)).a0
  have:=(h.cen (List.ne_nil_of_mem ha)).a1
  rw [← h1.2.2]
  exact div_in h1.2.1 (by omega)
theorem lagA_in {s:Ss} {A:As} (h:Rep s A) (id:Int):InW (lagA A id):=by
  unfold lagA
  cases e:findR A.l id with
  | none=>exact inW0
  | some a=>exact lagR_in h (findR_some e).1
theorem gone_in:∀ {n:Nat} {s:Ss} {A:As},Rep s A→∀ g∈(flushN n A).1,InW g.lag
  | 0,_,_,_,g,hg=>by cases hg
  | n+1,s,A,h,g,hg=>by
    unfold flushN at hg
    cases e:A.l.find? (goesA A) with
    | none=>rw [e] at hg;cases hg
    | some a =>
      rw [e] at hg
      have ha:=List.mem_of_find?_eq_some e
      rcases List.mem_cons.1 hg with rfl | hg
      · exact lagR_in h ha
      · exact gone_in (h.exit (findR_at h.o ha)).2.2 g hg
theorem gone_len:∀ n B,(flushN n B).1.length≤n
  | 0,B=>Nat.le_refl _
  | n+1,B=>by
    unfold flushN
    cases B.l.find? (goesA B) with
    | none=>exact Nat.zero_le _
    | some a=>simp only [List.length_cons];have:=gone_len n (extA B (idR a));omega
theorem flatG_one (g:Gn):∀ u∈g.cells,u.oneCell'=true:=fun u hu=>by
  simp only [List.mem_cons,List.not_mem_nil,or_false] at hu
  rcases hu with rfl | rfl | rfl | rfl | rfl | rfl | rfl | rfl | rfl | rfl | rfl | rfl | rfl <;> rfl
theorem flatG_cells {l:List Gn}:∀ u∈flatG l,u.oneCell'=true:=fun u hu=>by
  obtain ⟨cs,h1,h2⟩:=List.mem_flatten.1 hu
  obtain ⟨g,_,rfl⟩:=List.mem_map.1 h1
  exact flatG_one g u h2
theorem soonId_in {A:As} {s:Ss} (h:Rep s A):In64 (run1 A):=by
  unfold run1 soonId'
  obtain ⟨s',_,k⟩:=h.flush
  cases soonA (flushA A).2 with
  | none=>exact in640
  | some a=>exact a.2.1.2.1
theorem run1_in {w:World} {cb:Nat} {c:Cs} {F:List Nat} (h:CAt w cb c F):In64 (run1 c.A):=by
  obtain ⟨⟨s,hr⟩,_⟩:=h.rep
  exact soonId_in hr
set_option maxHeartbeats 4000000 in
theorem csettle_ret (cb rb:Nat) (c:Cs) (r:Rp) (F Fr:List Nat) (w0:World) (h:CAt w0 cb c F) (hr:RpAt w0 rb r Fr) (hm:r.g.length≤1000000) :
    Ret Tryz.prog 170 #[.pointer (some ⟨cb,0,none⟩),.pointer (some ⟨rb,0,none⟩)] w0 fun v w'=>∃ F' Fr',CAt w' cb (setC c) F'∧RpAt w' rb ⟨r.g ++ goneC c,r.p⟩ Fr'∧(∀ k∈F',k∈F∨w0.heap.size≤k)∧(∀ k∈Fr',k∈Fr∨w0.heap.size≤k)∧Only (F ++ Fr) w0 w':=by
  have hC:=h
  have hap:=hr.apart h
  have hrl:=hr.lt
  obtain ⟨⟨s,hrep⟩,hcin⟩:=h.rep
  have hrun:=run1_in h
  obtain ⟨sb,Fs,rfl,h1,h2,h3⟩:=h
  have hnod:=CAt.nod h1 h2
  have hs:=(St.nil w0).track h1 (by simp)
  refine ret_of_xc Tryz.func170 (by kernel_rfl) rfl Tryz.ntmps170 rfl rfl rfl ?_
  repeat' (first|refine vs (k:=?_)|refine qRg ?_|refine Nx.h ?_|fail)
  have ho:=hs.onlyF [] (by simp [h1]) (by simp [D0])
  have hz:=ho.size
  (with_reducible apply xs_call);exact rfl;exact rfl;exact asettle_ret sb c.A Fs _ (h2.only ho)
  rintro v w1 ⟨sl,rfl,⟨G,hG,hGn⟩,F1,hS1,hF1,ho1⟩
  have hle:=gone_len c.A.l.length c.A
  have hlen:(goneC c).length≤1000000:=by have:=hrep.le;show (flushN _ _).1.length≤_;omega
  have hgi:∀ g∈goneC c,InW g.lag:=gone_in hrep
  have c1:=ho1.block (hs.get At.head) hnod
  have hoA:Only (cb :: Fs) w0 w1:=(ho.weaken (by simp)).step ho1 (fun k hk => .inl (by simp [hk]))
  have hz1:=ho1.size
  have hr1:=hr.keepD hoA hap
  have hG':SlG w1 sl (goneC c) G:=hG
  have eset:setC c=⟨(flushA c.A).2,run1 c.A,carryL c.carr (goneC c)⟩:=rfl
  generalize hgo:goneC c=go at *
  have hD:LsAt w1 197 13 sl (go.map Gn.cells):=hG'.ls rfl (by simp) (fun x hx=>by obtain ⟨g,_,rfl⟩:=List.mem_map.1 hx;rfl)
  obtain ⟨ad,cap,rfl,hD⟩:=hD
  rw [List.length_map] at *
  clear hs
  have hs:=(St.nil w1).track c1 (by simp)
  repeat' (first|refine vs (k:=?_)|refine qRg ?_|refine Nx.h ?_|fail)
  refine xc_cutB (fun (_:Unit)=>[(0,.pointer (some ⟨cb,0,none⟩)),(1,.pointer (some ⟨rb,0,none⟩)),(4,.slice ad go.length cap),(5,.int .i64 (run1 c.A))]) (fun _ w=>w.heap[cb]?=some (coreO sb c.run (carryL c.carr go))∧Only [cb] w1 w) ?_ ?_
  · refine xc_loopS (fun (i:Nat)=>[(0,.pointer (some ⟨cb,0,none⟩)),(1,.pointer (some ⟨rb,0,none⟩)),(4,.slice ad go.length cap),(5,.int .i64 (run1 c.A)),(16,.slice ad go.length cap),(17,.int .i64 (go.length:Nat)),(18,.int .i64 (i:Nat))])
      (fun i w=>i≤go.length∧w.heap[cb]?=some (coreO sb c.run (carryL c.carr (go.take i)))∧Only [cb] w1 w) (fun i=>go.length - i) 0 (by (repeat (first | exact agree_nil | (apply agree_cons;exact rfl)))) ⟨Nat.zero_le _,hs.get At.head,hs.onlyF [cb] (by simp) (by simp [D0])⟩ fun i env wl ⟨hi,hcb,ho0⟩=>?_
    clear hs
    have hs:=(St.nil wl).track hcb (by simp)
    repeat' (first|refine vs (k:=?_)|refine qRg ?_|refine Nx.h ?_|(refine xc_if rfl (fun hc=>?_) (fun hc=>?_))|fail)
    · have hlt:i < go.length:=by omega
      obtain ⟨b,off,cs,fz,rfl,_,hb,hcs⟩:=hD (fun h=>by have:=congrArg List.length h;rw [List.length_map,List.length_nil] at this;omega)
      have hpk:=hcs i (Gn.cells go[i]) (by rw [List.getElem?_map,List.getElem?_eq_getElem hlt];rfl)
      have ei:=nx64 (m:=go.length) hlt (by omega)
      have et:carryL c.carr (go.take (i+1))=carryW (carryL c.carr (go.take i)) go[i].lag:=by rw [take_next hlt,carryL_snoc]
      have hq:=hgi go[i] (List.getElem_mem hlt)
      have hin:InW (carryL c.carr (go.take i)):=carryL_in hcin
      generalize go[i]=q at *
      have hbl:=ho0.block hb (by simp;exact blocks_ne hb c1 (by decide))
      refine ix (h0:=(by omega)) (h1:=(by omega)) (k:=?_)
      refine lhK hbl hpk (k:=?_)
      repeat' (first|refine vs (k:=?_)|(refine stA hs (k:=?_);intro w hs)|(refine al hs (k:=?_);intro b w hz hs)|refine qRg ?_|refine Nx.h ?_|fail)
      (with_reducible apply xs_call);exact rfl;exact rfl;exact carry_ret cb sb c.run _ q.lag _ (hs.get (At.tail At.head)) hin hq
      rintro v w4 ⟨hc4,ho4⟩
      have hoB:=hs.onlyF [cb] (by simp) (by simp [D0])
      clear hs
      have hs:=St.nil w4
      repeat' (first|refine vs (k:=?_)|refine qRg ?_|refine Nx.h ?_|fail)
      exact loopS_next (i+1) (by show go.length - (i+1) < go.length - i;omega) (by (repeat (first | exact agree_nil | (apply agree_cons;first | exact rfl | exact congrArg (Value.int .i64) ei)))) ⟨by show i+1≤_;omega,by simp only [et];exact (hs.only0 rfl).block hc4 (by simp),((ho0.step hoB (fun k hk => .inl hk)).step ho4 (fun k hk => .inl hk)).step (hs.only0 rfl) (by simp)⟩
    · have e:i=go.length:=by omega
      subst e
      rw [List.take_length] at hcb
      exact cutB_exit () (by (repeat (first | exact agree_nil | (apply agree_cons;exact rfl)))) ⟨hcb,ho0⟩
  · rintro _ env w2 ⟨hcb,ho2⟩
    clear hs
    have hz2:=ho2.size
    have hcl:=lt_of_block c1
    have hcr:∀ k∈Fr,k∉[cb]:=fun k hk hm=>hap k hk (by obtain rfl:=List.mem_singleton.1 hm;exact List.mem_cons_self)
    have hr2:=hr1.keepD ho2 hcr
    have hG2:=hG'.keep ho2 (fun k hk hm=>by obtain rfl:=List.mem_singleton.1 hm;exact slv_ne hG' c1 (by decide) hk)
    have hS2:=hS1.keepD ho2 (fun k hk hm=>by obtain rfl:=List.mem_singleton.1 hm;exact CAt.nod c1 hS1 hk)
    obtain ⟨vg,vp,Gg,Gp,rfl,r1,r2,r3⟩:=hr2
    have hrb:rb≠cb:=blocks_ne r1 hcb (by decide)
    have hs:=((St.nil w2).track hcb (by simp)).track r1 (by simpa using hrb)
    repeat' (first|refine vs (k:=?_)|refine qRg ?_|refine Nx.h ?_|fail)
    refine xs_appendL tabOk rfl rfl rfl rfl rfl rfl flatG_cells r2 hG2 (by omega) (by omega) ?_
    intro v3 w3 ⟨G3,hG3,hG3n⟩ ho3
    obtain ⟨ad3,cp3,rfl⟩:=slv_form hG3
    have n1:=slv_ne r2 hcb (by decide)
    have n2:=slv_ne r2 r1 (by decide)
    have k1:=ho3.block hcb n1
    have k2:=ho3.block r1 n2
    have hP3:=r3.keep ho3 (slv_two r3 r2 (by decide))
    have hz3:=ho3.size
    have hS3:=hS2.keepD ho3 (fun k hk hm=>by
      obtain ⟨cs,hc⟩:=slv_at r2 k hm
      exact hS2.not hc rfl hk)
    clear hs
    have hs:=((St.nil w3).track k1 (by simp)).track k2 (by simpa using hrb)
    repeat' (first|refine vs (k:=?_)|(refine st hs (k:=?_);intro w hs)|refine qRg ?_|refine Nx.h ?_|fail)
    first | refine rt' (vs:=[]) (hr:=resOk_nil) (hq:=?_) | refine rt (vs:=[]) (hr:=resOk_nil) (hq:=?_)
    have ho4:Only [cb,rb] w3 _:=hs.onlyF [cb,rb] (by simp) (by simp [D0])
    have f1:=hs.get At.head
    have f2:=hs.get (At.tail At.head)
    have hG3':SlG w3 (.slice ad3 (r.g.length+go.length) cp3) (r.g ++ go) G3:=by unfold SlG;rw [List.length_append,show flatG (r.g ++ go)=flatG r.g ++ flatG go by simp [flatG]];exact hG3
    have d1:∀ k∈G3,k∉[cb,rb]:=fun k hk hm=>by
      simp only [List.mem_cons,List.not_mem_nil,or_false] at hm
      rcases hm with rfl | rfl
      · exact slv_ne hG3' k1 (by decide) hk
      · exact slv_ne hG3' k2 (by decide) hk
    have d2:∀ k∈Gp,k∉[cb,rb]:=fun k hk hm=>by
      simp only [List.mem_cons,List.not_mem_nil,or_false] at hm
      rcases hm with rfl | rfl
      · exact slv_ne hP3 k1 (by decide) hk
      · exact slv_ne hP3 k2 (by decide) hk
    have d3:∀ k∈F1,k∉[cb,rb]:=fun k hk hm=>by
      simp only [List.mem_cons,List.not_mem_nil,or_false] at hm
      rcases hm with rfl | rfl
      · exact CAt.nod k1 hS3 hk
      · exact hS3.not k2 rfl hk
    have hsz:=hoA.size
    rw [eset]
    refine ⟨cb :: F1,rb :: (G3 ++ Gp),⟨sb,F1,rfl,f2,hS3.keepD ho4 d3,carryL_in hcin,hrun⟩,⟨_,vp,G3,Gp,rfl,f1,hG3'.keep ho4 d1,hP3.keep ho4 d2⟩,fun k hk=>?_,fun k hk=>?_,?_⟩
    · rcases List.mem_cons.1 hk with rfl | hk
      · simp
      · rcases hF1 k hk with h | h
        · simp [h]
        · exact .inr (by omega)
    · simp only [List.mem_cons,List.mem_append] at hk ⊢
      rcases hk with rfl | hk | hk
      · simp
      · rcases hG3n k hk with h | h
        · simp [h]
        · exact .inr (by omega)
      · simp [hk]
    · refine (((hoA.weaken (by simp;intro k hk;simp [hk])).step ho2 (fun k hk => .inl (by simp at hk;simp [hk]))).step ho3 (fun k hk => .inl (by simp [hk]))).step ho4 (fun k hk => .inl (by simp at hk;simp;rcases hk with h | h <;> simp [h]))
end Go.Proofs.YtalffooghioekaaGreatDoorX

namespace Go.Proofs.YtalffooghioekaaGreatDoorX
open Go Go.RowKit
attribute [local irreducible] XS XC XA thenE blockE retE loopE loopS cutB cutN doneE SE
def RvAt (w:World) (v:Value) (r:Rp):Prop:=∃ vg vp Gg Gp,v = .agg #[vg,vp]∧SlG w vg r.g Gg∧SlP w vp r.p Gp
def DoAt (w0 w:World) (fid:Nat) (caps:List Value) (E:List Nat) (Qx:World→Prop) (c:Cs) (e:Int) (c1:Cs) (r1:Rp):Prop :=
  ∀ cb rb F,CAt w cb c F→RpAt w rb .none [rb]→(∀ k∈F,w0.heap.size≤k)→w0.heap.size≤rb →
    Ret Tryz.prog fid (.pointer (some ⟨cb,0,none⟩) :: .pointer (some ⟨rb,0,none⟩) :: caps).toArray w fun v w'=>v = .int .i64 e∧Qx w' ∧
      (e=0→∃ F2 Fr,CAt w' cb c1 F2∧RpAt w' rb r1 Fr∧(∀ k∈F2,k∈F∨w.heap.size≤k)∧(∀ k∈Fr,k=rb∨w.heap.size≤k))∧Only (rb :: F ++ E) w w'
def tryC (c:Cs) (e:Int) (c1:Cs):Cs:=if e=0 then setC c1 else c
def tryR (e:Int) (c1:Cs) (r1:Rp):Rp:=if e=0 then ⟨r1.g ++ goneC c1,r1.p⟩ else .none
set_option maxHeartbeats 8000000 in
theorem try_ret (cb:Nat) (c:Cs) (F:List Nat) (w0:World) (h:CAt w0 cb c F) (fid:Nat) (caps:List Value) (E:List Nat) (Qx:World→Prop) (e:Int) (c1:Cs) (r1:Rp)
    (hQ:∀ w w' G,Qx w→Only G w w'→(∀ k∈E,k∉G)→Qx w') (hE:∀ k∈E,k∉F∧k < w0.heap.size) (hr:r1.g.length≤1000000) (hdo:∀ w,Only [] w0 w→DoAt w0 w fid caps E Qx c e c1 r1) :
    Ret Tryz.prog 130 #[.pointer (some ⟨cb,0,none⟩),.func (.func fid) #[] caps.toArray] w0 fun v w'=>∃ rv,v = .tuple #[rv,.int .i64 e]∧Qx w'∧RvAt w' rv (tryR e c1 r1) ∧
      (∃ F',CAt w' cb (tryC c e c1) F'∧∀ k∈F',k∈F∨w0.heap.size≤k)∧Only (cb :: E) w0 w':=by
  have hC:=h
  obtain ⟨sb,Fs,rfl,h1,h2,h3⟩:=h
  have hs:=(St.nil w0).track h1 (by simp)
  have lcb:=lt_of_block h1
  refine ret_of_xc Tryz.func130 (by kernel_rfl) rfl Tryz.ntmps130 rfl rfl rfl ?_
  refine xc_seq ?_
  refine xc_region ?_ ?_;exact rfl
  refine al hs (k:=?_);intro b4 w hz hs
  have g4:=hs.new (b4,true) (by simp) rfl
  simp only at g4
  repeat' (first|refine vs (k:=?_)|(refine al hs (k:=?_);intro b w hz hs)|refine qRg ?_|refine Nx.h ?_|refine qCf ?_|fail)
  have gb:=hs.new _ List.mem_cons_self rfl
  simp only at gb
  have ho:=hs.onlyF [] (by simp [h1]) (by simp [D0])
  (with_reducible apply xs_call);exact rfl;exact rfl;exact cclone_ret cb c _ _ (hC.only ho)
  rintro v w1 ⟨⟨cb',F',rfl,hC1,hF'⟩,ho1⟩;replace hs:=hs.call0 ho1
  have hz1:=ho.size
  have hoA:=hs.onlyF [] (by simp [h1]) (by simp [D0])
  have k1:=hs.get At.head
  have k2:=hs.get (At.tail At.head)
  have k3:=hs.get (At.tail (At.tail At.head))
  have n4b:b≠b4:=by have:=hs.nd;simp only [List.map_cons,List.nodup_cons,List.mem_cons,not_or] at this;exact this.1.1
  have hF0:∀ k∈F',w0.heap.size≤k:=fun k hk=>by have:=hF' k hk;omega
  clear hs
  have hs:=(((St.nil w1).track k3 (by simp)).track k2 (by simp;omega)).track k1 (by simp [n4b];omega)
  repeat' (first|refine vs (k:=?_)|refine qRg ?_|refine Nx.h ?_|fail)
  have ho2:=hs.onlyF [] (by simp [k1,k2,k3]) (by simp [D0])
  have hC2:=hC1.only ho2
  have kb:=hs.get At.head
  have hR:RpAt _ b .none [b]:=⟨_,_,[],[],rfl,kb,.inl ⟨rfl,rfl,rfl,rfl⟩,.inl ⟨rfl,rfl,rfl,rfl⟩⟩
  have hz2:=hoA.size
  have hz3:=ho2.size
  (with_reducible apply xs_call);exact rfl;exact rfl;exact hdo _ (hoA.trans ho2) cb' b F' hC2 hR hF0 gb
  rintro v w3 ⟨rfl,hX,hres,ho3⟩
  have m1:cb∉b :: F' ++ E:=fun hm=>by
    simp only [List.cons_append,List.mem_cons,List.mem_append] at hm
    rcases hm with rfl | hm | hm
    · omega
    · have:=hF0 cb hm;omega
    · exact (hE cb hm).1 (by simp)
  have m2:b4∉b :: F' ++ E:=fun hm=>by
    simp only [List.cons_append,List.mem_cons,List.mem_append] at hm
    rcases hm with rfl | hm | hm
    · exact n4b rfl
    · exact hC2.not (hs.get (At.tail At.head)) rfl hm
    · have:=(hE b4 hm).2;omega
  have j2:=ho3.block (hs.get (At.tail At.head)) m2
  have j3:=ho3.block (hs.get (At.tail (At.tail At.head))) m1
  have hoB:Only (cb :: E) w0 w3:=((hoA.trans ho2).weaken (by simp)).step ho3 (fun k hk=>by
    simp only [List.cons_append,List.mem_cons,List.mem_append] at hk ⊢
    rcases hk with rfl | hk | hk
    · exact .inr gb
    · exact .inr (hF0 k hk)
    · exact .inl (.inr hk))
  have hzB:=hoB.size
  clear hs
  have hs:=((St.nil w3).track j3 (by simp)).track j2 (by simp;omega)
  by_cases he:e=0
  · subst he
    obtain ⟨F2,Fr,hC3,hR3,hF2,hFr⟩:=hres rfl
    repeat' (first|refine vs (k:=?_)|refine qRg ?_|refine Nx.h ?_|refine qCf ?_|fail)
    have ho4:=hs.onlyF [] (by simp [j2,j3]) (by simp [D0])
    have hC4:=hC3.only ho4
    have hR4:=hR3.only ho4
    have hz4:=ho4.size
    have hF2':∀ k∈F2,w0.heap.size≤k:=fun k hk=>by
      rcases hF2 k hk with h | h
      · exact hF0 k h
      · omega
    have hFr':∀ k∈Fr,w0.heap.size≤k:=fun k hk=>by
      rcases hFr k hk with rfl | h
      · exact gb
      · omega
    have hm4:b4∉F2 ++ Fr:=fun hm=>by
      rcases List.mem_append.1 hm with h | h
      · exact hC4.not (hs.get At.head) rfl h
      · rcases hFr b4 h with h | h
        · exact n4b h.symm
        · have:=lt_of_block k2;omega
    have hmc:cb∉F2 ++ Fr:=fun hm=>by
      rcases List.mem_append.1 hm with h | h
      · have:=hF2' cb h;omega
      · have:=hFr' cb h;omega
    (with_reducible apply xs_call);exact rfl;exact rfl;exact csettle_ret cb' b c1 r1 F2 Fr _ hC4 hR4 hr
    rintro v w5 ⟨F5,Fr5,hC5,hR5,hF5,hFr5,ho5⟩
    have i2:=ho5.block (hs.get At.head) hm4
    have i3:=ho5.block (hs.get (At.tail At.head)) hmc
    have hoC:Only (cb :: E) w0 w5:=(hoB.step ho4 (by simp)).step ho5 (fun k hk=>by
      rcases List.mem_append.1 hk with h | h
      · exact .inr (hF2' k h)
      · exact .inr (hFr' k h))
    have hX5:=hQ _ _ _ (hQ _ _ _ hX ho4 (by simp)) ho5 (fun k hk hm=>by
      have:=(hE k hk).2
      rcases List.mem_append.1 hm with h | h
      · have:=hF2' k h;omega
      · have:=hFr' k h;omega)
    have hF5':∀ k∈F5,w0.heap.size≤k:=fun k hk=>by
      rcases hF5 k hk with h | h
      · exact hF2' k h
      · omega
    have hap:=hR5.apart hC5
    obtain ⟨sb5,Fs5,rfl,q1,q2,q3,q4⟩:=hC5
    obtain ⟨vg,vp,Gg,Gp,rfl,p1,p2,p3⟩:=hR5
    obtain ⟨ag,cg,rfl⟩:=slv_form p2
    obtain ⟨ap,cp,rfl⟩:=slv_form p3
    have e1:b≠cb':=blocks_ne p1 q1 (by decide)
    have e2:b4≠cb':=blocks_ne i2 q1 (by decide)
    have e3:cb≠cb':=by have:=hF5' cb' (by simp);omega
    have e4:b4≠cb:=by omega
    have e5:b≠cb:=by omega
    clear hs
    have hs:=((((St.nil w5).track q1 (by simp)).track i3 (by simpa using e3)).track i2 (by simp [e2,e4])).track p1 (by simp [e1,e5,n4b])
    repeat' (first|refine vs (k:=?_)|(refine stA hs (k:=?_);intro w hs)|refine qRg ?_|refine Nx.h ?_|fail)
    first | refine rt (hq:=?_) | refine rt' (hq:=?_)
    have ho6:Only [cb,b4] w5 _:=hs.onlyF [cb,b4] (by simp [q1,p1]) (by simp [D0])
    have f1:=hs.get (At.tail (At.tail At.head))
    have d1:∀ k∈Gg,k∉[cb,b4]:=fun k hk hm=>by
      simp only [List.mem_cons,List.not_mem_nil,or_false] at hm
      rcases hm with rfl | rfl
      · exact slv_ne p2 i3 (by decide) hk
      · exact slv_ne p2 i2 (by decide) hk
    have d2:∀ k∈Gp,k∉[cb,b4]:=fun k hk hm=>by
      simp only [List.mem_cons,List.not_mem_nil,or_false] at hm
      rcases hm with rfl | rfl
      · exact slv_ne p3 i3 (by decide) hk
      · exact slv_ne p3 i2 (by decide) hk
    have d3:∀ k∈Fs5,k∉[cb,b4]:=fun k hk hm=>by
      simp only [List.mem_cons,List.not_mem_nil,or_false] at hm
      rcases hm with rfl | rfl
      · exact q2.not i3 rfl hk
      · exact q2.not i2 rfl hk
    refine ⟨_,rfl,hQ _ _ _ hX5 ho6 (fun k hk hm=>?_),⟨_,_,Gg,Gp,rfl,p2.keep ho6 d1,p3.keep ho6 d2⟩,⟨cb :: Fs5,⟨sb5,Fs5,rfl,f1,q2.keepD ho6 d3,q3,q4⟩,fun k hk=>?_⟩,hoC.step ho6 (fun k hk=>?_)⟩
    · have:=hE k hk
      simp only [List.mem_cons,List.not_mem_nil,or_false] at hm
      rcases hm with rfl | rfl
      · exact this.1 (by simp)
      · omega
    · rcases List.mem_cons.1 hk with rfl | hk
      · simp
      · exact .inr (hF5' k (by simp [hk]))
    · simp only [List.mem_cons,List.not_mem_nil,or_false] at hk
      rcases hk with rfl | rfl
      · simp
      · exact .inr (by omega)
  · rw [show tryR e c1 r1 = .none from if_neg he,show tryC c e c1=c from if_neg he]
    repeat' (first|refine vs (k:=?_)|(refine stA hs (k:=?_);intro w hs)|refine qRg ?_|refine Nx.h ?_|(refine xc_cond rfl (fun hc=>?_) (fun hc=>?_))|fail)
    · first | refine rt (hq:=?_) | refine rt' (hq:=?_)
      have ho6:Only [b4] w3 _:=hs.onlyF [b4] (by simp [j3]) (by simp [D0])
      refine ⟨_,rfl,hQ _ _ _ hX ho6 (fun k hk hm=>by have:=(hE k hk).2;obtain rfl:=List.mem_singleton.1 hm;omega),⟨_,_,[],[],rfl,.inl ⟨rfl,rfl,rfl,rfl⟩,.inl ⟨rfl,rfl,rfl,rfl⟩⟩,⟨cb :: Fs,?_,fun k hk => .inl hk⟩,hoB.step ho6 (fun k hk => .inr (by obtain rfl:=List.mem_singleton.1 hk;exact g4))⟩
      have hlt:=hC.lt
      refine ((hC.only (hoA.trans ho2)).keepD ho3 (fun k hk hm=>?_)).keepD ho6 (fun k hk hm=>by have:=hlt k hk;obtain rfl:=List.mem_singleton.1 hm;omega)
      have:=hlt k hk
      simp only [List.cons_append,List.mem_cons,List.mem_append] at hm
      rcases hm with rfl | hm | hm
      · omega
      · have:=hF0 k hm;omega
      · exact (hE k hm).1 hk
    · exact absurd (by simpa using hc) he
end Go.Proofs.YtalffooghioekaaGreatDoorX

namespace Go.Proofs.YtalffooghioekaaGreatDoorX
open Go Go.RowKit
attribute [local irreducible] XS XC XA thenE blockE retE loopE loopS cutB cutN doneE SE
def tyNe (ty:Nat):Obj→Bool
  | .cells _ t _=>!(Nat.beq t ty)
  | _=>true
theorem St.trackT {wb w:World} {D:Ctx} {H:List Ent} (h:St wb D H w) {b:Nat} {cs:Array Value} {ty:Nat} {fz:Nat × Nat} (hb:w.heap[b]?=some (.cells cs ty fz)) (hn:(H.all fun e=>tyNe ty e.2.1)=true:=by rfl) (hr:b∉D.ro.map (·.1):=by simp [D0]):St wb D ((b,.cells cs ty fz,false) :: H) w :=
  h.track hb (fun hm=>by
    obtain ⟨e,he,rfl⟩:=List.mem_map.1 hm
    have h1:=List.all_eq_true.1 hn e he
    have h2:=h.at_ e he
    rw [hb] at h2
    rw [← Option.some.inj h2] at h1
    simp [tyNe] at h1) hr
theorem plM_nil {m:Mn} (h1:m.a=0) (h2:m.w=0) (h3:m.n=0) (c q lag:Int):plM m c q lag=plM .zero c q lag:=by
  have r1:m.right=true:=mright_iff.2 (.inl ⟨h3,h2,h1⟩)
  have r2:Mn.zero.right=true:=by decide
  unfold plM
  rw [r1,r2,h3,show Mn.zero.n=0 from rfl,if_pos (rfl:(0:Int)=0),if_pos (rfl:(0:Int)=0)]
theorem SetAt.mean {w:World} {sb:Nat} {A:As} {F:List Nat} (h:SetAt w sb A F):∃ qb mb m tb mb' cq,w.heap[sb]?=some (setO qb mb)∧w.heap[qb]?=some (queueO m tb mb' cq)∧m.In∧QuAt w qb A∧(∀ c q lag,plM m c q lag=plM (mA A) c q lag)∧(A.l≠[]→m=mA A)∧sb∈F∧qb∈F:=by
  obtain ⟨s,⟨qb,mb,Fq,rfl,h1,h2,h3,h4⟩,hr⟩:=h
  have h3':=h3
  obtain ⟨tb,mb',Ft,rfl,k1,k2,k3,k4,k5⟩:=h3
  have hm:=hr.meanFor
  unfold MeanFor at hm
  refine ⟨qb,mb,s.q.m,tb,mb',s.q.c,h1,k1,k4,⟨s,_,h3',hr⟩,fun c q lag=>?_,fun e=>by rwa [if_neg e] at hm,by simp,by simp⟩
  by_cases e:A.l=[]
  · rw [if_pos e] at hm
    rw [plM_nil hm.1 hm.2.1 hm.2.2]
    unfold mA its;rw [e];rfl
  · rw [if_neg e] at hm;rw [hm]
theorem cweight_ret (q:Int) (w0:World):Ret Tryz.prog 138 #[.int .u32 q] w0 fun v w'=>v = .bool (mayW q)∧Only [] w0 w':=by
  have hs:=St.nil w0
  refine ret_of_xc Tryz.func138 (by kernel_rfl) rfl Tryz.ntmps138 rfl rfl rfl ?_
  repeat' (first|refine vs (k:=?_)|refine qRg ?_|refine Nx.h ?_|fail)
  (with_reducible apply xs_call);exact rfl;exact rfl;exact pright_ret ⟨0,0,q⟩ _
  rw [show (⟨0,0,q⟩:Pt).right=mayW q by unfold Pt.right mayW;by_cases h:1≤q <;> simp [h] <;> omega]
  rintro v w' ⟨rfl,ho⟩;replace hs:=hs.call0 ho;repeat' (first|refine vs (k:=?_)|refine Nx.h ?_|fail)
  first | refine rt (hq:=?_) | refine rt' (hq:=?_)
  exact ⟨rfl,hs.only0 rfl⟩
theorem cslice_ret (n:Int) (w0:World):Ret Tryz.prog 144 #[.int .u64 n] w0 fun v w'=>v = .bool (mayN n)∧Only [] w0 w':=by
  have hs:=St.nil w0
  refine ret_of_xc Tryz.func144 (by kernel_rfl) rfl Tryz.ntmps144 rfl rfl rfl ?_
  repeat' (first|refine vs (k:=?_)|refine ps (k:=?_)|refine qRg ?_|refine Nx.h ?_|((with_reducible apply xs_guard);exact rfl;exact rfl;intro c hc;(fail_if_success have:true=c:=hc);(fail_if_success have:false=c:=hc);cases c)|fail)
  all_goals (first | refine rt (hq:=?_) | refine rt' (hq:=?_))
  all_goals refine ⟨?_,hs.only0 rfl⟩
  all_goals clear hs
  · have h1:decide (1≤n)=false:=hc
    unfold mayN;rw [h1];rfl
  · have h1:decide (1≤n)=true:=hc
    unfold mayN;rw [h1];rfl
def toRT (r:Rq):RT:=if h:r.In then ⟨r,h⟩ else ⟨.zero,by decide⟩
theorem toRT_eq {r:Rq} (h:r.In):(toRT r).1=r:=by unfold toRT;rw [dif_pos h]
def placeA (A:As) (q lag:Int):Option Pt:=plM (mA A) (nowA A) q lag
def joinOk (c:Cs) (id q ns lag:Int):Option RT:=(placeA c.A q lag).bind fun p=>(newR p id ns).map toRT
theorem plM_in {m:Mn} {c q lag:Int} {p:Pt} (hc:U64 c) (hq:U32 q) (h:plM m c q lag=some p):p.In:=by
  unfold plM at h
  split at h
  · split at h
    · cases h;exact ⟨hc,(show U32 0 by decide),hq⟩
    · split at h
      · exact (at_some h).1
      · cases h
  · cases h
theorem nowA_in {s:Ss} {A:As} (h:Rep s A) (hc:U64 s.q.c):U64 (nowA A):=by
  rw [← h.now];exact nowQ_in hc
theorem newR_in {p:Pt} {id n:Int} {r:Rq} (hp:p.In) (hi:In64 id) (hn:U64 n) (h:newR p id n=some r):r.In∧r.right=true:=setR_in (⟨⟨hp,hi,(by decide:Pt.zero.In)⟩,hn,hn⟩:Rq.In ⟨⟨p,id,.zero⟩,n,n,false⟩) h
theorem QuAt.nowU {w:World} {qb:Nat} {A:As} (h:QuAt w qb A):U64 (nowA A):=by
  obtain ⟨s,F,⟨tb,mb,Ft,rfl,k1,k2,k3,k4,k5⟩,hr⟩:=h
  exact nowA_in hr k5
def joinC (c:Cs) (id q ns lag:Int):Int × Cs :=
  if id < 1∨mayW q=false∨mayN ns=false then (2,c) else if (findR c.A.l id).isSome then (13,c) else if c.A.l.length=32 then (7,c) else
    match joinOk c id q ns lag with
    | none=>(8,c)
    | some r=>if entE c.A r=0 then (0,⟨entA c.A r,c.run,carryW c.carr (lagA (entA c.A r) id)⟩) else (entE c.A r,c)
set_option maxHeartbeats 8000000 in
theorem join1_ret (b2 b3 b4 b5:Nat) (c:Cs) (id q ns lag:Int) (wb w0:World) (hid:In64 id) (hq:U32 q) (hns:U64 ns) (hlag:In64 lag)
    (B2:w0.heap[b2]?=some (.cells #[.int .i64 id] 3 (0,0))) (B3:w0.heap[b3]?=some (.cells #[.int .u32 q] 49 (0,0))) (B4:w0.heap[b4]?=some (.cells #[.int .u64 ns] 22 (0,0))) (B5:w0.heap[b5]?=some (.cells #[.int .i64 lag] 2 (0,0))) :
    DoAt wb w0 165 [.pointer (some ⟨b2,0,none⟩),.pointer (some ⟨b3,0,none⟩),.pointer (some ⟨b4,0,none⟩),.pointer (some ⟨b5,0,none⟩)] [] (fun _=>True) c (joinC c id q ns lag).1 (joinC c id q ns lag).2 .none:=by
  intro cb rb F hC hR hFn hrb
  have hC0:=hC
  have hR0:=hR
  obtain ⟨sb,Fs,rfl,h1,hS,h3,h4⟩:=hC
  obtain ⟨qb,mb,m,tb,mb',cq,g1,g2,gin,gQ,gpl,gm,_,_⟩:=hS.mean
  have hs:=(((((((St.nil w0).trackT h1).trackT g1).trackT g2).trackT B2).trackT B3).trackT B4).trackT B5
  refine ret_of_xc Tryz.func165 (by kernel_rfl) rfl Tryz.ntmps165 rfl rfl rfl ?_
  repeat' (first|refine vs (k:=?_)|refine qRg ?_|refine Nx.h ?_|fail)
  refine dr [] hs (k:=?_);intro hX w hs
  refine tk 0 hX (k:=?_)
  refine tk 1 hX (k:=?_)
  refine tk 2 hX (k:=?_)
  refine tk 3 hX (k:=?_)
  refine tk 4 hX (k:=?_)
  refine pd0 9 9 hs (k:=?_);intro f X w hp;have hs:=hp.st
  apply xa_pend 5 9 (f:=f) (X:=X) hX hp;exact rfl;exact rfl;(apply makes_alloc tabOk;exact rfl);kernel_rfl;kernel_rfl;kernel_rfl;kernel_rfl;(intro X Y;(repeat (first | exact pgg_base | refine pgg_step ?_ (by exact rfl))));(intro w' hs;first|exact se_hold hs.hold|exact se_hold hs.hold.tail|exact se_done rfl);intro f X w hp;have hs:=hp.st
  have ho:=hs.onlyF [] (by simp [h1,g1,g2,B2,B3,B4,B5]) (by simp [D0])
  (with_reducible apply xs_call);exact rfl;exact rfl;exact areq_ret sb c.A Fs id _ (hS.only ho) hid
  rintro v w' ⟨rfl,ho⟩;replace hp:=hp.only ho;replace hs:=hp.st;repeat' (first|refine Nx.h ?_|fail)
  refine dn (k:=?_)
  refine tk 6 hX (hc:=by cases f <;> kernel_rfl) (k:=?_)
  refine tk 7 hX (hc:=by cases f <;> kernel_rfl) (k:=?_)
  refine tk 8 hX (hc:=by cases f <;> kernel_rfl) (k:=?_)
  apply xa_pendE 9 (f:=f) (X:=X) hX hp;exact rfl;(apply makes_alloc tabOk;exact rfl);kernel_rfl;kernel_rfl;(intro X Y;(repeat (first | exact pgg_base | refine pgg_step ?_ (by exact rfl))));(intro w' hs;first|exact se_hold hs.hold|exact se_hold hs.hold.tail|exact se_done rfl);intro b w hI hs
  refine dt 10 hX (k:=?_)
  repeat' (first|(refine stA hs (k:=?_);intro w hs)|refine Nx.h ?_|fail)
  refine dn (k:=?_)
  refine tk 11 hX (k:=?_)
  refine en (k:=?_)
  repeat' (first|refine Nx.h ?_|fail)
  refine xc_region ?_ ?_;exact rfl
  have eJ:joinC c id q ns lag=if id < 1∨mayW q=false∨mayN ns=false then (2,c) else if (findR c.A.l id).isSome then (13,c) else if c.A.l.length=32 then (7,c) else
    match joinOk c id q ns lag with
    | none=>(8,c)
    | some r=>if entE c.A r=0 then (0,⟨entA c.A r,c.run,carryW c.carr (lagA (entA c.A r) id)⟩) else (entE c.A r,c):=rfl
  generalize joinC c id q ns lag=J at *
  have bad:∀ (n:Int) (w':World),J=(n,c)→n≠0→Only [] w0 w'→Value.int .i64 n = .int .i64 J.1∧True∧(J.1=0→∃ F2 Fr,CAt w' cb J.2 F2∧RpAt w' rb .none Fr∧(∀ k∈F2,k∈cb :: Fs∨w0.heap.size≤k)∧∀ k∈Fr,k=rb∨w0.heap.size≤k)∧Only (rb :: (cb :: Fs) ++ []) w0 w':=fun n w' e hn ho=>by
    subst e;exact ⟨rfl,trivial,fun h=>absurd h hn,ho.weaken (by simp)⟩
  refine vs (k:=?_)
  refine vs (k:=?_)
  by_cases c1:id < 1
  · rw [if_pos (.inl c1)] at eJ
    rw [decide_eq_true c1]
    repeat' (first|refine vs (k:=?_)|refine ps (k:=?_)|refine qRg ?_|refine Nx.h ?_|refine qCt ?_|fail)
    first | refine rt (hq:=?_) | refine rt' (hq:=?_)
    exact bad 2 _ eJ (by decide) (hs.onlyF [] (by simp [h1,g1,g2,B2,B3,B4,B5]) (by simp [D0]))
  rw [decide_eq_false c1]
  repeat' (first|refine vs (k:=?_)|fail)
  (with_reducible apply xs_call);exact rfl;exact rfl;exact cweight_ret q _
  cases c2:mayW q
  · rw [if_pos (.inr (.inl c2))] at eJ
    rintro v w' ⟨rfl,ho⟩;replace hs:=hs.call0 ho;repeat' (first|refine vs (k:=?_)|refine ps (k:=?_)|refine qRg ?_|refine Nx.h ?_|refine qCt ?_|fail)
    first | refine rt (hq:=?_) | refine rt' (hq:=?_)
    exact bad 2 _ eJ (by decide) (hs.onlyF [] (by simp [h1,g1,g2,B2,B3,B4,B5]) (by simp [D0]))
  rintro v w' ⟨rfl,ho⟩;replace hs:=hs.call0 ho;repeat' (first|refine vs (k:=?_)|fail)
  (with_reducible apply xs_call);exact rfl;exact rfl;exact cslice_ret ns _
  cases c3:mayN ns
  · rw [if_pos (.inr (.inr c3))] at eJ
    rintro v w' ⟨rfl,ho⟩;replace hs:=hs.call0 ho;repeat' (first|refine vs (k:=?_)|refine qRg ?_|refine Nx.h ?_|refine qCt ?_|fail)
    first | refine rt (hq:=?_) | refine rt' (hq:=?_)
    exact bad 2 _ eJ (by decide) (hs.onlyF [] (by simp [h1,g1,g2,B2,B3,B4,B5]) (by simp [D0]))
  rw [if_neg (by simp [c1,c2,c3])] at eJ
  rintro v w' ⟨rfl,ho⟩;replace hs:=hs.call0 ho;repeat' (first|refine vs (k:=?_)|refine qRg ?_|refine Nx.h ?_|refine qCf ?_|(refine xc_cond rfl (fun hc=>?_) (fun hc=>?_))|fail)
  · rw [if_pos hc] at eJ
    first | refine rt (hq:=?_) | refine rt' (hq:=?_)
    exact bad 13 _ eJ (by decide) (hs.onlyF [] (by simp [h1,g1,g2,B2,B3,B4,B5]) (by simp [D0]))
  rw [if_neg (by simp [hc])] at eJ
  have ho:=hs.onlyF [] (by simp [h1,g1,g2,B2,B3,B4,B5]) (by simp [D0])
  (with_reducible apply xs_call);exact rfl;exact rfl;exact alen_ret qb c.A _ (gQ.only ho)
  rintro v w' ⟨rfl,ho⟩;replace hs:=hs.call0 ho;repeat' (first|refine vs (k:=?_)|refine qRg ?_|refine Nx.h ?_|(refine xc_if rfl (fun hc=>?_) (fun hc=>?_))|fail)
  · rw [if_pos (by omega)] at eJ
    first | refine rt (hq:=?_) | refine rt' (hq:=?_)
    exact bad 7 _ eJ (by decide) (hs.onlyF [] (by simp [h1,g1,g2,B2,B3,B4,B5]) (by simp [D0]))
  rw [if_neg (by omega)] at eJ
  refine dr [] hs (k:=?_);intro hX w hs
  refine tk 0 hX (k:=?_)
  refine tk 1 hX (k:=?_)
  refine tk 2 hX (k:=?_)
  refine tk 3 hX (k:=?_)
  refine tk 4 hX (k:=?_)
  refine tk 5 hX (k:=?_)
  refine tk 6 hX (k:=?_)
  refine tk 7 hX (k:=?_)
  refine tk 8 hX (k:=?_)
  refine tk 9 hX (k:=?_)
  refine tk 10 hX (k:=?_)
  refine tk 11 hX (k:=?_)
  refine tk 12 hX (k:=?_)
  refine tk 13 hX (k:=?_)
  refine tk 14 hX (k:=?_)
  refine tk 15 hX (k:=?_)
  refine tk 16 hX (k:=?_)
  refine tk 18 hX (k:=?_)
  refine tk 19 hX (k:=?_)
  refine pd0 24 11 hs (k:=?_);intro f X w hp;have hs:=hp.st
  apply xa_pend 17 24 (f:=f) (X:=X) hX hp;exact rfl;exact rfl;(apply makes_alloc tabOk;exact rfl);kernel_rfl;kernel_rfl;kernel_rfl;kernel_rfl;(intro X Y;(repeat (first | exact pgg_base | refine pgg_step ?_ (by exact rfl))));(intro w' hs;first|exact se_hold hs.hold|exact se_hold hs.hold.tail|exact se_done rfl);intro f X w hp;have hs:=hp.st
  have ho:=hs.onlyF [] (by simp [h1,g1,g2,B2,B3,B4,B5]) (by simp [D0])
  (with_reducible apply xs_call);exact rfl;exact rfl;exact anow_ret qb c.A _ (gQ.only ho)
  rintro v w' ⟨rfl,ho⟩;replace hp:=hp.only ho;replace hs:=hp.st;repeat' (first|refine Nx.h ?_|fail)
  refine dn (k:=?_)
  apply xa_pend 20 24 (f:=f) (X:=X) hX hp;exact rfl;exact rfl;(apply makes_alloc tabOk;exact rfl);kernel_rfl;kernel_rfl;kernel_rfl;kernel_rfl;(intro X Y;(repeat (first | exact pgg_base | refine pgg_step ?_ (by exact rfl))));(intro w' hs;first|exact se_hold hs.hold|exact se_hold hs.hold.tail|exact se_done rfl);intro f X w hp;have hs:=hp.st
  have hnow:=gQ.nowU
  have eP:joinOk c id q ns lag=(placeA c.A q lag).bind fun p=>(newR p id ns).map toRT:=rfl
  have hPin:∀ p,placeA c.A q lag=some p→p.In:=fun p h=>plM_in hnow hq h
  (with_reducible apply xs_call);exact rfl;exact rfl;exact place_ret m (nowA c.A) q lag gin hq hlag _
  rw [show plM m (nowA c.A) q lag=placeA c.A q lag from gpl _ _ _]
  generalize placeA c.A q lag=op at *
  cases op with
  | none =>
    rw [show joinOk c id q ns lag=none from eP] at eJ
    rintro v w' ⟨rfl,ho⟩;replace hp:=hp.only ho;replace hs:=hp.st;repeat' (first|refine Nx.h ?_|fail)
    refine dn (k:=?_)
    refine tk 21 hX (hc:=by cases f <;> kernel_rfl) (k:=?_)
    refine tk 22 hX (hc:=by cases f <;> kernel_rfl) (k:=?_)
    refine tk 23 hX (hc:=by cases f <;> kernel_rfl) (k:=?_)
    apply xa_pendE 24 (f:=f) (X:=X) hX hp;exact rfl;(apply makes_alloc tabOk;exact rfl);kernel_rfl;kernel_rfl;(intro X Y;(repeat (first | exact pgg_base | refine pgg_step ?_ (by exact rfl))));(intro w' hs;first|exact se_hold hs.hold|exact se_hold hs.hold.tail|exact se_done rfl);intro b w hI hs
    refine dt 25 hX (k:=?_)
    repeat' (first|(refine stA hs (k:=?_);intro w hs)|refine Nx.h ?_|fail)
    refine dn (k:=?_)
    refine tk 26 hX (k:=?_)
    refine en (k:=?_)
    repeat' (first|refine vs (k:=?_)|refine qRg ?_|refine Nx.h ?_|fail)
    (with_reducible apply xs_call);exact rfl;exact rfl;exact rnew_ret .zero id ns (by decide) hid hns _
    generalize newR .zero id ns=o
    cases o
    · rintro v w' ⟨rfl,ho⟩;replace hs:=hs.call0 ho;repeat' (first|refine vs (k:=?_)|refine ps (k:=?_)|(refine stA hs (k:=?_);intro w hs)|(refine al hs (k:=?_);intro b w hz hs)|refine qRg ?_|refine Nx.h ?_|refine qCt ?_|fail)
      first | refine rt (hq:=?_) | refine rt' (hq:=?_)
      exact bad 8 _ eJ (by decide) (hs.onlyF [] (by simp [h1,g1,g2,B2,B3,B4,B5]) (by simp [D0]))
    · rintro v w' ⟨rfl,ho⟩;replace hs:=hs.call0 ho;repeat' (first|refine vs (k:=?_)|refine ps (k:=?_)|(refine stA hs (k:=?_);intro w hs)|(refine al hs (k:=?_);intro b w hz hs)|refine qRg ?_|refine Nx.h ?_|refine qCt ?_|fail)
      first | refine rt (hq:=?_) | refine rt' (hq:=?_)
      exact bad 8 _ eJ (by decide) (hs.onlyF [] (by simp [h1,g1,g2,B2,B3,B4,B5]) (by simp [D0]))
  | some p =>
    have hpin:=hPin p rfl
    have eP':joinOk c id q ns lag=(newR p id ns).map toRT:=eP
    rintro v w' ⟨rfl,ho⟩;replace hp:=hp.only ho;replace hs:=hp.st;repeat' (first|refine Nx.h ?_|fail)
    refine dn (k:=?_)
    refine tk 21 hX (hc:=by cases f <;> kernel_rfl) (k:=?_)
    refine tk 22 hX (hc:=by cases f <;> kernel_rfl) (k:=?_)
    refine tk 23 hX (hc:=by cases f <;> kernel_rfl) (k:=?_)
    apply xa_pendE 24 (f:=f) (X:=X) hX hp;exact rfl;(apply makes_alloc tabOk;exact rfl);kernel_rfl;kernel_rfl;(intro X Y;(repeat (first | exact pgg_base | refine pgg_step ?_ (by exact rfl))));(intro w' hs;first|exact se_hold hs.hold|exact se_hold hs.hold.tail|exact se_done rfl);intro b w hI hs
    refine dt 25 hX (k:=?_)
    repeat' (first|(refine stA hs (k:=?_);intro w hs)|refine Nx.h ?_|fail)
    refine dn (k:=?_)
    refine tk 26 hX (k:=?_)
    refine en (k:=?_)
    repeat' (first|refine vs (k:=?_)|refine qRg ?_|refine Nx.h ?_|fail)
    (with_reducible apply xs_call);exact rfl;exact rfl;exact rnew_ret p id ns hpin hid hns _
    cases hr:newR p id ns with
    | none =>
      rw [hr] at eP'
      rw [show joinOk c id q ns lag=none from eP'] at eJ
      rintro v w' ⟨rfl,ho⟩;replace hs:=hs.call0 ho;repeat' (first|refine vs (k:=?_)|(refine stA hs (k:=?_);intro w hs)|(refine al hs (k:=?_);intro b w hz hs)|refine qRg ?_|refine Nx.h ?_|refine qCt ?_|fail)
      first | refine rt (hq:=?_) | refine rt' (hq:=?_)
      exact bad 8 _ eJ (by decide) (hs.onlyF [] (by simp [h1,g1,g2,B2,B3,B4,B5]) (by simp [D0]))
    | some r =>
      obtain ⟨rin,rrt⟩:=newR_in hpin hid hns hr
      rw [hr] at eP'
      rw [show joinOk c id q ns lag=some ⟨r,rin⟩ by rw [eP'];exact congrArg some (dif_pos rin)] at eJ
      simp only at eJ
      rintro v w' ⟨rfl,ho⟩;replace hs:=hs.call0 ho;repeat' (first|refine vs (k:=?_)|(refine stA hs (k:=?_);intro w hs)|(refine al hs (k:=?_);intro b w hz hs)|refine qRg ?_|refine Nx.h ?_|refine qCf ?_|fail)
      have ho:=hs.onlyF [] (by simp [h1,g1,g2,B2,B3,B4,B5]) (by simp [D0])
      have x1:=hs.get (b:=cb) (o:=coreO sb c.run c.carr) (by repeat (first | exact At.head | (with_reducible apply At.tail)))
      have x2:=hs.get (b:=b) (by repeat (first | exact At.head | (with_reducible apply At.tail)))
      have x3:=hs.get (b:=b2) (by repeat (first | exact At.head | (with_reducible apply At.tail)))
      have hb:=hs.new _ List.mem_cons_self rfl
      simp only at hb
      clear hs
      have hs:=(((St.nil _).trackT x1).trackT x2).trackT x3
      refine dr [] hs (k:=?_);intro hX w hs
      refine tk 0 hX (k:=?_)
      refine tk 1 hX (k:=?_)
      refine tk 2 hX (k:=?_)
      refine tk 3 hX (k:=?_)
      refine tk 4 hX (k:=?_)
      refine dt 5 hX (k:=?_)
      have ho1:=hs.onlyF [] (by simp [x1,x2,x3]) (by simp [D0])
      have hSw:=hS.only (ho.trans ho1)
      (with_reducible apply xs_call);exact rfl;exact rfl;exact aenter_ret sb c.A Fs ⟨r,rin⟩ _ hSw
      rintro v w2 ⟨rfl,F2,hS2,hF2,ho2⟩
      have n1:cb∉Fs:=CAt.nod h1 hS
      have n2:b∉Fs:=hSw.not (hs.get (b:=b) (by repeat (first | exact At.head | (with_reducible apply At.tail)))) rfl
      have n3:b2∉Fs:=hS.not B2 rfl
      have y1:=ho2.block (hs.get (b:=cb) (o:=coreO sb c.run c.carr) (by repeat (first | exact At.head | (with_reducible apply At.tail)))) n1
      have y2:=ho2.block (hs.get (b:=b) (by repeat (first | exact At.head | (with_reducible apply At.tail)))) n2
      have y3:=ho2.block (hs.get (b:=b2) (by repeat (first | exact At.head | (with_reducible apply At.tail)))) n3
      have hoA:Only (rb :: (cb :: Fs) ++ []) w0 w2:=((ho.trans ho1).weaken (by simp)).step ho2 (fun k hk => .inl (by simp [hk]))
      have hz0:=(ho.trans ho1).size
      have hR2:RpAt w2 rb .none [rb]:=(hR.only (ho.trans ho1)).keepD ho2 (fun k hk hm=>by
        obtain rfl:=List.mem_singleton.1 hk
        exact hR0.apart hC0 k (by simp) (by simp [hm]))
      clear hs
      have hs:=(((St.nil w2).trackT y1).trackT y2).trackT y3
      repeat' (first|refine Nx.h ?_|fail)
      refine dn (k:=?_)
      refine tk 6 hX (k:=?_)
      refine en (k:=?_)
      by_cases hE:entE c.A ⟨r,rin⟩=0
      · rw [if_pos hE] at eJ
        rw [hE]
        repeat' (first|refine vs (k:=?_)|refine qRg ?_|refine Nx.h ?_|refine qCf ?_|fail)
        have ho3:=hs.onlyF [] (by simp [y1,y2,y3]) (by simp [D0])
        have hC2:CAt w2 cb ⟨entA c.A ⟨r,rin⟩,c.run,c.carr⟩ (cb :: F2):=⟨sb,F2,rfl,y1,hS2,h3,h4⟩
        (with_reducible apply xs_call);exact rfl;exact rfl;exact lagof_ret cb ⟨entA c.A ⟨r,rin⟩,c.run,c.carr⟩ _ id _ (hC2.only ho3) hid
        rintro v w' ⟨rfl,ho⟩;replace hs:=hs.call0 ho;skip
        have ho4:=hs.onlyF [] (by simp [y1,y2,y3]) (by simp [D0])
        obtain ⟨s2,hrep2⟩:=hS2.rep
        have hS4:=hS2.only ho4
        (with_reducible apply xs_call);exact rfl;exact rfl;exact carry_ret cb sb c.run c.carr _ _ (hs.get (b:=cb) (o:=coreO sb c.run c.carr) (by repeat (first | exact At.head | (with_reducible apply At.tail)))) h3 (lagA_in hrep2 id)
        rintro v w5 ⟨hc5,ho5⟩
        have n5:cb∉F2:=CAt.nod y1 hS2
        clear hs
        have hs:=St.nil w5
        repeat' (first|refine vs (k:=?_)|refine qRg ?_|refine Nx.h ?_|fail)
        first | refine rt (hq:=?_) | refine rt' (hq:=?_)
        have ho6:=hs.only0 rfl
        subst eJ
        have hoB:=(ho4.weaken (G:=[cb]) (by simp)).step ho5 (fun k hk => .inl hk)
        refine ⟨rfl,trivial,fun _=>⟨cb :: F2,[rb],⟨sb,F2,rfl,ho6.block hc5 (by simp),(hS4.keepD ho5 (fun k hk hm=>by obtain rfl:=List.mem_singleton.1 hm;exact n5 hk)).only ho6,carryW_in _ _,h4⟩,((hR2.keepD hoB (fun k hk hm=>by
          obtain rfl:=List.mem_singleton.1 hk
          obtain rfl:=List.mem_singleton.1 hm
          exact hR0.apart hC0 k (by simp) (by simp))).only ho6),fun k hk=>?_,fun k hk => .inl (by simpa using hk)⟩,(hoA.step hoB (fun k hk => .inl (by obtain rfl:=List.mem_singleton.1 hk;simp))).step ho6 (by simp)⟩
        rcases List.mem_cons.1 hk with rfl | hk
        · simp
        · rcases hF2 k hk with h | h
          · simp [h]
          · exact .inr (by omega)
      · rw [if_neg hE] at eJ
        subst eJ
        generalize entE c.A ⟨r,rin⟩=n at *
        repeat' (first|refine vs (k:=?_)|refine qRg ?_|refine Nx.h ?_|(refine xc_cond rfl (fun hc=>?_) (fun hc=>?_))|fail)
        · first | refine rt (hq:=?_) | refine rt' (hq:=?_)
          have ho6:=hs.onlyF [] (by simp [y1,y2,y3]) (by simp [D0])
          exact ⟨rfl,trivial,fun h=>absurd h hE,hoA.step ho6 (by simp)⟩
        · exact absurd (by simpa using hc) hE
set_option maxHeartbeats 4000000 in
theorem join_ret (cb:Nat) (c:Cs) (F:List Nat) (id q ns lag:Int) (w0:World) (h:CAt w0 cb c F) (hid:In64 id) (hq:U32 q) (hns:U64 ns) (hlag:In64 lag) :
    Ret Tryz.prog 127 #[.pointer (some ⟨cb,0,none⟩),.int .i64 id,.int .u32 q,.int .u64 ns,.int .i64 lag] w0 fun v w'=>∃ rv,v = .tuple #[rv,.int .i64 (joinC c id q ns lag).1]∧RvAt w' rv (tryR (joinC c id q ns lag).1 (joinC c id q ns lag).2 .none) ∧
      (∃ F',CAt w' cb (tryC c (joinC c id q ns lag).1 (joinC c id q ns lag).2) F'∧∀ k∈F',k∈F∨w0.heap.size≤k)∧Only [cb] w0 w':=by
  have hs:=St.nil w0
  refine ret_of_xc Tryz.func127 (by kernel_rfl) rfl Tryz.ntmps127 rfl rfl rfl ?_
  refine xc_seq ?_
  refine xc_region ?_ ?_;exact rfl
  refine bx hs (k:=?_);intro b6 w _ hs
  refine bx hs (k:=?_);intro b7 w _ hs
  refine bx hs (k:=?_);intro b8 w _ hs
  refine bx hs (k:=?_);intro b9 w _ hs
  refine al hs (k:=?_);intro b10 w hz hs
  repeat' (first|refine vs (k:=?_)|refine qRg ?_|refine Nx.h ?_|fail)
  have ho:=hs.only0 rfl
  have hz:=ho.size
  have x6:=hs.get (b:=b6) (by repeat (first | exact At.head | (with_reducible apply At.tail)))
  have x7:=hs.get (b:=b7) (by repeat (first | exact At.head | (with_reducible apply At.tail)))
  have x8:=hs.get (b:=b8) (by repeat (first | exact At.head | (with_reducible apply At.tail)))
  have x9:=hs.get (b:=b9) (by repeat (first | exact At.head | (with_reducible apply At.tail)))
  have x10:=hs.get (b:=b10) (by repeat (first | exact At.head | (with_reducible apply At.tail)))
  have hCw:=h.only ho
  have hb:=hs.new _ List.mem_cons_self rfl
  simp only at hb
  (with_reducible apply xs_call);exact rfl;exact rfl;exact try_ret cb c F _ hCw 165 [.pointer (some ⟨b6,0,none⟩),.pointer (some ⟨b7,0,none⟩),.pointer (some ⟨b8,0,none⟩),.pointer (some ⟨b9,0,none⟩)] [] (fun _=>True) (joinC c id q ns lag).1 (joinC c id q ns lag).2 .none (fun _ _ _ _ _ _=>trivial) (by simp) (by simp [Rp.none]) (fun w1 ho1=>join1_ret b6 b7 b8 b9 c id q ns lag _ w1 hid hq hns hlag (ho1.block x6 (by simp)) (ho1.block x7 (by simp)) (ho1.block x8 (by simp)) (ho1.block x9 (by simp)))
  rintro v w2 ⟨rv,rfl,_,hRv,⟨F',hC',hF'⟩,ho2⟩
  obtain ⟨vg,vp,Gg,Gp,rfl,p1,p2⟩:=hRv
  obtain ⟨ag,cg,rfl⟩:=slv_form p1
  obtain ⟨ap,cp,rfl⟩:=slv_form p2
  have x2:=ho2.block x10 (fun hm=>by obtain rfl:=List.mem_singleton.1 hm;exact hCw.not x10 rfl (by obtain ⟨_,_,rfl,_⟩:=hCw;simp))
  clear hs
  have hs:=(St.nil w2).trackT x2
  repeat' (first|refine vs (k:=?_)|(refine stA hs (k:=?_);intro w hs)|refine Nx.h ?_|fail)
  first | refine rt (hq:=?_) | refine rt' (hq:=?_)
  have ho3:Only [b10] w2 _:=hs.onlyF [b10] (by simp) (by simp [D0])
  exact ⟨_,rfl,⟨_,_,Gg,Gp,rfl,p1.keep ho3 (fun k hk hm=>by obtain rfl:=List.mem_singleton.1 hm;exact slv_ne p1 x2 (by decide) hk),p2.keep ho3 (fun k hk hm=>by obtain rfl:=List.mem_singleton.1 hm;exact slv_ne p2 x2 (by decide) hk)⟩,⟨F',hC'.keepD ho3 (fun k hk hm=>by obtain rfl:=List.mem_singleton.1 hm;exact hC'.not x2 rfl hk),fun k hk=>by
    rcases hF' k hk with h | h
    · exact .inl h
    · exact .inr (by omega)⟩,((ho.weaken (by simp)).step ho2 (fun k hk => .inl hk)).step ho3 (fun k hk => .inr (by obtain rfl:=List.mem_singleton.1 hk;exact hb))⟩
end Go.Proofs.YtalffooghioekaaGreatDoorX
