/- A part of the proof: what its functions compute. -/
import Derived.Test.YtalffooghioekaaGreatDoorBaseN6
import Derived.Test.YtalffooghioekaaGreatDoorProg
import Derived.Ground.NamesProg
import Derived.Shelf.LaysM
import Derived.Shelf.Strconv.Itoa1
import Derived.Shelf.Strconv.Itoa2
import Derived.Lib.Walk
import Derived.Lib.ItoaMem
import Derived.WalkKit
import Derived.BigCall
import Derived.BigGuard
import Derived.Shelf.SlIterI.Nil
import Derived.Shelf.SortM.Plain
import Derived.Shelf.SortM.SortNone
import Derived.Ground.GgzProg
import Derived.Ground.SlgmProg
set_option linter.unusedVariables false
set_option linter.unusedSimpArgs false
set_option maxRecDepth 100000
namespace Go.Proofs.YtalffooghioekaaGreatDoorX
open Go Go.RowKit
attribute [local irreducible] XS XC XA thenE blockE retE loopE loopS cutB cutN doneE SE
def WAt (w:World) (sl:Value) (xs:List Int):Prop :=
  ∃ ad cap,sl = .slice ad xs.length cap∧(xs≠[]→∃ (b off:Nat) (cs:List Value) (E:TypeId) (fz:Nat × Nat),ad=some ⟨b,off,none⟩∧w.heap[b]?=some (.cells cs.toArray E fz) ∧
    ∀ (i:Nat) (x:Int),xs[i]?=some x→cs[off+i*2]?=some (.int .i64 (x / 18446744073709551616))∧cs[off+i*2+1]?=some (.int .u64 (x % 18446744073709551616)))
def psum (xs:List Int) (i:Nat):Int:=(xs.take i).sum
theorem psum_succ {xs:List Int} {i:Nat} {x:Int} (h:xs[i]?=some x):psum xs (i+1)=psum xs i+x:=by
  unfold psum
  rw [List.take_add_one,h,List.sum_append]
  simp
theorem psum_zero (xs:List Int):psum xs 0=0:=by simp [psum]
theorem inW_zero:InW 0:=by unfold InW;omega
def InAll (xs:List Int) (n:Nat):Prop:=∀ j,j≤n→InW (psum xs j)
theorem InAll.zero (xs:List Int):InAll xs 0:=fun j hj=>by
  have h0:j=0:=Nat.le_zero.1 hj
  rw [h0,psum_zero]
  exact inW_zero
theorem InAll.succ {xs:List Int} {n:Nat} (h:InAll xs n) (h1:InW (psum xs (n+1))):InAll xs (n+1):=fun j hj=>by
  rcases Nat.lt_or_ge n j with h2 | h2
  · obtain rfl:j=n+1:=by omega
    exact h1
  · exact h j h2
theorem next64 {i m:Nat} (h:i < m) (hm:m≤9223372036854775807):IntKind.i64.wrap ((i:Int)+1)=((i+1:Nat):Int):=by
  rw [wrap_i64];omega
theorem sum_ret (xs:List Int) (sl:Value) (hin:∀ (i:Nat) (x:Int),xs[i]?=some x→InW x) (hm:xs.length≤9223372036854775807) (w0:World) (hW:WAt w0 sl xs):Ret Tryz.prog 213 #[sl] w0 fun v w' =>
    (InAll xs xs.length∧v = .tuple #[wv (psum xs xs.length),.bool true]∨(∃ j,j≤xs.length∧¬ InW (psum xs j))∧v = .tuple #[wv 0,.bool false])∧Only [] w0 w':=by
  obtain ⟨ad,cap,rfl,hD⟩:=hW
  have hs:=St.nil w0
  refine ret_of_xc Tryz.func213 (by kernel_rfl) rfl Tryz.ntmps213 rfl rfl rfl ?_
  refine xc_seq ?_
  refine xc_region ?_ ?_;exact rfl
  refine al hs (k:=?_);intro b2 w hz hs
  refine vs (k:=?_)
  refine XS.nil ?_
  refine then_of ?_
  refine xc_seq ?_
  refine xc_region ?_ ?_;exact rfl
  refine al hs (k:=?_);intro b4 w hz hs
  repeat' (first|refine vs (k:=?_)|refine qRg ?_|refine Nx.h ?_|fail)
  refine xc_cutB (fun (_:Unit)=>[(2,.pointer (some ⟨b2,0,none⟩)),(4,.pointer (some ⟨b4,0,none⟩))])
    (fun _ w=>InAll xs xs.length∧St w0 D0 [(b4,.cells #[.int .i64 (psum xs xs.length / 18446744073709551616),.int .u64 (psum xs xs.length % 18446744073709551616)] 70,true),(b2,.cells #[.int .i64 0,.int .u64 0] 70,true)] w) ?_ ?_
  · refine xc_loopS (fun (i:Nat)=>[(2,.pointer (some ⟨b2,0,none⟩)),(4,.pointer (some ⟨b4,0,none⟩)),(9,.slice ad xs.length cap),(10,.int .i64 (xs.length:Nat)),(11,.int .i64 (i:Nat))])
      (fun i w=>i≤xs.length∧InAll xs i∧St w0 D0 [(b4,.cells #[.int .i64 (psum xs i / 18446744073709551616),.int .u64 (psum xs i % 18446744073709551616)] 70,true),(b2,.cells #[.int .i64 0,.int .u64 0] 70,true)] w)
      (fun i=>xs.length - i) 0 (by (repeat (first | exact agree_nil | (apply agree_cons;exact rfl)))) ⟨Nat.zero_le _,InAll.zero xs,by rw [psum_zero];exact hs⟩ fun i env w ⟨hi,hf,hs⟩=>?_
    repeat' (first|refine vs (k:=?_)|refine qRg ?_|refine Nx.h ?_|(refine xc_if rfl (fun hc=>?_) (fun hc=>?_))|fail)
    · have hlt:i < xs.length:=by omega
      obtain ⟨b,off,cs,E,fz,rfl,hb,hcs⟩:=hD (fun h=>by subst h;cases hlt)
      obtain ⟨h0,h1⟩:=hcs i _ (List.getElem?_eq_getElem hlt)
      have hx:=hin i _ (List.getElem?_eq_getElem hlt)
      have hps:=psum_succ (List.getElem?_eq_getElem hlt)
      generalize xs[i]=x at *
      refine ix (h0:=(by omega)) (h1:=(by omega)) (k:=?_)
      refine lh2 ((hs.only0 rfl).block hb (by simp)) h0 h1 (k:=?_)
      refine al hs (k:=?_);intro b6 w hz hs
      repeat' (first|refine vs (k:=?_)|(refine stA hs (k:=?_);intro w hs)|refine qRg ?_|refine Nx.h ?_|fail)
      (with_reducible apply xs_call);exact rfl;exact rfl;exact add_ret (psum xs i) x (hf i (Nat.le_refl _)) hx _
      rintro v w' ⟨rfl,ho⟩;replace hs:=hs.call0 ho
      rcases tellV_cases (psum xs i+x) with ⟨hin1,e⟩ | ⟨hin1,e⟩
      · rw [e]
        repeat' (first|refine vs (k:=?_)|(refine stA hs (k:=?_);intro w hs)|(refine al hs (k:=?_);intro b w hz hs)|refine qRg ?_|refine Nx.h ?_|refine qCf ?_|fail)
        have ei:=next64 hlt hm
        exact loopS_next (i+1) (by omega) (by (repeat (first | exact agree_nil | (apply agree_cons;first | exact rfl | exact congrArg (Value.int .i64) ei)))) ⟨by omega,hf.succ (by rw [hps];exact hin1),by rw [hps];exact hs.forgetNew.forgetNew⟩
      · rw [e]
        repeat' (first|refine vs (k:=?_)|(refine stA hs (k:=?_);intro w hs)|(refine al hs (k:=?_);intro b w hz hs)|refine qRg ?_|refine Nx.h ?_|refine qCt ?_|fail)
        first | refine rt (hq:=?_) | refine rt' (hq:=?_)
        exact ⟨.inr ⟨⟨i+1,hlt,by rw [hps];exact hin1⟩,rfl⟩,hs.only0 rfl⟩
    · have e:i=xs.length:=by omega
      rw [e] at hf hs
      exact cutB_exit () (by (repeat (first | exact agree_nil | (apply agree_cons;exact rfl)))) ⟨hf,hs⟩
  · rintro _ env w ⟨hf,hs⟩
    repeat' (first|refine vs (k:=?_)|(refine stA hs (k:=?_);intro w hs)|refine qRg ?_|refine Nx.h ?_|fail)
    first | refine rt (hq:=?_) | refine rt' (hq:=?_)
    exact ⟨.inl ⟨hf,rfl⟩,hs.only0 rfl⟩
end Go.Proofs.YtalffooghioekaaGreatDoorX

namespace Go.Proofs.YtalffooghioekaaGreatDoorX
open Go Go.RowKit
attribute [local irreducible] XS XC XA thenE blockE retE loopE loopS cutB cutN doneE SE
def great:Int:=170141183460469231731687303715884105727
theorem great_in:InW great:=by decide
def winC (s t:Int):Option Int:=if 1≤s∧s≤1099511627776∧1≤t∧t≤1099511627776 then some ((2*s+t)*1048576) else none
theorem window_ret (s t:Int) (hs':U64 s) (ht:U64 t) (w0:World):Ret Tryz.prog 106 #[.int .u64 s,.int .u64 t] w0 fun v w'=>v = .tuple #[.int .i64 ((winC s t).getD 0),.bool (winC s t).isSome]∧Only [] w0 w':=by
  obtain ⟨hs0,hs1⟩:=hs'
  obtain ⟨ht0,ht1⟩:=ht
  have hs:=St.nil w0
  refine ret_of_xc Tryz.func106 (by kernel_rfl) rfl Tryz.ntmps106 rfl rfl rfl ?_
  repeat' (first|refine vs (k:=?_)|refine ps (k:=?_)|refine qRg ?_|refine Nx.h ?_|refine qCt ?_|((with_reducible apply xs_guard);exact rfl;exact rfl;intro c hc;(fail_if_success have:true=c:=hc);(fail_if_success have:false=c:=hc);cases c)|(refine xc_if rfl (fun hc=>?_) (fun hc=>?_))|fail)
  all_goals (first | refine rt (hq:=?_) | refine rt' (hq:=?_))
  all_goals refine ⟨?_,hs.only0 rfl⟩
  all_goals clear hs
  · have:winC s t=none:=if_neg (by omega)
    rw [this];rfl
  · simp only [decide_eq_false_iff_not] at *
    have:winC s t=some ((2*s+t)*1048576):=if_pos (by omega)
    rw [this]
    show Value.tuple _=Value.tuple _
    have e:IntKind.i64.wrap (IntKind.u64.wrap (IntKind.u64.wrap (IntKind.u64.wrap (2*s)+t)*1048576))=(2*s+t)*1048576:=by simp only [wrap_u64,wrap_i64];omega
    rw [e];rfl
  · simp only [decide_eq_true_eq,decide_eq_false_iff_not] at *
    have:winC s t=none:=if_neg (by omega)
    rw [this];rfl
  · simp only [decide_eq_true_eq,decide_eq_false_iff_not] at *
    have:winC s t=none:=if_neg (by omega)
    rw [this];rfl
  · simp only [decide_eq_true_eq] at *
    have:winC s t=none:=if_neg (by omega)
    rw [this];rfl
theorem greatest_ret (w0:World):Ret Tryz.prog 214 #[] w0 fun v w'=>v=wv great∧Only [] w0 w':=by
  have hs:=St.nil w0
  refine ret_of_xc Tryz.func214 (by kernel_rfl) rfl Tryz.ntmps214 rfl rfl rfl ?_
  repeat' (first|refine vs (k:=?_)|(refine stA hs (k:=?_);intro w hs)|(refine al hs (k:=?_);intro b w hz hs)|refine qRg ?_|refine Nx.h ?_|fail)
  first | refine rt (hq:=?_) | refine rt' (hq:=?_)
  exact ⟨by kernel_rfl,hs.only0 rfl⟩
def sizeW (x:Int):Int:=if 0≤x then x else if InW (-x) then -x else great
theorem sizeW_in {x:Int} (h:InW x):InW (sizeW x)∧0≤sizeW x:=by
  unfold sizeW
  split
  · exact ⟨h,by assumption⟩
  · split
    · exact ⟨by assumption,by omega⟩
    · exact ⟨great_in,by decide⟩
theorem csize_ret (x:Int) (hx:InW x) (w0:World):Ret Tryz.prog 179 #[wv x] w0 fun v w'=>v=wv (sizeW x)∧Only [] w0 w':=by
  have hs:=St.nil w0
  refine ret_of_xc Tryz.func179 (by kernel_rfl) rfl Tryz.ntmps179 rfl rfl rfl ?_
  repeat' (first|refine vs (k:=?_)|(refine al hs (k:=?_);intro b w hz hs)|(refine bx hs (k:=?_);intro b w hz hs)|refine qRg ?_|refine Nx.h ?_|fail)
  (with_reducible apply xs_call);exact rfl;exact rfl;exact sign_ret x hx _
  rintro v w' ⟨rfl,ho⟩;replace hs:=hs.call0 ho;repeat' (first|refine vs (k:=?_)|(refine stA hs (k:=?_);intro w hs)|refine qRg ?_|refine Nx.h ?_|(refine xc_if rfl (fun hc=>?_) (fun hc=>?_))|fail)
  · have h0:0≤x:=by unfold cmpI at hc;split at hc <;> omega
    first | refine rt (hq:=?_) | refine rt' (hq:=?_)
    refine ⟨?_,hs.only0 rfl⟩
    unfold sizeW;rw [if_pos h0];rfl
  · have h0:¬ 0≤x:=by unfold cmpI at hc;split at hc <;> (try split at hc) <;> omega
    (with_reducible apply xs_call);exact rfl;exact rfl;exact neg_t x hx _
    rintro v w' ⟨rfl,ho⟩;replace hs:=hs.call0 ho;repeat' (first|refine vs (k:=?_)|(refine stA hs (k:=?_);intro w hs)|(refine al hs (k:=?_);intro b w hz hs)|refine qRg ?_|refine Nx.h ?_|(refine xc_if rfl (fun hc=>?_) (fun hc=>?_))|fail)
    · have h1:InW (-x):=by simpa using hc
      first | refine rt (hq:=?_) | refine rt' (hq:=?_)
      refine ⟨?_,hs.only0 rfl⟩
      unfold sizeW;rw [if_neg h0,if_pos h1]
      have e:tot (-x)=-x:=if_pos h1
      rw [e];rfl
    · have h1:¬ InW (-x):=by simpa using hc
      (with_reducible apply xs_call);exact rfl;exact rfl;exact greatest_ret _
      rintro v w' ⟨rfl,ho⟩;replace hs:=hs.call0 ho;repeat' (first|(refine stA hs (k:=?_);intro w hs)|refine Nx.h ?_|fail)
      first | refine rt (hq:=?_) | refine rt' (hq:=?_)
      refine ⟨?_,hs.only0 rfl⟩
      unfold sizeW;rw [if_neg h0,if_neg h1];rfl
def caF:Int→List Int→Int
  | out,[]=>out
  | out,x :: l=>if InW (out+sizeW x+2) then caF (out+sizeW x+2) l else great
theorem wat_three {w:World} {b:Nat} {x y z:Int} (hb:w.heap[b]?=some (.cells #[.int .i64 (x / 18446744073709551616),.int .u64 (x % 18446744073709551616),.int .i64 (y / 18446744073709551616),.int .u64 (y % 18446744073709551616),.int .i64 (z / 18446744073709551616),.int .u64 (z % 18446744073709551616)] 70 (0,0))):WAt w (.slice (some ⟨b,0,none⟩) 3 3) [x,y,z] :=
  ⟨_,3,rfl,fun _=>⟨b,0,_,_,(0,0),rfl,hb,fun i x h=>by
    have:i=0∨i=1∨i=2:=by
      rcases Nat.lt_or_ge i 3 with h' | h'
      · omega
      · rw [List.getElem?_eq_none (by simp;omega)] at h;cases h
    rcases this with rfl | rfl | rfl <;> (cases h;exact ⟨rfl,rfl⟩)⟩⟩
set_option maxHeartbeats 4000000 in
theorem carried_ret (xs:List Int) (sl:Value) (hin:∀ (i:Nat) (x:Int),xs[i]?=some x→InW x) (hm:xs.length≤9223372036854775807) (w0:World) (hW:WAt w0 sl xs):Ret Tryz.prog 178 #[sl] w0 fun v w'=>v=wv (caF 0 xs)∧Only [] w0 w':=by
  obtain ⟨ad,cap,rfl,hD⟩:=hW
  have hs:=St.nil w0
  refine ret_of_xc Tryz.func178 (by kernel_rfl) rfl Tryz.ntmps178 rfl rfl rfl ?_
  repeat' (first|refine Nx.h ?_|fail)
  refine xc_region ?_ ?_;exact rfl
  refine al hs (k:=?_);intro b2 w hz hs
  repeat' (first|refine Nx.h ?_|fail)
  refine xc_region ?_ ?_;exact rfl
  refine al hs (k:=?_);intro b3 w hz hs
  repeat' (first|refine vs (k:=?_)|refine qRg ?_|refine Nx.h ?_|fail)
  refine xc_cutB (fun (_:Unit)=>[(2,.pointer (some ⟨b2,0,none⟩)),(3,.pointer (some ⟨b3,0,none⟩))])
    (fun _ w=>St w0 D0 [(b3,.cells #[.int .i64 (caF 0 xs / 18446744073709551616),.int .u64 (caF 0 xs % 18446744073709551616)] 70,true),(b2,.cells #[.int .i64 0,.int .u64 0] 70,true)] w) ?_ ?_
  · refine xc_loopS (fun (s:Nat × Int)=>[(2,.pointer (some ⟨b2,0,none⟩)),(3,.pointer (some ⟨b3,0,none⟩)),(8,.slice ad xs.length cap),(9,.int .i64 (xs.length:Nat)),(10,.int .i64 (s.1:Nat))])
      (fun s w=>s.1≤xs.length∧caF 0 xs=caF s.2 (xs.drop s.1)∧InW s.2∧0≤s.2∧St w0 D0 [(b3,.cells #[.int .i64 (s.2 / 18446744073709551616),.int .u64 (s.2 % 18446744073709551616)] 70,true),(b2,.cells #[.int .i64 0,.int .u64 0] 70,true)] w)
      (fun s=>xs.length - s.1) (0,0) (by (repeat (first | exact agree_nil | (apply agree_cons;exact rfl)))) ⟨Nat.zero_le _,rfl,inW_zero,Int.le_refl _,hs⟩ fun s env w ⟨hi,hca,ho1,ho2,hs⟩=>?_
    obtain ⟨i,out⟩:=s
    simp only at hi hca ho1 ho2
    repeat' (first|refine vs (k:=?_)|refine qRg ?_|refine Nx.h ?_|(refine xc_if rfl (fun hc=>?_) (fun hc=>?_))|fail)
    · have hlt:i < xs.length:=by omega
      obtain ⟨b,off,cs,E,fz,rfl,hb,hcs⟩:=hD (fun h=>by subst h;cases hlt)
      obtain ⟨h0,h1⟩:=hcs i _ (List.getElem?_eq_getElem hlt)
      have hx:=hin i _ (List.getElem?_eq_getElem hlt)
      have ei:=nx64 hlt hm
      rw [List.drop_eq_getElem_cons hlt] at hca
      generalize xs[i]=x at *
      have hsz:=sizeW_in hx
      refine ix (h0:=(by omega)) (h1:=(by omega)) (k:=?_)
      refine lh2 ((hs.only0 rfl).block hb (by simp)) h0 h1 (k:=?_)
      refine al hs (k:=?_);intro b5 w hz hs
      repeat' (first|(refine stA hs (k:=?_);intro w hs)|refine Nx.h ?_|fail)
      refine dr [] hs (k:=?_);intro hX w hs
      refine tk 0 hX (k:=?_)
      refine tk 1 hX (k:=?_)
      refine pd0 9 6 hs (k:=?_);intro f X w hp;have hs:=hp.st
      apply xa_pend 2 9 (f:=f) (X:=X) hX hp;exact rfl;exact rfl;(apply makes_alloc tabOk;exact rfl);kernel_rfl;kernel_rfl;kernel_rfl;kernel_rfl;(intro X Y;(repeat (first | exact pgg_base | refine pgg_step ?_ (by exact rfl))));(intro w' hs;first|exact se_hold hs.hold|exact se_hold hs.hold.tail|exact se_done rfl);intro f X w hp;have hs:=hp.st
      (with_reducible apply xs_call);exact rfl;exact rfl;exact csize_ret x hx _
      rintro v w' ⟨rfl,ho⟩;replace hp:=hp.only ho;replace hs:=hp.st;repeat' (first|refine Nx.h ?_|fail)
      refine dn (k:=?_)
      apply xa_pend 3 9 (f:=f) (X:=X) hX hp;exact rfl;exact rfl;(apply makes_alloc tabOk;exact rfl);kernel_rfl;kernel_rfl;kernel_rfl;kernel_rfl;(intro X Y;(repeat (first | exact pgg_base | refine pgg_step ?_ (by exact rfl))));(intro w' hs;first|exact se_hold hs.hold|exact se_hold hs.hold.tail|exact se_done rfl);intro f X w hp;have hs:=hp.st
      (with_reducible apply xs_call);exact rfl;exact rfl;exact of_ret 2 (by decide) (by decide) _
      rintro v w' ⟨rfl,ho⟩;replace hp:=hp.only ho;replace hs:=hp.st;repeat' (first|refine Nx.h ?_|fail)
      refine dn (k:=?_)
      apply xa_pend 4 9 (f:=f) (X:=X) hX hp;exact rfl;exact rfl;(apply makes_alloc tabOk;exact rfl);kernel_rfl;kernel_rfl;kernel_rfl;kernel_rfl;(intro X Y;(repeat (first | exact pgg_base | refine pgg_step ?_ (by exact rfl))));(intro w' hs;first|exact se_hold hs.hold|exact se_hold hs.hold.tail|exact se_done rfl);intro f X w hp;have hs:=hp.st
      refine bsP hp (k:=?_);intro b4 w4 _ hp;replace hs:=hp.st
      repeat' (first|refine Nx.h ?_|fail)
      refine dn (k:=?_)
      apply xa_pend 5 9 (f:=f) (X:=X) hX hp;exact rfl;exact rfl;(apply makes_alloc tabOk;exact rfl);kernel_rfl;kernel_rfl;kernel_rfl;kernel_rfl;(intro X Y;(repeat (first | exact pgg_base | refine pgg_step ?_ (by exact rfl))));(intro w' hs;first|exact se_hold hs.hold|exact se_hold hs.hold.tail|exact se_done rfl);intro f X w hp;have hs:=hp.st
      have hin3:∀ (i:Nat) (y:Int),[out,sizeW x,2][i]?=some y→InW y:=fun i y h=>by
        have hy:=List.mem_of_getElem? h
        simp only [List.mem_cons,List.not_mem_nil,or_false] at hy
        rcases hy with rfl | rfl | rfl
        · exact ho1
        · exact hsz.1
        · decide
      have p0:psum [out,sizeW x,2] 0=0:=by simp [psum]
      have p1:psum [out,sizeW x,2] 1=out:=by simp [psum]
      have p2:psum [out,sizeW x,2] 2=out+sizeW x:=by simp [psum]
      have p3:psum [out,sizeW x,2] 3=out+sizeW x+2:=by simp [psum];omega
      (with_reducible apply xs_call);exact rfl;exact rfl;exact sum_ret [out,sizeW x,2] _ hin3 (by simp) _ (wat_three (hs.get At.head))
      rintro v w' ⟨hq,ho⟩;replace hp:=hp.only ho;replace hs:=hp.st
      rcases hq with ⟨hA,rfl⟩ | ⟨⟨j,hj,hn⟩,rfl⟩
      · have hA3:=hA 3 (Nat.le_refl _)
        rw [p3] at hA3
        rw [show [out,sizeW x,2].length=3 from rfl,p3]
        rw [show caF out (x :: xs.drop (i+1))=caF (out+sizeW x+2) (xs.drop (i+1)) from if_pos hA3] at hca
        repeat' (first|refine Nx.h ?_|fail)
        refine dn (k:=?_)
        refine tk 6 hX (hc:=by cases f <;> kernel_rfl) (k:=?_)
        refine tk 7 hX (hc:=by cases f <;> kernel_rfl) (k:=?_)
        refine tk 8 hX (hc:=by cases f <;> kernel_rfl) (k:=?_)
        apply xa_pendE 9 (f:=f) (X:=X) hX hp;exact rfl;(apply makes_alloc tabOk;exact rfl);kernel_rfl;kernel_rfl;(intro X Y;(repeat (first | exact pgg_base | refine pgg_step ?_ (by exact rfl))));(intro w' hs;first|exact se_hold hs.hold|exact se_hold hs.hold.tail|exact se_done rfl);intro b w hI hs
        refine dt 10 hX (k:=?_)
        repeat' (first|(refine stA hs (k:=?_);intro w hs)|refine Nx.h ?_|fail)
        refine dn (k:=?_)
        refine tk 11 hX (k:=?_)
        refine en (k:=?_)
        repeat' (first|refine vs (k:=?_)|(refine stA hs (k:=?_);intro w hs)|refine qRg ?_|refine Nx.h ?_|refine qCf ?_|fail)
        exact loopS_next (i+1,out+sizeW x+2) (by show xs.length - (i+1) < xs.length - i;omega) (by (repeat (first | exact agree_nil | (apply agree_cons;first | exact rfl | exact congrArg (Value.int .i64) ei)))) ⟨by show i+1≤xs.length;omega,hca,hA3,by show 0≤out+sizeW x+2;omega,hs.forgetNew.forgetNew.forgetNew⟩
      · have hA3:¬ InW (out+sizeW x+2):=fun h=>by
          have:j=0∨j=1∨j=2∨j=3:=by simp at hj;omega
          rcases this with rfl | rfl | rfl | rfl
          · rw [p0] at hn;exact hn inW_zero
          · rw [p1] at hn;exact hn ho1
          · rw [p2] at hn;apply hn;unfold InW at *;omega
          · rw [p3] at hn;exact hn h
        rw [show caF out (x :: xs.drop (i+1))=great from if_neg hA3] at hca
        repeat' (first|refine Nx.h ?_|fail)
        refine dn (k:=?_)
        refine tk 6 hX (hc:=by cases f <;> kernel_rfl) (k:=?_)
        refine tk 7 hX (hc:=by cases f <;> kernel_rfl) (k:=?_)
        refine tk 8 hX (hc:=by cases f <;> kernel_rfl) (k:=?_)
        apply xa_pendE 9 (f:=f) (X:=X) hX hp;exact rfl;(apply makes_alloc tabOk;exact rfl);kernel_rfl;kernel_rfl;(intro X Y;(repeat (first | exact pgg_base | refine pgg_step ?_ (by exact rfl))));(intro w' hs;first|exact se_hold hs.hold|exact se_hold hs.hold.tail|exact se_done rfl);intro b w hI hs
        refine dt 10 hX (k:=?_)
        repeat' (first|(refine stA hs (k:=?_);intro w hs)|refine Nx.h ?_|fail)
        refine dn (k:=?_)
        refine tk 11 hX (k:=?_)
        refine en (k:=?_)
        repeat' (first|refine vs (k:=?_)|refine qRg ?_|refine Nx.h ?_|refine qCt ?_|fail)
        (with_reducible apply xs_call);exact rfl;exact rfl;exact greatest_ret _
        rintro v w' ⟨rfl,ho⟩;replace hs:=hs.call0 ho;repeat' (first|(refine stA hs (k:=?_);intro w hs)|refine Nx.h ?_|fail)
        first | refine rt (hq:=?_) | refine rt' (hq:=?_)
        refine ⟨?_,hs.only0 rfl⟩
        rw [hca];rfl
    · have hc':¬ ((i:Int) < xs.length):=hc
      have e:i=xs.length:=by omega
      rw [e,List.drop_length] at hca
      have e2:caF 0 xs=out:=hca
      exact cutB_exit () (by (repeat (first | exact agree_nil | (apply agree_cons;exact rfl)))) (by rw [e2];exact hs)
  · rintro _ env w hs
    repeat' (first|refine vs (k:=?_)|(refine stA hs (k:=?_);intro w hs)|refine qRg ?_|refine Nx.h ?_|fail)
    first | refine rt (hq:=?_) | refine rt' (hq:=?_)
    exact ⟨rfl,hs.only0 rfl⟩
end Go.Proofs.YtalffooghioekaaGreatDoorX

namespace Go.Proofs.YtalffooghioekaaGreatDoorX
open Go Go.RowKit
abbrev strV (l:List UInt8):Value := .string ⟨l.toArray⟩
section
variable {P : Program} {env : Env} {w : World} {d : Option Nat} {ty : Nat} {pos : String} {aft : Array Edge} {g : Option (Nat × Bool)}
theorem r_addS {t t':Nat} {x y:Operand} {a b:List UInt8} (hx:ev env x=strV a) (hy:ev env y=strV b) (hl:a.length+b.length≤9223372036854775807) :
    (execOp (ev env) (⟨d,.binOp .add t x y t',ty,pos,aft,g⟩:Oper)).run P w = .ok (.value (strV (a ++ b))) w:=by
  have e:(⟨a.toArray⟩:ByteArray) ++ ⟨b.toArray⟩=⟨(a ++ b).toArray⟩:=ByteArray.ext (by rw [ByteArray.data_append];simp)
  simp [execOp,hx,hy,eqGuard,binOp,Sem.run_bind,Op.stringOp,e]
  have h1:ByteArray.size ⟨a.toArray⟩=a.length:=rfl
  have h2:ByteArray.size ⟨b.toArray⟩=b.length:=rfl
  rw [h1,h2]
  omega
theorem r_lenStr {x:Operand} {t:Nat} {ats:Array TypeId} {a:List UInt8} (hat:ats[0]?=some t) (hu:P.underlying t=some .string) (hx:ev env x=strV a) :
    (execOp (ev env) (⟨d,.call { callee := .builtin .len,args:=#[x],argTypes:=ats },ty,pos,aft,g⟩:Oper)).run P w = .ok (.value (.int .i64 a.length)) w:=by
  simp [execOp,resolve,Sem.run_bind,invoke,builtin,Builtin.len_,hat,hx,run_underlying' hu,goInt]
  rfl
theorem r_eqStr {t t':Nat} {x y:Operand} {a b:List UInt8} (hu:P.underlying t=some .string) (hx:ev env x=strV a) (hy:ev env y=strV b) :
    (execOp (ev env) (⟨d,.binOp .eql t x y t',ty,pos,aft,g⟩:Oper)).run P w = .ok (.value (.bool (decide (a=b)))) w:=by
  have e:((⟨a.toArray⟩:ByteArray).toList == (⟨b.toArray⟩:ByteArray).toList)=decide (a=b):=by
    rw [ByteArray.toList_eq,ByteArray.toList_eq]
    show (a == b)=decide (a=b)
    by_cases h:a=b
    · subst h;simp
    · rw [decide_eq_false h];simp [h]
  have e0:(a == b)=decide (a=b):=by
    by_cases h:a=b
    · subst h;simp
    · rw [decide_eq_false h];simp [h]
  simp [execOp,hx,hy,eqGuard,binOp,Sem.run_bind,Op.stringOp,e]
  exact e0
theorem r_idxStr {t:Nat} {x y:Operand} {a:List UInt8} {kk:IntKind} {i:Nat} {b:UInt8} (hu:P.underlying t=some .string) (hx:ev env x=strV a) (hy:ev env y = .int kk (i:Nat)) (hb:a[i]?=some b) :
    (execOp (ev env) (⟨d,.index t x y,ty,pos,aft,g⟩:Oper)).run P w = .ok (.value (.int .u8 (b.toNat:Nat))) w:=by
  have h:(⟨a.toArray⟩:ByteArray)[i]?=some b:=by
    have hlt:i < a.length:=(List.getElem?_eq_some_iff.1 hb).1
    have he:=(List.getElem?_eq_some_iff.1 hb).2
    rw [getElem?_pos (⟨a.toArray⟩:ByteArray) i (show i < a.toArray.size by simpa using hlt)]
    exact congrArg some he
  simp [execOp,hx,hy,Instr.index,asIntOf,Sem.run_bind,run_underlying' hu,h]
theorem r_tailStr {t l:Nat} {x lo:Operand} {a:List UInt8} {kk:IntKind} (hu:P.underlying t=some .string) (hx:ev env x=strV a) (hlo:ev env lo = .int kk (l:Nat)) (hl:l≤a.length) :
    (execOp (ev env) (⟨d,.slice t x (some lo) none none,ty,pos,aft,g⟩:Oper)).run P w = .ok (.value (strV (a.drop l))) w:=by
  have h1:ByteArray.size ⟨a.toArray⟩=a.length:=rfl
  have h2:(⟨a.toArray⟩:ByteArray).extract l a.length=⟨(a.drop l).toArray⟩:=ByteArray.ext (by
    rw [ByteArray.data_extract]
    simp
    exact List.take_of_length_le (by simp))
  simp [execOp,Instr.sliceAt,Sem.run_bind,run_underlying' hu,hx,Instr.slice,Instr.sliceBounds,h1,bound_some hlo hl,h2]
end
end Go.Proofs.YtalffooghioekaaGreatDoorX

namespace Go.Proofs.YtalffooghioekaaGreatDoorX
open Go Go.RowKit
attribute [local irreducible] XS XC XA thenE blockE retE loopE loopS cutB cutN doneE SE
theorem Only.on {w0 w w':World} (h:Only [] w0 w) (k:Only [] w w'):Only [] w0 w':=h.trans k
theorem string_ty:Tryz.prog.underlying 9=some .string:=by kernel_rfl
def trimZ:List UInt8→List UInt8
  | a :: b :: l=>if a=48 then trimZ (b :: l) else a :: b :: l
  | l=>l
theorem trimZ_short {l:List UInt8} (h:l.length≤1):trimZ l=l:=by
  match l,h with
  | [],_=>rfl
  | [a],_=>rfl
set_option maxHeartbeats 1000000 in
theorem wideTrim_ret (l:List UInt8) (w0:World):Ret Tryz.prog 296 #[strV l] w0 fun v w'=>v=strV (trimZ l)∧Only [] w0 w':=by
  have hs:=St.nil w0
  refine ret_of_xc Tryz.func296 (by kernel_rfl) rfl Tryz.ntmps296 rfl rfl rfl ?_
  repeat' (first|refine vs (k:=?_)|refine qRg ?_|refine Nx.h ?_|fail)
  refine xc_cutB (fun s:List UInt8=>[(0,strV s)]) (fun s w=>s=trimZ l∧Only [] w0 w) ?_ ?_
  · refine xc_loopS (fun (s:List UInt8)=>[(0,strV s)]) (fun s w=>trimZ s=trimZ l∧Only [] w0 w) (fun s=>s.length) l (by (repeat (first | exact agree_nil | (apply agree_cons;exact rfl)))) ⟨rfl,hs.only0 rfl⟩ fun s env w ⟨h1,ho⟩=>?_
    clear hs
    have hs:=St.nil w
    repeat' (first|refine Nx.h ?_|fail)
    refine xc_region ?_ ?_;exact rfl
    refine vs (k:=?_)
    refine xs_val rfl (r_lenStr rfl string_ty rfl) ?_
    refine vs (k:=?_)
    match s,h1 with
    | [],h1 =>
      refine xs_set 5 (v := .bool false) (congrArg Value.bool rfl) ?_
      repeat' (first|refine vs (k:=?_)|refine ps (k:=?_)|refine Nx.h ?_|refine qCf ?_|fail)
      exact cutB_exit [] (by (repeat (first | exact agree_nil | (apply agree_cons;exact rfl)))) ⟨h1,ho.on (hs.only0 rfl)⟩
    | [a],h1 =>
      refine xs_set 5 (v := .bool false) (congrArg Value.bool rfl) ?_
      repeat' (first|refine vs (k:=?_)|refine ps (k:=?_)|refine Nx.h ?_|refine qCf ?_|fail)
      exact cutB_exit [a] (by (repeat (first | exact agree_nil | (apply agree_cons;exact rfl)))) ⟨h1,ho.on (hs.only0 rfl)⟩
    | a :: b :: s,h1 =>
      refine xs_set 5 (v := .bool true) (congrArg Value.bool (decide_eq_true (by simp only [List.length_cons];omega))) ?_
      refine vs (k:=?_)
      refine vs (k:=?_)
      refine xs_val rfl (r_idxStr (i:=0) (b:=a) string_ty rfl rfl rfl) ?_
      repeat' (first|refine vs (k:=?_)|refine qRg ?_|refine Nx.h ?_|(refine xc_if rfl (fun hc=>?_) (fun hc=>?_))|fail)
      · have e:a=48:=by
          have h:(a.toNat:Int)=48:=by simpa using hc
          exact UInt8.toNat_inj.1 (by have : a.toNat = 48 := by omega
                                      rw [this];rfl)
        refine xs_val rfl (r_tailStr (l:=1) string_ty rfl rfl (by simp)) ?_
        repeat' (first|refine vs (k:=?_)|refine Nx.h ?_|fail)
        refine loopS_next (b :: s) (by simp) (by (repeat (first | exact agree_nil | (apply agree_cons;exact rfl)))) ⟨?_,ho.on (hs.only0 rfl)⟩
        rw [← h1,e]
        rfl
      · have e:a≠48:=fun e=>by subst e;simp at hc
        refine cutB_exit (a :: b :: s) (by (repeat (first | exact agree_nil | (apply agree_cons;exact rfl)))) ⟨?_,ho.on (hs.only0 rfl)⟩
        rw [← h1]
        simp [trimZ,e]
  · clear hs
    rintro s env w ⟨rfl,ho⟩
    have hs:=St.nil w
    repeat' (first|refine vs (k:=?_)|refine qRg ?_|refine Nx.h ?_|fail)
    first | refine rt (hq:=?_) | refine rt' (hq:=?_)
    exact ⟨rfl,ho.on (hs.only0 rfl)⟩
end Go.Proofs.YtalffooghioekaaGreatDoorX

namespace Go.Proofs.YtalffooghioekaaGreatDoorX
open Go Go.Shelf Go.RowKit Go.Sort Go.Lib
theorem holds_zero0 (w:World) (T:TypeId) (nd:Nat) (hs:nd≤24):Holds (fun (b:UInt8)=>Value.int .u8 (b.toNat:Int)) (w.alloc (.cells zeros24 T)) w.heap.size 0 (Array.replicate nd (0:UInt8)):=by
  intro j hj
  have hj':j < nd:=by simpa using hj
  refine ⟨?_,World.frozen?_alloc_new _ _ _ _⟩
  rw [World.cell?_alloc_new,Nat.zero_add,zeros24_at j (by omega)]
  simp [hj']
theorem fin0 (w:World) (o:Obj) (dk:Array UInt8) (k:Nat):∃ os,(putRow (fun (b:UInt8)=>Value.int .u8 (b.toNat:Int)) (w.alloc o) w.heap.size 0 dk).drewN k=grow (w.drewN k) os:=by
  rw [alloc_eq_grow]
  obtain ⟨os',_,e⟩:=putRow_grow_new (fun (b:UInt8)=>Value.int .u8 (b.toNat:Int)) w #[o] w.heap.size 0 dk (Nat.le_refl _)
  exact ⟨os',by rw [e];rfl⟩
set_option maxHeartbeats 6400000 in
theorem fmt_small (u:Nat) (hu:u < 100) (w:World):Calls Tryz.prog 301 #[.int .u64 (u:Int),.int .i64 10] w fun e w'=>e = .returned (.string ⟨(Lib.decDigits u).toArray⟩)∧∃ k os,w'=grow (w.drewN k) os:=by
  go_enter Tryz.func301,Tryz.ntmps301
  go_wp2_with (go_at_call 304;refine (Any.internal_strconv_small Tryz.laysSmall u hu _).mono ?_;rintro e w' ⟨rfl,rfl⟩)
  go_ret
  exact ⟨rfl,0,#[],by simp [World.drewN_zero]⟩
set_option maxHeartbeats 6400000 in
theorem fmt_big (u : Nat) (h100 : 100 ≤ u) (hu64 : u < 18446744073709551616) (w : World) (htab : Lib.TabIs Tryz.prog w "internal/strconv.uint64pow10" .u64 Lib.pow10Tab) : Calls Tryz.prog 301 #[.int .u64 (u : Int), .int .i64 10] w fun e w' => e = .returned (.string ⟨(Lib.decDigits u).toArray⟩) ∧ ∃ k os, w' = grow (w.drewN k) os := by
  have hu1:1≤u:=by omega
  have hnd20:Lib.nDigits u≤20:=by have:=Lib.numDigits_eq u hu1 hu64;split at this <;> omega
  have hb4:Lib.nDigits u≤24:=by omega
  have hal:Tryz.prog.arrayLen 318=24:=by kernel_rfl
  have hsl:∀ W,(Instr.sliceAt 318 (.pointer (some ⟨w.heap.size,0,none⟩)) none (some (.int .i64 (Lib.nDigits u:Int))) none).run Tryz.prog W = .ok (.slice (some ⟨w.heap.size,0,none⟩) (Lib.nDigits u) 24) W:=fun W=>by
    rw [run_sliceAt_array_h W 318 ⟨w.heap.size,0,none⟩ (by kernel_rfl) .i64 (Lib.nDigits u:Int) (by omega) (by rw [hal];omega)]
    rw [hal]
    have e5:Tryz.prog.elem 318=5:=by kernel_rfl
    rw [e5]
    go_simp
    try omega
  have hH0:=holds_zero0 w 318 (Lib.nDigits u) hb4
  have hfmt:=Any.internal_strconv_formatBase10 Tryz.laysBase w.heap.size 0 24 u (Array.replicate (Lib.nDigits u) 0) (w.alloc (.cells Lib.zeros24 318)) hH0 (by rw [Array.size_replicate];exact Lib.lt_pow_nDigits u) hu64 (by rw [Array.size_replicate];omega)
  rw [Array.size_replicate] at hfmt
  have HH0:=Lib.hid hH0
  clear hH0 hal
  go_enter Tryz.func301,Tryz.ntmps301
  go_wp2_with (first
    | (go_at_call 305;refine (Any.internal_strconv_numDigits Tryz.laysDigits u hu1 hu64 _ (Lib.tabIs_alloc htab _)).mono ?_;rintro e w' ⟨rfl,rfl⟩))
  refine hfmt.mono ?_
  rintro e w' ⟨rfl,k,v',dk,rfl,hF⟩
  have hcv:(convert 161 9 (.slice (some ⟨w.heap.size,0,none⟩) (Lib.nDigits u) 24)).run Tryz.prog ((putRow (fun (b:UInt8)=>Value.int .u8 (b.toNat:Int)) (w.alloc (.cells Lib.zeros24 318)) w.heap.size 0 dk).drewN k) = .ok (.string ⟨(Lib.decDigits u).toArray⟩) ((putRow (fun (b:UInt8)=>Value.int .u8 (b.toNat:Int)) (w.alloc (.cells Lib.zeros24 318)) w.heap.size 0 dk).drewN k):=by
    have h:=run_convert_bytes_back (P:=Tryz.prog) ((putRow (fun (b:UInt8)=>Value.int .u8 (b.toNat:Int)) (w.alloc (.cells Lib.zeros24 318)) w.heap.size 0 dk).drewN k) 161 9 5 ⟨w.heap.size,0,none⟩ 24 (Lib.decDigits u) (by kernel_rfl) (by kernel_rfl) (by kernel_rfl) (fun j hj=>by
      rw [Lib.row_is_numeral hF j hj,Lib.add_plain,World.cell?_drewN]
      exact cell?_putRow (fun (b:UInt8)=>Value.int .u8 (b.toNat:Int)) _ w.heap.size 0 _ dk HH0.out (by rw [hF.size,Array.size_replicate]) j (by rw [hF.size];rw [Lib.decDigits_length] at hj;exact hj))
    rw [Lib.decDigits_length] at h
    exact h
  go_wp2
  go_ret
  obtain ⟨os,eo⟩:=fin0 w (.cells Lib.zeros24 318) dk k
  exact ⟨rfl,k,os,eo⟩
end Go.Proofs.YtalffooghioekaaGreatDoorX

namespace Go.Proofs.YtalffooghioekaaGreatDoorX
open Go Go.RowKit Go.Sort Go.Lib
attribute [local irreducible] XS XC XA thenE blockE retE loopE loopS cutB cutN doneE SE
theorem ret_of_calls {P:Program} {f:FuncId} {args:Array Value} {w:World} {Q:Value→World→Prop} (he:entersB P f=true) (h:Calls P f args w fun e w'=>∃ v,e = .returned v∧Q v w'):Ret P f args w Q := .inl ⟨enters_run he args w,h⟩
abbrev Pows (w : World) : Prop := Lib.TabIs Tryz.prog w "internal/strconv.uint64pow10" .u64 Lib.pow10Tab
theorem tab_only {w w':World} (h:Pows w) (ho:Only [] w w'):Pows w':=by
  unfold Pows TabIs World.var? at *
  cases hg : Tryz.prog.globalNamed "internal/strconv.uint64pow10" with
  | none=>simp [hg] at h
  | some g =>
    simp only [hg,Option.bind_some] at h ⊢
    have hlt:g < w.heap.size:=by
      rcases Nat.lt_or_ge g w.heap.size with h' | h'
      · exact h'
      · rw [Array.getElem?_eq_none h'] at h;simp at h
    rw [ho.frame g hlt (by simp)]
    exact h
theorem grow_only (w:World) (k:Nat) (os:Array Obj):Only [] w (grow (w.drewN k) os) :=
  ⟨rfl,rfl,rfl,by show w.heap.size≤(w.heap ++ os).size;rw [Array.size_append];exact Nat.le_add_right _ _,fun i hi _=>by show (w.heap ++ os)[i]?=_;rw [Array.getElem?_append_left hi]⟩
theorem fmtIn_ret (u:Nat) (hu:u < 18446744073709551616) (w0:World) (ht:Pows w0):Ret Tryz.prog 301 #[.int .u64 (u:Int),.int .i64 10] w0 fun v w'=>v = .string ⟨(Lib.decDigits u).toArray⟩∧Only [] w0 w':=by
  refine ret_of_calls (by kernel_rfl) ?_
  by_cases h:u < 100
  · exact (fmt_small u h w0).mono fun e w' ⟨he,k,os,hw⟩=>⟨_,he,rfl,hw ▸ grow_only w0 k os⟩
  · exact (fmt_big u (by omega) hu w0 ht).mono fun e w' ⟨he,k,os,hw⟩=>⟨_,he,rfl,hw ▸ grow_only w0 k os⟩
theorem fmt_ret (u:Nat) (hu:u < 18446744073709551616) (w0:World) (ht:Pows w0):Ret Tryz.prog 295 #[.int .u64 (u:Int),.int .i64 10] w0 fun v w'=>v = .string ⟨(Lib.decDigits u).toArray⟩∧Only [] w0 w':=by
  have hs:=St.nil w0
  refine ret_of_xc Tryz.func295 (by kernel_rfl) rfl Tryz.ntmps295 rfl rfl rfl ?_
  repeat' (first|refine vs (k:=?_)|refine qRg ?_|refine Nx.h ?_|fail)
  (with_reducible apply xs_call);exact rfl;exact rfl;exact fmtIn_ret u hu _ (tab_only ht (hs.only0 rfl))
  rintro v w' ⟨rfl,ho⟩;replace hs:=hs.call0 ho;repeat' (first|refine vs (k:=?_)|refine Nx.h ?_|fail)
  first | refine rt (hq:=?_) | refine rt' (hq:=?_)
  exact ⟨rfl,hs.only0 rfl⟩
end Go.Proofs.YtalffooghioekaaGreatDoorX

namespace Go.Proofs.YtalffooghioekaaGreatDoorX
open Go Go.Lib
def DigS (l:List UInt8):Prop:=∀ b∈l,48≤b.toNat∧b.toNat≤57
def valS (l:List UInt8):Nat:=l.foldl (fun n b=>10*n+(b.toNat - 48)) 0
theorem valS_snoc (l:List UInt8) (b:UInt8):valS (l ++ [b])=10*valS l+(b.toNat - 48):=by simp [valS,List.foldl_append]
theorem foldl_val (l:List UInt8):∀ n:Nat,l.foldl (fun n b=>10*n+(b.toNat - 48)) n=10 ^ l.length*n+valS l:=by
  induction l with
  | nil=>intro n;simp [valS]
  | cons a l ih =>
    intro n
    simp only [List.foldl_cons,valS]
    rw [ih,ih (10*0+(a.toNat - 48))]
    simp only [List.length_cons,Nat.pow_succ]
    rw [Nat.mul_add,Nat.mul_zero,Nat.zero_add,Nat.add_assoc,← Nat.mul_assoc,Nat.mul_assoc (10 ^ l.length)]
theorem valS_append (a b:List UInt8):valS (a ++ b)=10 ^ b.length*valS a+valS b:=by
  unfold valS
  rw [List.foldl_append,foldl_val b]
  rfl
theorem valS_cons (a:UInt8) (l:List UInt8):valS (a :: l)=10 ^ l.length*(a.toNat - 48)+valS l:=by
  have:=valS_append [a] l
  simpa [valS] using this
theorem byte_ext {a b:UInt8} (h:a.toNat=b.toNat):a=b:=UInt8.toNat_inj.1 h
theorem digs_eq:∀ (n:Nat) (l:List UInt8),l.length=n+1→DigS l→(l.length=1∨l.head?≠some 48)→l=decDigits (valS l)
  | 0,l,hl,hd,_=>by
    obtain ⟨a,rfl⟩:=List.length_eq_one_iff.1 hl
    have h:=hd a (by simp)
    have hv:valS [a]=a.toNat - 48:=by simp [valS]
    rw [hv,decDigits_one (by omega)]
    congr 1
    apply byte_ext
    rw [show 48+(a.toNat - 48)=a.toNat by omega]
    simp
  | n+1,l,hl,hd,hc=>by
    obtain ⟨m,d,rfl⟩:∃ m d,l=m ++ [d]:=by
      refine ⟨l.dropLast,l.getLast (by intro h;rw [h] at hl;cases hl),(List.dropLast_concat_getLast _).symm⟩
    have hml:m.length=n+1:=by simpa using hl
    have hmd:DigS m:=fun b hb=>hd b (List.mem_append_left _ hb)
    have hdd:=hd d (by simp)
    have hh:m.head?≠some 48:=by
      rcases hc with hc | hc
      · simp at hc;rw [hc] at hml;cases hml
      · rw [List.head?_append] at hc
        cases m with
        | nil=>cases hml
        | cons a m=>simpa using hc
    have ih:=digs_eq n m hml hmd (.inr hh)
    have hpos:1≤valS m:=by
      cases m with
      | nil=>cases hml
      | cons a m =>
        have ha:=hmd a (by simp)
        have hne:a.toNat≠48:=fun e=>hh (by simp;exact byte_ext e)
        rw [valS_cons]
        have:1≤10 ^ m.length*(a.toNat - 48):=Nat.mul_pos (Nat.pow_pos (by decide)) (by omega)
        omega
    rw [valS_snoc,decDigits,dif_neg (by omega)]
    have e1:(10*valS m+(d.toNat - 48)) / 10=valS m:=by omega
    have e2:(10*valS m+(d.toNat - 48)) % 10=d.toNat - 48:=by omega
    rw [e1,e2,← ih]
    congr 2
    apply byte_ext
    rw [show 48+(d.toNat - 48)=d.toNat by omega]
    simp
theorem trimZ_digs:∀ (l:List UInt8),l≠[]→DigS l→trimZ l=decDigits (valS l)
  | [],h,_=>absurd rfl h
  | [a],_,hd=>digs_eq 0 [a] rfl hd (.inl rfl)
  | a :: b :: l,_,hd=>by
    by_cases e:a=48
    · subst e
      rw [show trimZ (48 :: b :: l)=trimZ (b :: l) by simp [trimZ],valS_cons]
      rw [trimZ_digs (b :: l) (by simp) (fun x hx=>hd x (List.mem_cons_of_mem _ hx))]
      simp
    · rw [show trimZ (a :: b :: l)=a :: b :: l by simp [trimZ,e]]
      exact digs_eq (l.length+1) _ (by simp) hd (.inr (by simpa using e))
end Go.Proofs.YtalffooghioekaaGreatDoorX

namespace Go.Proofs.YtalffooghioekaaGreatDoorX
open Go Go.RowKit Go.Lib
attribute [local irreducible] XS XC XA thenE blockE retE loopE loopS cutB cutN doneE SE
theorem digS_dec:∀ u:Nat,DigS (decDigits u):=by
  intro u
  induction u using Nat.strongRecOn with
  | _ u ih =>
    intro b hb
    rw [decDigits] at hb
    split at hb
    · obtain rfl:=List.mem_singleton.1 hb
      have:(UInt8.ofNat (48+u)).toNat=48+u:=by simp;omega
      omega
    · rcases List.mem_append.1 hb with hb | hb
      · exact ih (u / 10) (by omega) b hb
      · obtain rfl:=List.mem_singleton.1 hb
        have:(UInt8.ofNat (48+u % 10)).toNat=48+u % 10:=by simp;omega
        omega
theorem valS_dec:∀ u:Nat,valS (decDigits u)=u:=by
  intro u
  induction u using Nat.strongRecOn with
  | _ u ih =>
    rw [decDigits]
    split
    · have:(UInt8.ofNat (48+u)).toNat=48+u:=by simp;omega
      simp only [valS,List.foldl_cons,List.foldl_nil]
      omega
    · have:(UInt8.ofNat (48+u % 10)).toNat=48+u % 10:=by simp;omega
      rw [valS_snoc,ih (u / 10) (by omega)]
      omega
theorem dec_ne (u:Nat):decDigits u≠[]:=fun h=>by have:=decDigits_length u;rw [h] at this;have:=nDigits_pos u;simp at *;omega
theorem valS_nought (l:List UInt8):valS (48 :: l)=valS l:=by rw [valS_cons];simp
theorem digS_cons {a:UInt8} {l:List UInt8} (h1:48≤a.toNat∧a.toNat≤57) (h:DigS l):DigS (a :: l):=fun b hb=>by
  rcases List.mem_cons.1 hb with rfl | hb
  · exact h1
  · exact h b hb
theorem digS_append {a b:List UInt8} (h:DigS a) (k:DigS b):DigS (a ++ b):=fun x hx=>by
  rcases List.mem_append.1 hx with hx | hx
  · exact h x hx
  · exact k x hx
theorem dec_len18 {u:Nat} (h:u < 1000000000000000000):(decDigits u).length≤18:=by
  rw [decDigits_length]
  rcases Nat.lt_or_ge 18 (nDigits u) with h1 | h1
  · rcases Nat.eq_zero_or_pos u with rfl | hu
    · rw [nDigits_small (by decide)] at h1;omega
    · exfalso
      have key:∀ (n u:Nat),nDigits u=n+1→0 < u→10 ^ n≤u:=by
        intro n
        induction n with
        | zero=>intro u _ h;rw [Nat.pow_zero];exact h
        | succ n ih =>
          intro u h1 h2
          have hb:¬ u < 10:=fun h=>by rw [nDigits_small h] at h1;omega
          rw [nDigits_big hb] at h1
          have:=ih (u / 10) (by omega) (by omega)
          rw [Nat.pow_succ]
          omega
      obtain ⟨n,hn⟩:∃ n,nDigits u=n+1:=⟨nDigits u - 1,by omega⟩
      have h2:=key n u hn hu
      have h3:10 ^ 18≤10 ^ n:=Nat.pow_le_pow_right (by decide) (by omega)
      have h4:(10:Nat) ^ 18=1000000000000000000:=by decide
      omega
  · exact h1
end Go.Proofs.YtalffooghioekaaGreatDoorX

namespace Go.Proofs.YtalffooghioekaaGreatDoorX
open Go Go.RowKit Go.Lib
attribute [local irreducible] XS XC XA thenE blockE retE loopE loopS cutB cutN doneE SE
def textOf (x:Int):List UInt8:=(if x < 0 then [45] else []) ++ decDigits x.natAbs
structure Txt (n m:Nat) (s:List UInt8):Prop where
  dig:DigS s
  val:10 ^ s.length*m+valS s=n
  len:s.length≤60
  le:m≤n
theorem txt_len {n m:Nat} {s:List UInt8} (h:Txt n m s) (hm:0 < m) (hn:n < 340282366920938463463374607431768211456):s.length≤38:=by
  rcases Nat.lt_or_ge 38 s.length with h1 | h1
  · exfalso
    have h2:10 ^ 39≤10 ^ s.length:=Nat.pow_le_pow_right (by decide) h1
    have h3:10 ^ s.length≤10 ^ s.length*m:=Nat.le_mul_of_pos_right _ hm
    have h4:=h.val
    have h5:(10:Nat) ^ 39=1000000000000000000000000000000000000000:=by decide
    omega
  · exact h1
theorem txt_next {n m:Nat} {s p:List UInt8} (h:Txt n m s) (hm:0 < m) (hn:n < 340282366920938463463374607431768211456) (hp:DigS p) (hl:p.length=18) (hv:valS p=m % 1000000000000000000):Txt n (m / 1000000000000000000) (p ++ s):=by
  refine ⟨digS_append hp h.dig,?_,?_,Nat.le_trans (Nat.div_le_self _ _) h.le⟩
  · rw [valS_append,List.length_append,hl,hv,Nat.pow_add]
    have h1:=h.val
    have h2:m=1000000000000000000*(m / 1000000000000000000)+m % 1000000000000000000:=(Nat.div_add_mod m _).symm
    rw [← h1]
    have e:(10:Nat) ^ 18=1000000000000000000:=by decide
    rw [e]
    generalize 10 ^ s.length=T at *
    generalize valS s=v at *
    generalize hq:m / 1000000000000000000=q at *
    generalize hr:m % 1000000000000000000=r at *
    rw [h2]
    rw [Nat.mul_add,← Nat.add_assoc]
    congr 2
    rw [Nat.mul_comm T,Nat.mul_assoc,Nat.mul_assoc,Nat.mul_comm T q,Nat.mul_comm q T]
  · have:=txt_len h hm hn
    rw [List.length_append,hl]
    omega
theorem txt_end {n m:Nat} {s:List UInt8} (h:Txt n m s):DigS (decDigits m ++ s)∧valS (decDigits m ++ s)=n∧decDigits m ++ s≠[] :=
  ⟨digS_append (digS_dec m) h.dig,by rw [valS_append,valS_dec];exact h.val,fun e=>dec_ne m (List.append_eq_nil_iff.1 e).1⟩
end Go.Proofs.YtalffooghioekaaGreatDoorX

namespace Go.Proofs.YtalffooghioekaaGreatDoorX
open Go Go.RowKit Go.Lib
attribute [local irreducible] XS XC XA thenE blockE retE loopE loopS cutB cutN doneE SE
theorem div64_n (hi lo:Nat) (h1:hi < 1000000000000000000) (h4:lo < 18446744073709551616) (w0:World) :
    Ret Tryz.prog 163 #[.int .u64 (hi:Nat),.int .u64 (lo:Nat),.int .u64 1000000000000000000] w0 fun v w'=>v = .tuple #[.int .u64 ((hi*18446744073709551616+lo) / 1000000000000000000:Nat),.int .u64 ((hi*18446744073709551616+lo) % 1000000000000000000:Nat)]∧Only [] w0 w':=by
  have h:=div64_ret (hi:Nat) (lo:Nat) 1000000000000000000 (by omega) (by omega) (by omega) (by omega) (by omega) w0
  exact h
theorem size_n {x:Int} {n:Nat} (hx:InW x) (h:Abs x (n:Nat)) (w0:World):Ret Tryz.prog 150 #[wv x] w0 fun v w'=>v = .tuple #[.int .u64 (n / 18446744073709551616:Nat),.int .u64 (n % 18446744073709551616:Nat)]∧Only [] w0 w':=size_of hx h w0
theorem nDigits_le40 {u:Nat} (h:u < 340282366920938463463374607431768211456):nDigits u≤40:=by
  have h1:=decDigits_length u
  rcases Nat.lt_or_ge 40 (nDigits u) with h2 | h2
  · obtain ⟨n,hn⟩:∃ n,nDigits u=n+1:=⟨nDigits u - 1,by omega⟩
    have key:∀ (n u:Nat),nDigits u=n+1→10 ^ n≤u∨n=0:=by
      intro n
      induction n with
      | zero=>intro u _;exact .inr rfl
      | succ n ih =>
        intro u h1
        have hb:¬ u < 10:=fun h=>by rw [nDigits_small h] at h1;omega
        rw [nDigits_big hb] at h1
        rcases ih (u / 10) (by omega) with h | rfl
        · left;rw [Nat.pow_succ];omega
        · left;omega
    rcases key n u hn with h3 | h3
    · exfalso
      have h4:10 ^ 40≤10 ^ n:=Nat.pow_le_pow_right (by decide) (by omega)
      have h5:(10:Nat) ^ 40=10000000000000000000000000000000000000000:=by decide
      omega
    · omega
  · exact h2
theorem dec_len20 {u:Nat} (h:u < 18446744073709551616):(decDigits u).length≤40:=by rw [decDigits_length];exact nDigits_le40 (by omega)
theorem nat_hi2 (m:Nat) (hm:m < 340282366920938463463374607431768211456):(m:Nat) / 18446744073709551616 / 1000000000000000000=m / 1000000000000000000 / 18446744073709551616 ∧
    (m / 18446744073709551616 % 1000000000000000000*18446744073709551616+m % 18446744073709551616) / 1000000000000000000=m / 1000000000000000000 % 18446744073709551616:=by
  constructor <;> omega
theorem nat_hi (m:Nat):(m:Nat) / 18446744073709551616 / 1000000000000000000*18446744073709551616+(m / 18446744073709551616 % 1000000000000000000*18446744073709551616+m % 18446744073709551616) / 1000000000000000000=m / 1000000000000000000 ∧
    (m / 18446744073709551616 % 1000000000000000000*18446744073709551616+m % 18446744073709551616) % 1000000000000000000=m % 1000000000000000000:=by
  constructor <;> omega
set_option maxHeartbeats 2000000 in
theorem string_ret (x:Int) (hx:InW x) (w0:World) (ht:Pows w0):Ret Tryz.prog 293 #[wv x] w0 fun v w'=>v=strV (textOf x)∧Only [] w0 w':=by
  have hs:=St.nil w0
  have hn:Abs x (x.natAbs:Nat):=⟨by omega,by omega⟩
  have hnl:x.natAbs < 340282366920938463463374607431768211456:=by obtain ⟨h1,h2⟩:=hx;omega
  refine ret_of_xc Tryz.func293 (by kernel_rfl) rfl Tryz.ntmps293 rfl rfl rfl ?_
  repeat' (first|refine vs (k:=?_)|(refine bx hs (k:=?_);intro b w hz hs)|refine qRg ?_|refine Nx.h ?_|fail)
  (with_reducible apply xs_call);exact rfl;exact rfl;exact size_n hx hn _
  rintro v w' ⟨rfl,ho⟩;replace hs:=hs.call0 ho;repeat' (first|refine vs (k:=?_)|refine qRg ?_|refine Nx.h ?_|fail)
  refine xc_cutB (fun s:Nat × List UInt8=>[(1,.pointer (some ⟨b,0,none⟩)),(4,.int .u64 (s.1:Nat)),(5,strV s.2)]) (fun s w=>Txt x.natAbs s.1 s.2∧s.1 < 18446744073709551616∧St w0 D0 [(b,.cells [Value.int .i64 (x / 18446744073709551616),.int .u64 (x % 18446744073709551616)].toArray 70,true)] w) ?_ ?_
  · refine xc_loopS (fun s:Nat × List UInt8=>[(1,.pointer (some ⟨b,0,none⟩)),(3,.int .u64 (s.1 / 18446744073709551616:Nat)),(4,.int .u64 (s.1 % 18446744073709551616:Nat)),(5,strV s.2)]) (fun s w=>Txt x.natAbs s.1 s.2∧St w0 D0 [(b,.cells [Value.int .i64 (x / 18446744073709551616),.int .u64 (x % 18446744073709551616)].toArray 70,true)] w) (fun s=>s.1) (x.natAbs,[]) (by (repeat (first | exact agree_nil | (apply agree_cons;exact rfl)))) ⟨⟨by simp [DigS],by simp [valS],by simp,Nat.le_refl _⟩,hs⟩ fun s env w ⟨h1,hs⟩=>?_
    obtain ⟨m,s⟩:=s
    have hm:=h1.le
    simp only at h1 hm hs ⊢
    repeat' (first|refine vs (k:=?_)|refine qRg ?_|refine Nx.h ?_|(refine xc_if rfl (fun hc=>?_) (fun hc=>?_))|fail)
    · (with_reducible apply xs_call);exact rfl;exact rfl;exact div64_n (m / 18446744073709551616 % 1000000000000000000) (m % 18446744073709551616) (by omega) (by omega) _
      rintro v w' ⟨rfl,ho⟩;replace hs:=hs.call0 ho;repeat' (first|refine vs (k:=?_)|refine qRg ?_|refine Nx.h ?_|fail)
      (with_reducible apply xs_call);exact rfl;exact rfl;exact fmt_ret _ (by omega) _ (tab_only ht (hs.only0 rfl))
      rintro v w' ⟨rfl,ho⟩;replace hs:=hs.call0 ho;repeat' (first|refine vs (k:=?_)|refine Nx.h ?_|fail)
      obtain ⟨q1,q2⟩:=nat_hi m
      obtain ⟨a1,a2⟩:=nat_hi2 m (by omega)
      refine xc_cutB (fun p:List UInt8=>[(1,.pointer (some ⟨b,0,none⟩)),(5,strV s),(6,.int .u64 (m / 18446744073709551616 / 1000000000000000000:Nat)),(8,.int .u64 ((m / 18446744073709551616 % 1000000000000000000*18446744073709551616+m % 18446744073709551616) / 1000000000000000000:Nat)),(9,strV p)]) (fun p w=>(DigS p∧p.length=18∧valS p=m % 1000000000000000000)∧St w0 D0 [(b,.cells [Value.int .i64 (x / 18446744073709551616),.int .u64 (x % 18446744073709551616)].toArray 70,true)] w) ?_ ?_
      · refine xc_loopS (fun p:List UInt8=>[(1,.pointer (some ⟨b,0,none⟩)),(5,strV s),(6,.int .u64 (m / 18446744073709551616 / 1000000000000000000:Nat)),(8,.int .u64 ((m / 18446744073709551616 % 1000000000000000000*18446744073709551616+m % 18446744073709551616) / 1000000000000000000:Nat)),(9,strV p)]) (fun p w=>(DigS p∧p.length≤18∧valS p=m % 1000000000000000000)∧St w0 D0 [(b,.cells [Value.int .i64 (x / 18446744073709551616),.int .u64 (x % 18446744073709551616)].toArray 70,true)] w) (fun p=>18 - p.length) (decDigits ((m / 18446744073709551616 % 1000000000000000000*18446744073709551616+m % 18446744073709551616) % 1000000000000000000)) (by (repeat (first | exact agree_nil | (apply agree_cons;exact rfl)))) ⟨⟨digS_dec _,dec_len18 (by omega),by rw [valS_dec];exact q2⟩,hs⟩ fun p env w ⟨⟨p1,p2,p3⟩,hs⟩=>?_
        repeat' (first|refine vs (k:=?_)|refine qRg ?_|refine Nx.h ?_|fail)
        refine xs_val rfl (r_lenStr rfl string_ty rfl) ?_
        repeat' (first|refine vs (k:=?_)|refine qRg ?_|refine Nx.h ?_|(refine xc_if rfl (fun hc=>?_) (fun hc=>?_))|fail)
        · refine xs_val rfl (r_addS (a:=[48]) (b:=p) rfl rfl (by simp only [List.length_cons,List.length_nil];omega)) ?_
          repeat' (first|refine vs (k:=?_)|refine Nx.h ?_|fail)
          refine loopS_next (48 :: p) (by simp only [List.length_cons];omega) (by (repeat (first | exact agree_nil | (apply agree_cons;exact rfl)))) ⟨⟨digS_cons (by decide) p1,by simp only [List.length_cons];omega,by rw [valS_nought];exact p3⟩,hs⟩
        · refine cutB_exit p (by (repeat (first | exact agree_nil | (apply agree_cons;exact rfl)))) ⟨⟨p1,by omega,p3⟩,hs⟩
      · clear hs
        rintro p env w ⟨⟨p1,p2,p3⟩,hs⟩
        have t2:=txt_next h1 (by omega) hnl p1 p2 p3
        have hsl:=t2.len
        rw [List.length_append] at hsl
        repeat' (first|refine vs (k:=?_)|refine qRg ?_|refine Nx.h ?_|fail)
        refine xs_val rfl (r_addS (a:=p) (b:=s) rfl rfl (by omega)) ?_
        repeat' (first|refine vs (k:=?_)|refine qRg ?_|refine Nx.h ?_|fail)
        refine loopS_next (m / 1000000000000000000,p ++ s) (by show _ < m;omega) (by (repeat (first | exact agree_nil | (apply agree_cons;first | exact rfl | exact congrArg (fun n:Nat=>Value.int .u64 (n:Int)) a1 | exact congrArg (fun n:Nat=>Value.int .u64 (n:Int)) a2)))) ⟨t2,hs⟩
    · have am:m % 18446744073709551616=m:=by omega
      refine cutB_exit (m,s) (by (repeat (first | exact agree_nil | (apply agree_cons;first | exact rfl | exact congrArg (fun n:Nat=>Value.int .u64 (n:Int)) am | exact congrArg (fun n:Nat=>Value.int .u64 (n:Int)) am)))) ⟨h1,by omega,hs⟩
  · clear hs
    rintro ⟨m,s⟩ env w ⟨h1,hm,hs⟩
    simp only at h1 hm ⊢
    repeat' (first|refine vs (k:=?_)|refine qRg ?_|refine Nx.h ?_|fail)
    (with_reducible apply xs_call);exact rfl;exact rfl;exact fmt_ret m hm _ (tab_only ht (hs.only0 rfl))
    rintro v w' ⟨rfl,ho⟩;replace hs:=hs.call0 ho;repeat' (first|refine vs (k:=?_)|fail)
    obtain ⟨e1,e2,e3⟩:=txt_end h1
    have hsl:=h1.len
    have hdl:=dec_len20 hm
    refine xs_val rfl (r_addS (a:=decDigits m) (b:=s) rfl rfl (by omega)) ?_
    repeat' (first|refine vs (k:=?_)|refine qRg ?_|refine Nx.h ?_|fail)
    refine xs_val rfl (r_lenStr rfl string_ty rfl) ?_
    repeat' (first|refine vs (k:=?_)|refine qRg ?_|refine Nx.h ?_|(refine xc_if rfl (fun hc=>?_) (fun hc=>?_))|fail)
    · (with_reducible apply xs_call);exact rfl;exact rfl;exact wideTrim_ret _ _
      rintro v w' ⟨rfl,ho⟩;replace hs:=hs.call0 ho;repeat' (first|refine vs (k:=?_)|refine qRg ?_|refine Nx.h ?_|(refine xc_if rfl (fun hc=>?_) (fun hc=>?_))|fail)
      · refine xs_val rfl (r_addS (a:=[45]) (b:=trimZ (decDigits m ++ s)) rfl rfl ?_) ?_
        · rw [trimZ_digs _ e3 e1,e2,decDigits_length,List.length_singleton]
          have:=nDigits_le40 hnl
          omega
        repeat' (first|refine vs (k:=?_)|refine qRg ?_|refine Nx.h ?_|fail)
        first | refine rt (hq:=?_) | refine rt' (hq:=?_)
        refine ⟨?_,hs.only0 rfl⟩
        unfold textOf
        rw [trimZ_digs _ e3 e1,e2,if_pos (by omega)]
        rfl
      · first | refine rt (hq:=?_) | refine rt' (hq:=?_)
        refine ⟨?_,hs.only0 rfl⟩
        unfold textOf
        rw [trimZ_digs _ e3 e1,e2,if_neg (by omega)]
        rfl
    · have et:decDigits m ++ s=decDigits x.natAbs:=by
        rw [← e2,← trimZ_digs _ e3 e1,trimZ_short (by omega)]
      refine xs_val rfl (r_addS (a:=[45]) (b:=decDigits m ++ s) rfl rfl ?_) ?_
      · simp only [List.length_append,List.length_cons,List.length_nil]
        omega
      repeat' (first|refine vs (k:=?_)|refine qRg ?_|refine Nx.h ?_|fail)
      first | refine rt (hq:=?_) | refine rt' (hq:=?_)
      refine ⟨?_,hs.only0 rfl⟩
      unfold textOf
      rw [et,if_pos (by omega)]
      rfl
    · have et:decDigits m ++ s=decDigits x.natAbs:=by
        rw [← e2,← trimZ_digs _ e3 e1,trimZ_short (by omega)]
      first | refine rt (hq:=?_) | refine rt' (hq:=?_)
      refine ⟨?_,hs.only0 rfl⟩
      unfold textOf
      rw [et,if_neg (by omega)]
      rfl
end Go.Proofs.YtalffooghioekaaGreatDoorX

namespace Go.Proofs.YtalffooghioekaaGreatDoorX
open Go Go.RowKit
attribute [local irreducible] XS XC XA thenE blockE retE loopE loopS cutB cutN doneE SE
theorem ps_one {w:World} {b:Nat} {p:Pt} (hb:w.heap[b]?=some (.cells p.cells.toArray 62 (0,0))):PsAt w (.slice (some ⟨b,0,none⟩) 1 1) [p] :=
  ⟨_,1,rfl,fun _=>⟨b,0,_,(0,0),rfl,Nat.le_refl _,hb,fun i x h=>by
    cases i with
    | zero=>cases h;exact pick_of rfl rfl
    | succ i=>simp at h⟩⟩
theorem ps_two {w:World} {b:Nat} {p q:Pt} (hb:w.heap[b]?=some (.cells (p.cells ++ q.cells).toArray 62 (0,0))):PsAt w (.slice (some ⟨b,0,none⟩) 2 2) [p,q] :=
  ⟨_,2,rfl,fun _=>⟨b,0,_,(0,0),rfl,Nat.le_refl _,hb,fun i x h=>by
    rcases i with _ | _ | i
    · cases h;exact pick_of rfl rfl
    · cases h;exact pick_of rfl rfl
    · simp at h⟩⟩
set_option maxHeartbeats 2000000 in
theorem awake8_ret (w0:World) (ht:Pows w0):Ret Tryz.prog 291 #[] w0 fun v w'=>v = .bool true∧Only [] w0 w':=by
  have hs:=St.nil w0
  refine ret_of_xc Tryz.func291 (by kernel_rfl) rfl Tryz.ntmps291 rfl rfl rfl ?_
  repeat' (first|refine vs (k:=?_)|(refine bs hs (k:=?_);intro b w hz hs)|refine qRg ?_|refine Nx.h ?_|fail)
  (with_reducible apply xs_call);exact rfl;exact rfl;exact of_mean_ret 5 [⟨5,0,1⟩,⟨8,0,1⟩] _ (by decide) (by decide) (by simp) _ (ps_two (hs.get At.head))
  rw [show ofM 5 [⟨5,0,1⟩,⟨8,0,1⟩]=some ⟨5,3,2,2⟩ from by decide]
  rintro v w' ⟨rfl,ho⟩;replace hs:=hs.call0 ho;repeat' (first|refine vs (k:=?_)|(refine stA hs (k:=?_);intro w hs)|(refine al hs (k:=?_);intro b w hz hs)|refine qRg ?_|refine Nx.h ?_|fail)
  (with_reducible apply xs_call);exact rfl;exact rfl;exact floor_ret ⟨5,3,2,2⟩ (by decide) _
  rw [show flM ⟨5,3,2,2⟩=some 6 from by decide]
  rintro v w' ⟨rfl,ho⟩;replace hs:=hs.call0 ho;repeat' (first|refine vs (k:=?_)|refine qRg ?_|refine Nx.h ?_|fail)
  (with_reducible apply xs_call);exact rfl;exact rfl;exact IB.Awake7_ret _
  rintro v w' ⟨rfl,ho⟩;replace hs:=hs.call0 ho;repeat' (first|refine vs (k:=?_)|fail)
  (with_reducible apply xs_call);exact rfl;exact rfl;exact string_ret 3 (by decide) _ (tab_only ht (hs.only0 rfl))
  rw [show textOf 3=[51] from by kernel_rfl]
  rintro v w' ⟨rfl,ho⟩;replace hs:=hs.call0 ho
  refine xs_val rfl (r_eqStr string_ty rfl rfl) ?_
  repeat' (first|refine vs (k:=?_)|refine Nx.h ?_|fail)
  first | refine rt (hq:=?_) | refine rt' (hq:=?_)
  exact ⟨rfl,hs.only0 rfl⟩
theorem Awake8_ret (w0:World) (ht:Pows w0):Ret Tryz.prog 290 #[] w0 fun v w'=>v = .bool true∧Only [] w0 w':=by
  have hs:=St.nil w0
  refine ret_of_xc Tryz.func290 (by kernel_rfl) rfl Tryz.ntmps290 rfl rfl rfl ?_
  repeat' (first|refine vs (k:=?_)|refine qRg ?_|refine Nx.h ?_|fail)
  (with_reducible apply xs_call);exact rfl;exact rfl;exact awake8_ret _ ht
  rintro v w' ⟨rfl,ho⟩;replace hs:=hs.call0 ho;repeat' (first|refine vs (k:=?_)|refine Nx.h ?_|fail)
  first | refine rt (hq:=?_) | refine rt' (hq:=?_)
  exact ⟨rfl,hs.only0 rfl⟩
set_option maxHeartbeats 2000000 in
theorem awake9_ret (w0:World) (ht:Pows w0):Ret Tryz.prog 289 #[] w0 fun v w'=>v = .bool true∧Only [] w0 w':=by
  have hs:=St.nil w0
  refine ret_of_xc Tryz.func289 (by kernel_rfl) rfl Tryz.ntmps289 rfl rfl rfl ?_
  repeat' (first|refine vs (k:=?_)|(refine stA hs (k:=?_);intro w hs)|(refine al hs (k:=?_);intro b w hz hs)|(refine bs hs (k:=?_);intro b w hz hs)|refine qRg ?_|refine Nx.h ?_|fail)
  (with_reducible apply xs_call);exact rfl;exact rfl;exact of_mean_ret 5 [⟨5,0,1⟩,⟨8,0,1⟩] _ (by decide) (by decide) (by simp) _ (ps_two (hs.get At.head))
  rw [show ofM 5 [⟨5,0,1⟩,⟨8,0,1⟩]=some ⟨5,3,2,2⟩ from by decide]
  rintro v w' ⟨rfl,ho⟩;replace hs:=hs.call0 ho;repeat' (first|refine vs (k:=?_)|(refine stA hs (k:=?_);intro w hs)|(refine al hs (k:=?_);intro b w hz hs)|refine qRg ?_|refine Nx.h ?_|fail)
  (with_reducible apply xs_call);exact rfl;exact rfl;exact read_ret ⟨5,3,2,2⟩ ⟨5,0,1⟩ (by decide) (by decide) _
  rw [show rdM ⟨5,3,2,2⟩ ⟨5,0,1⟩=some 1 from by decide]
  rintro v w' ⟨rfl,ho⟩;replace hs:=hs.call0 ho;repeat' (first|refine vs (k:=?_)|(refine stA hs (k:=?_);intro w hs)|(refine al hs (k:=?_);intro b w hz hs)|refine qRg ?_|refine Nx.h ?_|fail)
  (with_reducible apply xs_call);exact rfl;exact rfl;exact read_ret ⟨5,3,2,2⟩ ⟨8,0,1⟩ (by decide) (by decide) _
  rw [show rdM ⟨5,3,2,2⟩ ⟨8,0,1⟩=some (-2) from by decide]
  rintro v w' ⟨rfl,ho⟩;replace hs:=hs.call0 ho;repeat' (first|refine vs (k:=?_)|(refine stA hs (k:=?_);intro w hs)|(refine al hs (k:=?_);intro b w hz hs)|refine Nx.h ?_|fail)
  refine dr [] hs (k:=?_);intro hX w hs
  refine dt 0 hX (k:=?_)
  (with_reducible apply xs_call);exact rfl;exact rfl;exact Awake8_ret _ (tab_only ht (hs.only0 rfl))
  rintro v w' ⟨rfl,ho⟩;replace hs:=hs.call0 ho;repeat' (first|refine Nx.h ?_|fail)
  refine dn (k:=?_)
  refine tk 1 hX (k:=?_)
  refine tk 2 hX (k:=?_)
  refine tk 3 hX (k:=?_)
  refine tk 4 hX (k:=?_)
  refine tk 5 hX (k:=?_)
  refine tk 6 hX (k:=?_)
  refine tk 7 hX (k:=?_)
  refine tk 8 hX (k:=?_)
  refine tk 9 hX (k:=?_)
  refine tk 10 hX (k:=?_)
  refine tk 11 hX (k:=?_)
  refine dt 12 hX (k:=?_)
  (with_reducible apply xs_call);exact rfl;exact rfl;exact of_ret 1 (by decide) (by decide) _
  rintro v w' ⟨rfl,ho⟩;replace hs:=hs.call0 ho;repeat' (first|refine Nx.h ?_|fail)
  refine dn (k:=?_)
  refine tk 13 hX (k:=?_)
  refine tk 14 hX (k:=?_)
  refine tk 15 hX (k:=?_)
  refine tk 16 hX (k:=?_)
  refine dt 17 hX (k:=?_)
  (with_reducible apply xs_call);exact rfl;exact rfl;exact of_ret (-2) (by decide) (by decide) _
  rintro v w' ⟨rfl,ho⟩;replace hs:=hs.call0 ho;repeat' (first|refine Nx.h ?_|fail)
  refine dn (k:=?_)
  refine tk 18 hX (k:=?_)
  refine tk 19 hX (k:=?_)
  refine tk 20 hX (k:=?_)
  refine tk 21 hX (k:=?_)
  refine tk 22 hX (k:=?_)
  refine dt 23 hX (k:=?_)
  (with_reducible apply xs_call);exact rfl;exact rfl;exact elig_ret ⟨5,3,2,2⟩ ⟨5,0,1⟩ (by decide) (by decide) _
  rw [show elig ⟨5,3,2,2⟩ ⟨5,0,1⟩=true from by decide]
  rintro v w' ⟨rfl,ho⟩;replace hs:=hs.call0 ho;repeat' (first|refine Nx.h ?_|fail)
  refine dn (k:=?_)
  refine tk 24 hX (k:=?_)
  refine tk 25 hX (k:=?_)
  refine tk 26 hX (k:=?_)
  refine tk 27 hX (k:=?_)
  refine dt 28 hX (k:=?_)
  (with_reducible apply xs_call);exact rfl;exact rfl;exact elig_ret ⟨5,3,2,2⟩ ⟨8,0,1⟩ (by decide) (by decide) _
  rw [show elig ⟨5,3,2,2⟩ ⟨8,0,1⟩=false from by decide]
  rintro v w' ⟨rfl,ho⟩;replace hs:=hs.call0 ho;repeat' (first|refine Nx.h ?_|fail)
  refine dn (k:=?_)
  refine tk 29 hX (k:=?_)
  refine tk 30 hX (k:=?_)
  refine tk 31 hX (k:=?_)
  refine en (k:=?_)
  repeat' (first|refine Nx.h ?_|fail)
  first | refine rt (hq:=?_) | refine rt' (hq:=?_)
  exact ⟨rfl,hs.only0 rfl⟩
theorem Awake9_ret (w0:World) (ht:Pows w0):Ret Tryz.prog 288 #[] w0 fun v w'=>v = .bool true∧Only [] w0 w':=by
  have hs:=St.nil w0
  refine ret_of_xc Tryz.func288 (by kernel_rfl) rfl Tryz.ntmps288 rfl rfl rfl ?_
  repeat' (first|refine vs (k:=?_)|refine qRg ?_|refine Nx.h ?_|fail)
  (with_reducible apply xs_call);exact rfl;exact rfl;exact awake9_ret _ ht
  rintro v w' ⟨rfl,ho⟩;replace hs:=hs.call0 ho;repeat' (first|refine vs (k:=?_)|refine Nx.h ?_|fail)
  first | refine rt (hq:=?_) | refine rt' (hq:=?_)
  exact ⟨rfl,hs.only0 rfl⟩
set_option maxHeartbeats 2000000 in
theorem awake10_ret (w0:World) (ht:Pows w0):Ret Tryz.prog 287 #[] w0 fun v w'=>v = .bool true∧Only [] w0 w':=by
  have hs:=St.nil w0
  refine ret_of_xc Tryz.func287 (by kernel_rfl) rfl Tryz.ntmps287 rfl rfl rfl ?_
  repeat' (first|refine vs (k:=?_)|(refine bs hs (k:=?_);intro b w hz hs)|refine qRg ?_|refine Nx.h ?_|fail)
  (with_reducible apply xs_call);exact rfl;exact rfl;exact of_mean_ret 0 [⟨10,0,1⟩] _ (by decide) (by decide) (by simp) _ (ps_one (hs.get At.head))
  rw [show ofM 0 [⟨10,0,1⟩]=some ⟨0,10,1,1⟩ from by decide]
  rintro v w' ⟨rfl,ho⟩;replace hs:=hs.call0 ho;repeat' (first|refine vs (k:=?_)|(refine stA hs (k:=?_);intro w hs)|(refine al hs (k:=?_);intro b w hz hs)|refine qRg ?_|refine Nx.h ?_|fail)
  (with_reducible apply xs_call);exact rfl;exact rfl;exact place_ret ⟨0,10,1,1⟩ 0 1 2 (by decide) (by decide) (by decide) _
  rw [show plM ⟨0,10,1,1⟩ 0 1 2=some ⟨6,0,1⟩ from by decide]
  rintro v w' ⟨rfl,ho⟩;replace hs:=hs.call0 ho;repeat' (first|refine vs (k:=?_)|(refine stA hs (k:=?_);intro w hs)|(refine al hs (k:=?_);intro b w hz hs)|refine qRg ?_|refine Nx.h ?_|fail)
  (with_reducible apply xs_call);exact rfl;exact rfl;exact Awake9_ret _ (tab_only ht (hs.only0 rfl))
  rintro v w' ⟨rfl,ho⟩;replace hs:=hs.call0 ho;repeat' (first|refine vs (k:=?_)|refine Nx.h ?_|fail)
  first | refine rt (hq:=?_) | refine rt' (hq:=?_)
  exact ⟨rfl,hs.only0 rfl⟩
theorem Awake10_ret (w0:World) (ht:Pows w0):Ret Tryz.prog 286 #[] w0 fun v w'=>v = .bool true∧Only [] w0 w':=by
  have hs:=St.nil w0
  refine ret_of_xc Tryz.func286 (by kernel_rfl) rfl Tryz.ntmps286 rfl rfl rfl ?_
  repeat' (first|refine vs (k:=?_)|refine qRg ?_|refine Nx.h ?_|fail)
  (with_reducible apply xs_call);exact rfl;exact rfl;exact awake10_ret _ ht
  rintro v w' ⟨rfl,ho⟩;replace hs:=hs.call0 ho;repeat' (first|refine vs (k:=?_)|refine Nx.h ?_|fail)
  first | refine rt (hq:=?_) | refine rt' (hq:=?_)
  exact ⟨rfl,hs.only0 rfl⟩
set_option maxHeartbeats 2000000 in
theorem awake11_ret (w0:World) (ht:Pows w0):Ret Tryz.prog 285 #[] w0 fun v w'=>v = .bool true∧Only [] w0 w':=by
  have hs:=St.nil w0
  refine ret_of_xc Tryz.func285 (by kernel_rfl) rfl Tryz.ntmps285 rfl rfl rfl ?_
  repeat' (first|refine vs (k:=?_)|(refine stA hs (k:=?_);intro w hs)|(refine al hs (k:=?_);intro b w hz hs)|(refine bs hs (k:=?_);intro b w hz hs)|refine qRg ?_|refine Nx.h ?_|fail)
  (with_reducible apply xs_call);exact rfl;exact rfl;exact of_mean_ret 5 [⟨5,0,1⟩,⟨8,0,1⟩] _ (by decide) (by decide) (by simp) _ (ps_two (hs.get At.head))
  rw [show ofM 5 [⟨5,0,1⟩,⟨8,0,1⟩]=some ⟨5,3,2,2⟩ from by decide]
  rintro v w' ⟨rfl,ho⟩;replace hs:=hs.call0 ho;repeat' (first|refine vs (k:=?_)|(refine stA hs (k:=?_);intro w hs)|(refine al hs (k:=?_);intro b w hz hs)|refine qRg ?_|refine Nx.h ?_|fail)
  (with_reducible apply xs_call);exact rfl;exact rfl;exact weigh_ret ⟨5,3,2,2⟩ ⟨8,0,1⟩ 2 (by decide) (by decide) (by decide) _
  rw [show weM ⟨5,3,2,2⟩ ⟨8,0,1⟩ 2=some ⟨7,0,2⟩ from by decide]
  rintro v w' ⟨rfl,ho⟩;replace hs:=hs.call0 ho;repeat' (first|refine vs (k:=?_)|(refine stA hs (k:=?_);intro w hs)|(refine al hs (k:=?_);intro b w hz hs)|refine qRg ?_|refine Nx.h ?_|fail)
  (with_reducible apply xs_call);exact rfl;exact rfl;exact Awake10_ret _ (tab_only ht (hs.only0 rfl))
  rintro v w' ⟨rfl,ho⟩;replace hs:=hs.call0 ho;repeat' (first|refine vs (k:=?_)|refine Nx.h ?_|fail)
  first | refine rt (hq:=?_) | refine rt' (hq:=?_)
  exact ⟨rfl,hs.only0 rfl⟩
theorem Awake11_ret (w0:World) (ht:Pows w0):Ret Tryz.prog 284 #[] w0 fun v w'=>v = .bool true∧Only [] w0 w':=by
  have hs:=St.nil w0
  refine ret_of_xc Tryz.func284 (by kernel_rfl) rfl Tryz.ntmps284 rfl rfl rfl ?_
  repeat' (first|refine vs (k:=?_)|refine qRg ?_|refine Nx.h ?_|fail)
  (with_reducible apply xs_call);exact rfl;exact rfl;exact awake11_ret _ ht
  rintro v w' ⟨rfl,ho⟩;replace hs:=hs.call0 ho;repeat' (first|refine vs (k:=?_)|refine Nx.h ?_|fail)
  first | refine rt (hq:=?_) | refine rt' (hq:=?_)
  exact ⟨rfl,hs.only0 rfl⟩
theorem wat_two {w:World} {b:Nat} {x y:Int} (hb:w.heap[b]?=some (.cells #[.int .i64 (x / 18446744073709551616),.int .u64 (x % 18446744073709551616),.int .i64 (y / 18446744073709551616),.int .u64 (y % 18446744073709551616)] 70 (0,0))):WAt w (.slice (some ⟨b,0,none⟩) 2 2) [x,y] :=
  ⟨_,2,rfl,fun _=>⟨b,0,_,_,(0,0),rfl,hb,fun i x h=>by
    rcases i with _ | _ | i
    · cases h;exact ⟨rfl,rfl⟩
    · cases h;exact ⟨rfl,rfl⟩
    · simp at h⟩⟩
set_option maxHeartbeats 2000000 in
theorem awake12_ret (w0:World) (ht:Pows w0):Ret Tryz.prog 283 #[] w0 fun v w'=>v = .bool true∧Only [] w0 w':=by
  have hs:=St.nil w0
  refine ret_of_xc Tryz.func283 (by kernel_rfl) rfl Tryz.ntmps283 rfl rfl rfl ?_
  repeat' (first|refine vs (k:=?_)|refine qRg ?_|refine Nx.h ?_|fail)
  (with_reducible apply xs_call);exact rfl;exact rfl;exact window_ret 1 1 (by decide) (by decide) _
  rw [show winC 1 1=some 3145728 from by decide]
  rintro v w' ⟨rfl,ho⟩;replace hs:=hs.call0 ho;repeat' (first|refine vs (k:=?_)|refine qRg ?_|refine Nx.h ?_|fail)
  (with_reducible apply xs_call);exact rfl;exact rfl;exact Awake11_ret _ (tab_only ht (hs.only0 rfl))
  rintro v w' ⟨rfl,ho⟩;replace hs:=hs.call0 ho;repeat' (first|refine vs (k:=?_)|fail)
  (with_reducible apply xs_call);exact rfl;exact rfl;exact of_ret (-5) (by decide) (by decide) _
  rintro v w' ⟨rfl,ho⟩;replace hs:=hs.call0 ho;skip
  (with_reducible apply xs_call);exact rfl;exact rfl;exact of_ret 0 (by decide) (by decide) _
  rintro v w' ⟨rfl,ho⟩;replace hs:=hs.call0 ho;repeat' (first|(refine bs hs (k:=?_);intro b w hz hs)|fail)
  (with_reducible apply xs_call);exact rfl;exact rfl;exact carried_ret [-5,0] _ (fun i x h=>(by
    have hy:=List.mem_of_getElem? h
    simp only [List.mem_cons,List.not_mem_nil,or_false] at hy
    rcases hy with rfl | rfl <;> decide)) (by simp) _ (wat_two (hs.get At.head))
  rw [show caF 0 [-5,0]=9 from by decide]
  rintro v w' ⟨rfl,ho⟩;replace hs:=hs.call0 ho;skip
  (with_reducible apply xs_call);exact rfl;exact rfl;exact of_ret 9 (by decide) (by decide) _
  rintro v w' ⟨rfl,ho⟩;replace hs:=hs.call0 ho;repeat' (first|refine vs (k:=?_)|refine Nx.h ?_|fail)
  first | refine rt (hq:=?_) | refine rt' (hq:=?_)
  exact ⟨rfl,hs.only0 rfl⟩
theorem Awake12_ret (w0:World) (ht:Pows w0):Ret Tryz.prog 281 #[] w0 fun v w'=>v = .bool true∧Only [] w0 w':=by
  have hs:=St.nil w0
  refine ret_of_xc Tryz.func281 (by kernel_rfl) rfl Tryz.ntmps281 rfl rfl rfl ?_
  repeat' (first|refine vs (k:=?_)|refine qRg ?_|refine Nx.h ?_|fail)
  (with_reducible apply xs_call);exact rfl;exact rfl;exact awake12_ret _ ht
  rintro v w' ⟨rfl,ho⟩;replace hs:=hs.call0 ho;repeat' (first|refine vs (k:=?_)|refine Nx.h ?_|fail)
  first | refine rt (hq:=?_) | refine rt' (hq:=?_)
  exact ⟨rfl,hs.only0 rfl⟩
theorem its_one {w:World} {b:Nat} {a:It} (hb:w.heap[b]?=some (.cells a.cells.toArray 64 (0,0))):ItsAt w (.slice (some ⟨b,0,none⟩) 1 1) [a]:=IB.its_one hb
set_option maxHeartbeats 2000000 in
theorem awake13_ret (w0:World) (ht:Pows w0):Ret Tryz.prog 279 #[] w0 fun v w'=>v = .bool true∧Only [] w0 w':=by
  have hs:=St.nil w0
  refine ret_of_xc Tryz.func279 (by kernel_rfl) rfl Tryz.ntmps279 rfl rfl rfl ?_
  repeat' (first|refine vs (k:=?_)|refine qRg ?_|refine Nx.h ?_|fail)
  refine xs_val (v:=pv ⟨0,0,0⟩) rfl (r_fieldV (k:=0) (t:=62) (n:=3) (by kernel_rfl) (by kernel_rfl) rfl rfl) ?_
  (with_reducible apply xs_call);exact rfl;exact rfl;exact pshift_ret ⟨0,0,0⟩ 4611686018427387905 _
  rw [show Pt.shift ⟨0,0,0⟩ 4611686018427387905=⟨4611686018427387905,0,0⟩ from by decide]
  rintro v w' ⟨rfl,ho⟩;replace hs:=hs.call0 ho;repeat' (first|refine vs (k:=?_)|(refine stA hs (k:=?_);intro w hs)|(refine al hs (k:=?_);intro b w hz hs)|refine qRg ?_|refine Nx.h ?_|fail)
  (with_reducible apply xs_call);exact rfl;exact rfl;exact Awake12_ret _ (tab_only ht (hs.only0 rfl))
  rintro v w' ⟨rfl,ho⟩;replace hs:=hs.call0 ho;repeat' (first|refine vs (k:=?_)|fail)
  (with_reducible apply xs_call);exact rfl;exact rfl;exact room0_ret _
  rintro v w' ⟨rfl,ho⟩;replace hs:=hs.call0 ho;repeat' (first|refine vs (k:=?_)|(refine bs hs (k:=?_);intro b w hz hs)|fail)
  (with_reducible apply xs_call);exact rfl;exact rfl;exact within_ret 0 [⟨⟨0,0,0⟩,0,⟨4611686018427387905,0,0⟩⟩] _ (by simp) _ (its_one (hs.get At.head))
  rw [show within 0 [⟨⟨0,0,0⟩,0,⟨4611686018427387905,0,0⟩⟩]=false from by decide]
  rintro v w' ⟨rfl,ho⟩;replace hs:=hs.call0 ho;repeat' (first|refine vs (k:=?_)|refine Nx.h ?_|fail)
  first | refine rt (hq:=?_) | refine rt' (hq:=?_)
  exact ⟨rfl,hs.only0 rfl⟩
theorem Awake13_ret (w0:World) (ht:Pows w0):Ret Tryz.prog 278 #[] w0 fun v w'=>v = .bool true∧Only [] w0 w':=by
  have hs:=St.nil w0
  refine ret_of_xc Tryz.func278 (by kernel_rfl) rfl Tryz.ntmps278 rfl rfl rfl ?_
  repeat' (first|refine vs (k:=?_)|refine qRg ?_|refine Nx.h ?_|fail)
  (with_reducible apply xs_call);exact rfl;exact rfl;exact awake13_ret _ ht
  rintro v w' ⟨rfl,ho⟩;replace hs:=hs.call0 ho;repeat' (first|refine vs (k:=?_)|refine Nx.h ?_|fail)
  first | refine rt (hq:=?_) | refine rt' (hq:=?_)
  exact ⟨rfl,hs.only0 rfl⟩
end Go.Proofs.YtalffooghioekaaGreatDoorX

namespace Go.Proofs.YtalffooghioekaaGreatDoorX
open Go Go.RowKit
open IB (IT ITsAt flatT)
attribute [local irreducible] XS XC XA thenE blockE retE loopE loopS cutB cutN doneE SE
def okQ:Obj→Bool
  | .cells _ ty _=>!(Nat.beq ty 295) && !(Nat.beq ty 225) && !(Nat.beq ty 132)
  | _=>false
theorem QAt.apart {wb w:World} {D:Ctx} {H:List Ent} {qb:Nat} {s:Qs} {F:List Nat} (h:QAt w qb s F) (hs:St wb D H w) (hH:(H.all fun e=>okQ e.2.1)=true):∀ k∈F,k∉H.map (·.1):=fun k hk hm=>by
  obtain ⟨e,he,rfl⟩:=List.mem_map.1 hm
  have h1:=List.all_eq_true.1 hH e he
  have h2:=hs.at_ e he
  cases ho:e.2.1 with
  | cells cs ty fz =>
    rw [ho] at h1 h2
    simp only [okQ,Bool.and_eq_true,Bool.not_eq_true'] at h1
    exact h.not h2 (fun e=>by rw [e] at h1;exact absurd h1.1.1 (by decide)) (fun e=>by rw [e] at h1;exact absurd h1.1.2 (by decide)) (fun e=>by rw [e] at h1;exact absurd h1.2 (by decide)) hk
  | _=>rw [ho] at h1;cases h1
def ia:IT:=⟨⟨⟨5,0,1⟩,1,⟨9,0,1⟩⟩,by decide⟩
def ib:IT:=⟨⟨⟨8,0,1⟩,2,⟨8,0,1⟩⟩,by decide⟩
theorem j1:joinE (newQ 0) ia=0:=by kernel_rfl
theorem j2:joinE (joinQ (newQ 0) ia) ib=0:=by kernel_rfl
theorem j3:(joinQ (joinQ (newQ 0) ia) ib).t.list.length=2:=by kernel_rfl
theorem j4:owedQ (joinQ (joinQ (newQ 0) ia) ib) 1=1:=by kernel_rfl
theorem j5:owedQ (joinQ (joinQ (newQ 0) ia) ib) 2=-1:=by kernel_rfl
theorem j8:((joinQ (joinQ (newQ 0) ia) ib).f 1).isSome=true:=by kernel_rfl
theorem j9:((joinQ (joinQ (newQ 0) ia) ib).f 2).isSome=true:=by kernel_rfl
theorem j6:soonQ (joinQ (joinQ (newQ 0) ia) ib)=some ia:=by kernel_rfl
set_option maxHeartbeats 4000000 in
theorem awake14_ret (w0:World) (ht:Pows w0):Ret Tryz.prog 277 #[] w0 fun v w'=>v = .bool true∧Only [] w0 w':=by
  have hs:=St.nil w0
  refine ret_of_xc Tryz.func277 (by kernel_rfl) rfl Tryz.ntmps277 rfl rfl rfl ?_
  repeat' (first|refine vs (k:=?_)|refine qRg ?_|refine Nx.h ?_|fail)
  (with_reducible apply xs_call);exact rfl;exact rfl;exact qnew_ret 0 (by decide) _
  rintro v w1 ⟨⟨qb,F0,rfl,hQ,hF0⟩,ho1⟩
  have hF0:∀ k∈F0,w0.heap.size≤k:=fun k hk=>by have:=hF0 k hk;have:=hs.size;omega
  have hz1:=ho1.size
  have hq:=hs.call0 ho1
  have ho1':=hq.only0 rfl
  clear hs hq
  have hs:=St.nil w1
  refine vs (k:=?_)
  repeat' (first|refine vs (k:=?_)|(refine stA hs (k:=?_);intro w hs)|(refine al hs (k:=?_);intro b w hz hs)|refine qRg ?_|refine Nx.h ?_|refine qCf ?_|fail)
  refine dr [] hs (k:=?_);intro hX w hs
  refine tk 0 hX (k:=?_)
  refine tk 1 hX (k:=?_)
  refine tk 3 hX (k:=?_)
  refine tk 4 hX (k:=?_)
  refine dt 2 hX (k:=?_)
  have hQ1:=hQ.only (hs.only0 rfl)
  (with_reducible apply xs_call);exact rfl;exact rfl;exact qjoin_ret qb (newQ 0) F0 ia _ hQ1 (by decide) (by decide)
  rintro v w2 ⟨rfl,F1,hQ2,hF1,ho2⟩
  rw [j1]
  have hzw:=hs.size
  replace hs:=hs.call ho2 (hQ1.apart hs rfl) (by simp [D0])
  have hF1':∀ k∈F1,w0.heap.size≤k:=fun k hk=>by
    rcases hF1 k hk with h | h
    · exact hF0 k h
    · omega
  repeat' (first|refine Nx.h ?_|fail)
  refine dn (k:=?_)
  refine dt 5 hX (k:=?_)
  (with_reducible apply xs_call);exact rfl;exact rfl;exact qjoin_ret qb (joinQ (newQ 0) ia) F1 ib _ hQ2 (by decide) (by decide)
  rintro v w3 ⟨rfl,F2,hQ3,hF2,ho3⟩
  rw [j2]
  replace hs:=hs.call ho3 (hQ2.apart hs rfl) (by simp [D0])
  have hm:∀ w',Only (F1 ++ (F0 ++ [])) w1 w'→Only [] w0 w':=fun w' ho=>ho1'.step ho (fun k hk=>by
    rw [List.append_nil,List.mem_append] at hk
    rcases hk with hk | hk
    · exact .inr (hF1' k hk)
    · exact .inr (hF0 k hk))
  have hlen:=j3
  have e1:=j4
  have e2:=j5
  have e3:=j6
  have hf1:=j8
  have hf2:=j9
  generalize joinQ (joinQ (newQ 0) ia) ib=s at *
  have kQ:∀ w',Only [] w3 w'→QAt w' qb s F2:=fun w' ho=>hQ3.only ho
  clear hQ hQ1 hQ2
  repeat' (first|refine Nx.h ?_|fail)
  refine dn (k:=?_)
  refine tk 6 hX (k:=?_)
  refine tk 7 hX (k:=?_)
  refine en (k:=?_)
  repeat' (first|refine vs (k:=?_)|refine qRg ?_|refine Nx.h ?_|fail)
  (with_reducible apply xs_call);exact rfl;exact rfl;exact qowed_ret qb s F2 1 _ hQ3 (by decide)
  rw [e1,hf1]
  rintro v w4 ⟨rfl,ho4⟩;replace hQ3:=hQ3.only ho4;replace hs:=hs.call0 ho4
  repeat' (first|refine vs (k:=?_)|refine qRg ?_|refine Nx.h ?_|fail)
  (with_reducible apply xs_call);exact rfl;exact rfl;exact qowed_ret qb s F2 2 _ hQ3 (by decide)
  rw [e2,hf2]
  rintro v w5 ⟨rfl,ho5⟩;replace hQ3:=hQ3.only ho5;replace hs:=hs.call0 ho5
  repeat' (first|refine vs (k:=?_)|refine qRg ?_|refine Nx.h ?_|fail)
  (with_reducible apply xs_call);exact rfl;exact rfl;exact qsoonest_ret qb s F2 _ hQ3
  rw [e3]
  rintro v w' ⟨rfl,ho⟩;replace hs:=hs.call0 ho;repeat' (first|refine vs (k:=?_)|(refine stA hs (k:=?_);intro w hs)|(refine al hs (k:=?_);intro b w hz hs)|refine qRg ?_|refine Nx.h ?_|fail)
  (with_reducible apply xs_call);exact rfl;exact rfl;exact Awake13_ret _ (tab_only ht (hm _ hs.only))
  rintro v w' ⟨rfl,ho⟩;replace hs:=hs.call0 ho;repeat' (first|refine vs (k:=?_)|refine Nx.h ?_|fail)
  first | refine rt (hq:=?_) | refine rt' (hq:=?_)
  exact ⟨rfl,hm _ hs.only⟩
theorem Awake14_ret (w0:World) (ht:Pows w0):Ret Tryz.prog 276 #[] w0 fun v w'=>v = .bool true∧Only [] w0 w':=by
  have hs:=St.nil w0
  refine ret_of_xc Tryz.func276 (by kernel_rfl) rfl Tryz.ntmps276 rfl rfl rfl ?_
  repeat' (first|refine vs (k:=?_)|refine qRg ?_|refine Nx.h ?_|fail)
  (with_reducible apply xs_call);exact rfl;exact rfl;exact awake14_ret _ ht
  rintro v w' ⟨rfl,ho⟩;replace hs:=hs.call0 ho;repeat' (first|refine vs (k:=?_)|refine Nx.h ?_|fail)
  first | refine rt (hq:=?_) | refine rt' (hq:=?_)
  exact ⟨rfl,hs.only0 rfl⟩
theorem n1:newR ⟨1,0,1⟩ 1 3=some ⟨⟨⟨1,0,1⟩,1,⟨3145729,0,1⟩⟩,3,3,false⟩:=by kernel_rfl
theorem n2:servedL ⟨⟨⟨1,0,1⟩,1,⟨3145729,0,1⟩⟩,3,3,false⟩ 0 [1,2]=some (⟨⟨⟨3145729,0,1⟩,1,⟨6291457,0,1⟩⟩,3,3,false⟩,1):=by kernel_rfl
theorem u64_two {w:World} {b:Nat} {x y:Int} (hb:w.heap[b]?=some (.cells #[.int .u64 x,.int .u64 y] 22 (0,0))):LsAt w 22 1 (.slice (some ⟨b,0,none⟩) 2 2) ([x,y].map fun n=>[.int .u64 n]) :=
  ⟨_,2,rfl,fun _=>⟨b,0,_,(0,0),rfl,Nat.le_refl _,hb,fun i x h=>by
    rcases i with _ | _ | i
    · cases h;exact pick_of rfl rfl
    · cases h;exact pick_of rfl rfl
    · simp at h⟩⟩
set_option maxHeartbeats 4000000 in
theorem awake15_ret (w0:World) (ht:Pows w0):Ret Tryz.prog 274 #[] w0 fun v w'=>v = .bool true∧Only [] w0 w':=by
  have hs:=St.nil w0
  refine ret_of_xc Tryz.func274 (by kernel_rfl) rfl Tryz.ntmps274 rfl rfl rfl ?_
  repeat' (first|refine vs (k:=?_)|refine qRg ?_|refine Nx.h ?_|fail)
  (with_reducible apply xs_call);exact rfl;exact rfl;exact rnew_ret ⟨1,0,1⟩ 1 3 (by decide) (by decide) (by decide) _
  rw [n1]
  rintro v w' ⟨rfl,ho⟩;replace hs:=hs.call0 ho;repeat' (first|refine vs (k:=?_)|(refine stA hs (k:=?_);intro w hs)|(refine al hs (k:=?_);intro b w hz hs)|(refine bs hs (k:=?_);intro b w hz hs)|refine qRg ?_|refine Nx.h ?_|fail)
  (with_reducible apply xs_call);exact rfl;exact rfl;exact rserved_ret ⟨⟨⟨1,0,1⟩,1,⟨3145729,0,1⟩⟩,3,3,false⟩ [1,2] _ (by decide) (by decide) (by decide) _ (u64_two (hs.get At.head))
  rw [n2]
  rintro v w' ⟨rfl,ho⟩;replace hs:=hs.call0 ho;repeat' (first|refine vs (k:=?_)|(refine stA hs (k:=?_);intro w hs)|(refine al hs (k:=?_);intro b w hz hs)|refine qRg ?_|refine Nx.h ?_|fail)
  (with_reducible apply xs_call);exact rfl;exact rfl;exact Awake14_ret _ (tab_only ht (hs.only0 rfl))
  rintro v w' ⟨rfl,ho⟩;replace hs:=hs.call0 ho;repeat' (first|refine vs (k:=?_)|refine Nx.h ?_|fail)
  first | refine rt (hq:=?_) | refine rt' (hq:=?_)
  exact ⟨rfl,hs.only0 rfl⟩
theorem Awake15_ret (w0:World) (ht:Pows w0):Ret Tryz.prog 269 #[] w0 fun v w'=>v = .bool true∧Only [] w0 w':=by
  have hs:=St.nil w0
  refine ret_of_xc Tryz.func269 (by kernel_rfl) rfl Tryz.ntmps269 rfl rfl rfl ?_
  repeat' (first|refine vs (k:=?_)|refine qRg ?_|refine Nx.h ?_|fail)
  (with_reducible apply xs_call);exact rfl;exact rfl;exact awake15_ret _ ht
  rintro v w' ⟨rfl,ho⟩;replace hs:=hs.call0 ho;repeat' (first|refine vs (k:=?_)|refine Nx.h ?_|fail)
  first | refine rt (hq:=?_) | refine rt' (hq:=?_)
  exact ⟨rfl,hs.only0 rfl⟩
end Go.Proofs.YtalffooghioekaaGreatDoorX

namespace Go.Proofs
open Go.RowKit Go.Maps Go.Sort Go.Shelf
theorem Tryz.sortsA (m:Nat):AnyZI.SortsIn Tryz.prog Tryz.sortedA_ren Fence.wide m :=
  ⟨fun blk off cap ss W hH hblk hsz=>callsIn_wide.2 (AnyM.slices_Sort_int Tryz.sortA blk off cap ss W hH hblk hsz),
   fun p cap W=>callsIn_wide.2 (AnyM.slices_Sort_int_none Tryz.sortA p cap W)⟩
end Go.Proofs
namespace Go.Proofs.YtalffooghioekaaGreatDoorX
open Go Go.RowKit Go.Maps Go.Sort Go.Shelf
theorem keys_calls (b:Nat) (w:World):Calls Tryz.prog 66 #[.map (some b)] w fun e w'=>e = .returned (.func (.func 117) #[] #[.pointer (some ⟨w.heap.size,0,none⟩)])∧w'=w.alloc (.cells #[.map (some b)] 77) :=
  (callsIn_wide (n:=5)).1 (AnyZI.keys_in Tryz.keysA Fence.wide 5 trivial rfl (some b) w)
set_option maxHeartbeats 1000000 in
theorem sorted_calls {H:Type} (b nn:Nat) (D0:DataW H) (R:Value→Option (DataW H × List MemPlace)) (w:World) (hown:w.ownsMap Tryz.prog 3 R b nn D0) (hmax:Maps.size D0≤maxLen) (hbytes:Maps.size D0*8≤140737488355328) :
    Calls Tryz.prog 65 #[.func (.func 117) #[] #[.pointer (some ⟨w.heap.size,0,none⟩)]] (w.alloc (.cells #[.map (some b)] 77)) fun e w'=>∃ (v:Value) (ss:List Int),e = .returned v∧ss.Perm (intKeys D0) ∧
      w'.ownsRow (w.heap.size+1) 3 1 v ss.length ((ss.mergeSort (fun x y=>decide (x≤y))).map encZ)∧(v = .slice none 0 0↔ss=[])∧Below (w.heap.size+1) (w.alloc (.cells #[.map (some b)] 77)) w':=by
  refine (callsIn_wide (n:=5)).1 ?_
  have hbl:=hown.lt
  have hseq:SeqGives Fence.wide 2 Tryz.prog 117 #[.pointer (some ⟨w.heap.size,0,none⟩)] encZ (fun ss=>ss.Perm (intKeys D0)) (Maps.size D0) (w.alloc (.cells #[.map (some b)] 77)) :=
    AnyZI.keys_gives (ρ:=Tryz.keysA_ren) { Tryz.keysA with } Fence.wide _ trivial rfl (by omega) w.heap.size b nn D0 _ (by simp) (by simp) (by
      obtain ⟨es,clock,hb,Ft,hs,hD⟩:=hown
      exact ⟨es,clock,(Below.heap_alloc _ _ b hbl).trans hb,Ft,hs,hD⟩)
  have cS:=AnyZI.sorted_in Tryz.sortedA Fence.wide 5 trivial trivial trivial trivial rfl (by omega) (Tryz.sortsA _) (enters_of Tryz.func116 (by kernel_rfl) rfl) 117 #[.pointer (some ⟨w.heap.size,0,none⟩)] trivial (enters_of Tryz.func117 (by kernel_rfl) rfl) _ _ hmax hbytes _ hseq
  change CallsIn _ _ Tryz.prog 65 _ _ _ at cS
  refine cS.mono ?_
  rintro e w' ⟨v,ss,rfl,hS,hrow,hnil,hb⟩
  rw [show (w.alloc (.cells #[.map (some b)] 77)).heap.size=w.heap.size+1 by simp] at hrow hb
  exact ⟨v,ss,rfl,hS,hrow,hnil,hb⟩
end Go.Proofs.YtalffooghioekaaGreatDoorX

namespace Go.Proofs.YtalffooghioekaaGreatDoorX
open Go Go.RowKit Go.Maps Go.Sort Go.Shelf
attribute [local irreducible] XS XC XA thenE blockE retE loopE loopS cutB cutN doneE SE
theorem MapAt.perm {w:World} {b c:Nat} {f:Int→Option Value} (h:MapAt w b f c):∃ D:DataW Value,w.ownsMap Tryz.prog 3 hld b c D∧Maps.size D=c∧∀ ss:List Int,ss.Nodup→(∀ x,x∈ss↔In64 x∧(f x).isSome=true)→ss.Perm (intKeys D):=by
  obtain ⟨D,h1,h2,h3⟩:=h
  refine ⟨D,h1,h2,fun ss hnd hm=>?_⟩
  obtain ⟨es,rfl,hp,_⟩:=h1.entries intK
  obtain ⟨es',he,hk⟩:=h1.keysOf
  cases he
  have hkk:∀ p∈es,∃ x,p.1 = .int .i64 x∧In64 x:=fun p hpm=>by
    obtain ⟨v,hv⟩:=hk p hpm
    obtain ⟨x,_,e,hw⟩:=Maps.keyOf_i64 (by kernel_rfl) hv
    refine ⟨x,e,?_⟩
    have e1:IntKind.i64.min=-9223372036854775808:=rfl
    have e2:IntKind.i64.max=9223372036854775807:=rfl
    have hw':(decide (IntKind.i64.min≤x) && decide (x≤IntKind.i64.max))=true:=hw
    simp only [Bool.and_eq_true,decide_eq_true_eq,e1,e2] at hw'
    exact ⟨hw'.1,by omega⟩
  refine perm_intKeys hp (fun p hpm=>by obtain ⟨x,e,_⟩:=hkk p hpm;exact ⟨x,e⟩) hnd fun x=>?_
  rw [hm x]
  constructor
  · rintro ⟨hi,hs⟩
    exact ((h3 x hi).1).trans hs
  · intro hh
    have hi:In64 x:=by
      rw [has_eq,List.any_eq_true] at hh
      obtain ⟨p,hpm,hs⟩:=hh
      obtain ⟨y,e,hy⟩:=hkk p hpm
      rw [e] at hs
      have:y=x:=by simpa [Lit.sameKey] using hs
      exact this ▸ hy
    exact ⟨hi,((h3 x hi).1).symm.trans hh⟩
theorem sort_id {l ss:List Int} (hl:l.Pairwise (· < ·)) (hp:ss.Perm l):ss.mergeSort (fun x y=>decide (x≤y))=l:=by
  have h:=mergeSort_of_perm_i hp
  unfold leI at h
  rw [h]
  exact List.mergeSort_of_pairwise (hl.imp fun {a b} h=>by simpa using Int.le_of_lt h)
def intR (i:Int):List Value:=[.int .i64 i]
theorem flat_int (l:List Int):(l.map intR).flatten=l.map encZ:=by
  induction l with
  | nil=>rfl
  | cons a l ih=>rw [List.map_cons,List.flatten_cons,ih];rfl
theorem slv_of_row {w:World} {base e size n:Nat} {v:Value} {xs:List Value} (h:w.ownsRow base e size v n xs):∃ G,SlV w e size v n xs G∧∀ k∈G,base≤k:=by
  obtain ⟨h1,h2⟩:=h
  rcases h2 with ⟨rfl,rfl⟩ | ⟨g,cap,cur,rfl,hb,hg,hc,_,hz,ht⟩
  · exact ⟨[],.inl ⟨rfl,rfl,by rw [Nat.zero_mul] at h1;exact List.eq_nil_of_length_eq_zero h1,rfl⟩,by simp⟩
  · exact ⟨[g],.inr ⟨g,cap,cur.toList,rfl,rfl,hc,by simpa using hz,h1,ht,by simpa using hg⟩,by simpa using hb⟩
theorem keys_ret (b:Nat) (w0:World):Ret Tryz.prog 66 #[.map (some b)] w0 fun v w'=>v = .func (.func 117) #[] #[.pointer (some ⟨w0.heap.size,0,none⟩)]∧w'=w0.alloc (.cells #[.map (some b)] 77) :=
  ret_of_calls (by kernel_rfl) ((keys_calls b w0).mono fun e w' ⟨h1,h2⟩=>⟨_,h1,rfl,h2⟩)
theorem sorted_ret (b c:Nat) (f:Int→Option Value) (l:List Int) (w0:World) (h:MapAt w0 b f c) (hc:c≤1000000) (hl:l.Pairwise (· < ·)) (hm:∀ x,x∈l↔In64 x∧(f x).isSome=true) :
    Ret Tryz.prog 65 #[.func (.func 117) #[] #[.pointer (some ⟨w0.heap.size,0,none⟩)]] (w0.alloc (.cells #[.map (some b)] 77)) fun v w'=>LsAt w' 3 1 v (l.map intR)∧l.length=c∧Only [] (w0.alloc (.cells #[.map (some b)] 77)) w':=by
  obtain ⟨D,h1,h2,h3⟩:=h.perm
  have hp:=h3 l (hl.imp fun {a b} h e=>by subst e;exact Int.lt_irrefl _ h) hm
  have hml:maxLen=9223372036854775807:=rfl
  refine ret_of_calls (by kernel_rfl) ((sorted_calls b c D hld w0 h1 (by omega) (by omega)).mono fun e w' ⟨v,ss,he,hS,hrow,_,hb⟩=>⟨v,he,?_,?_,?_⟩)
  · have e1:=sort_id hl (hS.trans hp.symm)
    have e2:ss.length=l.length:=(hS.trans hp.symm).length_eq
    rw [e1,e2] at hrow
    obtain ⟨G,hG,_⟩:=slv_of_row hrow
    exact hG.ls (flat_int l).symm (by simp) (fun x hx=>by obtain ⟨i,_,rfl⟩:=List.mem_map.1 hx;rfl)
  · rw [hp.length_eq,← h2]
    obtain ⟨es,rfl,_⟩:=h1.entries intK
    simp [intKeys,Maps.size_eq]
  · refine Only.of_below (by simpa using hb)
end Go.Proofs.YtalffooghioekaaGreatDoorX

namespace Go.Proofs.YtalffooghioekaaGreatDoorX
open Go Go.RowKit
open IB (IT ITsAt flatT)
attribute [local irreducible] XS XC XA thenE blockE retE loopE loopS cutB cutN doneE SE
structure Ss where
  q:Qs
  l:List RT
abbrev setO (qb mb:Nat):Obj := .cells #[.pointer (some ⟨qb,0,none⟩),.map (some mb)] 79 (0,0)
def SAt (w:World) (sb:Nat) (s:Ss) (F:List Nat):Prop :=
  ∃ qb mb Fq,F=sb :: mb :: Fq∧w.heap[sb]?=some (setO qb mb)∧MapAt w mb (rvals s.l) s.l.length∧QAt w qb s.q Fq∧mb∉Fq∧OrdR s.l
theorem SAt.keepD {w w':World} {sb:Nat} {s:Ss} {F G:List Nat} (h:SAt w sb s F) (ho:Only G w w') (hd:∀ k∈F,k∉G):SAt w' sb s F:=by
  obtain ⟨qb,mb,Fq,rfl,h1,h2,h3,h4⟩:=h
  exact ⟨qb,mb,Fq,rfl,ho.block h1 (hd sb (by simp)),h2.keep ho (hd mb (by simp)),h3.keepD ho (fun k hk=>hd k (by simp [hk])),h4⟩
theorem SAt.only {w w':World} {sb:Nat} {s:Ss} {F:List Nat} (h:SAt w sb s F) (ho:Only [] w w'):SAt w' sb s F:=h.keepD ho (by simp)
theorem SAt.lt {w:World} {sb:Nat} {s:Ss} {F:List Nat} (h:SAt w sb s F):∀ k∈F,k < w.heap.size:=by
  obtain ⟨qb,mb,Fq,rfl,h1,h2,h3,h4⟩:=h
  intro k hk
  simp only [List.mem_cons] at hk
  rcases hk with rfl | rfl | hk
  · exact lt_of_block h1
  · exact h2.lt
  · exact h3.lt k hk
def okS:Obj→Bool
  | .cells _ ty _=>!(Nat.beq ty 295) && !(Nat.beq ty 225) && !(Nat.beq ty 132) && !(Nat.beq ty 79)
  | _=>false
theorem SAt.not {w:World} {sb:Nat} {s:Ss} {F:List Nat} (h:SAt w sb s F) {b:Nat} {cs:Array Value} {ty:Nat} {fz:Nat × Nat} (hb:w.heap[b]?=some (.cells cs ty fz)) (ho:okS (.cells cs ty fz)=true):b∉F:=fun hm=>by
  obtain ⟨qb,mb,Fq,rfl,k1,k2,k3,k4⟩:=h
  simp only [okS,Bool.and_eq_true,Bool.not_eq_true'] at ho
  simp only [List.mem_cons] at hm
  rcases hm with rfl | rfl | hm
  · exact blocks_ne hb k1 (fun e=>by rw [e] at ho;exact absurd ho.2 (by decide)) rfl
  · exact k2.ne hb rfl
  · exact k3.not hb (fun e=>by rw [e] at ho;exact absurd ho.1.1.1 (by decide)) (fun e=>by rw [e] at ho;exact absurd ho.1.1.2 (by decide)) (fun e=>by rw [e] at ho;exact absurd ho.1.2 (by decide)) hm
theorem SAt.apart {wb w:World} {D:Ctx} {H:List Ent} {sb:Nat} {s:Ss} {F:List Nat} (h:SAt w sb s F) (hs:St wb D H w) (hH:(H.all fun e=>okS e.2.1)=true):∀ k∈F,k∉H.map (·.1):=fun k hk hm=>by
  obtain ⟨e,he,rfl⟩:=List.mem_map.1 hm
  have h1:=List.all_eq_true.1 hH e he
  have h2:=hs.at_ e he
  cases ho:e.2.1 with
  | cells cs ty fz=>rw [ho] at h1 h2;exact h.not h2 h1 hk
  | _=>rw [ho] at h1;cases h1
def newS (c:Int):Ss:=⟨newQ c,[]⟩
theorem snew_ret (c:Int) (hc:U64 c) (w0:World):Ret Tryz.prog 112 #[.int .u64 c] w0 fun v w'=>(∃ sb F,v = .pointer (some ⟨sb,0,none⟩)∧SAt w' sb (newS c) F∧∀ k∈F,w0.heap.size≤k)∧Only [] w0 w':=by
  have hs:=St.nil w0
  refine ret_of_xc Tryz.func112 (by kernel_rfl) rfl Tryz.ntmps112 rfl rfl rfl ?_
  repeat' (first|refine vs (k:=?_)|refine qRg ?_|refine Nx.h ?_|fail)
  (with_reducible apply xs_call);exact rfl;exact rfl;exact qnew_ret c hc _
  rintro v w1 ⟨⟨qb,Fq,rfl,hQ,hFq⟩,ho⟩;replace hs:=hs.call0 ho
  have ho1:=hs.only0 rfl
  have hz1:=ho1.size
  refine xs_mapNew (k:=?_)
  intro mb w2 ho2 hM hmb
  clear hs
  have hs:=St.nil w2
  refine vs (k:=?_)
  refine bx hs (k:=?_);intro sb w3 hz hs
  have hsb:=hs.new (sb,true) (by simp) rfl
  simp only at hsb
  have hz2:=ho2.size
  have hM3:=hM.keep (hs.only0 rfl) (by simp)
  have hlQ:=hQ.lt
  have hQ3:=(hQ.only ho2).only (hs.only0 rfl)
  have hq3:=hs.get At.head
  have ho3:=(ho1.trans ho2).trans (hs.only0 rfl)
  have hA:SAt w3 sb (newS c) (sb :: mb :: Fq):=⟨qb,mb,Fq,rfl,hq3,hM3,hQ3,fun hm=>by have:=hlQ mb hm;omega,List.Pairwise.nil⟩
  have hnew:∀ k∈sb :: mb :: Fq,w0.heap.size≤k:=fun k hk=>by
    simp only [List.mem_cons] at hk
    rcases hk with rfl | rfl | hk
    · omega
    · omega
    · have:=hFq k hk;omega
  repeat' (first|refine vs (k:=?_)|refine Nx.h ?_|fail)
  first | refine rt (hq:=?_) | refine rt' (hq:=?_)
  exact ⟨⟨sb,_,rfl,hA,hnew⟩,ho3⟩
end Go.Proofs.YtalffooghioekaaGreatDoorX

namespace Go.Proofs.YtalffooghioekaaGreatDoorX
open Go Go.RowKit
open IB (IT ITsAt flatT)
attribute [local irreducible] XS XC XA thenE blockE retE loopE loopS cutB cutN doneE SE
def layE (r:Rq) (E:Int):Int:=bif r.right then E else 2
def layS (s:Ss) (r:RT) (E:Int) (q':Qs):Ss:=bif r.1.right then ⟨q',bif decide (E=0) then putR r s.l else s.l⟩ else s
set_option maxHeartbeats 4000000 in
theorem slay_ret (g sb:Nat) (s:Ss) (F:List Nat) (r:RT) (E:Int) (q':Qs) (w0:World) (h:SAt w0 sb s F) (hn:s.l.length < 1000000)
    (hg:∀ qb Fq w,QAt w qb s.q Fq→r.1.right=true→Ret Tryz.prog g #[.pointer (some ⟨qb,0,none⟩),rv r.1] w fun v w'=>v = .int .i64 E∧∃ F',QAt w' qb q' F'∧(∀ k∈F',k∈Fq∨w.heap.size≤k)∧Only Fq w w') :
    Ret Tryz.prog 180 #[.pointer (some ⟨sb,0,none⟩),rv r.1,.func (.func g) #[] #[]] w0 fun v w'=>v = .int .i64 (layE r.1 E)∧∃ F',SAt w' sb (layS s r E q') F'∧(∀ k∈F',k∈F∨w0.heap.size≤k)∧Only F w0 w':=by
  have hS:=h
  obtain ⟨qb,mb,Fq,rfl,h1,h2,h3,h4,h5⟩:=h
  have hs:=(St.nil w0).track h1 (by simp)
  have hlt:=hS.lt
  have same:∀ w',Only [] w0 w'→∃ F',SAt w' sb s F'∧(∀ k∈F',k∈sb :: mb :: Fq∨w0.heap.size≤k)∧Only (sb :: mb :: Fq) w0 w':=fun w' ho=>⟨_,hS.only ho,fun k hk => .inl hk,ho.weaken (by simp)⟩
  refine ret_of_xc Tryz.func180 (by kernel_rfl) rfl Tryz.ntmps180 rfl rfl rfl ?_
  refine xc_seq ?_
  refine xc_region ?_ ?_;exact rfl
  refine bx hs (k:=?_);intro bq wq hzq hs
  have hbq:=hs.new (bq,true) (by simp) rfl
  simp only at hbq
  repeat' (first|refine vs (k:=?_)|refine qRg ?_|refine Nx.h ?_|refine qCf ?_|fail)
  (with_reducible apply xs_call);exact rfl;exact rfl;exact rright_ret r.1 r.2 _
  generalize hr:r.1.right=rr
  cases rr
  · rintro v w' ⟨rfl,ho⟩;replace hs:=hs.call0 ho;repeat' (first|refine vs (k:=?_)|refine qRg ?_|refine Nx.h ?_|refine qCt ?_|fail)
    first | refine rt (hq:=?_) | refine rt' (hq:=?_)
    refine ⟨by unfold layE;rw [hr];rfl,?_⟩
    unfold layS;rw [hr]
    exact same _ (hs.onlyF [] (by simp [h1]) (by simp [D0]))
  · rintro v w' ⟨rfl,ho⟩;replace hs:=hs.call0 ho;repeat' (first|refine vs (k:=?_)|refine Nx.h ?_|refine qCf ?_|fail)
    have hno:∀ k∈Fq,k∉[bq,sb]:=fun k hk hm=>by
      have hl:=hlt k (by simp [hk])
      simp only [List.mem_cons,List.not_mem_nil,or_false] at hm
      rcases hm with rfl | rfl
      · omega
      · exact h3.not h1 (by decide) (by decide) (by decide) hk
    refine dr [] hs (k:=?_);intro hX w hs
    refine tk 0 hX (k:=?_)
    refine tk 1 hX (k:=?_)
    refine tk 2 hX (k:=?_)
    refine tk 3 hX (k:=?_)
    refine tk 4 hX (k:=?_)
    refine tk 5 hX (k:=?_)
    refine dt 6 hX (k:=?_)
    have ho1:=hs.onlyF [] (by simp [h1]) (by simp [D0])
    have hsz:=hs.size
    (with_reducible apply xs_call);exact rfl;exact rfl;exact hg qb Fq _ (h3.only ho1) hr
    rintro v w2 ⟨rfl,F',hQ,hF',ho2⟩
    replace hs:=hs.call ho2 hno (by simp [D0])
    have hM:=(h2.keep ho1 (by simp)).keep ho2 h4
    have hmF:mb∉F':=fun hm=>by
      have:=hlt mb (by simp)
      rcases hF' mb hm with h | h
      · exact h4 h
      · omega
    have hF2:∀ k∈sb :: mb :: F',k∈sb :: mb :: Fq∨w0.heap.size≤k:=fun k hk=>by
      simp only [List.mem_cons] at hk ⊢
      rcases hk with rfl | rfl | hk
      · simp
      · simp
      · rcases hF' k hk with h | h
        · simp [h]
        · exact .inr (by omega)
    repeat' (first|refine Nx.h ?_|fail)
    refine dn (k:=?_)
    refine tk 7 hX (k:=?_)
    refine en (k:=?_)
    have hoA:Only (sb :: mb :: Fq) w0 w2:=hs.only.weaken (by simp [olds,D0];exact fun a h => .inr (.inr h))
    have hsb2:=hs.get (At.tail At.head)
    have hbb2:=hs.get At.head
    have nbs:bq≠sb:=by have:=hlt sb (by simp);omega
    clear hs
    have hs:=((St.nil w2).track hsb2 (by simp)).track hbb2 (by simpa using nbs)
    repeat' (first|refine vs (k:=?_)|refine qRg ?_|refine Nx.h ?_|(refine xc_if rfl (fun hc=>?_) (fun hc=>?_))|fail)
    · have hE:E=0:=by assumption
      have nb:mb≠bq:=by have:=hlt mb (by simp);omega
      have ns:mb≠sb:=fun e=>(hM.ne (hs.get (At.tail At.head))) e.symm
      refine dr [] hs (k:=?_);intro hX w hs
      refine tk 0 hX (k:=?_)
      refine tk 1 hX (k:=?_)
      refine tk 2 hX (k:=?_)
      refine tk 3 hX (k:=?_)
      refine tk 4 hX (k:=?_)
      refine tk 5 hX (k:=?_)
      refine tk 6 hX (k:=?_)
      refine tk 7 hX (k:=?_)
      refine dt 8 hX (k:=?_)
      have ho3:=hs.onlyF [] (by simp [hsb2,hbb2]) (by simp [D0])
      refine xs_mapPut (e:=66) (i:=idR r) (v:=rv r.1) (hM.keep ho3 (by simp)) r.2.1.2.1 (by have:maxLen=9223372036854775807:=rfl;omega) (by kernel_rfl) (k:=?_)
      intro w3 hM3 ho4
      replace hs:=hs.call ho4 (fun k hk hm=>by
        obtain rfl:=List.mem_singleton.1 hk
        simp only [List.map_cons,List.map_nil,List.mem_cons,List.not_mem_nil,or_false] at hm
        rcases hm with hm | hm
        · exact nb hm
        · exact ns hm) (by simp [D0])
      rw [rvals_put,rvals_some,← len_put h5] at hM3
      have hQ3:=(hQ.only ho3).keepD ho4 (fun k hk hm=>by obtain rfl:=List.mem_singleton.1 hm;exact hmF hk)
      repeat' (first|refine Nx.h ?_|fail)
      refine dn (k:=?_)
      refine en (k:=?_)
      repeat' (first|refine vs (k:=?_)|refine qRg ?_|refine Nx.h ?_|fail)
      first | refine rt (hq:=?_) | refine rt' (hq:=?_)
      have ee:layS s r E q'=⟨q',putR r s.l⟩:=by unfold layS;rw [hr,decide_eq_true hE];rfl
      refine ⟨by unfold layE;rw [hr];rfl,?_⟩
      rw [ee]
      exact ⟨_,⟨qb,mb,F',rfl,hs.get (At.tail At.head),hM3,hQ3,hmF,ord_put h5⟩,hF2,(hoA.step ho3 (by simp)).step ho4 (by simp)⟩
    · have hE:¬ E=0:=by assumption
      first | refine rt (hq:=?_) | refine rt' (hq:=?_)
      have ee:layS s r E q'=⟨q',s.l⟩:=by unfold layS;rw [hr,decide_eq_false hE];rfl
      refine ⟨by unfold layE;rw [hr];rfl,?_⟩
      rw [ee]
      exact ⟨_,⟨qb,mb,F',rfl,hs.get (At.tail At.head),hM,hQ,hmF,h5⟩,hF2,hoA⟩
end Go.Proofs.YtalffooghioekaaGreatDoorX

namespace Go.Proofs.YtalffooghioekaaGreatDoorX
open Go Go.RowKit
open IB (IT ITsAt flatT)
attribute [local irreducible] XS XC XA thenE blockE retE loopE loopS cutB cutN doneE SE
def itR (r:RT):IT:=⟨r.1.i,r.2.1⟩
theorem enter1_ret (qb:Nat) (s:Qs) (F:List Nat) (r:RT) (w0:World) (h:QAt w0 qb s F) (hlen:s.t.list.length+1≤1000000) (hn:s.n < 1000000) :
    Ret Tryz.prog 204 #[.pointer (some ⟨qb,0,none⟩),rv r.1] w0 fun v w'=>v = .int .i64 (joinE s (itR r))∧∃ F',QAt w' qb (joinQ s (itR r)) F'∧(∀ k∈F',k∈F∨w0.heap.size≤k)∧Only F w0 w':=by
  have hs:=St.nil w0
  refine ret_of_xc Tryz.func204 (by kernel_rfl) rfl Tryz.ntmps204 rfl rfl rfl ?_
  repeat' (first|refine vs (k:=?_)|(refine bx hs (k:=?_);intro b w hz hs)|refine qRg ?_|refine Nx.h ?_|fail)
  have ho:=hs.only0 rfl
  (with_reducible apply xs_call);exact rfl;exact rfl;exact qjoin_ret qb s F (itR r) _ (h.only ho) hlen hn
  rintro v w1 ⟨rfl,F',hA,hF',ho1⟩
  have hz:=ho.size
  clear hs
  have hs:=St.nil w1
  repeat' (first|refine vs (k:=?_)|refine Nx.h ?_|fail)
  first | refine rt (hq:=?_) | refine rt' (hq:=?_)
  exact ⟨rfl,F',hA.only (hs.only0 rfl),fun k hk=>by rcases hF' k hk with h | h;exact .inl h;exact .inr (by omega),((ho.weaken (by simp)).step ho1 (fun k hk => .inl hk)).step (hs.only0 rfl) (by simp)⟩
def enterE (s:Ss) (r:RT):Int:=layE r.1 (joinE s.q (itR r))
def enterS (s:Ss) (r:RT):Ss:=layS s r (joinE s.q (itR r)) (joinQ s.q (itR r))
theorem enter_ret (sb:Nat) (s:Ss) (F:List Nat) (r:RT) (w0:World) (h:SAt w0 sb s F) (hl:s.l.length < 1000000) (hlen:s.q.t.list.length+1≤1000000) (hn:s.q.n < 1000000) :
    Ret Tryz.prog 168 #[.pointer (some ⟨sb,0,none⟩),rv r.1] w0 fun v w'=>v = .int .i64 (enterE s r)∧∃ F',SAt w' sb (enterS s r) F'∧(∀ k∈F',k∈F∨w0.heap.size≤k)∧Only F w0 w':=by
  have hs:=St.nil w0
  refine ret_of_xc Tryz.func168 (by kernel_rfl) rfl Tryz.ntmps168 rfl rfl rfl ?_
  repeat' (first|refine vs (k:=?_)|(refine bx hs (k:=?_);intro b w hz hs)|refine qRg ?_|refine Nx.h ?_|fail)
  have ho:=hs.only0 rfl
  (with_reducible apply xs_call);exact rfl;exact rfl;exact slay_ret 204 sb s F r (joinE s.q (itR r)) (joinQ s.q (itR r)) _ (h.only ho) hl (fun qb Fq w hq _=>enter1_ret qb s.q Fq r w hq hlen hn)
  rintro v w1 ⟨rfl,F',hA,hF',ho1⟩
  have hz:=ho.size
  clear hs
  have hs:=St.nil w1
  repeat' (first|refine vs (k:=?_)|refine Nx.h ?_|fail)
  first | refine rt (hq:=?_) | refine rt' (hq:=?_)
  exact ⟨rfl,F',hA.only (hs.only0 rfl),fun k hk=>by rcases hF' k hk with h | h;exact .inl h;exact .inr (by omega),((ho.weaken (by simp)).step ho1 (fun k hk => .inl hk)).step (hs.only0 rfl) (by simp)⟩
end Go.Proofs.YtalffooghioekaaGreatDoorX

namespace Go.Proofs.YtalffooghioekaaGreatDoorX
open Go Go.RowKit
open IB (IT ITsAt flatT)
attribute [local irreducible] XS XC XA thenE blockE retE loopE loopS cutB cutN doneE SE
set_option maxHeartbeats 4000000 in
theorem req_ret (sb:Nat) (s:Ss) (F:List Nat) (id:Int) (w0:World) (h:SAt w0 sb s F) (hid:In64 id) :
    Ret Tryz.prog 55 #[.pointer (some ⟨sb,0,none⟩),.int .i64 id] w0 fun v w'=>v = .tuple #[rv (getL s.l id),.bool (findR s.l id).isSome]∧Only [] w0 w':=by
  obtain ⟨qb,mb,Fq,rfl,h1,h2,h3,h4,h5⟩:=h
  have hs:=(St.nil w0).track h1 (by simp)
  refine ret_of_xc Tryz.func55 (by kernel_rfl) rfl Tryz.ntmps55 rfl rfl rfl ?_
  repeat' (first|refine vs (k:=?_)|(refine al hs (k:=?_);intro b w hz hs)|refine qRg ?_|refine Nx.h ?_|refine qCf ?_|fail)
  have ho:=hs.onlyF [] (by simp [h1]) (by simp [D0])
  refine xs_look (e:=66) (z:=rv .zero) (h2.keep ho (by simp)) hid (by kernel_rfl) (by kernel_rfl) (k:=?_)
  rw [rvals_get,rvals_some]
  generalize getL s.l id=x
  repeat' (first|refine vs (k:=?_)|(refine stA hs (k:=?_);intro w hs)|(refine al hs (k:=?_);intro b w hz hs)|refine qRg ?_|refine Nx.h ?_|fail)
  first | refine rt (hq:=?_) | refine rt' (hq:=?_)
  exact ⟨rfl,hs.onlyF [] (by simp [h1]) (by simp [D0])⟩
def exitS (s:Ss) (id:Int):Ss:=⟨leaveQ s.q id,delR id s.l⟩
set_option maxHeartbeats 4000000 in
theorem exit_ret (sb:Nat) (s:Ss) (F:List Nat) (id:Int) (w0:World) (h:SAt w0 sb s F) (hid:In64 id) (hlen:s.q.t.list.length≤1000000) (a:IT) (hf:s.q.f id=some a) (hd:CutOk a s.q.t) :
    Ret Tryz.prog 172 #[.pointer (some ⟨sb,0,none⟩),.int .i64 id] w0 fun v w'=>v = .tuple #[rv (getL s.l id),.int .i64 0]∧∃ F',SAt w' sb (exitS s id) F'∧(∀ k∈F',k∈F∨w0.heap.size≤k)∧Only F w0 w':=by
  have hS:=h
  obtain ⟨qb,mb,Fq,rfl,h1,h2,h3,h4,h5⟩:=h
  have hs:=(St.nil w0).track h1 (by simp)
  have hlt:=hS.lt
  refine ret_of_xc Tryz.func172 (by kernel_rfl) rfl Tryz.ntmps172 rfl rfl rfl ?_
  refine xc_seq ?_
  refine xc_region ?_ ?_;exact rfl
  refine al hs (k:=?_);intro b4 w hz hs
  have g4:=hs.new (b4,true) (by simp) rfl
  simp only at g4
  repeat' (first|refine vs (k:=?_)|refine qRg ?_|refine Nx.h ?_|refine qCf ?_|fail)
  have ho:=hs.onlyF [] (by simp [h1]) (by simp [D0])
  have hsz:=ho.size
  have l4:=lt_of_block (hs.get At.head)
  (with_reducible apply xs_call);exact rfl;exact rfl;exact qleave_ret qb s.q Fq id _ (h3.only ho) hid hlen (fun a' e=>by rw [hf] at e;cases e;exact hd)
  rw [hf]
  rintro v w1 ⟨rfl,F',hQ,hF',ho1⟩
  have hno:∀ k∈Fq,k∉[b4,sb]:=fun k hk hm=>by
    have hl:=hlt k (by simp [hk])
    simp only [List.mem_cons,List.not_mem_nil,or_false] at hm
    rcases hm with rfl | rfl
    · omega
    · exact h3.not h1 (by decide) (by decide) (by decide) hk
  have hmF:mb∉F':=fun hm=>by
    have:=hlt mb (by simp)
    rcases hF' mb hm with h | h
    · exact h4 h
    · omega
  have hF2:∀ k∈sb :: mb :: F',k∈sb :: mb :: Fq∨w0.heap.size≤k:=fun k hk=>by
    simp only [List.mem_cons] at hk ⊢
    rcases hk with rfl | rfl | hk
    · simp
    · simp
    · rcases hF' k hk with h | h
      · simp [h]
      · exact .inr (by omega)
  have hM1:=(h2.keep ho (by simp)).keep ho1 h4
  have k4:=ho1.block (hs.get At.head) (fun hm=>hno _ hm (by simp))
  have k6:=ho1.block (hs.get (At.tail At.head)) (fun hm=>hno _ hm (by simp))
  have n46:b4≠sb:=by have:=hlt sb (by simp);omega
  have hoA:Only (sb :: mb :: Fq) w0 w1:=(ho.weaken (by simp)).step ho1 (fun k hk => .inl (by simp [hk]))
  have ltF':=hQ.lt
  clear hs
  have hs:=((St.nil w1).track k6 (by simp)).track k4 (by simpa using n46)
  repeat' (first|refine vs (k:=?_)|(refine stA hs (k:=?_);intro w hs)|(refine al hs (k:=?_);intro b w hz hs)|refine qRg ?_|refine Nx.h ?_|refine qCf ?_|fail)
  replace hs:=hs.forgetNew
  have ho2:=hs.onlyF [] (by simp [k4,k6]) (by simp [D0])
  refine xs_look1 (e:=66) (z:=rv .zero) (hM1.keep ho2 (by simp)) hid (by kernel_rfl) (by kernel_rfl) (k:=?_)
  rw [rvals_get]
  generalize getL s.l id=x at *
  refine al hs (k:=?_);intro b8 w8 hz8 hs
  have g8:=hs.new (b8,true) (by simp) rfl
  simp only at g8
  have hz1:=ho1.size
  repeat' (first|refine vs (k:=?_)|(refine stA hs (k:=?_);intro w hs)|refine qRg ?_|refine Nx.h ?_|fail)
  have ho3:=hs.onlyF [] (by simp [k4,k6]) (by simp [D0])
  have lm:=hlt mb (by simp)
  refine xs_mapDel (e:=66) (hM1.keep ho3 (by simp)) hid (by kernel_rfl) (k:=?_)
  intro w3 hM3 ho4
  rw [rvals_del,rvals_some,← len_del h5] at hM3
  have e1:=hs.get (At.tail (At.tail At.head))
  replace hs:=hs.call ho4 (fun k hk hm=>by
    obtain rfl:=List.mem_singleton.1 hk
    simp only [List.map_cons,List.map_nil,List.mem_cons,List.not_mem_nil,or_false] at hm
    rcases hm with hm | hm | hm
    · omega
    · omega
    · exact (hM1.ne k6) hm.symm) (by simp [D0])
  have hQ3:=(hQ.only ho3).keepD ho4 (fun k hk hm=>by obtain rfl:=List.mem_singleton.1 hm;exact hmF hk)
  have hoB:=(hoA.step ho3 (by simp)).step ho4 (by simp)
  have c1:=hs.get At.head
  have c2:=hs.get (At.tail At.head)
  have c3:=hs.get (At.tail (At.tail At.head))
  have n84:b8≠b4:=by have:=hs.nd;simp only [List.map_cons,List.nodup_cons,List.mem_cons,not_or] at this;exact this.1.1
  have n86:b8≠sb:=by have:=hs.nd;simp only [List.map_cons,List.nodup_cons,List.mem_cons,not_or] at this;exact this.1.2.1
  clear hs
  have hs:=(((St.nil w3).track c3 (by simp)).track c2 (by simpa using n46)).track c1 (by simp [n84,n86])
  repeat' (first|refine vs (k:=?_)|(refine stA hs (k:=?_);intro w hs)|refine qRg ?_|refine Nx.h ?_|fail)
  first | refine rt (hq:=?_) | refine rt' (hq:=?_)
  have hoC:=hs.onlyF [b4] (by simp [c1,c3]) (by simp [D0])
  have hs4:b4∉F':=fun hm=>by
    have:=hF' b4 hm
    rcases this with h | h
    · exact hno b4 h (by simp)
    · omega
  refine ⟨rfl,_,⟨qb,mb,F',rfl,hs.get (At.tail (At.tail At.head)),hM3.keep hoC (by simp;omega),hQ3.keepD hoC (fun k hk hm=>by obtain rfl:=List.mem_singleton.1 hm;exact hs4 hk),hmF,ord_del h5⟩,hF2,hoB.step hoC (fun k hk => .inr (by obtain rfl:=List.mem_singleton.1 hk;exact g4))⟩
end Go.Proofs.YtalffooghioekaaGreatDoorX

namespace Go.Proofs.YtalffooghioekaaGreatDoorX
open Go Go.RowKit
open IB (IT ITsAt flatT)
attribute [local irreducible] XS XC XA thenE blockE retE loopE loopS cutB cutN doneE SE
def wakeR (a:RT) (b:Bool):RT:=⟨⟨a.1.i,a.1.left,a.1.slice,b⟩,a.2⟩
def rouseE (s:Ss) (id:Int):Int:=errN (findR s.l id).isSome
def rouseS (s:Ss) (id:Int) (b:Bool):Ss:=match findR s.l id with | some a=>⟨s.q,putR (wakeR a b) s.l⟩ | none=>s
set_option maxHeartbeats 4000000 in
theorem rouse_ret (sb:Nat) (s:Ss) (F:List Nat) (id:Int) (yb:Bool) (w0:World) (h:SAt w0 sb s F) (hid:In64 id) (hn:s.l.length < 1000000) :
    Ret Tryz.prog 134 #[.pointer (some ⟨sb,0,none⟩),.int .i64 id,.bool yb] w0 fun v w'=>v = .int .i64 (rouseE s id)∧SAt w' sb (rouseS s id yb) F∧Only F w0 w':=by
  have hS:=h
  obtain ⟨qb,mb,Fq,rfl,h1,h2,h3,h4,h5⟩:=h
  have hs:=(St.nil w0).track h1 (by simp)
  have hlt:=hS.lt
  refine ret_of_xc Tryz.func134 (by kernel_rfl) rfl Tryz.ntmps134 rfl rfl rfl ?_
  repeat' (first|refine vs (k:=?_)|refine qRg ?_|refine Nx.h ?_|refine qCf ?_|fail)
  have ho:=hs.onlyF [] (by simp [h1]) (by simp [D0])
  refine xs_look (e:=66) (z:=rv .zero) (h2.keep ho (by simp)) hid (by kernel_rfl) (by kernel_rfl) (k:=?_)
  rw [rvals_get,rvals_some]
  unfold rouseE rouseS
  cases hf:findR s.l id with
  | none =>
    repeat' (first|refine vs (k:=?_)|(refine stA hs (k:=?_);intro w hs)|(refine al hs (k:=?_);intro b w hz hs)|refine qRg ?_|refine Nx.h ?_|refine qCt ?_|fail)
    first | refine rt (hq:=?_) | refine rt' (hq:=?_)
    have ho:=hs.onlyF [] (by simp [h1]) (by simp [D0])
    exact ⟨rfl,hS.only ho,ho.weaken (by simp)⟩
  | some a =>
    have ei:idR a=id:=(findR_some hf).2
    rw [show getL s.l id=a.1 by unfold getL;rw [hf]]
    repeat' (first|refine vs (k:=?_)|(refine st hs (k:=?_);intro w hs)|(refine stA hs (k:=?_);intro w hs)|(refine al hs (k:=?_);intro b w hz hs)|refine qRg ?_|refine Nx.h ?_|refine qCf ?_|fail)
    refine dr [] hs (k:=?_);intro hX w hs
    refine tk 0 hX (k:=?_)
    refine tk 1 hX (k:=?_)
    refine tk 2 hX (k:=?_)
    refine tk 3 hX (k:=?_)
    refine tk 4 hX (k:=?_)
    refine tk 5 hX (k:=?_)
    refine dt 6 hX (k:=?_)
    have ho1:=hs.onlyF [] (by simp [h1]) (by simp [D0])
    have hM:=h2.keep ho1 (by simp)
    have hmb:=hlt mb (by simp)
    have hnb:=hs.new (_,true) (List.mem_map_of_mem (List.mem_cons_self)) rfl
    simp only at hnb
    refine xs_mapPut (e:=66) (i:=id) (v:=rv (wakeR a yb).1) hM hid (by have:maxLen=9223372036854775807:=rfl;omega) (by kernel_rfl) (k:=?_)
    intro w3 hM3 ho4
    rw [← ei,show idR a=idR (wakeR a yb) from rfl,rvals_put,rvals_some,← len_put h5] at hM3
    have hQ3:=(h3.only ho1).keepD ho4 (fun k hk hm=>by obtain rfl:=List.mem_singleton.1 hm;exact h4 hk)
    have ns:mb≠sb:=fun e=>(hM.ne (hs.get (At.tail At.head))) e.symm
    replace hs:=hs.call ho4 (fun k hk hm=>by
      obtain rfl:=List.mem_singleton.1 hk
      simp only [List.map_cons,List.map_nil,List.mem_cons,List.not_mem_nil,or_false] at hm
      rcases hm with hm | hm
      · omega
      · exact ns hm) (by simp [D0])
    repeat' (first|refine Nx.h ?_|fail)
    refine dn (k:=?_)
    refine en (k:=?_)
    repeat' (first|refine vs (k:=?_)|refine qRg ?_|refine Nx.h ?_|fail)
    first | refine rt (hq:=?_) | refine rt' (hq:=?_)
    exact ⟨rfl,⟨qb,mb,Fq,rfl,hs.get (At.tail At.head),hM3,hQ3,h4,ord_put h5⟩,(ho1.weaken (by simp)).step ho4 (by simp)⟩
end Go.Proofs.YtalffooghioekaaGreatDoorX

namespace Go.Proofs.YtalffooghioekaaGreatDoorX
open IB (IT)
theorem minL_spec:∀ {l:List Int},l≠[]→minL l∈l∧∀ x∈l,minL l≤x
  | [],h=>absurd rfl h
  | d :: l,_=>by
    suffices H:∀ (l:List Int) (d:Int),(l.foldl (fun a b=>if b < a then b else a) d=d∨l.foldl (fun a b=>if b < a then b else a) d∈l)∧l.foldl (fun a b=>if b < a then b else a) d≤d∧∀ x∈l,l.foldl (fun a b=>if b < a then b else a) d≤x by
      obtain ⟨h1,h2,h3⟩:=H l d
      refine ⟨List.mem_cons.2 h1,fun x hx=>?_⟩
      rcases List.mem_cons.1 hx with rfl | hx
      · exact h2
      · exact h3 x hx
    intro l
    induction l with
    | nil=>intro d;exact ⟨.inl rfl,Int.le_refl _,by simp⟩
    | cons e l ih =>
      intro d
      rw [List.foldl_cons]
      obtain ⟨m,hm,k1,k2,k3⟩:∃ m,m=(if e < d then e else d)∧m≤d∧m≤e∧(m=d∨m=e):=⟨_,rfl,by split <;> omega,by split <;> omega,by split <;> simp⟩
      rw [← hm]
      obtain ⟨h1,h2,h3⟩:=ih m
      refine ⟨?_,by omega,fun x hx=>?_⟩
      · rcases h1 with h1 | h1
        · rcases k3 with k3 | k3
          · exact .inl (h1.trans k3)
          · exact .inr (by rw [h1,k3];exact List.mem_cons_self)
        · exact .inr (List.mem_cons_of_mem _ h1)
      · rcases List.mem_cons.1 hx with rfl | hx
        · omega
        · exact h3 x hx
theorem maxL_spec:∀ {l:List Int},l≠[]→maxL l∈l∧∀ x∈l,x≤maxL l
  | [],h=>absurd rfl h
  | d :: l,_=>by
    suffices H:∀ (l:List Int) (d:Int),(l.foldl (fun a b=>if b > a then b else a) d=d∨l.foldl (fun a b=>if b > a then b else a) d∈l)∧d≤l.foldl (fun a b=>if b > a then b else a) d∧∀ x∈l,x≤l.foldl (fun a b=>if b > a then b else a) d by
      obtain ⟨h1,h2,h3⟩:=H l d
      refine ⟨List.mem_cons.2 h1,fun x hx=>?_⟩
      rcases List.mem_cons.1 hx with rfl | hx
      · exact h2
      · exact h3 x hx
    intro l
    induction l with
    | nil=>intro d;exact ⟨.inl rfl,Int.le_refl _,by simp⟩
    | cons e l ih =>
      intro d
      rw [List.foldl_cons]
      obtain ⟨m,hm,k1,k2,k3⟩:∃ m,m=(if e > d then e else d)∧m≥d∧m≥e∧(m=d∨m=e):=⟨_,rfl,by split <;> omega,by split <;> omega,by split <;> simp⟩
      rw [← hm]
      obtain ⟨h1,h2,h3⟩:=ih m
      refine ⟨?_,by omega,fun x hx=>?_⟩
      · rcases h1 with h1 | h1
        · rcases k3 with k3 | k3
          · exact .inl (h1.trans k3)
          · exact .inr (by rw [h1,k3];exact List.mem_cons_self)
        · exact .inr (List.mem_cons_of_mem _ h1)
      · rcases List.mem_cons.1 hx with rfl | hx
        · omega
        · exact h3 x hx
theorem minL_mem_eq {l l':List Int} (h:∀ x,x∈l↔x∈l'):minL l=minL l':=by
  by_cases e:l=[]
  · subst e
    have:l'=[]:=List.eq_nil_iff_forall_not_mem.2 fun x hx=>by have:=(h x).2 hx;cases this
    rw [this]
  · have e':l'≠[]:=fun k=>e (List.eq_nil_iff_forall_not_mem.2 fun x hx=>by have:=(h x).1 hx;rw [k] at this;cases this)
    obtain ⟨h1,h2⟩:=minL_spec e
    obtain ⟨k1,k2⟩:=minL_spec e'
    have:=h2 _ ((h _).2 k1)
    have:=k2 _ ((h _).1 h1)
    omega
theorem maxL_mem_eq {l l':List Int} (h:∀ x,x∈l↔x∈l'):maxL l=maxL l':=by
  by_cases e:l=[]
  · subst e
    have:l'=[]:=List.eq_nil_iff_forall_not_mem.2 fun x hx=>by have:=(h x).2 hx;cases this
    rw [this]
  · have e':l'≠[]:=fun k=>e (List.eq_nil_iff_forall_not_mem.2 fun x hx=>by have:=(h x).1 hx;rw [k] at this;cases this)
    obtain ⟨h1,h2⟩:=maxL_spec e
    obtain ⟨k1,k2⟩:=maxL_spec e'
    have:=h2 _ ((h _).2 k1)
    have:=k2 _ ((h _).1 h1)
    omega
theorem mem_places {b d:Int} {l:List It}:d∈sinces b (places l)↔∃ x∈l,d=sn x.p.t b:=by
  unfold sinces places
  simp only [List.map_map,List.mem_map,Function.comp]
  exact ⟨fun ⟨x,h,e⟩=>⟨x,h,e.symm⟩,fun ⟨x,h,e⟩=>⟨x,h,e.symm⟩⟩
theorem mem_boths {b d:Int} {l:List It}:d∈sinces b (bothPs l)↔∃ x∈l,d=sn x.p.t b∨d=sn x.d.t b:=by
  unfold sinces bothPs
  simp only [List.mem_map,List.mem_flatMap,List.mem_cons,List.not_mem_nil,or_false]
  constructor
  · rintro ⟨p,⟨x,h,rfl | rfl⟩,rfl⟩
    · exact ⟨x,h,.inl rfl⟩
    · exact ⟨x,h,.inr rfl⟩
  · rintro ⟨x,h,rfl | rfl⟩
    · exact ⟨_,⟨x,h,.inl rfl⟩,rfl⟩
    · exact ⟨_,⟨x,h,.inr rfl⟩,rfl⟩
theorem spr_mem {b:Int} {l l':List It} (h:∀ x,x∈l↔x∈l'):spr b l=spr b l':=by
  unfold spr
  rw [maxL_mem_eq (l:=sinces b (bothPs l)) (l':=sinces b (bothPs l')) (fun x=>by rw [mem_boths,mem_boths];simp only [h]),minL_mem_eq (l:=sinces b (places l)) (l':=sinces b (places l')) (fun x=>by rw [mem_places,mem_places];simp only [h])]
theorem within_mem {b:Int} {l l':List It} (h:∀ x,x∈l↔x∈l'):within b l=within b l':=by unfold within;rw [spr_mem h]
theorem win_of {b:Int} {l:List It} (h1:∀ x∈l,x.In∧x.right=true) (h2:within b l=true) (h3:∃ x∈l,sn x.p.t b≤0) (h4:∃ x∈l,0≤sn x.p.t b) (hl:l.length≤32):∃ lo,AllW b lo l:=by
  unfold within at h2
  rw [decide_eq_true_eq] at h2
  obtain ⟨x0,hx0,k0⟩:=h3
  obtain ⟨x1,hx1,k1⟩:=h4
  have e1:sinces b (places l)≠[]:=fun e=>by have:=(mem_places (b:=b)).2 ⟨x0,hx0,rfl⟩;rw [e] at this;cases this
  have e2:sinces b (bothPs l)≠[]:=fun e=>by have:=(mem_boths (b:=b)).2 ⟨x0,hx0,.inl rfl⟩;rw [e] at this;cases this
  obtain ⟨m1,m2⟩:=minL_spec e1
  obtain ⟨n1,n2⟩:=maxL_spec e2
  have a0:=m2 _ (mem_places.2 ⟨x0,hx0,rfl⟩)
  have a1:=n2 _ (mem_boths.2 ⟨x1,hx1,.inl rfl⟩)
  unfold spr at h2
  have r1:minL (sinces b (places l))≥-9223372036854775808:=by obtain ⟨x,_,e⟩:=mem_places.1 m1;rw [e];exact (sn_rng _ _).1
  have r2:maxL (sinces b (bothPs l)) < 9223372036854775808:=by
    obtain ⟨x,_,e | e⟩:=mem_boths.1 n1
    · rw [e];exact (sn_rng _ _).2
    · rw [e];exact (sn_rng _ _).2
  generalize minL (sinces b (places l))=lo at *
  generalize maxL (sinces b (bothPs l))=hi at *
  refine ⟨lo,by unfold Mid;omega,hl,fun x hx=>?_⟩
  obtain ⟨i1,i2⟩:=h1 x hx
  have b1:=m2 _ (mem_places.2 ⟨x,hx,rfl⟩)
  have b2:=n2 _ (mem_boths.2 ⟨x,hx,.inl rfl⟩)
  have b3:=n2 _ (mem_boths.2 ⟨x,hx,.inr rfl⟩)
  obtain ⟨_,_,_,_,d1,d2,_⟩:=iright_all i1 i2
  have ed:sn x.d.t b=sn x.p.t b+sn x.d.t x.p.t:=by unfold sn at *;omega
  exact ⟨i1,i2,b1,by omega⟩
structure As where
  l:List RT
  c:Int
def its (l:List RT):List It:=l.map fun r=>r.1.i
def nowA (A:As):Int:=if A.l=[] then A.c else (meanL (its A.l)).b
def baseA (A:As) (a:It):Int:=if A.l=[] then a.p.t else nowA A
def joinA (A:As) (a:It):Int :=
  bif !a.right then 2 else bif (findR A.l a.id).isSome then 13 else bif decide (A.l.length=32) then 7 else bif !within (baseA A a) (its A.l ++ [a]) then 8 else 0
def entE (A:As) (r:RT):Int:=layE r.1 (joinA A r.1.i)
def entA (A:As) (r:RT):As:=if entE A r=0 then ⟨putR r A.l,A.c⟩ else A
def extA (A:As) (id:Int):As:=if (findR A.l id).isSome then ⟨delR id A.l,nowA A⟩ else A
structure Rep (s:Ss) (A:As):Prop where
  q:QI s.q
  l:s.l=A.l
  p:s.q.t.list.Perm (A.l.map itR)
  c:s.q.c=A.c
  r:∀ r∈A.l,r.1.right=true
  o:OrdR A.l
theorem its_itR (l:List RT):plain (l.map itR)=its l:=by unfold plain its;rw [List.map_map];rfl
theorem Rep.len {s:Ss} {A:As} (h:Rep s A):s.q.t.list.length=A.l.length:=by rw [h.p.length_eq,List.length_map]
theorem Rep.le {s:Ss} {A:As} (h:Rep s A):A.l.length≤32:=by rw [← h.len];exact h.q.len
theorem Rep.nil {s:Ss} {A:As} (h:Rep s A):s.q.t.list=[]↔A.l=[]:=by
  rw [← List.length_eq_zero_iff,h.len,List.length_eq_zero_iff]
theorem Rep.pits {s:Ss} {A:As} (h:Rep s A):(plain s.q.t.list).Perm (its A.l):=by rw [← its_itR];exact plain_perm h.p
theorem its_ne {l:List RT} (h:l≠[]):its l≠[]:=fun e=>h (List.map_eq_nil_iff.1 e)
theorem Rep.cen {s:Ss} {A:As} (h:Rep s A) (e:A.l≠[]):Cen s.q.m (its A.l):=(h.q.cen (fun k=>e (h.nil.1 k))).perm h.pits
theorem Rep.mean {s:Ss} {A:As} (h:Rep s A) (e:A.l≠[]):s.q.m=meanL (its A.l):=(h.cen e).eq (its_ne e)
theorem Rep.now {s:Ss} {A:As} (h:Rep s A):nowQ s.q=nowA A:=by
  unfold nowA
  by_cases e:A.l=[]
  · rw [nowQ_nil (h.nil.2 e),h.c,if_pos e]
  · rw [h.q.now (fun k=>e (h.nil.1 k)),h.mean e,if_neg e]
theorem Rep.f {s:Ss} {A:As} (h:Rep s A) (i:Int):s.q.f i=(findR A.l i).map itR:=by
  cases e:findR A.l i with
  | some a =>
    obtain ⟨h1,h2⟩:=findR_some e
    exact (h.q.f i (itR a)).2 ⟨h.p.mem_iff.2 (List.mem_map_of_mem h1),h2⟩
  | none =>
    cases e':s.q.f i with
    | none=>rfl
    | some b =>
      obtain ⟨h1,h2⟩:=(h.q.f i b).1 e'
      obtain ⟨r,h3,rfl⟩:=List.mem_map.1 (h.p.mem_iff.1 h1)
      have:=findR_mem h3
      rw [show idR r=i from h2,e] at this;cases this
theorem Rep.fs {s:Ss} {A:As} (h:Rep s A) (i:Int):(s.q.f i).isSome=(findR A.l i).isSome:=by rw [h.f];cases findR A.l i <;> rfl
theorem Rep.join {s:Ss} {A:As} (h:Rep s A) (a:IT):joinE s.q a=joinA A a.1:=by
  unfold joinE joinA
  rw [h.fs,h.len]
  have e1:baseQ s.q a=baseA A a.1:=by
    unfold baseQ baseA
    rw [h.len,h.now]
    by_cases e:A.l=[]
    · rw [if_pos e,e];rfl
    · rw [if_neg e,decide_eq_false (fun k=>e (List.eq_nil_of_length_eq_zero k)),cond_false]
  rw [e1,within_mem (l:=plain (s.q.t.list ++ [a])) (l':=its A.l ++ [a.1]) (fun x=>by rw [show plain (s.q.t.list ++ [a])=plain s.q.t.list ++ [a.1] from List.map_append ..,List.mem_append,List.mem_append,h.pits.mem_iff])]
theorem Rep.base {s:Ss} {A:As} (h:Rep s A) (a:IT):(preM s.q a).b=baseA A a.1:=by
  unfold baseA
  by_cases e:A.l=[]
  · rw [if_pos e,preM_nil (h.nil.2 e)]
  · rw [if_neg e,preM_ne (fun k=>e (h.nil.1 k)),← h.now,h.q.now (fun k=>e (h.nil.1 k))]
theorem rright_i {r:Rq} (h:r.right=true):r.i.right=true:=by
  unfold Rq.right at h
  simp only [Bool.and_eq_true] at h
  exact h.1.1.1
theorem low_mid {m:Mn} {l:List It} (h:Cen m l) (hl:l≠[]):(∃ x∈l,sn x.p.t m.b≤0)∧∃ x∈l,0≤sn x.p.t m.b:=by
  obtain ⟨lo,k⟩:=h.all
  have hw:=(k.mid hl).1
  have a0:=h.a0
  have a1:=h.a1
  rw [h.is.a] at a0 a1
  rw [h.is.w] at a1
  constructor
  · refine Classical.byContradiction fun hn=>?_
    have:=(sum_rng (b:=m.b) (lo:=1) (hi:=lo+4611686018427387904) (l:=l) fun x hx=>by
      obtain ⟨r1,r2,r3,r4⟩:=(k.2.2 x hx).rng k.1
      exact ⟨r1,r2,by have:=Int.not_le.1 (fun e=>hn ⟨x,hx,e⟩);omega,r4⟩).1
    omega
  · refine Classical.byContradiction fun hn=>?_
    have:=(sum_rng (b:=m.b) (lo:=lo) (hi:=-1) (l:=l) fun x hx=>by
      obtain ⟨r1,r2,r3,r4⟩:=(k.2.2 x hx).rng k.1
      exact ⟨r1,r2,r3,by have:=Int.not_le.1 (fun e=>hn ⟨x,hx,e⟩);omega⟩).2.1
    have:=List.length_pos_iff.2 hl
    omega
theorem Rep.win {s:Ss} {A:As} (h:Rep s A) {a:IT} (hr:a.1.right=true) (hn:A.l.length≠32) (hw:within (baseA A a.1) (its A.l ++ [a.1])=true):∃ lo,AllW (preM s.q a).b lo (a.1 :: plain s.q.t.list):=by
  have hle:=h.le
  rw [h.base]
  have hall:∀ x∈its A.l ++ [a.1],x.In∧x.right=true:=fun x hx=>by
    rcases List.mem_append.1 hx with hx | hx
    · obtain ⟨r,hr',rfl⟩:=List.mem_map.1 hx
      exact ⟨r.2.1,rright_i (h.r r hr')⟩
    · obtain rfl:=List.mem_singleton.1 hx;exact ⟨a.2,hr⟩
  have hlen:(its A.l ++ [a.1]).length≤32:=by simp [its];omega
  have hx:(∃ x∈its A.l ++ [a.1],sn x.p.t (baseA A a.1)≤0)∧∃ x∈its A.l ++ [a.1],0≤sn x.p.t (baseA A a.1):=by
    by_cases e:A.l=[]
    · have:baseA A a.1=a.1.p.t:=if_pos e
      rw [this]
      exact ⟨⟨a.1,by simp,by rw [sn_self];omega⟩,⟨a.1,by simp,by rw [sn_self];omega⟩⟩
    · obtain ⟨⟨x,k1,k2⟩,⟨y,k3,k4⟩⟩:=low_mid (h.cen e) (its_ne e)
      have:s.q.m.b=baseA A a.1:=by rw [← h.base a,preM_ne (fun k=>e (h.nil.1 k))]
      rw [this] at k2 k4
      exact ⟨⟨x,by simp [k1],k2⟩,⟨y,by simp [k3],k4⟩⟩
  obtain ⟨lo,k⟩:=win_of hall hw hx.1 hx.2 hlen
  exact ⟨lo,k.perm (List.perm_append_comm.trans (h.pits.symm.cons _))⟩
theorem put_perm {r:RT}:∀ {l:List RT},findR l (idR r)=none→(putR r l).Perm (r :: l)
  | [],_ => .refl _
  | a :: l,h=>by
    rw [findR_cons] at h
    unfold putR
    split
    · exact .refl _
    · split at h
      · cases h
      · split
        · rename_i k1 k2 k3;exact absurd k3.symm k2
        · exact ((put_perm h).cons a).trans (.swap _ _ _)
theorem Rep.enter {s:Ss} {A:As} (h:Rep s A) (r:RT):enterE s r=entE A r∧Rep (enterS s r) (entA A r):=by
  have he:enterE s r=entE A r:=by unfold enterE entE;rw [h.join];rfl
  refine ⟨he,?_⟩
  unfold entA
  by_cases e0:entE A r=0
  · rw [if_pos e0]
    have hr:r.1.right=true:=by
      unfold entE layE at e0
      cases k:r.1.right
      · rw [k] at e0;cases e0
      · rfl
    have hj:joinA A r.1.i=0:=by unfold entE layE at e0;rw [hr] at e0;exact e0
    have hjq:joinE s.q (itR r)=0:=by rw [h.join];exact hj
    unfold joinA at hj
    cases k1:r.1.i.right with
    | false=>rw [k1] at hj;cases hj
    | true =>
    cases k2:(findR A.l r.1.i.id) with
    | some x=>rw [k1,k2] at hj;cases hj
    | none =>
    by_cases k3:A.l.length=32
    · rw [k1,k2,decide_eq_true k3] at hj;cases hj
    · cases k4:within (baseA A r.1.i) (its A.l ++ [r.1.i]) with
      | false=>rw [k1,k2,decide_eq_false k3,k4] at hj;cases hj
      | true =>
        obtain ⟨lo,hw⟩:=h.win (a:=itR r) k1 k3 k4
        obtain ⟨p1,p2,p3⟩:=h.q.put (a:=itR r) (by rw [h.f];show Option.map itR (findR A.l r.1.i.id)=none;rw [k2];rfl) hw
        have hE:enterS s r=⟨putQ s.q (itR r),putR r s.l⟩:=by
          unfold enterS layS joinQ;rw [hr,hjq];rfl
        rw [hE]
        refine ⟨p1,by rw [h.l],?_,p3.trans h.c,fun x hx=>?_,ord_put h.o⟩
        · refine p2.trans ?_
          have:=(put_perm (r:=r) (l:=A.l) k2).map itR
          exact ((h.p.cons _).trans this.symm)
        · rcases mem_put hx with rfl | hx
          · exact hr
          · exact h.r x hx
  · rw [if_neg e0]
    have:enterS s r=s:=by
      unfold enterS layS
      cases k:r.1.right
      · rfl
      · have:joinE s.q (itR r)≠0:=fun e=>e0 (by rw [← he];unfold enterE layE;rw [k];exact e)
        unfold joinQ
        rw [decide_eq_false this];rfl
    rw [this];exact h
theorem its_sans {l:List RT} {a:RT} (ho:OrdR l) (ha:a∈l):(delR (idR a) l).map itR=RB.sans (itR a) (l.map itR):=by
  unfold delR RB.sans
  rw [List.filter_map]
  congr 1
  refine List.filter_congr fun x hx=>?_
  simp only [Function.comp]
  by_cases e:idR x=idR a
  · have h1:=findR_at ho hx
    have h2:=findR_at ho ha
    rw [e,h2] at h1
    obtain rfl:=Option.some.inj h1
    simp
  · have:itR x≠itR a:=fun k=>e (by unfold idR;exact congrArg (fun z:IT=>z.1.id) k)
    simp [e,this]
theorem Rep.exit {s:Ss} {A:As} (h:Rep s A) {id:Int} {a:RT} (hf:findR A.l id=some a):s.q.f id=some (itR a)∧CutOk (itR a) s.q.t∧Rep (exitS s id) (extA A id):=by
  obtain ⟨h1,h2⟩:=findR_some hf
  have hfq:s.q.f id=some (itR a):=by rw [h.f,hf];rfl
  have hm:itR a∈s.q.t.list:=h.p.mem_iff.2 (List.mem_map_of_mem h1)
  obtain ⟨p1,p2,p3,p4,p5⟩:=h.q.cut hm
  have hE:exitS s id=⟨cutQ s.q (itR a),delR id s.l⟩:=by unfold exitS leaveQ;rw [hfq]
  refine ⟨hfq,p5,?_⟩
  unfold extA
  rw [hE,hf,h.l]
  refine ⟨p1,rfl,?_,?_,fun x hx=>h.r x (List.mem_filter.1 hx).1,ord_del h.o⟩
  · show (cutQ s.q (itR a)).t.list.Perm ((delR id A.l).map itR)
    rw [p2,← h2,its_sans h.o h1]
    unfold RB.sans
    exact h.p.filter _
  · show (cutQ s.q (itR a)).c=nowA A
    rw [p4,h.now]
theorem Rep.new (c:Int):Rep (newS c) ⟨[],c⟩:=⟨QI.new c,rfl,.refl _,rfl,by simp,List.Pairwise.nil⟩
end Go.Proofs.YtalffooghioekaaGreatDoorX

namespace Go.Proofs.YtalffooghioekaaGreatDoorX
open Go Go.RowKit
open IB (IT ITsAt flatT)
attribute [local irreducible] XS XC XA thenE blockE retE loopE loopS cutB cutN doneE SE
def othT (id:Int) (l:List IT):List IT:=l.filter fun a=>decide (a.1.id≠id)
theorem othT_snoc (id:Int) (l:List IT) (a:IT):othT id (l ++ [a])=if a.1.id=id then othT id l else othT id l ++ [a]:=by
  unfold othT
  rw [List.filter_append]
  by_cases h:a.1.id=id
  · rw [if_pos h];simp [h]
  · rw [if_neg h];simp [h]
theorem othT_le (id:Int) (l:List IT):(othT id l).length≤l.length:=List.length_filter_le _ _
set_option maxHeartbeats 4000000 in
theorem qothers_ret (qb:Nat) (s:Qs) (F:List Nat) (id:Int) (w0:World) (h:QAt w0 qb s F) (hm:s.t.list.length≤1000000) :
    Ret Tryz.prog 215 #[.pointer (some ⟨qb,0,none⟩),.int .i64 id] w0 fun v w'=>(∃ G,SlV w' 64 7 v (othT id s.t.list).length (flatT (othT id s.t.list)) G∧∀ k∈G,w0.heap.size≤k)∧Only [] w0 w':=by
  have hs:=St.nil w0
  refine ret_of_xc Tryz.func215 (by kernel_rfl) rfl Tryz.ntmps215 rfl rfl rfl ?_
  repeat' (first|refine vs (k:=?_)|refine qRg ?_|refine Nx.h ?_|fail)
  have hoa:=hs.only0 rfl
  (with_reducible apply xs_call);exact rfl;exact rfl;exact qitems_ret qb s F _ (h.only hoa) hm
  rintro v w1 ⟨⟨Gi,hGi,hGin⟩,ho1⟩
  generalize hl:s.t.list=l at *
  have hD:=IB.its_of hGi
  obtain ⟨ad,cap,rfl,hD⟩:=hD
  rw [List.length_map,List.length_map] at hD ⊢
  have hz1:=(hoa.trans ho1).size
  have hoA:Only [] w0 w1:=hoa.trans ho1
  clear hs
  have hs:=St.nil w1
  repeat' (first|refine vs (k:=?_)|refine Nx.h ?_|fail)
  refine xc_cutB (fun (v3:Value)=>[(5,v3)]) (fun v3 w=>Only [] w1 w∧∃ G,SlV w 64 7 v3 (othT id l).length (flatT (othT id l)) G∧∀ k∈G,w1.heap.size≤k) ?_ ?_
  · refine xc_loopS (fun (x:Nat × Value)=>[(1,.int .i64 id),(5,x.2),(9,.slice ad l.length cap),(10,.int .i64 (l.length:Nat)),(11,.int .i64 (x.1:Nat))])
      (fun x w=>x.1≤l.length∧Only [] w1 w∧∃ G,SlV w 64 7 x.2 (othT id (l.take x.1)).length (flatT (othT id (l.take x.1))) G∧∀ k∈G,w1.heap.size≤k) (fun x=>l.length - x.1) (0,.slice none 0 0) (by (repeat (first | exact agree_nil | (apply agree_cons;exact rfl)))) ⟨Nat.zero_le _,hs.only0 rfl,[],.inl ⟨rfl,rfl,rfl,rfl⟩,by simp⟩ fun x env wl ⟨hi,ho0,hT⟩=>?_
    obtain ⟨i,v5⟩:=x
    simp only at hi hT
    obtain ⟨G,hG,hGn⟩:=hT
    clear hs
    have hs:=St.nil wl
    repeat' (first|refine vs (k:=?_)|refine qRg ?_|refine Nx.h ?_|(refine xc_if rfl (fun hc=>?_) (fun hc=>?_))|fail)
    · have hlt:i < l.length:=by omega
      obtain ⟨b,off,cs,fz,rfl,_,hb,hcs⟩:=hD (fun h=>by have:=congrArg List.length h;rw [List.length_map,List.length_map,List.length_nil] at this;omega)
      have hpk:=hcs i (It.cells l[i].1) (by rw [List.getElem?_map,List.getElem?_map,List.getElem?_eq_getElem hlt];rfl)
      have ei:=nx64 (m:=l.length) hlt (by omega)
      have et:othT id (l.take (i+1))=if l[i].1.id=id then othT id (l.take i) else othT id (l.take i) ++ [l[i]]:=by rw [take_next hlt,othT_snoc]
      have hlG:=hG.lt
      have hle:=othT_le id (l.take i)
      rw [List.length_take] at hle
      generalize l[i]=q at *
      generalize othT id (l.take i)=A at *
      refine ix (h0:=(by omega)) (h1:=(by omega)) (k:=?_)
      refine lhK (ho0.block hb (by simp)) hpk (k:=?_)
      repeat' (first|refine vs (k:=?_)|(refine stA hs (k:=?_);intro w hs)|(refine al hs (k:=?_);intro b w hz hs)|(refine bs hs (k:=?_);intro b w hz hs)|refine qRg ?_|refine Nx.h ?_|(refine xc_cond rfl (fun hc=>?_) (fun hc=>?_))|fail)
      · rename_i hne
        have hb2:=hs.get At.head
        have ho2:=hs.only0 rfl
        refine xs_appendW tabOk rfl rfl rfl rfl rfl rfl rfl (by decide) (lit_cells (news:=q.1.cells) hb2) (by simp [Value.oneCell']) (hG.keep ho2 (by simp)) (by omega) (by omega) ?_
        intro v5' w4 ⟨G',hG',hGn'⟩ ho4
        have hz4:=ho2.size
        have hz0:=ho0.size
        clear hs
        have hs:=St.nil w4
        repeat' (first|refine vs (k:=?_)|refine qRg ?_|refine Nx.h ?_|fail)
        refine loopS_next (i+1,v5') (by show l.length - (i+1) < l.length - i;omega) (by (repeat (first | exact agree_nil | (apply agree_cons;first | exact rfl | exact congrArg (Value.int .i64) ei)))) ⟨by show i+1≤_;omega,((ho0.trans ho2).news hGn ho4).trans (hs.only0 rfl),G',?_,?_⟩
        · simp only [et]
          rw [if_neg (by simpa using hc),List.length_append,IB.flatT_app,show flatT [q]=q.1.cells by simp [flatT]]
          exact hG'.keep (hs.only0 rfl) (by simp)
        · intro k hk
          rcases hGn' k hk with h | h
          · exact hGn k h
          · omega
      · refine loopS_next (i+1,v5) (by show l.length - (i+1) < l.length - i;omega) (by (repeat (first | exact agree_nil | (apply agree_cons;first | exact rfl | exact congrArg (Value.int .i64) ei)))) ⟨by show i+1≤_;omega,ho0.trans (hs.only0 rfl),G,?_,hGn⟩
        simp only [et]
        rw [if_pos (by simpa using hc)]
        exact hG.keep (hs.only0 rfl) (by simp)
    · have e:i=l.length:=by omega
      subst e
      rw [List.take_length] at hG
      exact cutB_exit v5 (by (repeat (first | exact agree_nil | (apply agree_cons;exact rfl)))) ⟨ho0,G,hG,hGn⟩
  · rintro v5 env w ⟨ho0,G,hG,hGn⟩
    clear hs
    have hs:=St.nil w
    repeat' (first|refine vs (k:=?_)|refine qRg ?_|refine Nx.h ?_|fail)
    first | refine rt (hq:=?_) | refine rt' (hq:=?_)
    have ho3:=hs.only0 rfl
    exact ⟨⟨G,hG.keep ho3 (by simp),fun k hk=>by have:=hGn k hk;omega⟩,(hoA.trans ho0).trans ho3⟩
end Go.Proofs.YtalffooghioekaaGreatDoorX

namespace Go.Proofs.YtalffooghioekaaGreatDoorX
open Go Go.RowKit
open IB (IT ITsAt flatT)
attribute [local irreducible] XS XC XA thenE blockE retE loopE loopS cutB cutN doneE SE
def anchA:List It→Option Int
  | []=>none
  | x :: l=>(ofM x.p.t (places (x :: l))).bind flM
theorem ofL_in:∀ {l:List Pt} {m o:Mn},m.In→(∀ p∈l,p.In)→ofL m l=some o→o.In
  | [],m,o,h,_,e=>by cases e;exact h
  | p :: l,m,o,h,hp,e=>by
    simp only [ofL] at e
    cases e1:addM m p with
    | none=>rw [e1] at e;cases e
    | some m'=>rw [e1] at e;exact ofL_in (addM_in h e1) (fun q hq=>hp q (List.mem_cons_of_mem _ hq)) e
theorem ofM_in {b:Int} {l:List Pt} {o:Mn} (hb:U64 b) (hp:∀ p∈l,p.In) (e:ofM b l=some o):o.In:=ofL_in ⟨hb,inW0,u640,in640⟩ hp e
set_option maxHeartbeats 4000000 in
theorem anchor_ret (l:List It) (sl:Value) (hin:∀ x∈l,x.In) (hm:l.length≤1000000) (w0:World) (hP:ItsAt w0 sl l) :
    Ret Tryz.prog 216 #[sl] w0 fun v w'=>v=tmV (anchA l)∧Only [] w0 w':=by
  obtain ⟨ad,cap,rfl,hD⟩:=hP
  rw [List.length_map] at *
  have hs:=St.nil w0
  refine ret_of_xc Tryz.func216 (by kernel_rfl) rfl Tryz.ntmps216 rfl rfl rfl ?_
  repeat' (first|refine vs (k:=?_)|refine qRg ?_|refine Nx.h ?_|(refine xc_if rfl (fun hc=>?_) (fun hc=>?_))|fail)
  · obtain rfl:l=[]:=List.eq_nil_of_length_eq_zero (by omega)
    first | refine rt (hq:=?_) | refine rt' (hq:=?_)
    exact ⟨rfl,hs.only0 rfl⟩
  · have hl:l≠[]:=fun e=>hc (by rw [e];rfl)
    refine xc_cutB (fun (v3:Value)=>[(0,.slice ad l.length cap),(4,v3)]) (fun v3 w=>Only [] w0 w∧∃ G,SlV w 62 3 v3 l.length (flatP (places l)) G) ?_ ?_
    · refine xc_loopS (fun (x:Nat × Value)=>[(0,.slice ad l.length cap),(4,x.2),(12,.slice ad l.length cap),(13,.int .i64 (l.length:Nat)),(14,.int .i64 (x.1:Nat))])
        (fun x w=>x.1≤l.length∧Only [] w0 w∧∃ G,SlV w 62 3 x.2 x.1 (flatP (places (l.take x.1))) G∧∀ k∈G,w0.heap.size≤k) (fun x=>l.length - x.1) (0,.slice none 0 0) (by (repeat (first | exact agree_nil | (apply agree_cons;exact rfl)))) ⟨Nat.zero_le _,hs.only0 rfl,[],.inl ⟨rfl,rfl,rfl,rfl⟩,by simp⟩ fun x env wl ⟨hi,ho0,hT⟩=>?_
      obtain ⟨i,v5⟩:=x
      simp only at hi hT
      obtain ⟨G,hG,hGn⟩:=hT
      clear hs
      have hs:=St.nil wl
      repeat' (first|refine vs (k:=?_)|refine qRg ?_|refine Nx.h ?_|(refine xc_if rfl (fun hc=>?_) (fun hc=>?_))|fail)
      · have hlt:i < l.length:=by omega
        obtain ⟨b,off,cs,fz,rfl,_,hb,hcs⟩:=hD (fun h=>by have:=congrArg List.length h;rw [List.length_map,List.length_nil] at this;omega)
        have hpk:=hcs i (It.cells l[i]) (by rw [List.getElem?_map,List.getElem?_eq_getElem hlt];rfl)
        have ei:=nx64 (m:=l.length) hlt (by omega)
        have et:places (l.take (i+1))=places (l.take i) ++ [l[i].p]:=by rw [take_next hlt];unfold places;rw [List.map_append];rfl
        have hlG:=hG.lt
        generalize l[i]=q at *
        generalize places (l.take i)=A at *
        refine ix (h0:=(by omega)) (h1:=(by omega)) (k:=?_)
        refine lhK (ho0.block hb (by simp)) hpk (k:=?_)
        repeat' (first|refine vs (k:=?_)|(refine stA hs (k:=?_);intro w hs)|(refine al hs (k:=?_);intro b w hz hs)|(refine bs hs (k:=?_);intro b w hz hs)|refine qRg ?_|refine Nx.h ?_|fail)
        have hb2:=hs.get At.head
        have ho2:=hs.only0 rfl
        refine xs_appendW tabOk rfl rfl rfl rfl rfl rfl rfl (by decide) (lit_cells (news:=q.p.cells) hb2) (by simp [Value.oneCell']) (hG.keep ho2 (by simp)) (by omega) (by omega) ?_
        intro v5' w4 ⟨G',hG',hGn'⟩ ho4
        have hz4:=ho2.size
        have hz0:=ho0.size
        clear hs
        have hs:=St.nil w4
        repeat' (first|refine vs (k:=?_)|refine qRg ?_|refine Nx.h ?_|fail)
        refine loopS_next (i+1,v5') (by show l.length - (i+1) < l.length - i;omega) (by (repeat (first | exact agree_nil | (apply agree_cons;first | exact rfl | exact congrArg (Value.int .i64) ei)))) ⟨by show i+1≤_;omega,((ho0.trans ho2).news hGn ho4).trans (hs.only0 rfl),G',?_,?_⟩
        · simp only [et]
          rw [flatP_app,show flatP [q.p]=q.p.cells by simp [flatP]]
          exact hG'.keep (hs.only0 rfl) (by simp)
        · intro k hk
          rcases hGn' k hk with h | h
          · exact hGn k h
          · omega
      · have e:i=l.length:=by omega
        subst e
        rw [List.take_length] at hG
        exact cutB_exit v5 (by (repeat (first | exact agree_nil | (apply agree_cons;exact rfl)))) ⟨ho0,G,hG⟩
    · rintro v5 env w ⟨ho0,G,hG⟩
      clear hs
      obtain ⟨x,r,rfl⟩:=List.exists_cons_of_ne_nil hl
      obtain ⟨b,off,cs,fz,rfl,_,hb,hcs⟩:=hD (fun h=>by simp at h)
      have hpk:=hcs 0 (It.cells x) rfl
      have hx:=hin x List.mem_cons_self
      have hP:PsAt w v5 (places (x :: r)):=hG.ls rfl (by simp [places]) (fun y hy=>flatP_len _ y hy)
      have hs:=St.nil w
      repeat' (first|refine vs (k:=?_)|refine qRg ?_|refine Nx.h ?_|fail)
      refine ix (i:=0) (h0:=by decide) (h1:=by simp) (k:=?_)
      repeat' (first|refine vs (k:=?_)|fail)
      refine lh (v := .int .u64 x.p.t) (ho0.block hb (by simp)) (by cases hpk;assumption) (k:=?_)
      repeat' (first|refine vs (k:=?_)|fail)
      (with_reducible apply xs_call);exact rfl;exact rfl;exact of_mean_ret x.p.t (places (x :: r)) v5 hx.1.1 (fun p hp=>by obtain ⟨y,hy,rfl⟩:=List.mem_map.1 hp;exact (hin y hy).1) (by simp [places] at hm ⊢;omega) _ (hP.only (hs.only0 rfl))
      have eA:anchA (x :: r)=(ofM x.p.t (places (x :: r))).bind flM:=rfl
      rw [eA]
      cases hM:ofM x.p.t (places (x :: r)) with
      | none =>
        rintro v w' ⟨rfl,ho⟩;replace hs:=hs.call0 ho;repeat' (first|refine vs (k:=?_)|(refine stA hs (k:=?_);intro w hs)|(refine al hs (k:=?_);intro b w hz hs)|refine qRg ?_|refine Nx.h ?_|refine qCt ?_|fail)
        first | refine rt (hq:=?_) | refine rt' (hq:=?_)
        exact ⟨rfl,ho0.trans (hs.only0 rfl)⟩
      | some m =>
        have hmi:m.In:=ofM_in hx.1.1 (fun p hp=>by obtain ⟨y,hy,rfl⟩:=List.mem_map.1 hp;exact (hin y hy).1) hM
        rintro v w' ⟨rfl,ho⟩;replace hs:=hs.call0 ho;repeat' (first|refine vs (k:=?_)|(refine stA hs (k:=?_);intro w hs)|(refine al hs (k:=?_);intro b w hz hs)|refine qRg ?_|refine Nx.h ?_|refine qCf ?_|fail)
        (with_reducible apply xs_call);exact rfl;exact rfl;exact floor_ret m hmi _
        rintro v w' ⟨rfl,ho⟩;replace hs:=hs.call0 ho;repeat' (first|refine vs (k:=?_)|refine Nx.h ?_|fail)
        first | refine rt (hq:=?_) | refine rt' (hq:=?_)
        exact ⟨rfl,ho0.trans (hs.only0 rfl)⟩
end Go.Proofs.YtalffooghioekaaGreatDoorX

namespace Go.Proofs.YtalffooghioekaaGreatDoorX
open Go Go.RowKit
open IB (IT ITsAt flatT)
attribute [local irreducible] XS XC XA thenE blockE retE loopE loopS cutB cutN doneE SE
def flatR (l:List RT):List Value:=(l.map fun a=>a.1.cells).flatten
theorem flatR_app (a b:List RT):flatR (a ++ b)=flatR a ++ flatR b:=by simp [flatR]
set_option maxHeartbeats 4000000 in
theorem reqs_ret (sb:Nat) (s:Ss) (F:List Nat) (w0:World) (h:SAt w0 sb s F) (hn:s.l.length≤1000000) :
    Ret Tryz.prog 23 #[.pointer (some ⟨sb,0,none⟩)] w0 fun v w'=>(∃ G,SlV w' 66 10 v s.l.length (flatR s.l) G∧∀ k∈G,w0.heap.size≤k)∧Only [] w0 w':=by
  obtain ⟨qb,mb,Fq,rfl,h1,h2,h3,h4,h5⟩:=h
  have hs:=(St.nil w0).track h1 (by simp)
  refine ret_of_xc Tryz.func23 (by kernel_rfl) rfl Tryz.ntmps23 rfl rfl rfl ?_
  repeat' (first|refine vs (k:=?_)|refine qRg ?_|refine Nx.h ?_|refine qCf ?_|fail)
  have ho:=hs.onlyF [] (by simp [h1]) (by simp [D0])
  (with_reducible apply xs_call);exact rfl;exact rfl;exact keys_ret mb _
  rintro v w1 ⟨rfl,rfl⟩
  (with_reducible apply xs_call);exact rfl;exact rfl;exact sorted_ret mb s.l.length (rvals s.l) (s.l.map idR) w0 h2 hn h5 (ids_iff s.l)
  rintro v2 w2 ⟨⟨ad,cap,rfl,hD⟩,_,ho2⟩
  have hoA:Only [] w0 w2:=(((St.nil w0).alloc _).only0 rfl).trans ho2
  clear hs ho ho2
  rw [List.length_map,List.length_map]
  have hsb2:=hoA.block h1 (by simp)
  have hM2:=h2.keep hoA (by simp)
  have hz2:=hoA.size
  rw [List.length_map,List.length_map] at hD
  have hs:=(St.nil w2).track hsb2 (by simp)
  repeat' (first|refine vs (k:=?_)|refine Nx.h ?_|fail)
  refine xc_cutB (fun (v3:Value)=>[(3,v3)]) (fun v3 w=>Only [] w2 w∧∃ G,SlV w 66 10 v3 s.l.length (flatR s.l) G∧∀ k∈G,w2.heap.size≤k) ?_ ?_
  · refine xc_loopS (fun (x:Nat × Value)=>[(0,.pointer (some ⟨sb,0,none⟩)),(3,x.2),(13,.slice ad s.l.length cap),(14,.int .i64 (s.l.length:Nat)),(15,.int .i64 (x.1:Nat))])
      (fun x w=>x.1≤s.l.length∧Only [] w2 w∧∃ G,SlV w 66 10 x.2 x.1 (flatR (s.l.take x.1)) G∧∀ k∈G,w2.heap.size≤k) (fun x=>s.l.length - x.1) (0,.slice none 0 0) (by (repeat (first | exact agree_nil | (apply agree_cons;exact rfl)))) ⟨Nat.zero_le _,hs.onlyF [] (by simp [hsb2]) (by simp [D0]),[],.inl ⟨rfl,rfl,rfl,rfl⟩,by simp⟩ fun x env wl ⟨hi,ho0,hT⟩=>?_
    obtain ⟨i,v5⟩:=x
    simp only at hi hT
    obtain ⟨G,hG,hGn⟩:=hT
    clear hs
    have hsl:=ho0.block hsb2 (by simp)
    have hs:=(St.nil wl).track hsl (by simp)
    repeat' (first|refine vs (k:=?_)|refine qRg ?_|refine Nx.h ?_|(refine xc_if rfl (fun hc=>?_) (fun hc=>?_))|fail)
    · have hlt:i < s.l.length:=by omega
      obtain ⟨b,off,cs,fz,rfl,_,hb,hcs⟩:=hD (fun h=>by simp at h;rw [h] at hlt;cases hlt)
      have hpk:=hcs i (intR (idR s.l[i])) (by rw [List.getElem?_map,List.getElem?_map,List.getElem?_eq_getElem hlt];rfl)
      have ei:=nx64 (m:=s.l.length) hlt (by omega)
      have et:flatR (s.l.take (i+1))=flatR (s.l.take i) ++ s.l[i].1.cells:=by rw [take_next hlt,flatR_app];simp [flatR]
      have hfa:=findR_at h5 (List.getElem_mem hlt)
      have hlk:getL s.l (idR s.l[i])=s.l[i].1:=by unfold getL;rw [hfa]
      have hin:=s.l[i].2.1.2.1
      generalize s.l[i]=q at *
      refine ix (h0:=(by omega)) (h1:=(by omega)) (k:=?_)
      refine lh (ho0.block hb (by simp)) (by cases hpk;assumption) (k:=?_)
      repeat' (first|refine vs (k:=?_)|refine qRg ?_|refine Nx.h ?_|fail)
      refine xs_look1 (e:=66) (z:=rv .zero) (i:=idR q) (hM2.keep ho0 (by simp)) hin (by kernel_rfl) (by kernel_rfl) (k:=?_)
      rw [rvals_get,hlk]
      refine bs hs (k:=?_);intro b26 w26 hz26 hs
      have hb26:=hs.get At.head
      have hlG:=hG.lt
      have ho26:=hs.onlyF [] (by simp [hsl]) (by simp [D0])
      refine xs_appendW tabOk rfl rfl rfl rfl rfl rfl rfl (by decide) (lit_cells (news:=q.1.cells) hb26) (by simp [Value.oneCell']) (hG.keep ho26 (by simp)) (by omega) (by omega) ?_
      intro v5' w4 ⟨G',hG',hGn'⟩ ho4
      have hz4:=ho26.size
      have hz0:=ho0.size
      clear hs
      have hs:=St.nil w4
      repeat' (first|refine vs (k:=?_)|refine qRg ?_|refine Nx.h ?_|fail)
      refine loopS_next (i+1,v5') (by show s.l.length - (i+1) < s.l.length - i;omega) (by (repeat (first | exact agree_nil | (apply agree_cons;first | exact rfl | exact congrArg (Value.int .i64) ei)))) ⟨by show i+1≤_;omega,((ho0.trans ho26).news hGn ho4).trans (hs.only0 rfl),G',?_,?_⟩
      · simp only [et]
        exact hG'.keep (hs.only0 rfl) (by simp)
      · intro k hk
        rcases hGn' k hk with h | h
        · exact hGn k h
        · omega
    · have e:i=s.l.length:=by omega
      subst e
      rw [List.take_length] at hG
      exact cutB_exit v5 (by (repeat (first | exact agree_nil | (apply agree_cons;exact rfl)))) ⟨ho0,G,hG,hGn⟩
  · rintro v5 env w ⟨ho0,G,hG,hGn⟩
    clear hs
    have hs:=St.nil w
    repeat' (first|refine vs (k:=?_)|refine qRg ?_|refine Nx.h ?_|fail)
    first | refine rt (hq:=?_) | refine rt' (hq:=?_)
    exact ⟨⟨G,hG.keep (hs.only0 rfl) (by simp),fun k hk=>by have:=hGn k hk;omega⟩,(hoA.trans ho0).trans (hs.only0 rfl)⟩
end Go.Proofs.YtalffooghioekaaGreatDoorX
