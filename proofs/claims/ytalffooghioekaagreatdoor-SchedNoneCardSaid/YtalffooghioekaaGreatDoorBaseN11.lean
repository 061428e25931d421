/- A part of the proof: what its functions compute. -/
import Derived.Test.YtalffooghioekaaGreatDoorBaseN10
set_option linter.unusedVariables false
set_option linter.unusedSimpArgs false
set_option maxRecDepth 100000
namespace Go.Proofs.YtalffooghioekaaGreatDoorX
open Go Go.RowKit
attribute [local irreducible] XS XC XA thenE blockE retE loopE loopS cutB cutN doneE SE
theorem eqEv (p q:Ev):(cellEq (.int .i64 p.core) (.int .i64 q.core) && (cellEq (.int .i64 p.id) (.int .i64 q.id) && (cellEq (.int .u64 p.ns) (.int .u64 q.ns) && (cellEq (.bool p.done) (.bool q.done) && cellEq (.bool p.gone) (.bool q.gone)))))=decide (p=q):=by
  obtain ⟨a,b,c,d,e⟩:=p
  obtain ⟨a',b',c',d',e'⟩:=q
  show ((a == a') && ((b == b') && ((c == c') && ((d == d') && (e == e')))))=_
  rw [Bool.eq_iff_iff]
  simp
set_option maxHeartbeats 4000000 in
theorem eqEv_ret (va vb:Value) (A B:List Ev) (hm:A.length≤9223372036854775807) (w0:World) (hA:LsAt w0 41 5 va (A.map Ev.cells)) (hB:LsAt w0 41 5 vb (B.map Ev.cells)) :
    Ret Tryz.prog 28 #[va,vb] w0 fun v w'=>v = .bool (decide (A=B))∧Only [] w0 w':=by
  obtain ⟨ada,ca,rfl,hA⟩:=hA
  obtain ⟨adb,cb,rfl,hB⟩:=hB
  rw [List.length_map] at *
  rw [List.length_map] at *
  have hs:=St.nil w0
  refine ret_of_xc Tryz.func28 (by kernel_rfl) rfl Tryz.ntmps28 rfl rfl rfl ?_
  repeat' (first|refine vs (k:=?_)|refine qRg ?_|refine Nx.h ?_|(refine xc_cond rfl (fun hc=>?_) (fun hc=>?_))|fail)
  · first | refine rt (hq:=?_) | refine rt' (hq:=?_)
    refine ⟨congrArg Value.bool ?_,hs.only0 rfl⟩
    have hne:A≠B:=fun e=>by subst e;simp at hc
    exact (decide_eq_false hne).symm
  · have hln:A.length=B.length:=by
      have h:((A.length:Nat):Int)=B.length:=by simpa using hc
      omega
    refine xc_cutB (fun _:Unit=>[]) (fun _ w=>A=B∧Only [] w0 w) ?_ ?_
    · refine xc_loopS (fun (i:Nat)=>[(0,.slice ada A.length ca),(1,.slice adb B.length cb),(12,.int .i64 (A.length:Nat)),(13,.int .i64 (i:Nat))])
        (fun i w=>i≤A.length∧A.take i=B.take i∧Only [] w0 w)
        (fun i=>A.length - i) 0 (by (repeat (first | exact agree_nil | (apply agree_cons;exact rfl)))) ⟨Nat.zero_le _,by simp,hs.only0 rfl⟩ fun i env w ⟨hi,ht,ho⟩=>?_
      clear hs
      have hs:=St.nil w
      repeat' (first|refine vs (k:=?_)|refine qRg ?_|refine Nx.h ?_|(refine xc_if rfl (fun hc=>?_) (fun hc=>?_))|fail)
      · have hlt:i < A.length:=by omega
        have hltB:i < B.length:=by omega
        obtain ⟨ba,oa,csa,fa,rfl,a2,a3,a4⟩:=hA (fun h=>by have:=congrArg List.length h;rw [List.length_map,List.length_nil] at this;omega)
        obtain ⟨bb,ob,csb,fb,rfl,b2,b3,b4⟩:=hB (fun h=>by have:=congrArg List.length h;rw [List.length_map,List.length_nil] at this;omega)
        have ga:=a4 i _ (by rw [List.getElem?_map,List.getElem?_eq_getElem hlt];rfl)
        have gb:=b4 i _ (by rw [List.getElem?_map,List.getElem?_eq_getElem hltB];rfl)
        have a3:=ho.block a3 (by simp)
        have b3:=ho.block b3 (by simp)
        have key:A[i]=B[i]→A.take (i+1)=B.take (i+1):=fun he=>by rw [List.take_add_one,List.take_add_one,ht,List.getElem?_eq_getElem hlt,List.getElem?_eq_getElem hltB,he]
        have key2:A[i]≠B[i]→A≠B:=fun h e=>h (by subst e;rfl)
        have ei:=nx64 hlt hm
        generalize A[i]=x at *
        generalize B[i]=y at *
        by_cases e:ba=bb
        · subst e
          rw [a3] at b3
          cases b3
          replace hs:=hs.track a3 (by simp)
          refine dr [] hs (k:=?_);intro hX w hs
          refine tk 0 hX (k:=?_)
          refine tk 1 hX (k:=?_)
          refine tk 2 hX (hr:=fun w' hH=>r_indexAddr tabOk rfl rfl rfl (by omega) (by omega)) (k:=?_)
          refine tk 3 hX (hr:=fun w' hH=>r_loadA tabOk rfl rfl (hH rfl) At.head ga) (k:=?_)
          refine tk 4 hX (k:=?_)
          refine tk 5 hX (k:=?_)
          refine tk 6 hX (hr:=fun w' hH=>r_indexAddr tabOk rfl rfl rfl (by omega) (by omega)) (k:=?_)
          refine tk 7 hX (hr:=fun w' hH=>r_loadA tabOk rfl rfl (hH rfl) At.head gb) (k:=?_)
          refine tk 8 hX (k:=?_)
          refine en (k:=?_)
          repeat' (first|refine vs (k:=?_)|refine qRg ?_|refine Nx.h ?_|(refine xc_cond rfl (fun hc=>?_) (fun hc=>?_))|fail)
          · rw [eqEv] at hc
            first | refine rt (hq:=?_) | refine rt' (hq:=?_)
            exact ⟨congrArg Value.bool (decide_eq_false (key2 (by simpa using hc))).symm,ho.step (hs.onlyF [] (by simp [a3]) (by simp [D0])) (by simp)⟩
          · rw [eqEv] at hc
            exact loopS_next (i+1) (by omega) (by (repeat (first | exact agree_nil | (apply agree_cons;first | exact rfl | exact congrArg (Value.int .i64) ei)))) ⟨by omega,key (by simpa using hc),ho.step (hs.onlyF [] (by simp [a3]) (by simp [D0])) (by simp)⟩
        · replace hs:=(hs.track a3 (by simp)).track b3 (by simpa using Ne.symm e)
          refine dr [] hs (k:=?_);intro hX w hs
          refine tk 0 hX (k:=?_)
          refine tk 1 hX (k:=?_)
          refine tk 2 hX (hr:=fun w' hH=>r_indexAddr tabOk rfl rfl rfl (by omega) (by omega)) (k:=?_)
          refine tk 3 hX (hr:=fun w' hH=>r_loadA tabOk rfl rfl (hH rfl) (At.tail At.head) ga) (k:=?_)
          refine tk 4 hX (k:=?_)
          refine tk 5 hX (k:=?_)
          refine tk 6 hX (hr:=fun w' hH=>r_indexAddr tabOk rfl rfl rfl (by omega) (by omega)) (k:=?_)
          refine tk 7 hX (hr:=fun w' hH=>r_loadA tabOk rfl rfl (hH rfl) At.head gb) (k:=?_)
          refine tk 8 hX (k:=?_)
          refine en (k:=?_)
          repeat' (first|refine vs (k:=?_)|refine qRg ?_|refine Nx.h ?_|(refine xc_cond rfl (fun hc=>?_) (fun hc=>?_))|fail)
          · rw [eqEv] at hc
            first | refine rt (hq:=?_) | refine rt' (hq:=?_)
            exact ⟨congrArg Value.bool (decide_eq_false (key2 (by simpa using hc))).symm,ho.step (hs.onlyF [] (by simp [a3,b3]) (by simp [D0])) (by simp)⟩
          · rw [eqEv] at hc
            exact loopS_next (i+1) (by omega) (by (repeat (first | exact agree_nil | (apply agree_cons;first | exact rfl | exact congrArg (Value.int .i64) ei)))) ⟨by omega,key (by simpa using hc),ho.step (hs.onlyF [] (by simp [a3,b3]) (by simp [D0])) (by simp)⟩
      · have e:i=A.length:=by omega
        have hAB:A=B:=by
          have h1:A.take i=A:=List.take_of_length_le (by omega)
          have h2:B.take i=B:=List.take_of_length_le (by omega)
          rw [← h1,ht,h2]
        exact cutB_exit () (by (repeat (first | exact agree_nil | (apply agree_cons;exact rfl)))) ⟨hAB,ho.step (hs.only0 rfl) (by simp)⟩
    · rintro _ env w ⟨rfl,ho⟩
      clear hs
      have hs:=St.nil w
      repeat' (first|refine vs (k:=?_)|refine qRg ?_|refine Nx.h ?_|fail)
      first | refine rt (hq:=?_) | refine rt' (hq:=?_)
      exact ⟨congrArg Value.bool (decide_eq_true rfl).symm,ho.step (hs.only0 rfl) (by simp)⟩
end Go.Proofs.YtalffooghioekaaGreatDoorX

namespace Go.Proofs.YtalffooghioekaaGreatDoorX
open Go Go.RowKit
attribute [local irreducible] XS XC XA thenE blockE retE loopE loopS cutB cutN doneE SE
set_option maxHeartbeats 4000000 in
theorem eqI_ret (va vb:Value) (A B:List Int) (hm:A.length≤9223372036854775807) (w0:World) (hA:LsAt w0 3 1 va (A.map intR)) (hB:LsAt w0 3 1 vb (B.map intR)) :
    Ret Tryz.prog 29 #[va,vb] w0 fun v w'=>v = .bool (decide (A=B))∧Only [] w0 w':=by
  obtain ⟨ada,ca,rfl,hA⟩:=hA
  obtain ⟨adb,cb,rfl,hB⟩:=hB
  rw [List.length_map] at *
  rw [List.length_map] at *
  have hs:=St.nil w0
  refine ret_of_xc Tryz.func29 (by kernel_rfl) rfl Tryz.ntmps29 rfl rfl rfl ?_
  repeat' (first|refine vs (k:=?_)|refine qRg ?_|refine Nx.h ?_|(refine xc_cond rfl (fun hc=>?_) (fun hc=>?_))|fail)
  · first | refine rt (hq:=?_) | refine rt' (hq:=?_)
    refine ⟨congrArg Value.bool ?_,hs.only0 rfl⟩
    have hne:A≠B:=fun e=>by subst e;simp at hc
    exact (decide_eq_false hne).symm
  · have hln:A.length=B.length:=by
      have h:((A.length:Nat):Int)=B.length:=by simpa using hc
      omega
    refine xc_cutB (fun _:Unit=>[]) (fun _ w=>A=B∧Only [] w0 w) ?_ ?_
    · refine xc_loopS (fun (i:Nat)=>[(0,.slice ada A.length ca),(1,.slice adb B.length cb),(12,.int .i64 (A.length:Nat)),(13,.int .i64 (i:Nat))])
        (fun i w=>i≤A.length∧A.take i=B.take i∧Only [] w0 w)
        (fun i=>A.length - i) 0 (by (repeat (first | exact agree_nil | (apply agree_cons;exact rfl)))) ⟨Nat.zero_le _,by simp,hs.only0 rfl⟩ fun i env w ⟨hi,ht,ho⟩=>?_
      clear hs
      have hs:=St.nil w
      repeat' (first|refine vs (k:=?_)|refine qRg ?_|refine Nx.h ?_|(refine xc_if rfl (fun hc=>?_) (fun hc=>?_))|fail)
      · have hlt:i < A.length:=by omega
        have hltB:i < B.length:=by omega
        obtain ⟨ba,oa,csa,fa,rfl,a2,a3,a4⟩:=hA (fun h=>by have:=congrArg List.length h;rw [List.length_map,List.length_nil] at this;omega)
        obtain ⟨bb,ob,csb,fb,rfl,b2,b3,b4⟩:=hB (fun h=>by have:=congrArg List.length h;rw [List.length_map,List.length_nil] at this;omega)
        have ga:=a4 i _ (by rw [List.getElem?_map,List.getElem?_eq_getElem hlt];rfl)
        have gb:=b4 i _ (by rw [List.getElem?_map,List.getElem?_eq_getElem hltB];rfl)
        have a3:=ho.block a3 (by simp)
        have b3:=ho.block b3 (by simp)
        have key:A[i]=B[i]→A.take (i+1)=B.take (i+1):=fun he=>by rw [List.take_add_one,List.take_add_one,ht,List.getElem?_eq_getElem hlt,List.getElem?_eq_getElem hltB,he]
        have key2:A[i]≠B[i]→A≠B:=fun h e=>h (by subst e;rfl)
        have ei:=nx64 hlt hm
        generalize A[i]=x at *
        generalize B[i]=y at *
        by_cases e:ba=bb
        · subst e
          rw [a3] at b3
          cases b3
          replace hs:=hs.track a3 (by simp)
          refine dr [] hs (k:=?_);intro hX w hs
          refine tk 0 hX (k:=?_)
          refine tk 1 hX (k:=?_)
          refine tk 2 hX (hr:=fun w' hH=>r_indexAddr tabOk rfl rfl rfl (by omega) (by omega)) (k:=?_)
          refine tk 3 hX (hr:=fun w' hH=>r_load tabOk rfl rfl (hH rfl) At.head (by cases ga;assumption)) (k:=?_)
          refine tk 4 hX (k:=?_)
          refine tk 5 hX (k:=?_)
          refine tk 6 hX (hr:=fun w' hH=>r_indexAddr tabOk rfl rfl rfl (by omega) (by omega)) (k:=?_)
          refine tk 7 hX (hr:=fun w' hH=>r_load tabOk rfl rfl (hH rfl) At.head (by cases gb;assumption)) (k:=?_)
          refine tk 8 hX (k:=?_)
          refine en (k:=?_)
          repeat' (first|refine vs (k:=?_)|refine qRg ?_|refine Nx.h ?_|(refine xc_cond rfl (fun hc=>?_) (fun hc=>?_))|fail)
          · first | refine rt (hq:=?_) | refine rt' (hq:=?_)
            exact ⟨congrArg Value.bool (decide_eq_false (key2 (by simpa using hc))).symm,ho.step (hs.onlyF [] (by simp [a3]) (by simp [D0])) (by simp)⟩
          · exact loopS_next (i+1) (by omega) (by (repeat (first | exact agree_nil | (apply agree_cons;first | exact rfl | exact congrArg (Value.int .i64) ei)))) ⟨by omega,key (by simpa using hc),ho.step (hs.onlyF [] (by simp [a3]) (by simp [D0])) (by simp)⟩
        · replace hs:=(hs.track a3 (by simp)).track b3 (by simpa using Ne.symm e)
          refine dr [] hs (k:=?_);intro hX w hs
          refine tk 0 hX (k:=?_)
          refine tk 1 hX (k:=?_)
          refine tk 2 hX (hr:=fun w' hH=>r_indexAddr tabOk rfl rfl rfl (by omega) (by omega)) (k:=?_)
          refine tk 3 hX (hr:=fun w' hH=>r_load tabOk rfl rfl (hH rfl) (At.tail At.head) (by cases ga;assumption)) (k:=?_)
          refine tk 4 hX (k:=?_)
          refine tk 5 hX (k:=?_)
          refine tk 6 hX (hr:=fun w' hH=>r_indexAddr tabOk rfl rfl rfl (by omega) (by omega)) (k:=?_)
          refine tk 7 hX (hr:=fun w' hH=>r_load tabOk rfl rfl (hH rfl) At.head (by cases gb;assumption)) (k:=?_)
          refine tk 8 hX (k:=?_)
          refine en (k:=?_)
          repeat' (first|refine vs (k:=?_)|refine qRg ?_|refine Nx.h ?_|(refine xc_cond rfl (fun hc=>?_) (fun hc=>?_))|fail)
          · first | refine rt (hq:=?_) | refine rt' (hq:=?_)
            exact ⟨congrArg Value.bool (decide_eq_false (key2 (by simpa using hc))).symm,ho.step (hs.onlyF [] (by simp [a3,b3]) (by simp [D0])) (by simp)⟩
          · exact loopS_next (i+1) (by omega) (by (repeat (first | exact agree_nil | (apply agree_cons;first | exact rfl | exact congrArg (Value.int .i64) ei)))) ⟨by omega,key (by simpa using hc),ho.step (hs.onlyF [] (by simp [a3,b3]) (by simp [D0])) (by simp)⟩
      · have e:i=A.length:=by omega
        have hAB:A=B:=by
          have h1:A.take i=A:=List.take_of_length_le (by omega)
          have h2:B.take i=B:=List.take_of_length_le (by omega)
          rw [← h1,ht,h2]
        exact cutB_exit () (by (repeat (first | exact agree_nil | (apply agree_cons;exact rfl)))) ⟨hAB,ho.step (hs.only0 rfl) (by simp)⟩
    · rintro _ env w ⟨rfl,ho⟩
      clear hs
      have hs:=St.nil w
      repeat' (first|refine vs (k:=?_)|refine qRg ?_|refine Nx.h ?_|fail)
      first | refine rt (hq:=?_) | refine rt' (hq:=?_)
      exact ⟨congrArg Value.bool (decide_eq_true rfl).symm,ho.step (hs.only0 rfl) (by simp)⟩
end Go.Proofs.YtalffooghioekaaGreatDoorX

namespace Go.Proofs.YtalffooghioekaaGreatDoorX
open Go Go.RowKit
attribute [local irreducible] XS XC XA thenE blockE retE loopE loopS cutB cutN doneE SE
def c21:Cf:=⟨1,2,9,9,0⟩
def y21a:Sy:=(trySy (newSy c21) ((spawnY ⟨newSy c21,[]⟩ 0 1 5).1,(spawnY ⟨newSy c21,[]⟩ 0 1 5).2.2)).2
def y21b:Sy:=(trySy y21a ((spawnY ⟨y21a,[]⟩ 0 1 5).1,(spawnY ⟨y21a,[]⟩ 0 1 5).2.2)).2
def y21c:Sy:=(trySy y21b (tickY ⟨y21b,[]⟩ 5)).2
theorem c21_in:c21.In:=by unfold c21;exact ⟨by decide,by decide,by decide,by decide,by decide⟩
theorem a21_0:checkF c21=0:=by decide
theorem a21_1:(spawnY ⟨newSy c21,[]⟩ 0 1 5).1=0:=by kernel_rfl
theorem a21_2:(spawnY ⟨newSy c21,[]⟩ 0 1 5).2.1=1:=by kernel_rfl
theorem a21_3:(spawnY ⟨y21a,[]⟩ 0 1 5).1=0:=by kernel_rfl
theorem a21_4:(spawnY ⟨y21a,[]⟩ 0 1 5).2.1=2:=by kernel_rfl
theorem a21_5:(tickY ⟨y21b,[]⟩ 5).1=0:=by kernel_rfl
theorem a21_6:(trySy y21b (tickY ⟨y21b,[]⟩ 5)).1=[⟨0,1,5,true,false⟩]:=by kernel_rfl
theorem a21_7:y21c.k.map Cs.run=[2]:=by kernel_rfl
theorem a21_8:y21b.k.length=1:=by kernel_rfl
theorem a21_9:(tickC (coreY y21b 0) 5).2.2.p.length=1:=by kernel_rfl
theorem Awake20_ret (w0:World) (ht:Pows w0):Ret Tryz.prog 57 #[] w0 fun v w'=>v = .bool true∧Only [] w0 w':=by
  have hs:=St.nil w0
  refine ret_of_xc Tryz.func57 (by kernel_rfl) rfl Tryz.ntmps57 rfl rfl rfl ?_
  repeat' (first|refine vs (k:=?_)|refine qRg ?_|refine Nx.h ?_|fail)
  (with_reducible apply xs_call);exact rfl;exact rfl;exact awake20_ret _ (tab_only ht (hs.only0 rfl))
  rintro v w' ⟨rfl,ho⟩;replace hs:=hs.call0 ho;repeat' (first|refine vs (k:=?_)|refine Nx.h ?_|fail)
  first | refine rt (hq:=?_) | refine rt' (hq:=?_)
  exact ⟨rfl,hs.only0 rfl⟩
set_option maxHeartbeats 8000000 in
theorem awake21_ret (w0:World) (ht:Pows w0):Ret Tryz.prog 13 #[] w0 fun v w'=>v = .bool true∧Only [] w0 w':=by
  have hs:=St.nil w0
  refine ret_of_xc Tryz.func13 (by kernel_rfl) rfl Tryz.ntmps13 rfl rfl rfl ?_
  repeat' (first|refine vs (k:=?_)|refine qRg ?_|refine Nx.h ?_|fail)
  (with_reducible apply xs_call);exact rfl;exact rfl;exact synew_ret c21 c21_in _
  rintro v w1 ⟨h | ⟨-,sb,F0,rfl,hS,hF0⟩,ho1⟩
  · exact absurd a21_0 h.1
  have hoA:=(hs.only0 rfl).trans ho1
  have hF0':∀ k∈F0,w0.heap.size≤k:=fun k hk=>by have:=hF0 k hk;have:=(hs.only0 rfl).size;omega
  have hcb:w0.heap.size≤sb:=hF0' sb hS.mem
  clear hs
  have hs:=St.nil w1
  repeat' (first|refine vs (k:=?_)|refine qRg ?_|refine Nx.h ?_|refine qCf ?_|fail)
  (with_reducible apply xs_call);exact rfl;exact rfl;exact spawnS_ret sb (newSy c21) F0 0 1 5 _ (hS.only (hs.only0 rfl)) (by decide) (by decide) (by decide)
  rw [a21_1,a21_2]
  rintro v w2 ⟨ve,rfl,T⟩
  obtain ⟨ae,ce,rfl⟩:=T.form
  obtain ⟨-,⟨F1,hS1,hF1⟩,ho2⟩:=T
  rw [← a21_1] at hS1
  have hS1:SyAt w2 sb y21a F1:=hS1
  have hoB:Only [] w0 w2:=(hoA.trans (hs.only0 rfl)).step ho2 (fun k hk => .inr (by obtain rfl:=List.mem_singleton.1 hk;exact hcb))
  clear hs
  have hs:=St.nil w2
  repeat' (first|refine vs (k:=?_)|refine qRg ?_|refine Nx.h ?_|fail)
  (with_reducible apply xs_call);exact rfl;exact rfl;exact spawnS_ret sb y21a F1 0 1 5 _ (hS1.only (hs.only0 rfl)) (by decide) (by decide) (by decide)
  rw [a21_3,a21_4]
  rintro v w3 ⟨ve,rfl,T⟩
  obtain ⟨ae,ce,rfl⟩:=T.form
  obtain ⟨-,⟨F2,hS2,hF2⟩,ho3⟩:=T
  rw [← a21_3] at hS2
  have hS2:SyAt w3 sb y21b F2:=hS2
  have hoC:Only [] w0 w3:=(hoB.trans (hs.only0 rfl)).step ho3 (fun k hk => .inr (by obtain rfl:=List.mem_singleton.1 hk;exact hcb))
  clear hs
  have hs:=St.nil w3
  repeat' (first|refine vs (k:=?_)|refine qRg ?_|refine Nx.h ?_|fail)
  (with_reducible apply xs_call);exact rfl;exact rfl;exact tickS_ret sb y21b F2 5 _ (hS2.only (hs.only0 rfl)) (by decide) (fun _ k hk=>by rw [a21_8] at hk;obtain rfl:k=0:=(by omega);have e:=a21_9;show (tickC (coreY y21b ((0:Nat):Int)) 5).2.2.p.length≤1000000;rw [show ((0:Nat):Int)=0 from rfl,e];decide)
  rw [a21_5]
  rintro v w4 ⟨ve,rfl,T⟩
  obtain ⟨⟨Ge,hE⟩,⟨F3,hS3,hF3⟩,ho4⟩:=T
  have hS3:SyAt w4 sb y21c F3:=hS3
  rw [a21_6] at hE
  obtain ⟨ae,ce,rfl⟩:=slv_form hE
  have hoD:Only [] w0 w4:=(hoC.trans (hs.only0 rfl)).step ho4 (fun k hk => .inr (by obtain rfl:=List.mem_singleton.1 hk;exact hcb))
  clear hs
  have hs:=St.nil w4
  repeat' (first|refine vs (k:=?_)|refine qRg ?_|refine Nx.h ?_|fail)
  have hoE:=hoD.trans (hs.only0 rfl)
  (with_reducible apply xs_call);exact rfl;exact rfl;exact Awake20_ret _ (tab_only ht hoE)
  rintro v w' ⟨rfl,ho⟩;replace hs:=hs.call0 ho;repeat' (first|refine vs (k:=?_)|(refine bs hs (k:=?_);intro b w hz hs)|fail)
  have hlit:=lit_ls (xs:=[Ev.cells ⟨0,1,5,true,false⟩]) (k:=5) (hs.get At.head) rfl (by decide) rfl
  have hE':LsAt w4 41 5 (.slice ae 1 ce) ([⟨0,1,5,true,false⟩].map Ev.cells):=SlV.ls hE rfl (by simp) (fun x hx=>by obtain ⟨p,_,rfl⟩:=List.mem_map.1 hx;rfl)
  (with_reducible apply xs_call);exact rfl;exact rfl;exact eqEv_ret _ _ [⟨0,1,5,true,false⟩] [⟨0,1,5,true,false⟩] (by decide) _ (hE'.only (hs.only0 rfl)) hlit
  rw [show decide ([(⟨0,1,5,true,false⟩:Ev)]=[⟨0,1,5,true,false⟩])=true by decide]
  rintro v w' ⟨rfl,ho⟩;replace hs:=hs.call0 ho;repeat' (first|refine vs (k:=?_)|fail)
  (with_reducible apply xs_call);exact rfl;exact rfl;exact runs_ret sb y21c F3 _ (hS3.only (hs.only0 rfl))
  rw [a21_7]
  rintro v w5 ⟨⟨G5,hR,hG5⟩,ho5⟩
  obtain ⟨ar,cr,rfl⟩:=slv_form hR
  have hoF:=(hoD.trans (hs.only0 rfl)).trans ho5
  clear hs
  have hs:=St.nil w5
  repeat' (first|(refine bs hs (k:=?_);intro b w hz hs)|fail)
  have hlit2:=lit_ls (xs:=[intR 2]) (k:=1) (hs.get At.head) rfl (by decide) rfl
  have hR':LsAt w5 3 1 (.slice ar 1 cr) ([(2:Int)].map intR):=SlV.ls (xs:=[(2:Int)].map intR) hR rfl (by simp) (fun x hx=>by obtain ⟨p,_,rfl⟩:=List.mem_map.1 hx;rfl)
  (with_reducible apply xs_call);exact rfl;exact rfl;exact eqI_ret _ _ [2] [2] (by decide) _ (hR'.only (hs.only0 rfl)) hlit2
  rw [show decide ([(2:Int)]=[2])=true by decide]
  rintro v w' ⟨rfl,ho⟩;replace hs:=hs.call0 ho;repeat' (first|refine vs (k:=?_)|refine Nx.h ?_|fail)
  first | refine rt (hq:=?_) | refine rt' (hq:=?_)
  exact ⟨rfl,hoF.trans (hs.only0 rfl)⟩
end Go.Proofs.YtalffooghioekaaGreatDoorX

namespace Go.Proofs.YtalffooghioekaaGreatDoorX
open Go Go.RowKit
attribute [local irreducible] XS XC XA thenE blockE retE loopE loopS cutB cutN doneE SE
theorem tryS_nil (f:Value) (w0:World):Ret Tryz.prog 72 #[.pointer none,f] w0 fun v w'=>v=(.tuple #[.slice none 0 0,.int .i64 1])∧Only [] w0 w':=by
  have hs:=St.nil w0
  refine ret_of_xc Tryz.func72 (by kernel_rfl) rfl Tryz.ntmps72 rfl rfl rfl ?_
  repeat' (first|refine vs (k:=?_)|refine qRg ?_|refine Nx.h ?_|refine qCt ?_|fail)
  first | refine rt (hq:=?_) | refine rt' (hq:=?_)
  exact ⟨rfl,hs.only0 rfl⟩
theorem withS_nil (id:Int) (f:Value) (w0:World):Ret Tryz.prog 79 #[.pointer none,.int .i64 id,f] w0 fun v w'=>v=(.tuple #[.slice none 0 0,.int .i64 1])∧Only [] w0 w':=by
  have hs:=St.nil w0
  refine ret_of_xc Tryz.func79 (by kernel_rfl) rfl Tryz.ntmps79 rfl rfl rfl ?_
  repeat' (first|refine vs (k:=?_)|(refine bx hs (k:=?_);intro b w hz hs)|refine qRg ?_|refine Nx.h ?_|fail)
  (with_reducible apply xs_call);exact rfl;exact rfl;exact tryS_nil _ _
  rintro v w' ⟨rfl,ho⟩;replace hs:=hs.call0 ho;repeat' (first|refine vs (k:=?_)|refine Nx.h ?_|fail)
  first | refine rt (hq:=?_) | refine rt' (hq:=?_)
  exact ⟨rfl,hs.only0 rfl⟩
theorem coreS_nil (k:Int) (w0:World):Ret Tryz.prog 21 #[.pointer none,.int .i64 k] w0 fun v w'=>v = .tuple #[.pointer none,.int .i64 1]∧Only [] w0 w':=by
  have hs:=St.nil w0
  refine ret_of_xc Tryz.func21 (by kernel_rfl) rfl Tryz.ntmps21 rfl rfl rfl ?_
  repeat' (first|refine vs (k:=?_)|refine qRg ?_|refine Nx.h ?_|refine qCt ?_|fail)
  first | refine rt (hq:=?_) | refine rt' (hq:=?_)
  exact ⟨rfl,hs.only0 rfl⟩
theorem taskS_nil (id:Int) (w0:World):Ret Tryz.prog 69 #[.pointer none,.int .i64 id] w0 fun v w'=>v = .tuple #[tkv .zero,.int .i64 1]∧Only [] w0 w':=by
  have hs:=St.nil w0
  refine ret_of_xc Tryz.func69 (by kernel_rfl) rfl Tryz.ntmps69 rfl rfl rfl ?_
  repeat' (first|refine vs (k:=?_)|(refine stA hs (k:=?_);intro w hs)|(refine al hs (k:=?_);intro b w hz hs)|refine qRg ?_|refine Nx.h ?_|refine qCt ?_|fail)
  first | refine rt (hq:=?_) | refine rt' (hq:=?_)
  exact ⟨rfl,hs.only0 rfl⟩
theorem lagS_nil (id:Int) (w0:World):Ret Tryz.prog 31 #[.pointer none,.int .i64 id] w0 fun v w'=>v = .tuple #[wv 0,.int .i64 1]∧Only [] w0 w':=by
  have hs:=St.nil w0
  refine ret_of_xc Tryz.func31 (by kernel_rfl) rfl Tryz.ntmps31 rfl rfl rfl ?_
  repeat' (first|refine vs (k:=?_)|(refine al hs (k:=?_);intro b w hz hs)|refine qRg ?_|refine Nx.h ?_|fail)
  (with_reducible apply xs_call);exact rfl;exact rfl;exact taskS_nil _ _
  rintro v w' ⟨rfl,ho⟩;replace hs:=hs.call0 ho;repeat' (first|refine vs (k:=?_)|(refine stA hs (k:=?_);intro w hs)|(refine al hs (k:=?_);intro b w hz hs)|refine qRg ?_|refine Nx.h ?_|refine qCt ?_|fail)
  first | refine rt (hq:=?_) | refine rt' (hq:=?_)
  exact ⟨rfl,hs.only0 rfl⟩
theorem spawnS_nil (core q ns:Int) (w0:World):Ret Tryz.prog 32 #[.pointer none,.int .i64 core,.int .u64 q,.int .u64 ns] w0 fun v w'=>v = .tuple #[.int .i64 0,.slice none 0 0,.int .i64 1]∧Only [] w0 w':=by
  have hs:=St.nil w0
  refine ret_of_xc Tryz.func32 (by kernel_rfl) rfl Tryz.ntmps32 rfl rfl rfl ?_
  repeat' (first|refine vs (k:=?_)|(refine st hs (k:=?_);intro w hs)|(refine al hs (k:=?_);intro b w hz hs)|(refine bx hs (k:=?_);intro b w hz hs)|refine qRg ?_|refine Nx.h ?_|fail)
  (with_reducible apply xs_call);exact rfl;exact rfl;exact tryS_nil _ _
  rintro v w' ⟨rfl,ho⟩;replace hs:=hs.call0 ho;repeat' (first|refine vs (k:=?_)|refine qRg ?_|refine Nx.h ?_|fail)
  first | refine rt (hq:=?_) | refine rt' (hq:=?_)
  exact ⟨rfl,hs.only0 rfl⟩
theorem exitS_nil (id:Int) (w0:World):Ret Tryz.prog 33 #[.pointer none,.int .i64 id] w0 fun v w'=>v=(.tuple #[.slice none 0 0,.int .i64 1])∧Only [] w0 w':=by
  have hs:=St.nil w0
  refine ret_of_xc Tryz.func33 (by kernel_rfl) rfl Tryz.ntmps33 rfl rfl rfl ?_
  repeat' (first|refine vs (k:=?_)|(refine bx hs (k:=?_);intro b w hz hs)|refine qRg ?_|refine Nx.h ?_|fail)
  (with_reducible apply xs_call);exact rfl;exact rfl;exact withS_nil _ _ _
  rintro v w' ⟨rfl,ho⟩;replace hs:=hs.call0 ho;repeat' (first|refine vs (k:=?_)|refine Nx.h ?_|fail)
  first | refine rt (hq:=?_) | refine rt' (hq:=?_)
  exact ⟨rfl,hs.only0 rfl⟩
theorem sleepS_nil (id:Int) (w0:World):Ret Tryz.prog 34 #[.pointer none,.int .i64 id] w0 fun v w'=>v=(.tuple #[.slice none 0 0,.int .i64 1])∧Only [] w0 w':=by
  have hs:=St.nil w0
  refine ret_of_xc Tryz.func34 (by kernel_rfl) rfl Tryz.ntmps34 rfl rfl rfl ?_
  repeat' (first|refine vs (k:=?_)|(refine bx hs (k:=?_);intro b w hz hs)|refine qRg ?_|refine Nx.h ?_|fail)
  (with_reducible apply xs_call);exact rfl;exact rfl;exact withS_nil _ _ _
  rintro v w' ⟨rfl,ho⟩;replace hs:=hs.call0 ho;repeat' (first|refine vs (k:=?_)|refine Nx.h ?_|fail)
  first | refine rt (hq:=?_) | refine rt' (hq:=?_)
  exact ⟨rfl,hs.only0 rfl⟩
theorem wakeS_nil (id:Int) (w0:World):Ret Tryz.prog 35 #[.pointer none,.int .i64 id] w0 fun v w'=>v=(.tuple #[.slice none 0 0,.int .i64 1])∧Only [] w0 w':=by
  have hs:=St.nil w0
  refine ret_of_xc Tryz.func35 (by kernel_rfl) rfl Tryz.ntmps35 rfl rfl rfl ?_
  repeat' (first|refine vs (k:=?_)|(refine bx hs (k:=?_);intro b w hz hs)|refine qRg ?_|refine Nx.h ?_|fail)
  (with_reducible apply xs_call);exact rfl;exact rfl;exact withS_nil _ _ _
  rintro v w' ⟨rfl,ho⟩;replace hs:=hs.call0 ho;repeat' (first|refine vs (k:=?_)|refine Nx.h ?_|fail)
  first | refine rt (hq:=?_) | refine rt' (hq:=?_)
  exact ⟨rfl,hs.only0 rfl⟩
theorem weightS_nil (id q:Int) (w0:World):Ret Tryz.prog 36 #[.pointer none,.int .i64 id,.int .u64 q] w0 fun v w'=>v=(.tuple #[.slice none 0 0,.int .i64 1])∧Only [] w0 w':=by
  have hs:=St.nil w0
  refine ret_of_xc Tryz.func36 (by kernel_rfl) rfl Tryz.ntmps36 rfl rfl rfl ?_
  repeat' (first|refine vs (k:=?_)|(refine bx hs (k:=?_);intro b w hz hs)|refine qRg ?_|refine Nx.h ?_|fail)
  (with_reducible apply xs_call);exact rfl;exact rfl;exact withS_nil _ _ _
  rintro v w' ⟨rfl,ho⟩;replace hs:=hs.call0 ho;repeat' (first|refine vs (k:=?_)|refine Nx.h ?_|fail)
  first | refine rt (hq:=?_) | refine rt' (hq:=?_)
  exact ⟨rfl,hs.only0 rfl⟩
theorem sliceS_nil (id q:Int) (w0:World):Ret Tryz.prog 37 #[.pointer none,.int .i64 id,.int .u64 q] w0 fun v w'=>v=(.tuple #[.slice none 0 0,.int .i64 1])∧Only [] w0 w':=by
  have hs:=St.nil w0
  refine ret_of_xc Tryz.func37 (by kernel_rfl) rfl Tryz.ntmps37 rfl rfl rfl ?_
  repeat' (first|refine vs (k:=?_)|(refine bx hs (k:=?_);intro b w hz hs)|refine qRg ?_|refine Nx.h ?_|fail)
  (with_reducible apply xs_call);exact rfl;exact rfl;exact withS_nil _ _ _
  rintro v w' ⟨rfl,ho⟩;replace hs:=hs.call0 ho;repeat' (first|refine vs (k:=?_)|refine Nx.h ?_|fail)
  first | refine rt (hq:=?_) | refine rt' (hq:=?_)
  exact ⟨rfl,hs.only0 rfl⟩
theorem migrateS_nil (id k:Int) (w0:World):Ret Tryz.prog 38 #[.pointer none,.int .i64 id,.int .i64 k] w0 fun v w'=>v=(.tuple #[.slice none 0 0,.int .i64 1])∧Only [] w0 w':=by
  have hs:=St.nil w0
  refine ret_of_xc Tryz.func38 (by kernel_rfl) rfl Tryz.ntmps38 rfl rfl rfl ?_
  repeat' (first|refine vs (k:=?_)|(refine bx hs (k:=?_);intro b w hz hs)|refine qRg ?_|refine Nx.h ?_|fail)
  (with_reducible apply xs_call);exact rfl;exact rfl;exact withS_nil _ _ _
  rintro v w' ⟨rfl,ho⟩;replace hs:=hs.call0 ho;repeat' (first|refine vs (k:=?_)|refine Nx.h ?_|fail)
  first | refine rt (hq:=?_) | refine rt' (hq:=?_)
  exact ⟨rfl,hs.only0 rfl⟩
theorem tickS_nil (ns:Int) (w0:World):Ret Tryz.prog 39 #[.pointer none,.int .u64 ns] w0 fun v w'=>v=(.tuple #[.slice none 0 0,.int .i64 1])∧Only [] w0 w':=by
  have hs:=St.nil w0
  refine ret_of_xc Tryz.func39 (by kernel_rfl) rfl Tryz.ntmps39 rfl rfl rfl ?_
  repeat' (first|refine vs (k:=?_)|(refine bx hs (k:=?_);intro b w hz hs)|refine qRg ?_|refine Nx.h ?_|fail)
  (with_reducible apply xs_call);exact rfl;exact rfl;exact tryS_nil _ _
  rintro v w' ⟨rfl,ho⟩;replace hs:=hs.call0 ho;repeat' (first|refine vs (k:=?_)|refine Nx.h ?_|fail)
  first | refine rt (hq:=?_) | refine rt' (hq:=?_)
  exact ⟨rfl,hs.only0 rfl⟩
theorem cloneS_nil (w0:World):Ret Tryz.prog 20 #[.pointer none] w0 fun v w'=>v = .pointer none∧Only [] w0 w':=by
  have hs:=St.nil w0
  refine ret_of_xc Tryz.func20 (by kernel_rfl) rfl Tryz.ntmps20 rfl rfl rfl ?_
  repeat' (first|refine vs (k:=?_)|refine qRg ?_|refine Nx.h ?_|refine qCt ?_|fail)
  first | refine rt (hq:=?_) | refine rt' (hq:=?_)
  exact ⟨rfl,hs.only0 rfl⟩
theorem runsS_nil (w0:World):Ret Tryz.prog 16 #[.pointer none] w0 fun v w'=>v = .slice none 0 0∧Only [] w0 w':=by
  have hs:=St.nil w0
  refine ret_of_xc Tryz.func16 (by kernel_rfl) rfl Tryz.ntmps16 rfl rfl rfl ?_
  repeat' (first|refine vs (k:=?_)|refine qRg ?_|refine Nx.h ?_|refine qCt ?_|fail)
  first | refine rt (hq:=?_) | refine rt' (hq:=?_)
  exact ⟨rfl,hs.only0 rfl⟩
theorem configS_nil (w0:World):Ret Tryz.prog 40 #[.pointer none] w0 fun v w'=>v=cfv ⟨0,0,0,0,0⟩∧Only [] w0 w':=by
  have hs:=St.nil w0
  refine ret_of_xc Tryz.func40 (by kernel_rfl) rfl Tryz.ntmps40 rfl rfl rfl ?_
  repeat' (first|refine vs (k:=?_)|(refine stA hs (k:=?_);intro w hs)|(refine al hs (k:=?_);intro b w hz hs)|refine qRg ?_|refine Nx.h ?_|refine qCt ?_|fail)
  first | refine rt (hq:=?_) | refine rt' (hq:=?_)
  exact ⟨rfl,hs.only0 rfl⟩
end Go.Proofs.YtalffooghioekaaGreatDoorX

namespace Go.Proofs.YtalffooghioekaaGreatDoorX
open Go Go.RowKit
attribute [local irreducible] XS XC XA thenE blockE retE loopE loopS cutB cutN doneE SE
set_option maxHeartbeats 16000000 in
theorem schedNone_ret (w0:World) (ht:Pows w0):Ret Tryz.prog 7 #[] w0 fun v w'=>v = .bool true∧Only [] w0 w':=by
  have hs:=St.nil w0
  refine ret_of_xc Tryz.func7 (by kernel_rfl) rfl Tryz.ntmps7 rfl rfl rfl ?_
  repeat' (first|refine vs (k:=?_)|refine qRg ?_|refine Nx.h ?_|fail)
  (with_reducible apply xs_call);exact rfl;exact rfl;exact coreS_nil _ _
  rintro v w' ⟨rfl,ho⟩;replace hs:=hs.call0 ho;repeat' (first|refine vs (k:=?_)|refine qRg ?_|refine Nx.h ?_|fail)
  (with_reducible apply xs_call);exact rfl;exact rfl;exact lagS_nil _ _
  rintro v w' ⟨rfl,ho⟩;replace hs:=hs.call0 ho;repeat' (first|refine vs (k:=?_)|(refine stA hs (k:=?_);intro w hs)|(refine al hs (k:=?_);intro b w hz hs)|refine qRg ?_|refine Nx.h ?_|fail)
  (with_reducible apply xs_call);exact rfl;exact rfl;exact spawnS_nil _ _ _ _
  rintro v w' ⟨rfl,ho⟩;replace hs:=hs.call0 ho;repeat' (first|refine vs (k:=?_)|refine qRg ?_|refine Nx.h ?_|fail)
  (with_reducible apply xs_call);exact rfl;exact rfl;exact exitS_nil _ _
  rintro v w' ⟨rfl,ho⟩;replace hs:=hs.call0 ho;repeat' (first|refine vs (k:=?_)|refine qRg ?_|refine Nx.h ?_|fail)
  (with_reducible apply xs_call);exact rfl;exact rfl;exact sleepS_nil _ _
  rintro v w' ⟨rfl,ho⟩;replace hs:=hs.call0 ho;repeat' (first|refine vs (k:=?_)|refine qRg ?_|refine Nx.h ?_|fail)
  (with_reducible apply xs_call);exact rfl;exact rfl;exact wakeS_nil _ _
  rintro v w' ⟨rfl,ho⟩;replace hs:=hs.call0 ho;repeat' (first|refine vs (k:=?_)|refine qRg ?_|refine Nx.h ?_|fail)
  (with_reducible apply xs_call);exact rfl;exact rfl;exact weightS_nil _ _ _
  rintro v w' ⟨rfl,ho⟩;replace hs:=hs.call0 ho;repeat' (first|refine vs (k:=?_)|refine qRg ?_|refine Nx.h ?_|fail)
  (with_reducible apply xs_call);exact rfl;exact rfl;exact sliceS_nil _ _ _
  rintro v w' ⟨rfl,ho⟩;replace hs:=hs.call0 ho;repeat' (first|refine vs (k:=?_)|refine qRg ?_|refine Nx.h ?_|fail)
  (with_reducible apply xs_call);exact rfl;exact rfl;exact migrateS_nil _ _ _
  rintro v w' ⟨rfl,ho⟩;replace hs:=hs.call0 ho;repeat' (first|refine vs (k:=?_)|refine qRg ?_|refine Nx.h ?_|fail)
  (with_reducible apply xs_call);exact rfl;exact rfl;exact tickS_nil _ _
  rintro v w' ⟨rfl,ho⟩;replace hs:=hs.call0 ho;repeat' (first|refine vs (k:=?_)|(refine bs hs (k:=?_);intro b w hz hs)|refine qRg ?_|refine Nx.h ?_|fail)
  have hk:w.heap[b]?=some (.cells (List.replicate 10 (Value.int .i64 1)).toArray 29 (0,0)):=hs.get At.head
  have ho0:=hs.only0 rfl
  have hlb:=lt_of_block hk
  refine xc_cutB (fun (_:Unit)=>[(1,.pointer none)]) (fun _ w=>Only [] w0 w) ?_ ?_
  · refine xc_loopS (fun (i:Nat)=>[(1,.pointer none),(86,.slice (some ⟨b,0,none⟩) 10 10),(87,.int .i64 10),(88,.int .i64 (i:Nat))]) (fun i w=>i≤10∧Only [] w0 w∧w.heap[b]?=some (.cells (List.replicate 10 (Value.int .i64 1)).toArray 29 (0,0))) (fun i=>10 - i) 0 (by (repeat (first | exact agree_nil | (apply agree_cons;exact rfl)))) ⟨Nat.zero_le _,ho0,hk⟩ fun i env wl ⟨hi,ho,hkl⟩=>?_
    clear hs
    have hs:=(St.nil wl).trackT hkl
    repeat' (first|refine vs (k:=?_)|refine qRg ?_|refine Nx.h ?_|(refine xc_if rfl (fun hc=>?_) (fun hc=>?_))|fail)
    · have hlt:i < 10:=by omega
      have ei:=nx64 (m:=10) hlt (by decide)
      refine ix (h0:=(by omega)) (h1:=(by omega)) (k:=?_)
      have hcs:(List.replicate 10 (Value.int .i64 1))[0+i*1]?=some (.int .i64 1):=by rw [Nat.zero_add,Nat.mul_one,List.getElem?_replicate,if_pos hlt]
      refine lh hkl hcs (k:=?_)
      repeat' (first|refine vs (k:=?_)|refine qRg ?_|refine Nx.h ?_|refine qCf ?_|fail)
      have ho2:=hs.onlyF [] (by simp [hkl]) (by simp [D0])
      exact loopS_next (i+1) (by show 10 - (i+1) < 10 - i;omega) (by (repeat (first | exact agree_nil | (apply agree_cons;first | exact rfl | exact congrArg (Value.int .i64) ei)))) ⟨by show i+1≤_;omega,ho.trans ho2,ho2.block hkl (by simp)⟩
    · exact cutB_exit () (by (repeat (first | exact agree_nil | (apply agree_cons;exact rfl)))) ho
  · rintro _ env w hoL
    clear hs
    have hs:=St.nil w
    repeat' (first|refine qRg ?_|refine Nx.h ?_|fail)
    (with_reducible apply xs_call);exact rfl;exact rfl;exact awake21_ret _ (tab_only ht (hoL.trans (hs.only0 rfl)))
    rintro v w' ⟨rfl,ho⟩;replace hs:=hs.call0 ho;repeat' (first|refine vs (k:=?_)|fail)
    (with_reducible apply xs_call);exact rfl;exact rfl;exact cloneS_nil _
    rintro v w' ⟨rfl,ho⟩;replace hs:=hs.call0 ho;repeat' (first|refine vs (k:=?_)|fail)
    (with_reducible apply xs_call);exact rfl;exact rfl;exact runsS_nil _
    rintro v w' ⟨rfl,ho⟩;replace hs:=hs.call0 ho;repeat' (first|refine vs (k:=?_)|fail)
    (with_reducible apply xs_call);exact rfl;exact rfl;exact configS_nil _
    rintro v w' ⟨rfl,ho⟩;replace hs:=hs.call0 ho;repeat' (first|refine vs (k:=?_)|refine Nx.h ?_|fail)
    first | refine rt (hq:=?_) | refine rt' (hq:=?_)
    exact ⟨rfl,hoL.trans (hs.only0 rfl)⟩
end Go.Proofs.YtalffooghioekaaGreatDoorX
