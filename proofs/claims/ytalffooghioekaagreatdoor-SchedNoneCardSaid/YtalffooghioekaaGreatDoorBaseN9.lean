/- A part of the proof: what its functions compute. -/
import Derived.Test.YtalffooghioekaaGreatDoorBaseN8
set_option linter.unusedVariables false
set_option linter.unusedSimpArgs false
set_option maxRecDepth 100000
namespace Go.Proofs.YtalffooghioekaaGreatDoorX
open Go Go.RowKit
attribute [local irreducible] XS XC XA thenE blockE retE loopE loopS cutB cutN doneE SE
theorem getL_in (l:List RT) (i:Int):(getL l i).In:=by
  unfold getL
  cases findR l i with
  | none=>decide
  | some a=>exact a.2
def srvN (c:Cs) (most:Int):Int:=lessN most (getL c.A.l c.run).left
def srvO (c:Cs) (most:Int):Option (Rq × Bool):=serveR (getL c.A.l c.run) (srvN c most)
def srvY (c:Cs) (most:Int):RT:=toRT (match srvO c most with | some x=>x.1 | none => .zero)
def srvE (c:Cs) (most:Int):Int:=putE c.A (srvY c most)
def srvA (c:Cs) (most:Int):Cs:=⟨putA c.A (srvY c most),c.run,c.carr⟩
def srvP (c:Cs) (most:Int):Pr:=⟨c.run,srvN c most,match srvO c most with | some x=>x.2 | none=>false⟩
def srvR (c:Cs) (most:Int) (r:Rp):Rp:=⟨r.g ++ goneC (srvA c most),r.p ++ [srvP c most]⟩
theorem srvY_eq (c:Cs) (most:Int) (hm:U64 most):(srvY c most).1=(match srvO c most with | some x=>x.1 | none => .zero)∧U64 (srvN c most):=by
  have h1:U64 (srvN c most):=lessN_in hm (getL_in _ _).2.1
  refine ⟨toRT_eq ?_,h1⟩
  cases e:srvO c most with
  | none=>show Rq.zero.In;decide
  | some x=>exact serveR_in (getL_in c.A.l c.run) h1 (show serveR _ _=some (x.1,x.2) from e)
theorem flatPr_snoc (l:List Pr) (p:Pr):flatPr (l ++ [p])=flatPr l ++ p.cells:=by simp [flatPr]
set_option maxHeartbeats 8000000 in
theorem serve_ret (cb rb:Nat) (c:Cs) (most:Int) (r:Rp) (F Fr:List Nat) (w0:World) (h:CAt w0 cb c F) (hr:RpAt w0 rb r Fr) (hm:U64 most) (hg:r.g.length≤1000000) (hp':r.p.length < 2000000000000) :
    Ret Tryz.prog 147 #[.pointer (some ⟨cb,0,none⟩),.int .u64 most,.pointer (some ⟨rb,0,none⟩)] w0 fun v w'=>v = .tuple #[.int .u64 (if srvE c most=0 then srvN c most else 0),.int .i64 (srvE c most)] ∧
      (srvE c most=0→∃ F' Fr',CAt w' cb (setC (srvA c most)) F'∧RpAt w' rb (srvR c most r) Fr'∧(∀ k∈F',k∈F∨w0.heap.size≤k)∧(∀ k∈Fr',k∈Fr∨w0.heap.size≤k))∧Only (F ++ Fr) w0 w':=by
  have hC0:=h
  have hR0:=hr
  have hap:=hr.apart h
  obtain ⟨sb,Fs,rfl,h1,hS,h3,h4⟩:=h
  obtain ⟨vg,vp,Gg,Gp,rfl,r1,r2,r3⟩:=hr
  have hs:=((St.nil w0).trackT h1).trackT r1
  refine ret_of_xc Tryz.func147 (by kernel_rfl) rfl Tryz.ntmps147 rfl rfl rfl ?_
  repeat' (first|refine vs (k:=?_)|refine qRg ?_|refine Nx.h ?_|fail)
  refine dr [] hs (k:=?_);intro hX w hs
  refine tk 0 hX (k:=?_)
  refine tk 1 hX (k:=?_)
  refine tk 2 hX (k:=?_)
  refine tk 3 hX (k:=?_)
  refine tk 4 hX (k:=?_)
  refine tk 5 hX (k:=?_)
  refine tk 6 hX (k:=?_)
  refine tk 7 hX (k:=?_)
  refine pd0 12 8 hs (k:=?_);intro f X w hp;have hs:=hp.st
  apply xa_pend 8 12 (f:=f) (X:=X) hX hp;exact rfl;exact rfl;(apply makes_alloc tabOk;exact rfl);kernel_rfl;kernel_rfl;kernel_rfl;kernel_rfl;(intro X Y;(repeat (first | exact pgg_base | refine pgg_step ?_ (by exact rfl))));(intro w' hs;first|exact se_hold hs.hold|exact se_hold hs.hold.tail|exact se_done rfl);intro f X w hp;have hs:=hp.st
  have ho:=hs.onlyF [] (by simp [h1,r1]) (by simp [D0])
  (with_reducible apply xs_call);exact rfl;exact rfl;exact areq_ret sb c.A Fs c.run _ (hS.only ho) h4
  have hx:=getL_in c.A.l c.run
  obtain ⟨eY,eN⟩:=srvY_eq c most hm
  have eN':srvN c most=lessN most (getL c.A.l c.run).left:=rfl
  have eO:srvO c most=serveR (getL c.A.l c.run) (srvN c most):=rfl
  have eP:srvP c most=⟨c.run,srvN c most,match srvO c most with | some x=>x.2 | none=>false⟩:=rfl
  have eE:srvE c most=putE c.A (srvY c most):=rfl
  have eA:srvA c most=⟨putA c.A (srvY c most),c.run,c.carr⟩:=rfl
  have eR:srvR c most r=⟨r.g ++ goneC (srvA c most),r.p ++ [srvP c most]⟩:=rfl
  generalize getL c.A.l c.run=x at *
  rintro v w' ⟨rfl,ho⟩;replace hp:=hp.only ho;replace hs:=hp.st;repeat' (first|refine Nx.h ?_|fail)
  refine dn (k:=?_)
  refine tk 9 hX (hc:=by cases f <;> kernel_rfl) (k:=?_)
  refine tk 10 hX (hc:=by cases f <;> kernel_rfl) (k:=?_)
  refine tk 11 hX (hc:=by cases f <;> kernel_rfl) (k:=?_)
  apply xa_pendE 12 (f:=f) (X:=X) hX hp;exact rfl;(apply makes_alloc tabOk;exact rfl);kernel_rfl;kernel_rfl;(intro X Y;(repeat (first | exact pgg_base | refine pgg_step ?_ (by exact rfl))));(intro w' hs;first|exact se_hold hs.hold|exact se_hold hs.hold.tail|exact se_done rfl);intro b w hI hs
  refine dt 13 hX (k:=?_)
  repeat' (first|(refine stA hs (k:=?_);intro w hs)|refine Nx.h ?_|fail)
  refine dn (k:=?_)
  refine tk 14 hX (k:=?_)
  refine en (k:=?_)
  repeat' (first|refine vs (k:=?_)|refine qRg ?_|refine Nx.h ?_|fail)
  rw [show (if x.left < most then x.left else most)=srvN c most from eN'.symm]
  generalize srvN c most=n at *
  have hsv:∃ u bd ok,svV (srvO c most) = .tuple #[rv u,.bool bd,.bool ok]∧(srvY c most).1=u∧srvP c most=⟨c.run,n,bd⟩:=by
    rw [eY,eP]
    cases srvO c most with
    | none=>exact ⟨_,_,_,rfl,rfl,rfl⟩
    | some y=>exact ⟨_,_,_,rfl,rfl,rfl⟩
  obtain ⟨u,bd,ok,hsv,hYu,hPe⟩:=hsv
  rw [eO] at hsv
  (with_reducible apply xs_call);exact rfl;exact rfl;exact rserve_ret x n hx eN _
  rw [hsv]
  clear eO eP hsv eY
  generalize srvY c most=Y at *
  generalize srvP c most=P at *
  generalize srvA c most=c2 at *
  generalize srvE c most=e at *
  generalize srvR c most r=R at *
  subst hYu hPe
  rintro v w' ⟨rfl,ho⟩;replace hs:=hs.call0 ho;repeat' (first|refine vs (k:=?_)|(refine stA hs (k:=?_);intro w hs)|(refine al hs (k:=?_);intro b w hz hs)|refine Nx.h ?_|fail)
  have ho:=hs.onlyF [] (by simp [h1,r1]) (by simp [D0])
  have x1:=hs.get (b:=cb) (o:=coreO sb c.run c.carr) (by repeat (first | exact At.head | (with_reducible apply At.tail)))
  have x2:=hs.get (b:=b) (by repeat (first | exact At.head | (with_reducible apply At.tail)))
  have x3:=hs.get (b:=rb) (o:=repO vg vp) (by repeat (first | exact At.head | (with_reducible apply At.tail)))
  clear hs
  obtain ⟨bY,rfl⟩:∃ z,z=b:=⟨_,rfl⟩
  have hs:=(((St.nil _).trackT x1).trackT x2).trackT x3
  refine dr [] hs (k:=?_);intro hX w hs
  refine tk 0 hX (k:=?_)
  refine tk 1 hX (k:=?_)
  refine tk 2 hX (k:=?_)
  refine tk 3 hX (k:=?_)
  refine tk 4 hX (k:=?_)
  refine dt 5 hX (k:=?_)
  have ho1:=hs.onlyF [] (by simp [x1,x2,x3]) (by simp [D0])
  have hSw:=hS.only (ho.trans ho1)
  (with_reducible apply xs_call);exact rfl;exact rfl;exact aput_ret sb c.A Fs Y _ hSw
  rw [← eE]
  rintro v w2 ⟨rfl,F2,hS2,hF2,ho2⟩
  have n1:cb∉Fs:=CAt.nod h1 hS
  have n3:rb∉Fs:=hS.not r1 rfl
  have y1:=ho2.block (hs.get (b:=cb) (o:=coreO sb c.run c.carr) (by repeat (first | exact At.head | (with_reducible apply At.tail)))) n1
  have y3:=ho2.block (hs.get (b:=rb) (o:=repO vg vp) (by repeat (first | exact At.head | (with_reducible apply At.tail)))) n3
  have y2:=ho2.block (hs.get (b:=bY) (by repeat (first | exact At.head | (with_reducible apply At.tail)))) (hSw.not (hs.get (b:=bY) (by repeat (first | exact At.head | (with_reducible apply At.tail)))) rfl)
  have hoA:Only ((cb :: Fs) ++ (rb :: (Gg ++ Gp))) w0 w2:=((ho.trans ho1).weaken (by simp)).step ho2 (fun k hk => .inl (by simp [hk]))
  have hz0:=(ho.trans ho1).size
  have hR2:RpAt w2 rb r (rb :: (Gg ++ Gp)):=(hR0.only (ho.trans ho1)).keepD ho2 (fun k hk hm=>hap k hk (by simp [hm]))
  clear hs
  have hs:=(((St.nil w2).trackT y1).trackT y2).trackT y3
  repeat' (first|refine Nx.h ?_|fail)
  refine dn (k:=?_)
  refine tk 6 hX (k:=?_)
  refine en (k:=?_)
  by_cases he:e=0
  · subst he
    rw [if_pos (rfl:(0:Int)=0)]
    repeat' (first|refine vs (k:=?_)|refine qRg ?_|refine Nx.h ?_|refine qCf ?_|fail)
    obtain ⟨vg',vp',Gg',Gp',eF,q1,q2,q3⟩:=hR2
    obtain ⟨rfl,rfl⟩:vg=vg'∧vp=vp':=by rw [y3] at q1;simp only [Option.some.injEq,Obj.cells.injEq] at q1;have:=congrArg Array.toList q1.1;simp at this;exact this
    refine dr [16] hs (k:=?_);intro hX w hs
    refine tk 0 hX (k:=?_)
    refine tk 1 hX (k:=?_)
    refine tk 2 hX (k:=?_)
    refine tk 3 hX (k:=?_)
    refine tk 4 hX (k:=?_)
    refine tk 5 hX (k:=?_)
    refine tk 6 hX (k:=?_)
    refine tk 7 hX (k:=?_)
    refine tk 8 hX (k:=?_)
    refine tk 9 hX (k:=?_)
    refine tk 10 hX (k:=?_)
    refine tk 11 hX (k:=?_)
    refine dt 12 hX (k:=?_)
    repeat' (first|(refine bs hs (k:=?_);intro b w hz hs)|refine Nx.h ?_|fail)
    refine dn (k:=?_)
    refine dt 13 hX (k:=?_)
    have hoB:=hs.onlyF [] (by simp [y1,y2,y3]) (by simp [D0])
    refine xs_appendW tabOk rfl rfl rfl rfl rfl rfl rfl (by decide) (lit_cells (news:=Pr.cells ⟨c.run,n,bd⟩) (hs.get At.head)) (by simp [Value.oneCell']) (q3.keep hoB (by simp)) (by omega) (by omega) ?_
    intro v3 w3 ⟨G3,hG3,hG3n⟩ ho3
    obtain ⟨a3,cp3,rfl⟩:=slv_form hG3
    have d1:∀ k∈Gp',k≠cb∧k≠rb∧k≠bY:=fun k hk=>⟨fun e=>slv_ne q3 y1 (by decide) (e ▸ hk),fun e=>slv_ne q3 y3 (by decide) (e ▸ hk),fun e=>slv_ne q3 y2 (by decide) (e ▸ hk)⟩
    have z1:=ho3.block (hs.get (b:=cb) (o:=coreO sb c.run c.carr) (by repeat (first | exact At.head | (with_reducible apply At.tail)))) (fun hm=>(d1 _ hm).1 rfl)
    have z2:=ho3.block (hs.get (b:=bY) (by repeat (first | exact At.head | (with_reducible apply At.tail)))) (fun hm=>(d1 _ hm).2.2 rfl)
    have z3:=ho3.block (hs.get (b:=rb) (o:=repO vg vp) (by repeat (first | exact At.head | (with_reducible apply At.tail)))) (fun hm=>(d1 _ hm).2.1 rfl)
    have hoC3:Only Gp' w2 w3:=(hoB.weaken (by simp)).step ho3 (fun k hk => .inl hk)
    have hz3:=hoC3.size
    have hzB:=hoB.size
    have hoC3':Only (F2 ++ (rb :: (Gg ++ Gp))) w2 w3:=hoC3.weaken (fun k hk=>by
      have:k∈rb :: (Gg' ++ Gp'):=by simp [hk]
      rw [← eF] at this
      exact List.mem_append_right _ this)
    have hSn:∀ k∈F2,k∉Gp':=fun k hk hm=>by
      obtain ⟨cs,hc⟩:=slv_at q3 k hm
      exact hS2.not hc rfl hk
    have hS3:=hS2.keepD hoC3 hSn
    have hG3':=q2.keep hoC3 (slv_two q2 q3 (by decide))
    clear hs
    have hs:=(((St.nil w3).trackT z1).trackT z2).trackT z3
    repeat' (first|refine Nx.h ?_|fail)
    refine dn (k:=?_)
    refine tk 14 hX (k:=?_)
    refine tk 15 hX (k:=?_)
    refine dt 16 hX (k:=?_)
    repeat' (first|(refine st hs (k:=?_);intro w hs)|refine Nx.h ?_|fail)
    refine dn (k:=?_)
    refine en (k:=?_)
    have f1:=hs.get (b:=cb) (o:=coreO sb c.run c.carr) (by repeat (first | exact At.head | (with_reducible apply At.tail)))
    have f3:=hs.get (b:=rb) (by repeat (first | exact At.head | (with_reducible apply At.tail)))
    have hoD:Only [rb] w3 _:=hs.onlyF [rb] (by simp [z1,z2]) (by simp [D0])
    have n4:rb∉F2:=fun hm=>by
      rcases hF2 rb hm with h | h
      · exact n3 h
      · have:=lt_of_block r1;omega
    have hS4:=hS3.keepD hoD (fun k hk hm=>by obtain rfl:=List.mem_singleton.1 hm;exact n4 hk)
    have hG4:=hG3'.keep hoD (fun k hk hm=>by obtain rfl:=List.mem_singleton.1 hm;exact slv_ne hG3' z3 (by decide) hk)
    have hP4:=hG3.keep hoD (fun k hk hm=>by obtain rfl:=List.mem_singleton.1 hm;exact slv_ne hG3 z3 (by decide) hk)
    have hR4:RpAt _ rb ⟨r.g,r.p ++ [⟨c.run,n,bd⟩]⟩ (rb :: (Gg' ++ G3)):=⟨_,_,Gg',G3,rfl,f3,hG4,by
      unfold SlP;rw [List.length_append,flatPr_snoc];exact hP4⟩
    have hC4:CAt _ cb c2 (cb :: F2):=⟨sb,F2,rfl,by rw [eA];exact f1,by rw [eA];exact hS4,by rw [eA];exact h3,by rw [eA];exact h4⟩
    have hoE:Only ((cb :: Fs) ++ (rb :: (Gg ++ Gp))) w0 _:=(hoA.step hoC3' (fun k hk=>by
      rcases List.mem_append.1 hk with h | h
      · rcases hF2 k h with h | h
        · exact .inl (by simp [h])
        · exact .inr (by omega)
      · exact .inl (List.mem_append_right _ h))).step hoD (fun k hk => .inl (by obtain rfl:=List.mem_singleton.1 hk;simp))
    have hF2':∀ k∈cb :: F2,k∈cb :: Fs∨w0.heap.size≤k:=fun k hk=>by
      rcases List.mem_cons.1 hk with rfl | hk
      · simp
      · rcases hF2 k hk with h | h
        · exact .inl (by simp [h])
        · exact .inr (by omega)
    have hFr4:∀ k∈rb :: (Gg' ++ G3),k∈rb :: (Gg ++ Gp)∨w0.heap.size≤k:=fun k hk=>by
      rw [eF]
      simp only [List.mem_cons,List.mem_append] at hk ⊢
      rcases hk with rfl | hk | hk
      · simp
      · simp [hk]
      · have hzA:=hoA.size
        rcases hG3n k hk with h | h
        · simp [h]
        · exact .inr (by omega)
    have hzE:=hoE.size
    repeat' (first|refine vs (k:=?_)|refine qRg ?_|refine Nx.h ?_|fail)
    (with_reducible apply xs_call);exact rfl;exact rfl;exact csettle_ret cb rb c2 ⟨r.g,r.p ++ [⟨c.run,n,bd⟩]⟩ _ _ _ hC4 hR4 hg
    rintro v w6 ⟨F6,Fr6,hC6,hR6,hF6,hFr6,ho6⟩
    clear hs
    have hs:=St.nil w6
    repeat' (first|refine vs (k:=?_)|refine qRg ?_|refine Nx.h ?_|fail)
    first | refine rt (hq:=?_) | refine rt' (hq:=?_)
    have ho7:=hs.only0 rfl
    refine ⟨rfl,fun _=>⟨F6,Fr6,hC6.only ho7,by rw [eR];exact hR6.only ho7,fun k hk=>?_,fun k hk=>?_⟩,(hoE.step ho6 (fun k hk=>?_)).step ho7 (by simp)⟩
    · rcases hF6 k hk with h | h
      · exact hF2' k h
      · exact .inr (by omega)
    · rcases hFr6 k hk with h | h
      · exact hFr4 k h
      · exact .inr (by omega)
    · rcases List.mem_append.1 hk with h | h
      · rcases hF2' k h with h | h
        · exact .inl (List.mem_append_left _ h)
        · exact .inr h
      · rcases hFr4 k h with h | h
        · exact .inl (List.mem_append_right _ h)
        · exact .inr h
  · rw [if_neg he]
    repeat' (first|refine vs (k:=?_)|refine qRg ?_|refine Nx.h ?_|(refine xc_cond rfl (fun hc=>?_) (fun hc=>?_))|fail)
    · first | refine rt (hq:=?_) | refine rt' (hq:=?_)
      have ho6:=hs.onlyF [] (by simp [y1,y2,y3]) (by simp [D0])
      exact ⟨rfl,fun h=>absurd h he,hoA.step ho6 (by simp)⟩
    · exact absurd (by simpa using hc) he
end Go.Proofs.YtalffooghioekaaGreatDoorX

namespace Go.Proofs.YtalffooghioekaaGreatDoorX
open Go Go.RowKit
attribute [local irreducible] XS XC XA thenE blockE retE loopE loopS cutB cutN doneE SE
def tickN:Nat→Int→Cs→Rp→Int × Cs × Rp
  | 0,_,c,r=>(0,c,r)
  | k+1,left,c,r=>if 0 < left∧c.run≠0 then (if srvE c left=0 then tickN k (left - srvN c left) (setC (srvA c left)) (srvR c left r) else (srvE c left,c,r)) else (0,c,r)
def tickC (c:Cs) (ns:Int):Int × Cs × Rp:=if 1≤ns∧ns≤1099511627776 then tickN (ns.toNat+1) ns c .none else (2,c,.none)
theorem srv_step {c:Cs} {most:Int} (hm:U64 most) (h:srvE c most=0):1≤srvN c most∧srvN c most≤most:=by
  obtain ⟨h1,h2⟩:=srvY_eq c most hm
  unfold srvE putE layE at h
  cases k:(srvY c most).1.right with
  | false=>rw [k] at h;cases h
  | true =>
    rw [h1] at k
    cases e:srvO c most with
    | none=>rw [e] at k;exact absurd k (by decide)
    | some x =>
      unfold srvO serveR at e
      split at e
      · rename_i h3
        have:=h2.1
        refine ⟨by have:=h3.2.1;omega,?_⟩
        show lessN most _≤most
        unfold lessN;split <;> omega
      · cases e
theorem tick_len:∀ (k:Nat) (left:Int) (c:Cs) (r:Rp),r.p.length≤(tickN k left c r).2.2.p.length∧r.g.length≤(tickN k left c r).2.2.g.length
  | 0,_,_,_=>⟨Nat.le_refl _,Nat.le_refl _⟩
  | k+1,left,c,r=>by
    unfold tickN
    split
    · split
      · have:=tick_len k (left - srvN c left) (setC (srvA c left)) (srvR c left r)
        simp only [srvR,List.length_append,List.length_cons,List.length_nil] at this ⊢
        omega
      · exact ⟨Nat.le_refl _,Nat.le_refl _⟩
    · exact ⟨Nat.le_refl _,Nat.le_refl _⟩
set_option maxHeartbeats 8000000 in
theorem tick1_ret (b2:Nat) (c:Cs) (ns:Int) (wb w0:World) (hns:U64 ns) (B2:w0.heap[b2]?=some (.cells #[.int .u64 ns] 22 (0,0)))
    (hTp:(tickC c ns).2.2.p.length < 2000000000000) (hTg:(tickC c ns).2.2.g.length≤1000000) :
    DoAt wb w0 146 [.pointer (some ⟨b2,0,none⟩)] [] (fun _=>True) c (tickC c ns).1 (tickC c ns).2.1 (tickC c ns).2.2:=by
  intro cb rb F hC hR hFn hrb
  have hap:=hR.apart hC
  have hs:=(St.nil w0).trackT B2
  have eT:tickC c ns=if 1≤ns∧ns≤1099511627776 then tickN (ns.toNat+1) ns c .none else (2,c,.none):=rfl
  generalize tickC c ns=T at *
  have bad:∀ (w':World),T=(2,c,.none)→Only [] w0 w'→Value.int .i64 2 = .int .i64 T.1∧True∧(T.1=0→∃ F2 Fr,CAt w' cb T.2.1 F2∧RpAt w' rb T.2.2 Fr∧(∀ k∈F2,k∈F∨w0.heap.size≤k)∧∀ k∈Fr,k=rb∨w0.heap.size≤k)∧Only (rb :: F ++ []) w0 w':=fun w' e ho=>by
    subst e;exact ⟨rfl,trivial,fun h=>absurd h (show ¬ (2:Int)=0 by decide),ho.weaken (by simp)⟩
  refine ret_of_xc Tryz.func146 (by kernel_rfl) rfl Tryz.ntmps146 rfl rfl rfl ?_
  repeat' (first|refine Nx.h ?_|fail)
  refine xc_region ?_ ?_;exact rfl
  refine vs (k:=?_)
  repeat' (first|refine Nx.h ?_|fail)
  refine xc_region ?_ ?_;exact rfl
  refine vs (k:=?_)
  refine vs (k:=?_)
  by_cases c1:ns < 1
  · rw [if_neg (by omega)] at eT
    rw [decide_eq_true c1]
    repeat' (first|refine vs (k:=?_)|refine ps (k:=?_)|refine qRg ?_|refine Nx.h ?_|refine qCt ?_|fail)
    first | refine rt (hq:=?_) | refine rt' (hq:=?_)
    exact bad _ eT (hs.onlyF [] (by simp [B2]) (by simp [D0]))
  rw [decide_eq_false c1]
  refine vs (k:=?_)
  refine vs (k:=?_)
  refine vs (k:=?_)
  by_cases c2:ns > 1099511627776
  · rw [if_neg (by omega)] at eT
    rw [decide_eq_true c2]
    repeat' (first|refine vs (k:=?_)|refine qRg ?_|refine Nx.h ?_|refine qCt ?_|fail)
    first | refine rt (hq:=?_) | refine rt' (hq:=?_)
    exact bad _ eT (hs.onlyF [] (by simp [B2]) (by simp [D0]))
  rw [decide_eq_false c2]
  rw [if_pos (by omega)] at eT
  repeat' (first|refine vs (k:=?_)|refine qRg ?_|refine Nx.h ?_|refine qCf ?_|fail)
  have ho:=hs.onlyF [] (by simp [B2]) (by simp [D0])
  let Inv (left:Int) (c':Cs) (r:Rp) (F' Fr:List Nat) (w:World):Prop:=U64 left∧(∃ k:Nat,left < k∧tickN k left c' r=T)∧CAt w cb c' F'∧RpAt w rb r Fr∧(∀ k∈F',k∈F∨w0.heap.size≤k)∧(∀ k∈Fr,k=rb∨w0.heap.size≤k)∧Only (rb :: F ++ []) w0 w
  refine xc_cutB (fun (_:Unit)=>[]) (fun _ w=>T.1=0∧∃ F2 Fr,CAt w cb T.2.1 F2∧RpAt w rb T.2.2 Fr∧(∀ k∈F2,k∈F∨w0.heap.size≤k)∧(∀ k∈Fr,k=rb∨w0.heap.size≤k)∧Only (rb :: F ++ []) w0 w) ?_ ?_
  · refine xc_loopS (fun (x:Int × Cs × Rp × List Nat × List Nat)=>[(0,.pointer (some ⟨cb,0,none⟩)),(1,.pointer (some ⟨rb,0,none⟩)),(6,.int .u64 x.1)])
      (fun x w=>Inv x.1 x.2.1 x.2.2.1 x.2.2.2.1 x.2.2.2.2 w) (fun x=>x.1.toNat) (ns,c,.none,F,[rb]) (by (repeat (first | exact agree_nil | (apply agree_cons;exact rfl)))) ⟨hns,⟨ns.toNat+1,by omega,eT.symm⟩,hC.only ho,hR.only ho,fun k hk => .inl hk,fun k hk => .inl (by simpa using hk),ho.weaken (by simp)⟩ fun x env wl hI=>?_
    obtain ⟨left,c',r,F',Fr⟩:=x
    obtain ⟨hl,⟨k,hk,hT⟩,hC1,hR1,hF1,hFr1,hoW⟩:=hI
    simp only at hl hk hT hC1 hR1 hF1 hFr1
    have hC2:=hC1
    obtain ⟨sb,Fs',rfl,q1,q2,q3,q4⟩:=hC2
    have htl:=tick_len k left c' r
    rw [hT] at htl
    clear hs
    have hs:=(St.nil wl).trackT q1
    cases k with
    | zero=>have:=hl.1;omega
    | succ k =>
    unfold tickN at hT
    repeat' (first|refine Nx.h ?_|fail)
    refine xc_region ?_ ?_;exact rfl
    refine vs (k:=?_)
    refine vs (k:=?_)
    by_cases l0:left > 0
    · rw [decide_eq_true l0]
      by_cases hrun:c'.run=0
      · rw [if_neg (by omega)] at hT
        subst hT
        have hs0:=hs
        rw [hrun] at hs
        repeat' (first|refine vs (k:=?_)|refine Nx.h ?_|refine qCf ?_|fail)
        have ho:=hs.onlyF [] (by simp [q1,hrun]) (by simp [D0])
        exact cutB_exit () (by (repeat (first | exact agree_nil | (apply agree_cons;exact rfl)))) ⟨rfl,_,_,hC1.only ho,hR1.only ho,hF1,hFr1,hoW.step ho (by simp)⟩
      · rw [if_pos ⟨by omega,hrun⟩] at hT
        repeat' (first|refine vs (k:=?_)|refine qRg ?_|refine Nx.h ?_|(refine xc_cond rfl (fun hc=>?_) (fun hc=>?_))|fail)
        · have ho:=hs.onlyF [] (by simp [q1]) (by simp [D0])
          have hz:=hoW.size
          have hzo:=ho.size
          (with_reducible apply xs_call);exact rfl;exact rfl;exact serve_ret cb rb c' left r _ _ _ (hC1.only ho) (hR1.only ho) hl (by omega) (by omega)
          rintro v w3 ⟨rfl,hok,ho3⟩
          have hoX:Only (rb :: F ++ []) w0 w3:=(hoW.step ho (by simp)).step ho3 (fun k hk=>by
            rcases List.mem_append.1 hk with h | h
            · rcases hF1 k h with h | h
              · exact .inl (by simp [h])
              · exact .inr h
            · rcases hFr1 k h with h | h
              · exact .inl (by simp [h])
              · exact .inr h)
          clear hs
          have hs:=St.nil w3
          by_cases hE:srvE c' left=0
          · rw [if_pos hE] at hT
            obtain ⟨F2,Fr2,a1,a2,a3,a4⟩:=hok hE
            obtain ⟨s1,s2⟩:=srv_step hl hE
            have ew:IntKind.u64.wrap (left - srvN c' left)=left - srvN c' left:=by rw [wrap_u64];unfold U64 at hl;omega
            rw [hE,if_pos rfl]
            repeat' (first|refine vs (k:=?_)|refine qRg ?_|refine Nx.h ?_|refine qCf ?_|fail)
            refine loopS_next (left - srvN c' left,setC (srvA c' left),srvR c' left r,F2,Fr2) (by show (left - srvN c' left).toNat < left.toNat;omega) (by (repeat (first | exact agree_nil | (apply agree_cons;first | exact rfl | exact congrArg (Value.int .u64) ew | exact congrArg (Value.int .u64) ew)))) ⟨?_,⟨k,?_,hT⟩,a1.only (hs.only0 rfl),a2.only (hs.only0 rfl),fun k hk=>?_,fun k hk=>?_,hoX.step (hs.only0 rfl) (by simp)⟩
            · unfold U64 at hl ⊢;simp only;omega
            · simp only;omega
            · rcases a3 k hk with h | h
              · exact hF1 k h
              · exact .inr (by omega)
            · rcases a4 k hk with h | h
              · exact hFr1 k h
              · exact .inr (by omega)
          · rw [if_neg hE] at hT
            subst hT
            rw [if_neg hE]
            generalize srvE c' left=e at *
            repeat' (first|refine vs (k:=?_)|refine qRg ?_|refine Nx.h ?_|(refine xc_cond rfl (fun hc=>?_) (fun hc=>?_))|fail)
            · first | refine rt (hq:=?_) | refine rt' (hq:=?_)
              exact ⟨rfl,trivial,fun h=>absurd h hE,hoX.step (hs.only0 rfl) (by simp)⟩
            · exact absurd (by simpa using hc) hE
        · exact absurd (by simpa using hc) hrun
    · rw [if_neg (by omega)] at hT
      subst hT
      rw [decide_eq_false l0]
      repeat' (first|refine vs (k:=?_)|refine ps (k:=?_)|refine Nx.h ?_|refine qCf ?_|fail)
      have ho:=hs.onlyF [] (by simp [q1]) (by simp [D0])
      exact cutB_exit () (by (repeat (first | exact agree_nil | (apply agree_cons;exact rfl)))) ⟨rfl,_,_,hC1.only ho,hR1.only ho,hF1,hFr1,hoW.step ho (by simp)⟩
  · clear hs
    rintro _ env w ⟨hT0,F2,Fr,a1,a2,a3,a4,hoX⟩
    have hs:=St.nil w
    repeat' (first|refine vs (k:=?_)|refine qRg ?_|refine Nx.h ?_|fail)
    first | refine rt (hq:=?_) | refine rt' (hq:=?_)
    exact ⟨by rw [hT0];rfl,trivial,fun _=>⟨F2,Fr,a1.only (hs.only0 rfl),a2.only (hs.only0 rfl),a3,a4⟩,hoX.step (hs.only0 rfl) (by simp)⟩
end Go.Proofs.YtalffooghioekaaGreatDoorX

namespace Go.Proofs.YtalffooghioekaaGreatDoorX
open Go Go.RowKit
attribute [local irreducible] XS XC XA thenE blockE retE loopE loopS cutB cutN doneE SE
def Told18 (w0:World) (cb:Nat) (F:List Nat) (rv:Value) (e:Int) (c c1:Cs) (r1:Rp) (w':World):Prop :=
  RvAt w' rv (tryR e c1 r1)∧(∃ F',CAt w' cb (tryC c e c1) F'∧∀ k∈F',k∈F∨w0.heap.size≤k)∧Only [cb] w0 w'
set_option maxHeartbeats 4000000 in
theorem tick_ret (cb:Nat) (c:Cs) (F:List Nat) (ns:Int) (w0:World) (h:CAt w0 cb c F) (hns:U64 ns) (hTp:(tickC c ns).2.2.p.length < 2000000000000) (hTg:(tickC c ns).2.2.g.length≤1000000) :
    Ret Tryz.prog 96 #[.pointer (some ⟨cb,0,none⟩),.int .u64 ns] w0 fun v w'=>∃ rv,v = .tuple #[rv,.int .i64 (tickC c ns).1]∧Told18 w0 cb F rv (tickC c ns).1 c (tickC c ns).2.1 (tickC c ns).2.2 w':=by
  have hs:=St.nil w0
  refine ret_of_xc Tryz.func96 (by kernel_rfl) rfl Tryz.ntmps96 rfl rfl rfl ?_
  refine xc_seq ?_
  refine xc_region ?_ ?_;exact rfl
  refine bx hs (k:=?_);intro b6 w _ hs
  refine al hs (k:=?_);intro b10 w hz hs
  repeat' (first|refine vs (k:=?_)|refine qRg ?_|refine Nx.h ?_|fail)
  have ho:=hs.only0 rfl
  have hz:=ho.size
  have x6:=hs.get (b:=b6) (by repeat (first | exact At.head | (with_reducible apply At.tail)))
  have x10:=hs.get (b:=b10) (by repeat (first | exact At.head | (with_reducible apply At.tail)))
  have hCw:=h.only ho
  have hb:=hs.new _ List.mem_cons_self rfl
  simp only at hb
  (with_reducible apply xs_call);exact rfl;exact rfl;exact try_ret cb c F _ hCw 146 [.pointer (some ⟨b6,0,none⟩)] [] (fun _=>True) (tickC c ns).1 (tickC c ns).2.1 (tickC c ns).2.2 (fun _ _ _ _ _ _=>trivial) (by simp) hTg (fun w1 ho1=>tick1_ret b6 c ns _ w1 hns (ho1.block x6 (by simp)) hTp hTg)
  rintro v w2 ⟨rv,rfl,_,hRv,⟨F',hC',hF'⟩,ho2⟩
  obtain ⟨vg,vp,Gg,Gp,rfl,p1,p2⟩:=hRv
  obtain ⟨ag,cg,rfl⟩:=slv_form p1
  obtain ⟨ap,cp,rfl⟩:=slv_form p2
  have x2:=ho2.block x10 (fun hm=>by obtain rfl:=List.mem_singleton.1 hm;exact hCw.not x10 rfl (by obtain ⟨_,_,rfl,_⟩:=hCw;simp))
  clear hs
  have hs:=(St.nil w2).trackT x2
  repeat' (first|refine vs (k:=?_)|(refine stA hs (k:=?_);intro w hs)|refine Nx.h ?_|fail)
  first | refine rt (hq:=?_) | refine rt' (hq:=?_)
  have ho3:Only [b10] w2 _:=hs.onlyF [b10] (by simp) (by simp [D0])
  exact ⟨_,rfl,⟨_,_,Gg,Gp,rfl,p1.keep ho3 (fun k hk hm=>by obtain rfl:=List.mem_singleton.1 hm;exact slv_ne p1 x2 (by decide) hk),p2.keep ho3 (fun k hk hm=>by obtain rfl:=List.mem_singleton.1 hm;exact slv_ne p2 x2 (by decide) hk)⟩,⟨F',hC'.keepD ho3 (fun k hk hm=>by obtain rfl:=List.mem_singleton.1 hm;exact hC'.not x2 rfl hk),fun k hk=>by
    rcases hF' k hk with h | h
    · exact .inl h
    · exact .inr (by omega)⟩,((ho.weaken (by simp)).step ho2 (fun k hk => .inl hk)).step ho3 (fun k hk => .inr (by obtain rfl:=List.mem_singleton.1 hk;exact hb))⟩
end Go.Proofs.YtalffooghioekaaGreatDoorX

namespace Go.Proofs.YtalffooghioekaaGreatDoorX
open Go Go.RowKit
attribute [local irreducible] XS XC XA thenE blockE retE loopE loopS cutB cutN doneE SE
theorem eqPr (p q:Pr):(cellEq (.int .i64 p.id) (.int .i64 q.id) && (cellEq (.int .u64 p.ns) (.int .u64 q.ns) && cellEq (.bool p.done) (.bool q.done)))=decide (p=q):=by
  show ((p.id == q.id) && ((p.ns == q.ns) && (p.done == q.done)))=_
  obtain ⟨a,b,c⟩:=p
  obtain ⟨a',b',c'⟩:=q
  simp only [Pr.mk.injEq]
  by_cases h1:a=a' <;> by_cases h2:b=b' <;> by_cases h3:c=c' <;> simp [h1,h2,h3]
set_option maxHeartbeats 4000000 in
theorem eqP_ret (va vb:Value) (A B:List Pr) (hm:A.length≤9223372036854775807) (w0:World) (hA:LsAt w0 195 3 va (A.map Pr.cells)) (hB:LsAt w0 195 3 vb (B.map Pr.cells)) :
    Ret Tryz.prog 185 #[va,vb] w0 fun v w'=>v = .bool (decide (A=B))∧Only [] w0 w':=by
  obtain ⟨ada,ca,rfl,hA⟩:=hA
  obtain ⟨adb,cb,rfl,hB⟩:=hB
  rw [List.length_map] at *
  rw [List.length_map] at *
  have hs:=St.nil w0
  refine ret_of_xc Tryz.func185 (by kernel_rfl) rfl Tryz.ntmps185 rfl rfl rfl ?_
  repeat' (first|refine vs (k:=?_)|refine qRg ?_|refine Nx.h ?_|(refine xc_cond rfl (fun hc=>?_) (fun hc=>?_))|fail)
  · first | refine rt (hq:=?_) | refine rt' (hq:=?_)
    refine ⟨congrArg Value.bool ?_,hs.only0 rfl⟩
    have hne:A≠B:=fun e=>by subst e;simp at hc
    exact (decide_eq_false hne).symm
  · have hln:A.length=B.length:=by
      have h:((A.length:Nat):Int)=B.length:=by simpa using hc
      omega
    refine xc_cutB (fun _:Unit=>[]) (fun _ w=>A=B∧Only [] w0 w) ?_ ?_
    · refine xc_loopS (fun (i:Nat)=>[(0,.slice ada A.length ca),(1,.slice adb B.length cb),(12,.int .i64 (A.length:Nat)),(13,.int .i64 (i:Nat))])
        (fun i w=>i≤A.length∧A.take i=B.take i∧Only [] w0 w)
        (fun i=>A.length - i) 0 (by (repeat (first | exact agree_nil | (apply agree_cons;exact rfl)))) ⟨Nat.zero_le _,by simp,hs.only0 rfl⟩ fun i env w ⟨hi,ht,ho⟩=>?_
      clear hs
      have hs:=St.nil w
      repeat' (first|refine vs (k:=?_)|refine qRg ?_|refine Nx.h ?_|(refine xc_if rfl (fun hc=>?_) (fun hc=>?_))|fail)
      · have hlt:i < A.length:=by omega
        have hltB:i < B.length:=by omega
        obtain ⟨ba,oa,csa,fa,rfl,a2,a3,a4⟩:=hA (fun h=>by have:=congrArg List.length h;rw [List.length_map,List.length_nil] at this;omega)
        obtain ⟨bb,ob,csb,fb,rfl,b2,b3,b4⟩:=hB (fun h=>by have:=congrArg List.length h;rw [List.length_map,List.length_nil] at this;omega)
        have ga:=a4 i _ (by rw [List.getElem?_map,List.getElem?_eq_getElem hlt];rfl)
        have gb:=b4 i _ (by rw [List.getElem?_map,List.getElem?_eq_getElem hltB];rfl)
        have a3:=ho.block a3 (by simp)
        have b3:=ho.block b3 (by simp)
        have key:A[i]=B[i]→A.take (i+1)=B.take (i+1):=fun he=>by rw [List.take_add_one,List.take_add_one,ht,List.getElem?_eq_getElem hlt,List.getElem?_eq_getElem hltB,he]
        have key2:A[i]≠B[i]→A≠B:=fun h e=>h (by subst e;rfl)
        have ei:=nx64 hlt hm
        generalize A[i]=x at *
        generalize B[i]=y at *
        by_cases e:ba=bb
        · subst e
          rw [a3] at b3
          cases b3
          replace hs:=hs.track a3 (by simp)
          refine dr [] hs (k:=?_);intro hX w hs
          refine tk 0 hX (k:=?_)
          refine tk 1 hX (k:=?_)
          refine tk 2 hX (hr:=fun w' hH=>r_indexAddr tabOk rfl rfl rfl (by omega) (by omega)) (k:=?_)
          refine tk 3 hX (hr:=fun w' hH=>r_loadA tabOk rfl rfl (hH rfl) At.head ga) (k:=?_)
          refine tk 4 hX (k:=?_)
          refine tk 5 hX (k:=?_)
          refine tk 6 hX (hr:=fun w' hH=>r_indexAddr tabOk rfl rfl rfl (by omega) (by omega)) (k:=?_)
          refine tk 7 hX (hr:=fun w' hH=>r_loadA tabOk rfl rfl (hH rfl) At.head gb) (k:=?_)
          refine tk 8 hX (k:=?_)
          refine en (k:=?_)
          repeat' (first|refine vs (k:=?_)|refine qRg ?_|refine Nx.h ?_|(refine xc_cond rfl (fun hc=>?_) (fun hc=>?_))|fail)
          · rw [eqPr] at hc
            first | refine rt (hq:=?_) | refine rt' (hq:=?_)
            exact ⟨congrArg Value.bool (decide_eq_false (key2 (by simpa using hc))).symm,ho.step (hs.onlyF [] (by simp [a3]) (by simp [D0])) (by simp)⟩
          · rw [eqPr] at hc
            exact loopS_next (i+1) (by omega) (by (repeat (first | exact agree_nil | (apply agree_cons;first | exact rfl | exact congrArg (Value.int .i64) ei)))) ⟨by omega,key (by simpa using hc),ho.step (hs.onlyF [] (by simp [a3]) (by simp [D0])) (by simp)⟩
        · replace hs:=(hs.track a3 (by simp)).track b3 (by simpa using Ne.symm e)
          refine dr [] hs (k:=?_);intro hX w hs
          refine tk 0 hX (k:=?_)
          refine tk 1 hX (k:=?_)
          refine tk 2 hX (hr:=fun w' hH=>r_indexAddr tabOk rfl rfl rfl (by omega) (by omega)) (k:=?_)
          refine tk 3 hX (hr:=fun w' hH=>r_loadA tabOk rfl rfl (hH rfl) (At.tail At.head) ga) (k:=?_)
          refine tk 4 hX (k:=?_)
          refine tk 5 hX (k:=?_)
          refine tk 6 hX (hr:=fun w' hH=>r_indexAddr tabOk rfl rfl rfl (by omega) (by omega)) (k:=?_)
          refine tk 7 hX (hr:=fun w' hH=>r_loadA tabOk rfl rfl (hH rfl) At.head gb) (k:=?_)
          refine tk 8 hX (k:=?_)
          refine en (k:=?_)
          repeat' (first|refine vs (k:=?_)|refine qRg ?_|refine Nx.h ?_|(refine xc_cond rfl (fun hc=>?_) (fun hc=>?_))|fail)
          · rw [eqPr] at hc
            first | refine rt (hq:=?_) | refine rt' (hq:=?_)
            exact ⟨congrArg Value.bool (decide_eq_false (key2 (by simpa using hc))).symm,ho.step (hs.onlyF [] (by simp [a3,b3]) (by simp [D0])) (by simp)⟩
          · rw [eqPr] at hc
            exact loopS_next (i+1) (by omega) (by (repeat (first | exact agree_nil | (apply agree_cons;first | exact rfl | exact congrArg (Value.int .i64) ei)))) ⟨by omega,key (by simpa using hc),ho.step (hs.onlyF [] (by simp [a3,b3]) (by simp [D0])) (by simp)⟩
      · have e:i=A.length:=by omega
        have hAB:A=B:=by
          have h1:A.take i=A:=List.take_of_length_le (by omega)
          have h2:B.take i=B:=List.take_of_length_le (by omega)
          rw [← h1,ht,h2]
        exact cutB_exit () (by (repeat (first | exact agree_nil | (apply agree_cons;exact rfl)))) ⟨hAB,ho.step (hs.only0 rfl) (by simp)⟩
    · rintro _ env w ⟨rfl,ho⟩
      clear hs
      have hs:=St.nil w
      repeat' (first|refine vs (k:=?_)|refine qRg ?_|refine Nx.h ?_|fail)
      first | refine rt (hq:=?_) | refine rt' (hq:=?_)
      exact ⟨congrArg Value.bool (decide_eq_true rfl).symm,ho.step (hs.only0 rfl) (by simp)⟩
end Go.Proofs.YtalffooghioekaaGreatDoorX

namespace Go.Proofs.YtalffooghioekaaGreatDoorX
open Go Go.RowKit
open IB (IT ITsAt flatT)
attribute [local irreducible] XS XC XA thenE blockE retE loopE loopS cutB cutN doneE SE
def rk:RT:=⟨⟨⟨⟨3,0,1⟩,1,⟨5242883,0,1⟩⟩,5,5,false⟩,by decide⟩
theorem k1:newR ⟨3,0,1⟩ 1 5=some rk.1:=by kernel_rfl
theorem k2:enterE (newS 0) rk=0:=by kernel_rfl
theorem k3:(enterS (newS 0) rk).l=[rk]:=by kernel_rfl
theorem k4:(rouseS (enterS (newS 0) rk) 1 true).l=[wakeR rk true]:=by kernel_rfl
theorem k5:rouseE (enterS (newS 0) rk) 1=0:=by kernel_rfl
set_option maxHeartbeats 4000000 in
theorem awake16_ret (w0:World) (ht:Pows w0):Ret Tryz.prog 259 #[] w0 fun v w'=>v = .bool true∧Only [] w0 w':=by
  have hs:=St.nil w0
  refine ret_of_xc Tryz.func259 (by kernel_rfl) rfl Tryz.ntmps259 rfl rfl rfl ?_
  repeat' (first|refine vs (k:=?_)|refine qRg ?_|refine Nx.h ?_|fail)
  (with_reducible apply xs_call);exact rfl;exact rfl;exact snew_ret 0 (by decide) _
  rintro v w1 ⟨⟨sb,F0,rfl,hS,hF0⟩,ho1⟩
  have hF0:∀ k∈F0,w0.heap.size≤k:=fun k hk=>by have:=hF0 k hk;have:=hs.size;omega
  have hz1:=ho1.size
  have hq:=hs.call0 ho1
  have ho1':=hq.only0 rfl
  clear hs hq
  have hs:=St.nil w1
  repeat' (first|refine vs (k:=?_)|refine qRg ?_|refine Nx.h ?_|fail)
  (with_reducible apply xs_call);exact rfl;exact rfl;exact runnable_ret sb (newS 0) F0 _ hS (by decide)
  rw [show runN (newS 0).l=0 from rfl]
  rintro v w2 ⟨rfl,ho2⟩;replace hs:=hs.call0 ho2
  repeat' (first|refine vs (k:=?_)|refine qRg ?_|refine Nx.h ?_|refine qCf ?_|fail)
  (with_reducible apply xs_call);exact rfl;exact rfl;exact rnew_ret ⟨3,0,1⟩ 1 5 (by decide) (by decide) (by decide) _
  rw [k1]
  rintro v w' ⟨rfl,ho⟩;replace hs:=hs.call0 ho;repeat' (first|refine vs (k:=?_)|(refine stA hs (k:=?_);intro w hs)|(refine al hs (k:=?_);intro b w hz hs)|refine qRg ?_|refine Nx.h ?_|fail)
  have hSw:=hS.only (hs.only0 rfl)
  have hzw:=hs.size
  (with_reducible apply xs_call);exact rfl;exact rfl;exact enter_ret sb (newS 0) F0 rk _ hSw (by decide) (by decide) (by decide)
  rw [k2]
  rintro v w3 ⟨rfl,F1,hS3,hF1,ho3⟩
  replace hs:=hs.call ho3 (hSw.apart hs rfl) (by simp [D0])
  have hF1':∀ k∈F1,w0.heap.size≤k:=fun k hk=>by
    rcases hF1 k hk with h | h
    · exact hF0 k h
    · omega
  have hm:∀ w',Only (F0 ++ []) w1 w'→Only [] w0 w':=fun w' ho=>ho1'.step ho (fun k hk=>by
    rw [List.append_nil] at hk
    exact .inr (hF0 k hk))
  have hm2:∀ w',Only (F1 ++ (F0 ++ [])) w1 w'→Only [] w0 w':=fun w' ho=>ho1'.step ho (fun k hk=>by
    rw [List.append_nil,List.mem_append] at hk
    rcases hk with hk | hk
    · exact .inr (hF1' k hk)
    · exact .inr (hF0 k hk))
  have e3:=k3
  have e4:=k4
  have e5:=k5
  generalize enterS (newS 0) rk=s1 at *
  repeat' (first|refine vs (k:=?_)|refine qRg ?_|refine Nx.h ?_|fail)
  (with_reducible apply xs_call);exact rfl;exact rfl;exact Awake15_ret _ (tab_only ht (hm _ hs.only))
  rintro v w4 ⟨rfl,ho4⟩;replace hS3:=hS3.only ho4;replace hs:=hs.call0 ho4
  repeat' (first|refine vs (k:=?_)|fail)
  (with_reducible apply xs_call);exact rfl;exact rfl;exact runnable_ret sb s1 F1 _ hS3 (by rw [e3];decide)
  rw [e3,show runN [rk]=1 from rfl]
  rintro v w5 ⟨rfl,ho5⟩;replace hS3:=hS3.only ho5;replace hs:=hs.call0 ho5
  repeat' (first|refine vs (k:=?_)|fail)
  (with_reducible apply xs_call);exact rfl;exact rfl;exact rouse_ret sb s1 F1 1 true _ hS3 (by decide) (by rw [e3];decide)
  rw [e5]
  rintro v w6 ⟨rfl,hS6,ho6⟩
  replace hs:=hs.call ho6 (hS3.apart hs rfl) (by simp [D0])
  repeat' (first|refine vs (k:=?_)|fail)
  (with_reducible apply xs_call);exact rfl;exact rfl;exact runnable_ret sb (rouseS s1 1 true) F1 _ hS6 (by rw [e4];decide)
  rw [e4,show runN [wakeR rk true]=0 from rfl]
  rintro v w7 ⟨rfl,ho7⟩;replace hs:=hs.call0 ho7
  repeat' (first|refine vs (k:=?_)|refine Nx.h ?_|fail)
  first | refine rt (hq:=?_) | refine rt' (hq:=?_)
  exact ⟨rfl,hm2 _ hs.only⟩
theorem Awake16_ret (w0:World) (ht:Pows w0):Ret Tryz.prog 243 #[] w0 fun v w'=>v = .bool true∧Only [] w0 w':=by
  have hs:=St.nil w0
  refine ret_of_xc Tryz.func243 (by kernel_rfl) rfl Tryz.ntmps243 rfl rfl rfl ?_
  repeat' (first|refine vs (k:=?_)|refine qRg ?_|refine Nx.h ?_|fail)
  (with_reducible apply xs_call);exact rfl;exact rfl;exact awake16_ret _ ht
  rintro v w' ⟨rfl,ho⟩;replace hs:=hs.call0 ho;repeat' (first|refine vs (k:=?_)|refine Nx.h ?_|fail)
  first | refine rt (hq:=?_) | refine rt' (hq:=?_)
  exact ⟨rfl,hs.only0 rfl⟩
end Go.Proofs.YtalffooghioekaaGreatDoorX

namespace Go.Proofs.YtalffooghioekaaGreatDoorX
open Go Go.RowKit
open IB (IT ITsAt flatT)
attribute [local irreducible] XS XC XA thenE blockE retE loopE loopS cutB cutN doneE SE
def rs:RT:=wakeR rk true
def s17:Ss:=enterS (newS 0) rs
def g17:Gn:=⟨1,0,rs.1⟩
theorem p1:enterE (newS 0) rs=0:=by kernel_rfl
theorem p2:nextS s17=some g17:=by kernel_rfl
theorem p3:s17.q.f 1=some (itR rs):=by kernel_rfl
theorem p4:CutOk (itR rs) s17.q.t:=fun _=>⟨by kernel_rfl,by kernel_rfl⟩
theorem p5:nextS (exitS s17 1)=none:=by kernel_rfl
theorem p6:soonId (exitS s17 1).q=0:=by kernel_rfl
theorem f17:Flushes s17 [g17] (exitS s17 1) := .step p2 p3 p4 (.done p5)
set_option maxHeartbeats 4000000 in
theorem awake17_ret (w0:World) (ht:Pows w0):Ret Tryz.prog 221 #[] w0 fun v w'=>v = .bool true∧Only [] w0 w':=by
  have hs:=St.nil w0
  refine ret_of_xc Tryz.func221 (by kernel_rfl) rfl Tryz.ntmps221 rfl rfl rfl ?_
  repeat' (first|refine vs (k:=?_)|refine qRg ?_|refine Nx.h ?_|fail)
  (with_reducible apply xs_call);exact rfl;exact rfl;exact snew_ret 0 (by decide) _
  rintro v w1 ⟨⟨sb,F0,rfl,hS,hF0⟩,ho1⟩
  have hF0:∀ k∈F0,w0.heap.size≤k:=fun k hk=>by have:=hF0 k hk;have:=hs.size;omega
  have hz1:=ho1.size
  have hq:=hs.call0 ho1
  have ho1':=hq.only0 rfl
  clear hs hq
  have hs:=St.nil w1
  repeat' (first|refine vs (k:=?_)|refine qRg ?_|refine Nx.h ?_|fail)
  (with_reducible apply xs_call);exact rfl;exact rfl;exact rnew_ret ⟨3,0,1⟩ 1 5 (by decide) (by decide) (by decide) _
  rw [k1]
  rintro v w' ⟨rfl,ho⟩;replace hs:=hs.call0 ho;repeat' (first|refine vs (k:=?_)|(refine st hs (k:=?_);intro w hs)|(refine stA hs (k:=?_);intro w hs)|(refine al hs (k:=?_);intro b w hz hs)|refine qRg ?_|refine Nx.h ?_|fail)
  have hSw:=hS.only (hs.only0 rfl)
  have hzw:=hs.size
  (with_reducible apply xs_call);exact rfl;exact rfl;exact enter_ret sb (newS 0) F0 rs _ hSw (by decide) (by decide) (by decide)
  rw [p1,show enterS (newS 0) rs=s17 from rfl]
  rintro v w3 ⟨rfl,F1,hS3,hF1,ho3⟩
  replace hs:=hs.call ho3 (hSw.apart hs rfl) (by simp [D0])
  have hF1':∀ k∈F1,w0.heap.size≤k:=fun k hk=>by
    rcases hF1 k hk with h | h
    · exact hF0 k h
    · omega
  have hoA:Only [] w0 w3:=ho1'.step hs.only (fun k hk=>by
    have hk:k∈F0 ++ []:=hk
    rw [List.append_nil] at hk
    exact .inr (hF0 k hk))
  have e6:=p6
  have hf:=f17
  have hn:=(show s17.l.length≤1000000 by decide)
  have hq:=(show s17.q.t.list.length≤1000000 by decide)
  generalize s17=s at *
  generalize exitS s 1=s' at *
  have hz3:=hoA.size
  clear hs
  have hs:=St.nil w3
  repeat' (first|refine vs (k:=?_)|refine qRg ?_|refine Nx.h ?_|refine qCf ?_|fail)
  (with_reducible apply xs_call);exact rfl;exact rfl;exact settle_ret sb s s' [g17] F1 _ hS3 hn hq (by decide) hf
  rw [e6]
  rintro v w4 ⟨sl,rfl,⟨G,hG,hGn⟩,F2,hS4,hF2,ho4⟩
  have hL:=hG.ls (xs:=[g17.cells]) rfl rfl (by simp)
  obtain ⟨ad,cap,rfl,hD⟩:=hL
  obtain ⟨bb,off,cs,fz,rfl,_,hbb,hcs⟩:=hD (by simp)
  have hpk:=hcs 0 g17.cells rfl
  have hoB:Only [] w0 w4:=hoA.step ho4 (fun k hk => .inr (hF1' k hk))
  clear hs
  have hs:=St.nil w4
  repeat' (first|refine vs (k:=?_)|refine qRg ?_|refine Nx.h ?_|fail)
  (with_reducible apply xs_call);exact rfl;exact rfl;exact Awake16_ret _ (tab_only ht hoB)
  rintro v w5 ⟨rfl,ho5⟩
  have hb5:=ho5.block hbb (by simp)
  have hoC:=hoB.trans ho5
  clear hs
  have hs:=St.nil w5
  repeat' (first|refine vs (k:=?_)|fail)
  refine ix (h0:=(by decide)) (h1:=(by decide)) (k:=?_)
  repeat' (first|refine vs (k:=?_)|fail)
  refine lh hb5 (by cases hpk with | cons h _=>exact h) (k:=?_)
  repeat' (first|refine vs (k:=?_)|fail)
  refine ix (h0:=(by decide)) (h1:=(by decide)) (k:=?_)
  refine vs (k:=?_)
  have hpk2:Pick cs (off+1) 2 [.int .i64 0,.int .u64 0]:=by
    cases hpk with | cons _ h=>cases h with | cons h1 h=>cases h with | cons h2 _=>exact .cons h1 (.cons h2 .nil)
  refine lhK hb5 hpk2 (k:=?_)
  skip
  (with_reducible apply xs_call);exact rfl;exact rfl;exact sign_ret 0 (by decide) _
  rintro v w' ⟨rfl,ho⟩;replace hs:=hs.call0 ho;repeat' (first|refine vs (k:=?_)|refine Nx.h ?_|fail)
  first | refine rt (hq:=?_) | refine rt' (hq:=?_)
  exact ⟨rfl,hoC.trans (hs.only0 rfl)⟩
end Go.Proofs.YtalffooghioekaaGreatDoorX

namespace Go.Proofs.YtalffooghioekaaGreatDoorX
open Go Go.RowKit
attribute [local irreducible] XS XC XA thenE blockE retE loopE loopS cutB cutN doneE SE
def c18a:Cs:=tryC (newC 0) (joinC (newC 0) 1 1 2 0).1 (joinC (newC 0) 1 1 2 0).2
def c18b:Cs:=tryC c18a (joinC c18a 2 1 2 0).1 (joinC c18a 2 1 2 0).2
theorem a18_1:(joinC (newC 0) 1 1 2 0).1=0:=by kernel_rfl
theorem a18_2:(joinC c18a 2 1 2 0).1=0:=by kernel_rfl
theorem a18_3:(tickC c18b 4).1=0:=by kernel_rfl
theorem a18_4:(tickC c18b 4).2.2.p=[⟨1,2,true⟩,⟨2,2,true⟩]:=by kernel_rfl
theorem a18_5:(tickC c18b 4).2.2.g.length=0:=by kernel_rfl
theorem AwakeL17_ret (w0:World) (ht:Pows w0):Ret Tryz.prog 184 #[] w0 fun v w'=>v = .bool true∧Only [] w0 w':=by
  have hs:=St.nil w0
  refine ret_of_xc Tryz.func184 (by kernel_rfl) rfl Tryz.ntmps184 rfl rfl rfl ?_
  repeat' (first|refine vs (k:=?_)|refine qRg ?_|refine Nx.h ?_|fail)
  (with_reducible apply xs_call);exact rfl;exact rfl;exact awake17_ret _ (tab_only ht (hs.only0 rfl))
  rintro v w' ⟨rfl,ho⟩;replace hs:=hs.call0 ho;repeat' (first|refine vs (k:=?_)|refine Nx.h ?_|fail)
  first | refine rt (hq:=?_) | refine rt' (hq:=?_)
  exact ⟨rfl,hs.only0 rfl⟩
theorem lit_ls {w:World} {b e n k:Nat} {xs:List (List Value)} (hb:w.heap[b]?=some (.cells xs.flatten.toArray e (0,0))) (hn:xs.length=n) (hk:∀ x∈xs,x.length=k) (hl:xs.flatten.length=n*k):LsAt w e k (.slice (some ⟨b,0,none⟩) n n) xs :=
  SlV.ls (n:=n) (G:=[b]) (.inr ⟨b,n,xs.flatten,rfl,rfl,Nat.le_refl _,hl,hl,by rw [← hl];exact List.take_length,hb⟩) rfl hn.symm hk
theorem SlP.ls {w:World} {v:Value} {l:List Pr} {G:List Nat} (h:SlP w v l G):LsAt w 195 3 v (l.map Pr.cells):=SlV.ls h rfl (by simp) (fun x hx=>by obtain ⟨p,_,rfl⟩:=List.mem_map.1 hx;rfl)
set_option maxHeartbeats 8000000 in
theorem awake18_ret (w0:World) (ht:Pows w0):Ret Tryz.prog 148 #[] w0 fun v w'=>v = .bool true∧Only [] w0 w':=by
  have hs:=St.nil w0
  refine ret_of_xc Tryz.func148 (by kernel_rfl) rfl Tryz.ntmps148 rfl rfl rfl ?_
  repeat' (first|refine vs (k:=?_)|refine qRg ?_|refine Nx.h ?_|fail)
  (with_reducible apply xs_call);exact rfl;exact rfl;exact cnew_ret 0 (by decide) _
  rintro v w1 ⟨⟨cb,F0,rfl,hC,hF0⟩,ho1⟩
  have hz1:=ho1.size
  have hoA:=(hs.only0 rfl).trans ho1
  have hF0':∀ k∈F0,w0.heap.size≤k:=fun k hk=>by have:=hF0 k hk;have:=(hs.only0 rfl).size;omega
  have hcF:cb∈F0:=by obtain ⟨_,_,rfl,_⟩:=hC;simp
  have hcb:w0.heap.size≤cb:=hF0' cb hcF
  clear hs
  have hs:=St.nil w1
  repeat' (first|refine vs (k:=?_)|refine qRg ?_|refine Nx.h ?_|refine qCf ?_|fail)
  (with_reducible apply xs_call);exact rfl;exact rfl;exact join_ret cb (newC 0) F0 1 1 2 0 _ (hC.only (hs.only0 rfl)) (by decide) (by decide) (by decide) (by decide)
  rw [a18_1]
  rintro v w2 ⟨rv,rfl,hRv,⟨F1,hC1,hF1⟩,ho2⟩
  have hC1:CAt w2 cb c18a F1:=by have e:=a18_1;unfold c18a;rw [e];exact hC1
  obtain ⟨vg,vp,Gg,Gp,rfl,p1,p2⟩:=hRv
  obtain ⟨ag,cg,rfl⟩:=slv_form p1
  obtain ⟨ap,cp,rfl⟩:=slv_form p2
  have hz2:=(hs.only0 rfl).size
  have hoB:Only [] w0 w2:=(hoA.trans (hs.only0 rfl)).step ho2 (fun k hk => .inr (by obtain rfl:=List.mem_singleton.1 hk;exact hcb))
  clear hs
  have hs:=St.nil w2
  repeat' (first|refine vs (k:=?_)|(refine stA hs (k:=?_);intro w hs)|(refine al hs (k:=?_);intro b w hz hs)|refine qRg ?_|refine Nx.h ?_|fail)
  (with_reducible apply xs_call);exact rfl;exact rfl;exact join_ret cb c18a F1 2 1 2 0 _ (hC1.only (hs.only0 rfl)) (by decide) (by decide) (by decide) (by decide)
  rw [a18_2]
  rintro v w3 ⟨rv,rfl,hRv,⟨F2,hC2,hF2⟩,ho3⟩
  have hC2:CAt w3 cb c18b F2:=by have e:=a18_2;unfold c18b;rw [e];exact hC2
  obtain ⟨vg,vp,Gg,Gp,rfl,p1,p2⟩:=hRv
  obtain ⟨ag,cg,rfl⟩:=slv_form p1
  obtain ⟨ap,cp,rfl⟩:=slv_form p2
  have hz3:=(hs.only0 rfl).size
  have hoC:Only [] w0 w3:=(hoB.trans (hs.only0 rfl)).step ho3 (fun k hk => .inr (by obtain rfl:=List.mem_singleton.1 hk;exact hcb))
  clear hs
  have hs:=St.nil w3
  repeat' (first|refine vs (k:=?_)|(refine stA hs (k:=?_);intro w hs)|(refine al hs (k:=?_);intro b w hz hs)|refine qRg ?_|refine Nx.h ?_|fail)
  have hpl:(tickC c18b 4).2.2.p.length < 2000000000000:=by rw [a18_4];decide
  have hgl:(tickC c18b 4).2.2.g.length≤1000000:=by rw [a18_5];decide
  (with_reducible apply xs_call);exact rfl;exact rfl;exact tick_ret cb c18b F2 4 _ (hC2.only (hs.only0 rfl)) (by decide) hpl hgl
  rw [a18_3]
  rintro v w4 ⟨rv,rfl,hRv,_,ho4⟩
  obtain ⟨vg,vp,Gg,Gp,rfl,p1,p2⟩:=hRv
  obtain ⟨ag,cg,rfl⟩:=slv_form p1
  have p3:SlP w4 vp [⟨1,2,true⟩,⟨2,2,true⟩] Gp:=by rw [← a18_4];exact p2
  obtain ⟨ap,cp,rfl⟩:=slv_form p3
  have hz4:=(hs.only0 rfl).size
  have hoD:Only [] w0 w4:=(hoC.trans (hs.only0 rfl)).step ho4 (fun k hk => .inr (by obtain rfl:=List.mem_singleton.1 hk;exact hcb))
  clear hs
  have hs:=St.nil w4
  repeat' (first|refine vs (k:=?_)|(refine stA hs (k:=?_);intro w hs)|(refine al hs (k:=?_);intro b w hz hs)|refine qRg ?_|refine Nx.h ?_|fail)
  have hoE:=hoD.trans (hs.only0 rfl)
  (with_reducible apply xs_call);exact rfl;exact rfl;exact AwakeL17_ret _ (tab_only ht hoE)
  rintro v w' ⟨rfl,ho⟩;replace hs:=hs.call0 ho;repeat' (first|refine vs (k:=?_)|(refine bs hs (k:=?_);intro b w hz hs)|fail)
  have hlit:=lit_ls (xs:=[Pr.cells ⟨1,2,true⟩,Pr.cells ⟨2,2,true⟩]) (k:=3) (hs.get At.head) rfl (by decide) rfl
  (with_reducible apply xs_call);exact rfl;exact rfl;exact eqP_ret _ _ [⟨1,2,true⟩,⟨2,2,true⟩] [⟨1,2,true⟩,⟨2,2,true⟩] (by decide) _ ((SlP.ls p3).only (hs.only0 rfl)) hlit
  rw [show decide ([(⟨1,2,true⟩:Pr),⟨2,2,true⟩]=[⟨1,2,true⟩,⟨2,2,true⟩])=true by decide]
  rintro v w' ⟨rfl,ho⟩;replace hs:=hs.call0 ho;repeat' (first|refine vs (k:=?_)|refine Nx.h ?_|fail)
  first | refine rt (hq:=?_) | refine rt' (hq:=?_)
  exact ⟨rfl,hoD.trans (hs.only0 rfl)⟩
theorem Awake18_ret (w0:World) (ht:Pows w0):Ret Tryz.prog 97 #[] w0 fun v w'=>v = .bool true∧Only [] w0 w':=by
  have hs:=St.nil w0
  refine ret_of_xc Tryz.func97 (by kernel_rfl) rfl Tryz.ntmps97 rfl rfl rfl ?_
  repeat' (first|refine vs (k:=?_)|refine qRg ?_|refine Nx.h ?_|fail)
  (with_reducible apply xs_call);exact rfl;exact rfl;exact awake18_ret _ (tab_only ht (hs.only0 rfl))
  rintro v w' ⟨rfl,ho⟩;replace hs:=hs.call0 ho;repeat' (first|refine vs (k:=?_)|refine Nx.h ?_|fail)
  first | refine rt (hq:=?_) | refine rt' (hq:=?_)
  exact ⟨rfl,hs.only0 rfl⟩
end Go.Proofs.YtalffooghioekaaGreatDoorX

namespace Go.Proofs.YtalffooghioekaaGreatDoorX
open Go Go.RowKit
attribute [local irreducible] XS XC XA thenE blockE retE loopE loopS cutB cutN doneE SE
def clampW (x u:Int):Int:=if x > max u 0 then max u 0 else if x < -(max u 0) then -(max u 0) else x
theorem clampW_in {x u:Int} (hw:In64 u):In64 (clampW x u):=by
  unfold clampW In64 at *
  split
  · omega
  · split <;> omega
set_option maxHeartbeats 4000000 in
theorem clamp_ret (x u:Int) (hx:InW x) (hw:In64 u) (w0:World):Ret Tryz.prog 107 #[wv x,.int .i64 u] w0 fun v w'=>v = .int .i64 (clampW x u)∧Only [] w0 w':=by
  have hs:=St.nil w0
  refine ret_of_xc Tryz.func107 (by kernel_rfl) rfl Tryz.ntmps107 rfl rfl rfl ?_
  repeat' (first|refine vs (k:=?_)|(refine bx hs (k:=?_);intro b w hz hs)|refine qRg ?_|refine Nx.h ?_|fail)
  have eC:clampW x u=if x > max u 0 then max u 0 else if x < -(max u 0) then -(max u 0) else x:=rfl
  have hm:0≤max u 0∧max u 0 < 9223372036854775808:=by unfold In64 at hw;omega
  rw [show (if 0 > u then 0 else u)=max u 0 by split <;> omega]
  generalize max u 0=m at *
  have m1:InW m:=by unfold InW;omega
  have m2:InW (-m):=by unfold InW;omega
  have c1:cmpI x m > 0↔m < x:=cmp_pos
  have c2:cmpI x (-m) < 0↔x < -m:=cmp_neg
  refine dr [] hs (k:=?_);intro hX w hs
  refine tk 0 hX (k:=?_)
  refine tk 1 hX (k:=?_)
  refine dt 2 hX (k:=?_)
  (with_reducible apply xs_call);exact rfl;exact rfl;exact of_ret m (by omega) (by omega) _
  rintro v w' ⟨rfl,ho⟩;replace hs:=hs.call0 ho;repeat' (first|refine Nx.h ?_|fail)
  refine dn (k:=?_)
  refine dt 3 hX (k:=?_)
  (with_reducible apply xs_call);exact rfl;exact rfl;exact cmp_ret x m hx m1 _
  rintro v w' ⟨rfl,ho⟩;replace hs:=hs.call0 ho;repeat' (first|refine Nx.h ?_|fail)
  refine dn (k:=?_)
  refine tk 4 hX (k:=?_)
  refine tk 5 hX (k:=?_)
  refine en (k:=?_)
  by_cases h:m < x
  · rw [if_pos h] at eC
    rw [decide_eq_true (c1.2 h),eC]
    repeat' (first|refine vs (k:=?_)|refine qRg ?_|refine Nx.h ?_|refine qCt ?_|fail)
    first | refine rt (hq:=?_) | refine rt' (hq:=?_)
    exact ⟨rfl,hs.only0 rfl⟩
  rw [if_neg h] at eC
  rw [decide_eq_false (fun k=>h (c1.1 k))]
  repeat' (first|refine Nx.h ?_|refine qCf ?_|fail)
  have em:IntKind.i64.wrap (0 - m)=-m:=by rw [wrap_i64];omega
  refine dr [] hs (k:=?_);intro hX w hs
  refine tk 0 hX (k:=?_)
  refine tk 1 hX (k:=?_)
  refine tk 2 hX (k:=?_)
  refine dt 3 hX (k:=?_)
  (with_reducible apply xs_call);exact rfl;exact rfl;exact of_ret (IntKind.i64.wrap (0 - m)) (by rw [em];omega) (by rw [em];omega) _
  rw [em]
  rintro v w' ⟨rfl,ho⟩;replace hs:=hs.call0 ho;repeat' (first|refine Nx.h ?_|fail)
  refine dn (k:=?_)
  refine dt 4 hX (k:=?_)
  (with_reducible apply xs_call);exact rfl;exact rfl;exact cmp_ret x (-m) hx m2 _
  rintro v w' ⟨rfl,ho⟩;replace hs:=hs.call0 ho;repeat' (first|refine Nx.h ?_|fail)
  refine dn (k:=?_)
  refine tk 5 hX (k:=?_)
  refine tk 6 hX (k:=?_)
  refine en (k:=?_)
  by_cases h2:x < -m
  · rw [if_pos h2] at eC
    rw [decide_eq_true (c2.2 h2),eC]
    repeat' (first|refine vs (k:=?_)|refine qRg ?_|refine Nx.h ?_|refine qCt ?_|fail)
    first | refine rt (hq:=?_) | refine rt' (hq:=?_)
    exact ⟨int_cong em,hs.only0 rfl⟩
  rw [if_neg h2] at eC
  rw [decide_eq_false (fun k=>h2 (c2.1 k)),eC]
  repeat' (first|refine vs (k:=?_)|refine qRg ?_|refine Nx.h ?_|refine qCf ?_|fail)
  (with_reducible apply xs_call);exact rfl;exact rfl;exact small_ok x hx (by unfold In64;omega) _
  rintro v w' ⟨rfl,ho⟩;replace hs:=hs.call0 ho;repeat' (first|refine vs (k:=?_)|refine qRg ?_|refine Nx.h ?_|fail)
  first | refine rt (hq:=?_) | refine rt' (hq:=?_)
  exact ⟨rfl,hs.only0 rfl⟩
end Go.Proofs.YtalffooghioekaaGreatDoorX

namespace Go.Proofs.YtalffooghioekaaGreatDoorX
open Go Go.RowKit
def LsX (w:World) (k:Nat) (v:Value) (xs:List (List Value)):Prop :=
  ∃ ad cap,v = .slice ad xs.length cap∧(xs≠[]→∃ (b off:Nat) (cs:List Value) (E:TypeId) (fz:Nat × Nat),ad=some ⟨b,off,none⟩∧w.heap[b]?=some (.cells cs.toArray E fz)∧∀ (i:Nat) x,xs[i]?=some x→Pick cs (off+i*k) k x)
theorem LsAt.x {w:World} {E k:Nat} {v:Value} {xs:List (List Value)} (h:LsAt w E k v xs):LsX w k v xs:=by
  obtain ⟨ad,cap,rfl,h⟩:=h
  refine ⟨ad,cap,rfl,fun hn=>?_⟩
  obtain ⟨b,off,cs,fz,h1,_,h2,h3⟩:=h hn
  exact ⟨b,off,cs,E,fz,h1,h2,h3⟩
end Go.Proofs.YtalffooghioekaaGreatDoorX

namespace Go.Proofs.YtalffooghioekaaGreatDoorX
open Go Go.RowKit
attribute [local irreducible] XS XC XA thenE blockE retE loopE loopS cutB cutN doneE SE
structure Cf where
  cores:Int
  tasks:Int
  tick:Int
  slice:Int
  origin:Int
def cfv (c:Cf):Value := .agg #[.int .i64 c.cores,.int .i64 c.tasks,.int .u64 c.tick,.int .u64 c.slice,.int .u64 c.origin]
def Cf.In (c:Cf):Prop:=In64 c.cores∧In64 c.tasks∧U64 c.tick∧U64 c.slice∧U64 c.origin
def withinE (n e:Int):Int:=if n < 1∨n > e then 3 else 0
theorem lwithin_ret (n e:Int) (w0:World):Ret Tryz.prog 111 #[.int .u64 n,.int .u64 e] w0 fun v w'=>v = .int .i64 (withinE n e)∧Only [] w0 w':=by
  have hs:=St.nil w0
  refine ret_of_xc Tryz.func111 (by kernel_rfl) rfl Tryz.ntmps111 rfl rfl rfl ?_
  repeat' (first|refine Nx.h ?_|fail)
  refine xc_region ?_ ?_;exact rfl
  refine vs (k:=?_)
  repeat' (first|refine Nx.h ?_|fail)
  refine xc_region ?_ ?_;exact rfl
  refine vs (k:=?_)
  refine vs (k:=?_)
  unfold withinE
  by_cases c1:n < 1
  · rw [decide_eq_true c1,if_pos (.inl c1)]
    repeat' (first|refine vs (k:=?_)|refine ps (k:=?_)|refine qRg ?_|refine Nx.h ?_|refine qCt ?_|fail)
    first | refine rt (hq:=?_) | refine rt' (hq:=?_)
    exact ⟨rfl,hs.only0 rfl⟩
  rw [decide_eq_false c1]
  refine vs (k:=?_)
  refine vs (k:=?_)
  refine vs (k:=?_)
  refine vs (k:=?_)
  by_cases c2:n > e
  · rw [decide_eq_true c2,if_pos (.inr c2)]
    repeat' (first|refine vs (k:=?_)|refine qRg ?_|refine Nx.h ?_|refine qCt ?_|fail)
    first | refine rt (hq:=?_) | refine rt' (hq:=?_)
    exact ⟨rfl,hs.only0 rfl⟩
  rw [decide_eq_false c2,if_neg (by omega)]
  repeat' (first|refine vs (k:=?_)|refine qRg ?_|refine Nx.h ?_|refine qCf ?_|fail)
  first | refine rt (hq:=?_) | refine rt' (hq:=?_)
  exact ⟨rfl,hs.only0 rfl⟩
def errR (e:Int):List Value:=[.int .i64 e]
def allE:List Int→Int
  | []=>0
  | e :: l=>if e≠0 then e else allE l
theorem allE_drop {l:List Int} {i:Nat} (h:i < l.length):allE (l.drop i)=if l[i]≠0 then l[i] else allE (l.drop (i+1)):=by rw [List.drop_eq_getElem_cons h];rfl
set_option maxHeartbeats 4000000 in
theorem all_ret (l:List Int) (sl:Value) (hm:l.length≤9223372036854775807) (w0:World) (hL:LsX w0 1 sl (l.map errR)):Ret Tryz.prog 74 #[sl] w0 fun v w'=>v = .int .i64 (allE l)∧Only [] w0 w':=by
  obtain ⟨ad,cap,rfl,hD⟩:=hL
  rw [List.length_map] at *
  have hs:=St.nil w0
  refine ret_of_xc Tryz.func74 (by kernel_rfl) rfl Tryz.ntmps74 rfl rfl rfl ?_
  repeat' (first|refine vs (k:=?_)|refine qRg ?_|refine Nx.h ?_|fail)
  refine xc_cutB (fun (_:Unit)=>[]) (fun _ w=>allE l=0∧Only [] w0 w) ?_ ?_
  · refine xc_loopS (fun (i:Nat)=>[(5,.slice ad l.length cap),(6,.int .i64 (l.length:Nat)),(7,.int .i64 (i:Nat))]) (fun i w=>i≤l.length∧allE (l.drop i)=allE l∧Only [] w0 w) (fun i=>l.length - i) 0 (by (repeat (first | exact agree_nil | (apply agree_cons;exact rfl)))) ⟨Nat.zero_le _,by rw [List.drop_zero],hs.only0 rfl⟩ fun i env wl ⟨hi,he,ho0⟩=>?_
    clear hs
    have hs:=St.nil wl
    repeat' (first|refine vs (k:=?_)|refine qRg ?_|refine Nx.h ?_|(refine xc_if rfl (fun hc=>?_) (fun hc=>?_))|fail)
    · have hlt:i < l.length:=by omega
      obtain ⟨b,off,cs,E,fz,rfl,hb,hcs⟩:=hD (fun h=>by have:=congrArg List.length h;rw [List.length_map,List.length_nil] at this;omega)
      have hpk:=hcs i (errR l[i]) (by rw [List.getElem?_map,List.getElem?_eq_getElem hlt];rfl)
      have ei:=nx64 (m:=l.length) hlt hm
      rw [allE_drop hlt] at he
      generalize l[i]=q at *
      refine ix (h0:=(by omega)) (h1:=(by omega)) (k:=?_)
      refine lh (ho0.block hb (by simp)) (by cases hpk;assumption) (k:=?_)
      by_cases hq:q=0
      · subst hq
        rw [if_neg (by simp)] at he
        repeat' (first|refine vs (k:=?_)|refine qRg ?_|refine Nx.h ?_|refine qCf ?_|fail)
        exact loopS_next (i+1) (by show l.length - (i+1) < l.length - i;omega) (by (repeat (first | exact agree_nil | (apply agree_cons;first | exact rfl | exact congrArg (Value.int .i64) ei)))) ⟨by show i+1≤_;omega,he,ho0.trans (hs.only0 rfl)⟩
      · rw [if_pos hq] at he
        repeat' (first|refine vs (k:=?_)|refine qRg ?_|refine Nx.h ?_|(refine xc_cond rfl (fun hc=>?_) (fun hc=>?_))|fail)
        · first | refine rt (hq:=?_) | refine rt' (hq:=?_)
          exact ⟨by rw [← he];rfl,ho0.trans (hs.only0 rfl)⟩
        · exact absurd (by simpa using hc) hq
    · have e:i=l.length:=by omega
      subst e
      rw [List.drop_length] at he
      exact cutB_exit () (by (repeat (first | exact agree_nil | (apply agree_cons;exact rfl)))) ⟨he.symm,ho0⟩
  · rintro _ env w ⟨he,ho0⟩
    clear hs
    have hs:=St.nil w
    repeat' (first|refine vs (k:=?_)|refine qRg ?_|refine Nx.h ?_|fail)
    first | refine rt (hq:=?_) | refine rt' (hq:=?_)
    exact ⟨by rw [he];rfl,ho0.trans (hs.only0 rfl)⟩
def coreE (c:Cf) (k:Int):Int:=if k < 0∨k≥c.cores then 5 else 0
theorem ccore_ret (c:Cf) (k:Int) (w0:World):Ret Tryz.prog 64 #[cfv c,.int .i64 k] w0 fun v w'=>v = .int .i64 (coreE c k)∧Only [] w0 w':=by
  have hs:=St.nil w0
  refine ret_of_xc Tryz.func64 (by kernel_rfl) rfl Tryz.ntmps64 rfl rfl rfl ?_
  repeat' (first|refine Nx.h ?_|fail)
  refine xc_region ?_ ?_;exact rfl
  refine bx hs (k:=?_);intro b w hz hs
  refine vs (k:=?_)
  repeat' (first|refine Nx.h ?_|fail)
  refine xc_region ?_ ?_;exact rfl
  refine vs (k:=?_)
  refine vs (k:=?_)
  unfold coreE
  by_cases c1:k < 0
  · rw [decide_eq_true c1,if_pos (.inl c1)]
    repeat' (first|refine vs (k:=?_)|refine ps (k:=?_)|refine qRg ?_|refine Nx.h ?_|refine qCt ?_|fail)
    first | refine rt (hq:=?_) | refine rt' (hq:=?_)
    exact ⟨rfl,hs.only0 rfl⟩
  rw [decide_eq_false c1]
  refine vs (k:=?_)
  refine vs (k:=?_)
  refine vs (k:=?_)
  refine vs (k:=?_)
  refine vs (k:=?_)
  by_cases c2:c.cores≤k
  · rw [decide_eq_true c2,if_pos (.inr c2)]
    repeat' (first|refine vs (k:=?_)|refine qRg ?_|refine Nx.h ?_|refine qCt ?_|fail)
    first | refine rt (hq:=?_) | refine rt' (hq:=?_)
    exact ⟨rfl,hs.only0 rfl⟩
  rw [decide_eq_false c2,if_neg (by omega)]
  repeat' (first|refine vs (k:=?_)|refine qRg ?_|refine Nx.h ?_|refine qCf ?_|fail)
  first | refine rt (hq:=?_) | refine rt' (hq:=?_)
  exact ⟨rfl,hs.only0 rfl⟩
def capN (n:Int):Int:=if 1099511627776 < n then 1099511627776 else n
theorem crequest_ret (c:Cf) (n:Int) (w0:World):Ret Tryz.prog 76 #[cfv c,.int .u64 n] w0 fun v w'=>v = .int .i64 (withinE n (capN c.slice))∧Only [] w0 w':=by
  have hs:=St.nil w0
  refine ret_of_xc Tryz.func76 (by kernel_rfl) rfl Tryz.ntmps76 rfl rfl rfl ?_
  repeat' (first|refine vs (k:=?_)|(refine bx hs (k:=?_);intro b w hz hs)|refine qRg ?_|refine Nx.h ?_|fail)
  (with_reducible apply xs_call);exact rfl;exact rfl;exact lwithin_ret n (capN c.slice) _
  rintro v w' ⟨rfl,ho⟩;replace hs:=hs.call0 ho;repeat' (first|refine vs (k:=?_)|refine Nx.h ?_|fail)
  first | refine rt (hq:=?_) | refine rt' (hq:=?_)
  exact ⟨rfl,hs.only0 rfl⟩
theorem ctime_ret (c:Cf) (n:Int) (w0:World):Ret Tryz.prog 95 #[cfv c,.int .u64 n] w0 fun v w'=>v = .int .i64 (withinE n (capN c.tick))∧Only [] w0 w':=by
  have hs:=St.nil w0
  refine ret_of_xc Tryz.func95 (by kernel_rfl) rfl Tryz.ntmps95 rfl rfl rfl ?_
  repeat' (first|refine vs (k:=?_)|(refine bx hs (k:=?_);intro b w hz hs)|refine qRg ?_|refine Nx.h ?_|fail)
  (with_reducible apply xs_call);exact rfl;exact rfl;exact lwithin_ret n (capN c.tick) _
  rintro v w' ⟨rfl,ho⟩;replace hs:=hs.call0 ho;repeat' (first|refine vs (k:=?_)|refine Nx.h ?_|fail)
  first | refine rt (hq:=?_) | refine rt' (hq:=?_)
  exact ⟨rfl,hs.only0 rfl⟩
theorem cfweight_ret (c:Cf) (n:Int) (w0:World):Ret Tryz.prog 75 #[cfv c,.int .u64 n] w0 fun v w'=>v = .int .i64 (withinE n 1048576)∧Only [] w0 w':=by
  have hs:=St.nil w0
  refine ret_of_xc Tryz.func75 (by kernel_rfl) rfl Tryz.ntmps75 rfl rfl rfl ?_
  repeat' (first|refine vs (k:=?_)|(refine bx hs (k:=?_);intro b w hz hs)|refine qRg ?_|refine Nx.h ?_|fail)
  (with_reducible apply xs_call);exact rfl;exact rfl;exact lwithin_ret n 1048576 _
  rintro v w' ⟨rfl,ho⟩;replace hs:=hs.call0 ho;repeat' (first|refine vs (k:=?_)|refine Nx.h ?_|fail)
  first | refine rt (hq:=?_) | refine rt' (hq:=?_)
  exact ⟨rfl,hs.only0 rfl⟩
def keepF (c:Cf) (x s:Int):Int:=clampW x ((winC s c.tick).getD 0)
theorem winC_in (s t:Int):In64 ((winC s t).getD 0):=by
  unfold winC
  split
  · show In64 ((2*s+t)*1048576)
    unfold In64;omega
  · decide
theorem keep_ret (c:Cf) (x s:Int) (hc:c.In) (hx:InW x) (hs0:U64 s) (w0:World):Ret Tryz.prog 51 #[cfv c,wv x,.int .u64 s] w0 fun v w'=>v = .int .i64 (keepF c x s)∧Only [] w0 w':=by
  have hs:=St.nil w0
  refine ret_of_xc Tryz.func51 (by kernel_rfl) rfl Tryz.ntmps51 rfl rfl rfl ?_
  repeat' (first|refine vs (k:=?_)|(refine bx hs (k:=?_);intro b w hz hs)|refine qRg ?_|refine Nx.h ?_|fail)
  (with_reducible apply xs_call);exact rfl;exact rfl;exact window_ret s c.tick hs0 hc.2.2.1 _
  rintro v w' ⟨rfl,ho⟩;replace hs:=hs.call0 ho;repeat' (first|refine vs (k:=?_)|refine qRg ?_|refine Nx.h ?_|fail)
  (with_reducible apply xs_call);exact rfl;exact rfl;exact clamp_ret x ((winC s c.tick).getD 0) hx (winC_in _ _) _
  rintro v w' ⟨rfl,ho⟩;replace hs:=hs.call0 ho;repeat' (first|refine vs (k:=?_)|refine Nx.h ?_|fail)
  first | refine rt (hq:=?_) | refine rt' (hq:=?_)
  exact ⟨rfl,hs.only0 rfl⟩
def checkF (c:Cf):Int:=if c.cores < 1∨c.tasks < 1 then 3 else allE [withinE c.cores 8,withinE c.tasks 32,withinE c.tick 1099511627776,withinE c.slice 1099511627776]
set_option maxHeartbeats 4000000 in
theorem check_ret (c:Cf) (hc0:c.In) (w0:World):Ret Tryz.prog 58 #[cfv c] w0 fun v w'=>v = .int .i64 (checkF c)∧Only [] w0 w':=by
  obtain ⟨i1,i2,i3,i4,i5⟩:=hc0
  unfold In64 at i1 i2
  have hs:=St.nil w0
  refine ret_of_xc Tryz.func58 (by kernel_rfl) rfl Tryz.ntmps58 rfl rfl rfl ?_
  repeat' (first|refine Nx.h ?_|fail)
  refine xc_region ?_ ?_;exact rfl
  refine bx hs (k:=?_);intro b w hz hs
  refine vs (k:=?_)
  repeat' (first|refine Nx.h ?_|fail)
  refine xc_region ?_ ?_;exact rfl
  refine vs (k:=?_)
  refine vs (k:=?_)
  refine vs (k:=?_)
  unfold checkF
  by_cases c1:c.cores < 1
  · rw [decide_eq_true c1,if_pos (.inl c1)]
    repeat' (first|refine vs (k:=?_)|refine ps (k:=?_)|refine qRg ?_|refine Nx.h ?_|refine qCt ?_|fail)
    first | refine rt (hq:=?_) | refine rt' (hq:=?_)
    exact ⟨rfl,hs.only0 rfl⟩
  rw [decide_eq_false c1]
  refine vs (k:=?_)
  refine vs (k:=?_)
  refine vs (k:=?_)
  refine vs (k:=?_)
  by_cases c2:c.tasks < 1
  · rw [decide_eq_true c2,if_pos (.inr c2)]
    repeat' (first|refine vs (k:=?_)|refine qRg ?_|refine Nx.h ?_|refine qCt ?_|fail)
    first | refine rt (hq:=?_) | refine rt' (hq:=?_)
    exact ⟨rfl,hs.only0 rfl⟩
  rw [decide_eq_false c2,if_neg (by omega)]
  repeat' (first|refine vs (k:=?_)|refine Nx.h ?_|refine qCf ?_|fail)
  have e1:IntKind.u64.wrap c.cores=c.cores:=by rw [wrap_u64];omega
  have e2:IntKind.u64.wrap c.tasks=c.tasks:=by rw [wrap_u64];omega
  refine dr [] hs (k:=?_);intro hX w hs
  refine tk 0 hX (k:=?_)
  refine tk 1 hX (k:=?_)
  refine tk 2 hX (k:=?_)
  refine tk 4 hX (k:=?_)
  refine tk 5 hX (k:=?_)
  refine tk 6 hX (k:=?_)
  refine tk 8 hX (k:=?_)
  refine tk 9 hX (k:=?_)
  refine tk 11 hX (k:=?_)
  refine tk 12 hX (k:=?_)
  refine dt 3 hX (k:=?_)
  (with_reducible apply xs_call);exact rfl;exact rfl;exact lwithin_ret (IntKind.u64.wrap c.cores) 8 _
  rw [e1]
  rintro v w' ⟨rfl,ho⟩;replace hs:=hs.call0 ho;repeat' (first|refine Nx.h ?_|fail)
  refine dn (k:=?_)
  refine dt 7 hX (k:=?_)
  (with_reducible apply xs_call);exact rfl;exact rfl;exact lwithin_ret (IntKind.u64.wrap c.tasks) 32 _
  rw [e2]
  rintro v w' ⟨rfl,ho⟩;replace hs:=hs.call0 ho;repeat' (first|refine Nx.h ?_|fail)
  refine dn (k:=?_)
  refine dt 10 hX (k:=?_)
  (with_reducible apply xs_call);exact rfl;exact rfl;exact lwithin_ret c.tick 1099511627776 _
  rintro v w' ⟨rfl,ho⟩;replace hs:=hs.call0 ho;repeat' (first|refine Nx.h ?_|fail)
  refine dn (k:=?_)
  refine dt 13 hX (k:=?_)
  (with_reducible apply xs_call);exact rfl;exact rfl;exact lwithin_ret c.slice 1099511627776 _
  rintro v w' ⟨rfl,ho⟩;replace hs:=hs.call0 ho;repeat' (first|refine Nx.h ?_|fail)
  refine dn (k:=?_)
  refine dt 14 hX (k:=?_)
  repeat' (first|(refine bs hs (k:=?_);intro b w hz hs)|refine Nx.h ?_|fail)
  refine dn (k:=?_)
  refine dt 15 hX (k:=?_)
  (with_reducible apply xs_call);exact rfl;exact rfl;exact all_ret [withinE c.cores 8,withinE c.tasks 32,withinE c.tick 1099511627776,withinE c.slice 1099511627776] _ (by simp) _ (lit_ls (n:=4) (hs.get At.head) rfl (fun x hx=>by obtain ⟨e,_,rfl⟩:=List.mem_map.1 hx;rfl) rfl).x
  rintro v w' ⟨rfl,ho⟩;replace hs:=hs.call0 ho;repeat' (first|refine Nx.h ?_|fail)
  refine dn (k:=?_)
  refine tk 16 hX (k:=?_)
  refine en (k:=?_)
  repeat' (first|refine Nx.h ?_|fail)
  first | refine rt (hq:=?_) | refine rt' (hq:=?_)
  exact ⟨rfl,hs.only0 rfl⟩
end Go.Proofs.YtalffooghioekaaGreatDoorX

namespace Go.Proofs.YtalffooghioekaaGreatDoorX
open Go Go.RowKit
attribute [local irreducible] XS XC XA thenE blockE retE loopE loopS cutB cutN doneE SE
set_option maxHeartbeats 4000000 in
theorem awake19_ret (w0:World) (ht:Pows w0):Ret Tryz.prog 186 #[] w0 fun v w'=>v = .bool true∧Only [] w0 w':=by
  have hs:=St.nil w0
  refine ret_of_xc Tryz.func186 (by kernel_rfl) rfl Tryz.ntmps186 rfl rfl rfl ?_
  repeat' (first|refine vs (k:=?_)|(refine stA hs (k:=?_);intro w hs)|(refine al hs (k:=?_);intro b w hz hs)|refine qRg ?_|refine Nx.h ?_|fail)
  (with_reducible apply xs_call);exact rfl;exact rfl;exact Awake18_ret _ (tab_only ht (hs.only0 rfl))
  rintro v w' ⟨rfl,ho⟩;replace hs:=hs.call0 ho;repeat' (first|refine vs (k:=?_)|fail)
  (with_reducible apply xs_call);exact rfl;exact rfl;exact check_ret ⟨2,3,4,5,0⟩ (by unfold Cf.In;decide) _
  rw [show checkF ⟨2,3,4,5,0⟩=0 by decide]
  rintro v w' ⟨rfl,ho⟩;replace hs:=hs.call0 ho;repeat' (first|refine vs (k:=?_)|fail)
  (with_reducible apply xs_call);exact rfl;exact rfl;exact ccore_ret ⟨2,3,4,5,0⟩ 2 _
  rw [show coreE ⟨2,3,4,5,0⟩ 2=5 by decide]
  rintro v w' ⟨rfl,ho⟩;replace hs:=hs.call0 ho;repeat' (first|refine vs (k:=?_)|fail)
  (with_reducible apply xs_call);exact rfl;exact rfl;exact ccore_ret ⟨2,3,4,5,0⟩ 1 _
  rw [show coreE ⟨2,3,4,5,0⟩ 1=0 by decide]
  rintro v w' ⟨rfl,ho⟩;replace hs:=hs.call0 ho;repeat' (first|refine vs (k:=?_)|refine Nx.h ?_|fail)
  first | refine rt (hq:=?_) | refine rt' (hq:=?_)
  exact ⟨rfl,hs.only0 rfl⟩
theorem Awake19_ret (w0:World) (ht:Pows w0):Ret Tryz.prog 156 #[] w0 fun v w'=>v = .bool true∧Only [] w0 w':=by
  have hs:=St.nil w0
  refine ret_of_xc Tryz.func156 (by kernel_rfl) rfl Tryz.ntmps156 rfl rfl rfl ?_
  repeat' (first|refine vs (k:=?_)|refine qRg ?_|refine Nx.h ?_|fail)
  (with_reducible apply xs_call);exact rfl;exact rfl;exact awake19_ret _ (tab_only ht (hs.only0 rfl))
  rintro v w' ⟨rfl,ho⟩;replace hs:=hs.call0 ho;repeat' (first|refine vs (k:=?_)|refine Nx.h ?_|fail)
  first | refine rt (hq:=?_) | refine rt' (hq:=?_)
  exact ⟨rfl,hs.only0 rfl⟩
end Go.Proofs.YtalffooghioekaaGreatDoorX

namespace Go.Proofs.YtalffooghioekaaGreatDoorX
open Go Go.RowKit
attribute [local irreducible] XS XC XA thenE blockE retE loopE loopS cutB cutN doneE SE
theorem made_rows (zs:List Value) (k:Nat) (hk:zs.length=k) (h0:0 < k):∀ m:Nat,madeCells zs.toArray (m*k)=((List.replicate m zs).flatten).toArray:=by
  have H:∀ m:Nat,(List.range (m*k)).map (fun i=>zs.toArray[i % zs.toArray.size]!)=(List.replicate m zs).flatten:=fun m=>by
    induction m with
    | zero=>simp
    | succ m ih =>
      rw [Nat.add_mul,Nat.one_mul,List.range_add,List.map_append,ih,List.replicate_succ',List.flatten_append,List.flatten_singleton,List.map_map]
      congr 1
      apply List.ext_getElem
      · simp [hk]
      · intro i h1 h2
        simp only [List.length_map,List.length_range] at h1
        simp only [List.getElem_map,List.getElem_range,Function.comp,List.size_toArray,hk]
        rw [show (m*k+i) % k=i by rw [Nat.mul_comm,Nat.mul_add_mod,Nat.mod_eq_of_lt h1]]
        simp [h2]
  intro m
  apply Array.toList_inj.1
  rw [← H m]
  simp [madeCells]
section
variable {P : Program} {ops : Array Oper} {QE : Exit → Env → World → Prop} {n : Nat} {rest : List Oper} {env : Env} {w wb : World} {D : Ctx} {H : List Ent} {T : Tab}
  {d:Option Nat} {ty:Nat} {pos:String} {aft:Array Edge} {g:Option (Nat × Bool)}
theorem xs_makeR (hT:TabOk P T) {t e size bytes m:Nat} {zs:List Value} {x y:Operand} {kl kc:IntKind} (hw:wantedE ops env g=true) (hsl:look t T.sls=some (e,size,bytes)) (hz:look e T.zs=some zs) (hzl:Nat.beq zs.length size=true) (h0:Nat.ble 1 size=true)
    (hx:ev env x = .int kl (m:Nat)) (hy:ev env y = .int kc (m:Nat)) (hb:bytes*m≤281474976710656) (hm:m≤9223372036854775807) (hs:St wb D H w)
    (k:∀ b w',w'.heap.size=w.heap.size+1→St wb D ((b,.cells ((List.replicate m zs).flatten).toArray e,true) :: H) w'→XS P ops QE n rest (updO env d (.slice (some ⟨b,0,none⟩) m m)) w') :
    XS P ops QE n (⟨d,.makeSlice t x y,ty,pos,aft,g⟩ :: rest) env w:=by
  obtain ⟨hu,i,hi,hs1,hs2⟩:=sl_parts (hT.sl hsl)
  obtain ⟨i',z,hi',hz',hzc⟩:=z_parts (hT.z hz)
  rw [hi] at hi';cases hi'
  have hr:=run_make (P:=P) w t e i z hu hi hz' kl kc (m:Nat) (m:Nat) (by omega) (Int.le_refl _) (by rw [hs2,← Int.natCast_mul];omega) (by omega)
  rw [hs1,hzc,Int.toNat_natCast,made_rows zs size (Nat.eq_of_beq_eq_true hzl) (Nat.le_of_ble_eq_true h0)] at hr
  refine XS.value hw (v := .slice (some ⟨w.heap.size,0,none⟩) m m) (w':=w.alloc (.cells ((List.replicate m zs).flatten).toArray e)) ?_ (k w.heap.size _ (by simp) (hs.alloc _))
  simp [execOp,hx,hy,Sem.run_bind,hr]
end
structure Tk where
  id:Int
  st:Int
  core:Int
  w:Int
  slice:Int
  lag:Int
deriving DecidableEq
abbrev Tk.cells (x:Tk):List Value:=[.int .i64 x.id,.int .u8 x.st,.int .i64 x.core,.int .u32 x.w,.int .u64 x.slice,.int .i64 x.lag]
def tkv (x:Tk):Value := .agg #[.int .i64 x.id,.int .u8 x.st,.int .i64 x.core,.int .u32 x.w,.int .u64 x.slice,.int .i64 x.lag]
def Tk.zero:Tk:=⟨0,0,0,0,0,0⟩
def flatTk (l:List Tk):List Value:=(l.map Tk.cells).flatten
abbrev tabO (rb n cap:Nat):Obj := .cells #[.slice (some ⟨rb,0,none⟩) n cap] 115 (0,0)
abbrev rowsO (l:List Tk) (rest:List Value):Obj := .cells (flatTk l ++ rest).toArray 51 (0,0)
def TabAt (w:World) (tb rb:Nat) (l:List Tk):Prop:=∃ cap rest,w.heap[tb]?=some (tabO rb l.length cap)∧w.heap[rb]?=some (rowsO l rest)∧l.length≤32∧l.length≤cap∧rest.length+l.length*6=cap*6
theorem TabAt.keep {w w':World} {tb rb:Nat} {l:List Tk} {F:List Nat} (h:TabAt w tb rb l) (ho:Only F w w') (h1:tb∉F) (h2:rb∉F):TabAt w' tb rb l:=by
  obtain ⟨cap,rest,a,b,c⟩:=h
  exact ⟨cap,rest,ho.block a h1,ho.block b h2,c⟩
theorem TabAt.only {w w':World} {tb rb:Nat} {l:List Tk} (h:TabAt w tb rb l) (ho:Only [] w w'):TabAt w' tb rb l:=h.keep ho (by simp) (by simp)
theorem pick_app {cs more vs:List Value} {off n:Nat} (h:Pick cs off n vs):Pick (cs ++ more) off n vs:=by
  induction h with
  | nil=>exact .nil
  | cons h1 _ ih=>exact .cons (by rw [List.getElem?_append_left (by
      rcases Nat.lt_or_ge _ cs.length with h | h
      · exact h
      · rw [List.getElem?_eq_none h] at h1;cases h1)];exact h1) ih
theorem flatTk_row {l:List Tk} {rest:List Value} {i:Nat} (h:i < l.length):Pick (flatTk l ++ rest) (i*6) 6 l[i].cells:=by
  refine pick_app (pick_of rfl ?_)
  unfold flatTk
  exact flat_row (fun y hy=>by obtain ⟨x,_,rfl⟩:=List.mem_map.1 hy;rfl) (by rw [List.getElem?_map,List.getElem?_eq_getElem h];rfl)
def sizeT (n:Int):Nat:=(max 0 (min n 32)).toNat
theorem tnew_ret (n:Int) (w0:World):Ret Tryz.prog 59 #[.int .i64 n] w0 fun v w'=>(∃ tb rb,v = .pointer (some ⟨tb,0,none⟩)∧TabAt w' tb rb (List.replicate (sizeT n) .zero)∧w0.heap.size≤tb∧w0.heap.size≤rb∧tb≠rb)∧Only [] w0 w':=by
  have hs:=St.nil w0
  refine ret_of_xc Tryz.func59 (by kernel_rfl) rfl Tryz.ntmps59 rfl rfl rfl ?_
  repeat' (first|refine vs (k:=?_)|refine qRg ?_|refine Nx.h ?_|fail)
  have hle:sizeT n≤32:=by unfold sizeT;omega
  rw [show (if (if (32:Int) < n then 32 else n) > 0 then (if (32:Int) < n then 32 else n) else 0)=((sizeT n:Nat):Int) by unfold sizeT;split <;> split <;> omega]
  generalize sizeT n=m at *
  refine xs_makeR tabOk (m:=m) rfl rfl rfl rfl rfl rfl rfl (by omega) (by omega) hs (k:=?_)
  intro rb w1 hz1 hs
  have g1:=hs.new _ List.mem_cons_self rfl
  simp only at g1
  refine vs (k:=?_)
  refine bx hs (k:=?_);intro tb w2 hz2 hs
  have g2:=hs.new _ List.mem_cons_self rfl
  simp only at g2
  have hnd:=hs.nd
  simp only [List.map_cons,List.nodup_cons,List.mem_cons,List.map_nil,List.not_mem_nil,or_false] at hnd
  repeat' (first|refine vs (k:=?_)|refine Nx.h ?_|fail)
  first | refine rt (hq:=?_) | refine rt' (hq:=?_)
  refine ⟨⟨tb,rb,rfl,⟨m,[],?_,?_,by rw [List.length_replicate];exact hle,by rw [List.length_replicate];exact ⟨Nat.le_refl _,by simp⟩⟩,g2,g1,hnd.1⟩,hs.only0 rfl⟩
  · rw [List.length_replicate];exact hs.get At.head
  · have:=hs.get (At.tail At.head)
    rw [this]
    unfold rowsO flatTk
    rw [List.map_replicate,List.append_nil];rfl
theorem tright_ret (x:Tk) (w0:World):Ret Tryz.prog 124 #[tkv x] w0 fun v w'=>v = .bool (decide (1≤x.st) && decide (x.st≤3))∧Only [] w0 w':=by
  have hs:=St.nil w0
  refine ret_of_xc Tryz.func124 (by kernel_rfl) rfl Tryz.ntmps124 rfl rfl rfl ?_
  repeat' (first|refine vs (k:=?_)|refine ps (k:=?_)|(refine bx hs (k:=?_);intro b w hz hs)|refine qRg ?_|refine Nx.h ?_|((with_reducible apply xs_guard);exact rfl;exact rfl;intro c hc;(fail_if_success have:true=c:=hc);(fail_if_success have:false=c:=hc);cases c)|fail)
  all_goals (first | refine rt (hq:=?_) | refine rt' (hq:=?_))
  all_goals refine ⟨?_,hs.only0 rfl⟩
  all_goals clear hs
  · have h1:decide (1≤x.st)=false:=hc
    rw [h1];rfl
  · have h1:decide (1≤x.st)=true:=hc
    rw [h1];rfl
end Go.Proofs.YtalffooghioekaaGreatDoorX

namespace Go.Proofs.YtalffooghioekaaGreatDoorX
open Go Go.RowKit
attribute [local irreducible] XS XC XA thenE blockE retE loopE loopS cutB cutN doneE SE
def findT (l:List Tk) (id:Int):Option Nat:=if 1≤id∧id≤l.length∧(l.getD (id - 1).toNat .zero).st≠0 then some (id - 1).toNat else none
theorem findT_lt {l:List Tk} {id:Int} {i:Nat} (h:findT l id=some i):i < l.length∧id=(i:Int)+1:=by
  unfold findT at h
  split at h
  · cases h;omega
  · cases h
def posT (o:Option Nat):Int:=match o with | some i=>(i:Int) | none=>0
def errT (o:Option Nat):Int:=match o with | some _=>0 | none=>4
set_option maxHeartbeats 4000000 in
theorem tfind_ret (tb rb:Nat) (l:List Tk) (id:Int) (w0:World) (h:TabAt w0 tb rb l) (hid:In64 id):Ret Tryz.prog 61 #[.pointer (some ⟨tb,0,none⟩),.int .i64 id] w0 fun v w'=>v = .tuple #[.int .i64 (posT (findT l id)),.int .i64 (errT (findT l id))]∧Only [] w0 w':=by
  obtain ⟨cap,rest,h1,h2,h3,h4⟩:=h
  have hs:=((St.nil w0).trackT h1).trackT h2
  refine ret_of_xc Tryz.func61 (by kernel_rfl) rfl Tryz.ntmps61 rfl rfl rfl ?_
  repeat' (first|refine Nx.h ?_|fail)
  refine xc_region ?_ ?_;exact rfl
  refine vs (k:=?_)
  refine vs (k:=?_)
  repeat' (first|refine Nx.h ?_|fail)
  refine xc_region ?_ ?_;exact rfl
  refine vs (k:=?_)
  refine vs (k:=?_)
  refine vs (k:=?_)
  repeat' (first|refine Nx.h ?_|refine qCf ?_|fail)
  refine xc_region ?_ ?_;exact rfl
  refine vs (k:=?_)
  refine vs (k:=?_)
  by_cases c1:id < 1
  · have e:findT l id=none:=if_neg (by omega)
    rw [decide_eq_true c1,e]
    repeat' (first|refine vs (k:=?_)|refine ps (k:=?_)|refine qRg ?_|refine Nx.h ?_|refine qCt ?_|fail)
    first | refine rt (hq:=?_) | refine rt' (hq:=?_)
    exact ⟨rfl,hs.onlyF [] (by simp [h1,h2]) (by simp [D0])⟩
  rw [decide_eq_false c1]
  iterate 8 refine vs (k:=?_)
  by_cases c2:id > (l.length:Nat)
  · have e:findT l id=none:=if_neg (by omega)
    rw [decide_eq_true c2,e]
    repeat' (first|refine vs (k:=?_)|refine ps (k:=?_)|refine qRg ?_|refine Nx.h ?_|refine qCt ?_|fail)
    first | refine rt (hq:=?_) | refine rt' (hq:=?_)
    exact ⟨rfl,hs.onlyF [] (by simp [h1,h2]) (by simp [D0])⟩
  rw [decide_eq_false c2]
  obtain ⟨i,rfl⟩:∃ i:Nat,id=(i:Int)+1:=⟨(id - 1).toNat,by omega⟩
  have hi:i < l.length:=by omega
  have ew:IntKind.i64.wrap ((i:Int)+1 - 1)=(i:Int):=by rw [wrap_i64];omega
  have ei:((i:Int)+1 - 1).toNat=i:=by omega
  have hpk:=flatTk_row (rest:=rest) hi
  have eF:findT l ((i:Int)+1)=if l[i].st≠0 then some i else none:=by
    unfold findT
    rw [ei,List.getD_eq_getElem?_getD,List.getElem?_eq_getElem hi]
    by_cases hq:l[i].st=0
    · rw [if_neg (by simp [hq]),if_neg (by simp [hq])]
    · rw [if_pos ⟨by omega,by omega,by simpa using hq⟩,if_pos hq]
  generalize l[i]=q at *
  iterate 8 refine vs (k:=?_)
  rw [ew]
  refine ix (h0:=(by omega)) (h1:=(by omega)) (k:=?_)
  refine vs (k:=?_)
  refine lh (v := .int .u8 q.st) (hs.get At.head) ?_ (k:=?_)
  · cases hpk with | cons a t=>cases t with | cons a2 _=>simpa using a2
  refine vs (k:=?_)
  by_cases hq:q.st=0
  · rw [if_neg (by simp [hq])] at eF
    rw [eF,hq]
    repeat' (first|refine vs (k:=?_)|refine qRg ?_|refine Nx.h ?_|refine qCt ?_|fail)
    first | refine rt (hq:=?_) | refine rt' (hq:=?_)
    exact ⟨rfl,hs.onlyF [] (by simp [h1,h2]) (by simp [D0])⟩
  · rw [if_pos hq] at eF
    rw [eF,show (q.st == 0)=false by simpa using hq]
    repeat' (first|refine vs (k:=?_)|refine qRg ?_|refine Nx.h ?_|refine qCf ?_|fail)
    first | refine rt (hq:=?_) | refine rt' (hq:=?_)
    refine ⟨?_,hs.onlyF [] (by simp [h1,h2]) (by simp [D0])⟩
    show Value.tuple _=Value.tuple _
    rw [ew];rfl
def taskT (l:List Tk) (id:Int):Tk:=match findT l id with | some i=>l.getD i .zero | none => .zero
set_option maxHeartbeats 4000000 in
theorem ttask_ret (tb rb:Nat) (l:List Tk) (id:Int) (w0:World) (h:TabAt w0 tb rb l) (hid:In64 id):Ret Tryz.prog 19 #[.pointer (some ⟨tb,0,none⟩),.int .i64 id] w0 fun v w'=>v = .tuple #[tkv (taskT l id),.int .i64 (errT (findT l id))]∧Only [] w0 w':=by
  have hT:=h
  obtain ⟨cap,rest,h1,h2,h3,h4⟩:=h
  have hs:=((St.nil w0).trackT h1).trackT h2
  refine ret_of_xc Tryz.func19 (by kernel_rfl) rfl Tryz.ntmps19 rfl rfl rfl ?_
  refine xc_seq ?_
  refine xc_region ?_ ?_;exact rfl
  refine al hs (k:=?_);intro b4 w hz hs
  repeat' (first|refine vs (k:=?_)|refine qRg ?_|refine Nx.h ?_|fail)
  (with_reducible apply xs_call);exact rfl;exact rfl;exact tfind_ret tb rb l id _ (hT.only (hs.onlyF [] (by simp [h1,h2]) (by simp [D0]))) hid
  unfold taskT
  cases e:findT l id with
  | none =>
    rintro v w' ⟨rfl,ho⟩;replace hs:=hs.call0 ho;repeat' (first|refine vs (k:=?_)|(refine stA hs (k:=?_);intro w hs)|refine qRg ?_|refine Nx.h ?_|refine qCt ?_|fail)
    first | refine rt (hq:=?_) | refine rt' (hq:=?_)
    exact ⟨rfl,hs.onlyF [] (by simp [h1,h2]) (by simp [D0])⟩
  | some i =>
    obtain ⟨hi,_⟩:=findT_lt e
    have hpk:=flatTk_row (rest:=rest) hi
    have eG:l.getD i .zero=l[i]:=by rw [List.getD_eq_getElem?_getD,List.getElem?_eq_getElem hi];rfl
    simp only
    rw [eG]
    generalize l[i]=q at *
    rintro v w' ⟨rfl,ho⟩;replace hs:=hs.call0 ho;repeat' (first|refine vs (k:=?_)|refine qRg ?_|refine Nx.h ?_|refine qCf ?_|fail)
    refine ix (h0:=(by show (0:Int)≤(i:Int);omega)) (h1:=(by show (i:Int) < _;omega)) (k:=?_)
    refine lhK (vs:=q.cells) (hs.get (b:=rb) (o:=rowsO l rest) (by repeat (first | exact At.head | (with_reducible apply At.tail)))) ?_ (k:=?_)
    · simpa [posT] using hpk
    repeat' (first|refine vs (k:=?_)|(refine stA hs (k:=?_);intro w hs)|refine Nx.h ?_|fail)
    first | refine rt (hq:=?_) | refine rt' (hq:=?_)
    exact ⟨rfl,hs.onlyF [] (by simp [h1,h2]) (by simp [D0])⟩
end Go.Proofs.YtalffooghioekaaGreatDoorX

namespace Go.Proofs.YtalffooghioekaaGreatDoorX
open Go Go.RowKit
attribute [local irreducible] XS XC XA thenE blockE retE loopE loopS cutB cutN doneE SE
theorem flatTk_cons (x:Tk) (l:List Tk):flatTk (x :: l)=x.cells ++ flatTk l:=by simp [flatTk]
theorem put_row (y:Tk) {rest:List Value}:∀ {l:List Tk} {i:Nat},i < l.length→PutL (flatTk l ++ rest) (i*6) y.cells (flatTk (l.set i y) ++ rest)
  | [],i,h=>absurd h (Nat.not_lt_zero _)
  | x :: l,0,_=>by
    rw [flatTk_cons,List.set_cons_zero,flatTk_cons,List.append_assoc,List.append_assoc]
    exact .cons (.cons (.cons (.cons (.cons (.cons .nil)))))
  | x :: l,i+1,h=>by
    have ih:=put_row y (rest:=rest) (l:=l) (i:=i) (Nat.lt_of_succ_lt_succ h)
    rw [flatTk_cons,List.set_cons_succ,flatTk_cons,List.append_assoc,List.append_assoc,show (i+1)*6=i*6+1+1+1+1+1+1 by omega]
    exact .skip (.skip (.skip (.skip (.skip (.skip ih)))))
def dropT (l:List Tk) (id:Int):List Tk:=match findT l id with | some i=>l.set i .zero | none=>l
set_option maxHeartbeats 4000000 in
theorem tdrop_ret (tb rb:Nat) (l:List Tk) (id:Int) (w0:World) (h:TabAt w0 tb rb l) (hid:In64 id):Ret Tryz.prog 82 #[.pointer (some ⟨tb,0,none⟩),.int .i64 id] w0 fun v w'=>v = .int .i64 (errT (findT l id))∧TabAt w' tb rb (dropT l id)∧Only [rb] w0 w':=by
  have hT:=h
  obtain ⟨cap,rest,h1,h2,h3,h4⟩:=h
  have hs:=((St.nil w0).trackT h1).trackT h2
  refine ret_of_xc Tryz.func82 (by kernel_rfl) rfl Tryz.ntmps82 rfl rfl rfl ?_
  repeat' (first|refine vs (k:=?_)|refine qRg ?_|refine Nx.h ?_|fail)
  (with_reducible apply xs_call);exact rfl;exact rfl;exact tfind_ret tb rb l id _ (hT.only (hs.onlyF [] (by simp [h1,h2]) (by simp [D0]))) hid
  unfold dropT
  cases e:findT l id with
  | none =>
    rintro v w' ⟨rfl,ho⟩;replace hs:=hs.call0 ho;repeat' (first|refine vs (k:=?_)|refine qRg ?_|refine Nx.h ?_|refine qCf ?_|fail)
    first | refine rt (hq:=?_) | refine rt' (hq:=?_)
    have ho:=hs.onlyF [] (by simp [h1,h2]) (by simp [D0])
    exact ⟨rfl,hT.only ho,ho.weaken (by simp)⟩
  | some i =>
    obtain ⟨hi,_⟩:=findT_lt e
    have hpt:=put_row .zero (rest:=rest) hi
    rintro v w' ⟨rfl,ho⟩;replace hs:=hs.call0 ho;repeat' (first|refine vs (k:=?_)|refine qRg ?_|refine Nx.h ?_|refine qCt ?_|fail)
    refine ix (h0:=(by show (0:Int)≤(i:Int);omega)) (h1:=(by show (i:Int) < _;omega)) (k:=?_)
    refine stA hs (cs:=flatTk l ++ rest) (vs:=Tk.zero.cells) (cs':=flatTk (l.set i .zero) ++ rest) (hc:=?_) (k:=?_)
    · simpa [posT] using hpt
    intro w hs
    repeat' (first|refine vs (k:=?_)|refine qRg ?_|refine Nx.h ?_|fail)
    first | refine rt (hq:=?_) | refine rt' (hq:=?_)
    have ho:=hs.onlyF [rb] (by simp [h1]) (by simp [D0])
    refine ⟨rfl,⟨cap,rest,?_,hs.get At.head,by rw [List.length_set];exact h3,by rw [List.length_set];exact h4⟩,ho⟩
    rw [List.length_set];exact hs.get (At.tail At.head)
def rightT (x:Tk):Bool:=decide (1≤x.st) && decide (x.st≤3)
def setE (l:List Tk) (x:Tk):Int:=bif rightT x then errT (findT l x.id) else 2
def setT (l:List Tk) (x:Tk):List Tk:=bif rightT x then (match findT l x.id with | some i=>l.set i x | none=>l) else l
set_option maxHeartbeats 4000000 in
theorem tset_ret (tb rb:Nat) (l:List Tk) (x:Tk) (w0:World) (h:TabAt w0 tb rb l) (hid:In64 x.id):Ret Tryz.prog 85 #[.pointer (some ⟨tb,0,none⟩),tkv x] w0 fun v w'=>v = .int .i64 (setE l x)∧TabAt w' tb rb (setT l x)∧Only [rb] w0 w':=by
  have hT:=h
  obtain ⟨cap,rest,h1,h2,h3,h4⟩:=h
  have hs:=((St.nil w0).trackT h1).trackT h2
  have lb1:=lt_of_block h1
  have lb2:=lt_of_block h2
  refine ret_of_xc Tryz.func85 (by kernel_rfl) rfl Tryz.ntmps85 rfl rfl rfl ?_
  repeat' (first|refine vs (k:=?_)|(refine bx hs (k:=?_);intro b w hz hs)|refine qRg ?_|refine Nx.h ?_|refine qCf ?_|fail)
  (with_reducible apply xs_call);exact rfl;exact rfl;exact tright_ret x _
  rw [show (decide (1≤x.st) && decide (x.st≤3))=rightT x from rfl]
  unfold setE setT
  cases hr:rightT x with
  | false =>
    rintro v w' ⟨rfl,ho⟩;replace hs:=hs.call0 ho;repeat' (first|refine vs (k:=?_)|refine qRg ?_|refine Nx.h ?_|refine qCt ?_|fail)
    first | refine rt (hq:=?_) | refine rt' (hq:=?_)
    have ho:=hs.onlyF [] (by simp [h1,h2]) (by simp [D0])
    exact ⟨rfl,hT.only ho,ho.weaken (by simp)⟩
  | true =>
    rintro v w' ⟨rfl,ho⟩;replace hs:=hs.call0 ho;repeat' (first|refine vs (k:=?_)|refine qRg ?_|refine Nx.h ?_|refine qCf ?_|fail)
    (with_reducible apply xs_call);exact rfl;exact rfl;exact tfind_ret tb rb l x.id _ (hT.only (hs.onlyF [] (by simp [h1,h2]) (by simp [D0]))) hid
    simp only [cond_true]
    cases e:findT l x.id with
    | none =>
      rintro v w' ⟨rfl,ho⟩;replace hs:=hs.call0 ho;repeat' (first|refine vs (k:=?_)|refine qRg ?_|refine Nx.h ?_|refine qCf ?_|fail)
      first | refine rt (hq:=?_) | refine rt' (hq:=?_)
      have ho:=hs.onlyF [] (by simp [h1,h2]) (by simp [D0])
      exact ⟨rfl,hT.only ho,ho.weaken (by simp)⟩
    | some i =>
      obtain ⟨hi,_⟩:=findT_lt e
      have hpt:=put_row x (rest:=rest) hi
      rintro v w' ⟨rfl,ho⟩;replace hs:=hs.call0 ho;repeat' (first|refine vs (k:=?_)|refine qRg ?_|refine Nx.h ?_|refine qCt ?_|fail)
      refine dr [7] hs (k:=?_);intro hX w hs
      refine tk 0 hX (k:=?_)
      refine tk 1 hX (k:=?_)
      refine tk 2 hX (k:=?_)
      refine tk 3 hX (k:=?_)
      refine tk 4 hX (k:=?_)
      refine tk 5 hX (k:=?_)
      refine tk 6 hX (hr:=fun w' hH=>r_indexAddr tabOk rfl rfl rfl (by show (0:Int)≤(i:Int);omega) (by show (i:Int) < _;omega)) (k:=?_)
      refine dt 7 hX (k:=?_)
      refine stA hs (cs:=flatTk l ++ rest) (vs:=x.cells) (cs':=flatTk (l.set i x) ++ rest) (hc:=?_) (k:=?_)
      · simpa [posT] using hpt
      intro w hs
      refine XS.nil ?_
      refine dn (k:=?_)
      refine en (k:=?_)
      repeat' (first|refine vs (k:=?_)|refine qRg ?_|refine Nx.h ?_|fail)
      first | refine rt (hq:=?_) | refine rt' (hq:=?_)
      have ho:=hs.onlyF [rb] (by simp [h1]) (by simp [D0])
      refine ⟨rfl,⟨cap,rest,?_,hs.get (b:=rb) (by repeat (first | exact At.head | (with_reducible apply At.tail))),by rw [List.length_set];exact h3,by rw [List.length_set];exact h4⟩,ho⟩
      rw [List.length_set];exact hs.get (b:=tb) (by repeat (first | exact At.head | (with_reducible apply At.tail)))
end Go.Proofs.YtalffooghioekaaGreatDoorX

namespace Go.Proofs.YtalffooghioekaaGreatDoorX
open Go Go.RowKit
attribute [local irreducible] XS XC XA thenE blockE retE loopE loopS cutB cutN doneE SE
def freeT:List Tk→Option Nat
  | []=>none
  | x :: l=>if x.st=0 then some 0 else (freeT l).map (·+1)
theorem freeT_drop {l:List Tk} {i:Nat} (h:i < l.length):freeT (l.drop i)=if l[i].st=0 then some 0 else (freeT (l.drop (i+1))).map (·+1):=by rw [List.drop_eq_getElem_cons h];rfl
theorem freeT_lt:∀ {l:List Tk} {i:Nat},freeT l=some i→i < l.length
  | [],i,h=>by cases h
  | x :: l,i,h=>by
    unfold freeT at h
    split at h
    · cases h;simp
    · cases e:freeT l with
      | none=>rw [e] at h;cases h
      | some j=>rw [e] at h;cases h;have:=freeT_lt e;simp;omega
theorem add1_ret (x:Tk) (w0:World):Ret Tryz.prog 126 #[tkv x] w0 fun v w'=>v = .bool (x.st == 0)∧Only [] w0 w':=by
  have hs:=St.nil w0
  refine ret_of_xc Tryz.func126 (by kernel_rfl) rfl Tryz.ntmps126 rfl rfl rfl ?_
  repeat' (first|refine vs (k:=?_)|(refine bx hs (k:=?_);intro b w hz hs)|refine qRg ?_|refine Nx.h ?_|fail)
  first | refine rt (hq:=?_) | refine rt' (hq:=?_)
  exact ⟨rfl,hs.only0 rfl⟩
def idxT (o:Option Nat):Int:=match o with | some i=>(i:Int) | none=>-1
set_option maxHeartbeats 4000000 in
theorem indexF_ret (rb cap:Nat) (l:List Tk) (rest:List Value) (w0:World) (hm:l.length≤32) (h:w0.heap[rb]?=some (rowsO l rest)):Ret Tryz.prog 125 #[.slice (some ⟨rb,0,none⟩) l.length cap,.func (.func 126) #[] #[]] w0 fun v w'=>v = .int .i64 (idxT (freeT l))∧Only [] w0 w':=by
  have hs:=St.nil w0
  refine ret_of_xc Tryz.func125 (by kernel_rfl) rfl Tryz.ntmps125 rfl rfl rfl ?_
  repeat' (first|refine vs (k:=?_)|refine qRg ?_|refine Nx.h ?_|fail)
  refine xc_cutB (fun (_:Unit)=>[]) (fun _ w=>freeT l=none∧Only [] w0 w) ?_ ?_
  · refine xc_loopS (fun (i:Nat)=>[(0,.slice (some ⟨rb,0,none⟩) l.length cap),(1,.func (.func 126) #[] #[]),(7,.int .i64 (l.length:Nat)),(8,.int .i64 (i:Nat))]) (fun i w=>i≤l.length∧(freeT (l.drop i)).map (·+i)=freeT l∧Only [] w0 w) (fun i=>l.length - i) 0 (by (repeat (first | exact agree_nil | (apply agree_cons;exact rfl)))) ⟨Nat.zero_le _,by rw [List.drop_zero];cases freeT l <;> rfl,hs.only0 rfl⟩ fun i env wl ⟨hi,he,ho0⟩=>?_
    clear hs
    have hs:=St.nil wl
    repeat' (first|refine vs (k:=?_)|refine qRg ?_|refine Nx.h ?_|(refine xc_if rfl (fun hc=>?_) (fun hc=>?_))|fail)
    · have hlt:i < l.length:=by omega
      have hpk:=flatTk_row (rest:=rest) hlt
      have ei:=nx64 (m:=l.length) hlt (by omega)
      rw [freeT_drop hlt] at he
      generalize l[i]=q at *
      refine ix (h0:=(by omega)) (h1:=(by omega)) (k:=?_)
      refine lhK (vs:=q.cells) (ho0.block h (by simp)) ?_ (k:=?_)
      · simpa using hpk
      (with_reducible apply xs_call);exact rfl;exact rfl;exact add1_ret q _
      by_cases hq:q.st=0
      · rw [if_pos hq] at he
        rw [hq]
        rintro v w' ⟨rfl,ho⟩;replace hs:=hs.call0 ho;repeat' (first|refine vs (k:=?_)|refine qRg ?_|refine Nx.h ?_|refine qCt ?_|fail)
        first | refine rt (hq:=?_) | refine rt' (hq:=?_)
        exact ⟨by rw [← he];simp [idxT,packed],ho0.trans (hs.only0 rfl)⟩
      · rw [if_neg hq] at he
        rw [show (q.st == 0)=false by simpa using hq]
        rintro v w' ⟨rfl,ho⟩;replace hs:=hs.call0 ho;repeat' (first|refine vs (k:=?_)|refine qRg ?_|refine Nx.h ?_|refine qCf ?_|fail)
        refine loopS_next (i+1) (by show l.length - (i+1) < l.length - i;omega) (by (repeat (first | exact agree_nil | (apply agree_cons;first | exact rfl | exact congrArg (Value.int .i64) ei)))) ⟨by show i+1≤_;omega,?_,ho0.trans (hs.only0 rfl)⟩
        rw [← he]
        cases freeT (l.drop (i+1)) with
        | none=>rfl
        | some j=>simp;omega
    · have e:i=l.length:=by omega
      subst e
      rw [List.drop_length] at he
      exact cutB_exit () (by (repeat (first | exact agree_nil | (apply agree_cons;exact rfl)))) ⟨he.symm,ho0⟩
  · rintro _ env w ⟨he,ho0⟩
    clear hs
    have hs:=St.nil w
    repeat' (first|refine vs (k:=?_)|refine qRg ?_|refine Nx.h ?_|fail)
    first | refine rt (hq:=?_) | refine rt' (hq:=?_)
    exact ⟨by rw [he];rfl,ho0.trans (hs.only0 rfl)⟩
end Go.Proofs.YtalffooghioekaaGreatDoorX

namespace Go.Proofs.YtalffooghioekaaGreatDoorX
open Go Go.RowKit
attribute [local irreducible] XS XC XA thenE blockE retE loopE loopS cutB cutN doneE SE
def addI (l:List Tk) (x:Tk):Int:=bif rightT x then (match freeT l with | some i=>(i:Int)+1 | none=>0) else 0
def addE (l:List Tk) (x:Tk):Int:=bif rightT x then (match freeT l with | some _=>0 | none=>7) else 2
def addT (l:List Tk) (x:Tk):List Tk:=bif rightT x then (match freeT l with | some i=>l.set i { x with id:=(i:Int)+1 } | none=>l) else l
set_option maxHeartbeats 4000000 in
theorem tadd_ret (tb rb:Nat) (l:List Tk) (x:Tk) (w0:World) (h:TabAt w0 tb rb l):Ret Tryz.prog 77 #[.pointer (some ⟨tb,0,none⟩),tkv x] w0 fun v w'=>v = .tuple #[.int .i64 (addI l x),.int .i64 (addE l x)]∧TabAt w' tb rb (addT l x)∧Only [rb] w0 w':=by
  have hT:=h
  obtain ⟨cap,rest,h1,h2,h3,h4⟩:=h
  have hs:=((St.nil w0).trackT h1).trackT h2
  have lb1:=lt_of_block h1
  have lb2:=lt_of_block h2
  refine ret_of_xc Tryz.func77 (by kernel_rfl) rfl Tryz.ntmps77 rfl rfl rfl ?_
  repeat' (first|refine vs (k:=?_)|(refine bx hs (k:=?_);intro b w hz hs)|refine qRg ?_|refine Nx.h ?_|refine qCf ?_|fail)
  (with_reducible apply xs_call);exact rfl;exact rfl;exact tright_ret x _
  rw [show (decide (1≤x.st) && decide (x.st≤3))=rightT x from rfl]
  unfold addI addE addT
  cases hr:rightT x with
  | false =>
    rintro v w' ⟨rfl,ho⟩;replace hs:=hs.call0 ho;repeat' (first|refine vs (k:=?_)|refine qRg ?_|refine Nx.h ?_|refine qCt ?_|fail)
    first | refine rt (hq:=?_) | refine rt' (hq:=?_)
    have ho:=hs.onlyF [] (by simp [h1,h2]) (by simp [D0])
    exact ⟨rfl,hT.only ho,ho.weaken (by simp)⟩
  | true =>
    rintro v w' ⟨rfl,ho⟩;replace hs:=hs.call0 ho;repeat' (first|refine vs (k:=?_)|refine qRg ?_|refine Nx.h ?_|refine qCf ?_|fail)
    (with_reducible apply xs_call);exact rfl;exact rfl;exact indexF_ret rb cap l rest _ h3 (hs.get (b:=rb) (o:=rowsO l rest) (by repeat (first | exact At.head | (with_reducible apply At.tail))))
    simp only [cond_true]
    cases e:freeT l with
    | none =>
      rintro v w' ⟨rfl,ho⟩;replace hs:=hs.call0 ho;repeat' (first|refine vs (k:=?_)|refine qRg ?_|refine Nx.h ?_|refine qCt ?_|fail)
      first | refine rt (hq:=?_) | refine rt' (hq:=?_)
      have ho:=hs.onlyF [] (by simp [h1,h2]) (by simp [D0])
      exact ⟨rfl,hT.only ho,ho.weaken (by simp)⟩
    | some i =>
      have hi:=freeT_lt e
      have hpt:=put_row { x with id:=(i:Int)+1 } (rest:=rest) hi
      have ew:IntKind.i64.wrap ((i:Int)+1)=(i:Int)+1:=by rw [wrap_i64];omega
      rw [show idxT (some i)=(i:Int) from rfl]
      rintro v w' ⟨rfl,ho⟩;replace hs:=hs.call0 ho
      refine vs (k:=?_)
      repeat' (first|refine Nx.h ?_|fail)
      refine xc_region ?_ ?_;exact rfl
      refine vs (k:=?_)
      refine vs (k:=?_)
      rw [decide_eq_false (show ¬ ((i:Int) < 0) by omega)]
      repeat' (first|refine Nx.h ?_|refine qCf ?_|fail)
      refine xc_region ?_ ?_;exact rfl
      refine vs (k:=?_)
      refine vs (k:=?_)
      rw [ew]
      repeat' (first|refine vs (k:=?_)|(refine st hs (k:=?_);intro w hs)|refine Nx.h ?_|fail)
      refine dr [7] hs (k:=?_);intro hX w hs
      refine tk 0 hX (k:=?_)
      refine tk 1 hX (k:=?_)
      refine tk 2 hX (k:=?_)
      refine tk 3 hX (k:=?_)
      refine tk 4 hX (k:=?_)
      refine tk 5 hX (k:=?_)
      refine tk 6 hX (hr:=fun w' hH=>r_indexAddr tabOk rfl rfl rfl (by show (0:Int)≤(i:Int);omega) (by show (i:Int) < _;omega)) (k:=?_)
      refine dt 7 hX (k:=?_)
      refine stA hs (cs:=flatTk l ++ rest) (vs:=Tk.cells { x with id:=(i:Int)+1 }) (cs':=flatTk (l.set i { x with id:=(i:Int)+1 }) ++ rest) (hc:=?_) (k:=?_)
      · simpa using hpt
      intro w hs
      refine XS.nil ?_
      refine dn (k:=?_)
      refine en (k:=?_)
      repeat' (first|refine vs (k:=?_)|refine qRg ?_|refine Nx.h ?_|fail)
      first | refine rt (hq:=?_) | refine rt' (hq:=?_)
      have ho:=hs.onlyF [rb] (by simp [h1]) (by simp [D0])
      refine ⟨rfl,⟨cap,rest,?_,hs.get (b:=rb) (by repeat (first | exact At.head | (with_reducible apply At.tail))),by rw [List.length_set];exact h3,by rw [List.length_set];exact h4⟩,ho⟩
      rw [List.length_set];exact hs.get (b:=tb) (by repeat (first | exact At.head | (with_reducible apply At.tail)))
end Go.Proofs.YtalffooghioekaaGreatDoorX

namespace Go.Proofs.YtalffooghioekaaGreatDoorX
open Go Go.RowKit
attribute [local irreducible] XS XC XA thenE blockE retE loopE loopS cutB cutN doneE SE
def liveT (l:List Tk):List Tk:=l.filter fun x=>decide (x.st≠0)
end Go.Proofs.YtalffooghioekaaGreatDoorX

namespace Go.Proofs.YtalffooghioekaaGreatDoorX
open Go Go.RowKit
def IdsOk:Nat→List Tk→Prop
  | _,[]=>True
  | k,x :: l=>(x.st≠0→x.id=(k:Int)+1∧rightT x=true)∧IdsOk (k+1) l
theorem IdsOk.rep:∀ (m k:Nat),IdsOk k (List.replicate m .zero)
  | 0,_=>trivial
  | m+1,k=>⟨fun h=>absurd rfl h,IdsOk.rep m (k+1)⟩
theorem mem_live {l:List Tk} {x:Tk} (h:x∈liveT l):x.st≠0∧∃ i:Nat,l[i]?=some x:=by
  unfold liveT at h
  obtain ⟨a,b⟩:=List.mem_filter.1 h
  exact ⟨by simpa using b,List.mem_iff_getElem?.1 a⟩
theorem findT_row {l:List Tk} {i:Nat} {x:Tk} (h:l[i]?=some x):findT l ((i:Int)+1)=if x.st≠0 then some i else none:=by
  have hi:i < l.length:=by
    rcases Nat.lt_or_ge i l.length with h1 | h1
    · exact h1
    · rw [List.getElem?_eq_none h1] at h;cases h
  unfold findT
  rw [show ((i:Int)+1 - 1).toNat=i by omega,List.getD_eq_getElem?_getD,h]
  by_cases hq:x.st=0
  · rw [if_neg (by simp [hq]),if_neg (by simp [hq])]
  · rw [if_pos ⟨by omega,by omega,by simpa using hq⟩,if_pos hq]
theorem findT_some {l:List Tk} {id:Int} {i:Nat} (h:findT l id=some i):∃ x,l[i]?=some x∧x.st≠0∧id=(i:Int)+1:=by
  obtain ⟨hi,rfl⟩:=findT_lt h
  have e:=findT_row (List.getElem?_eq_getElem hi)
  rw [h] at e
  refine ⟨l[i],List.getElem?_eq_getElem hi,fun hq=>?_,rfl⟩
  rw [if_neg (by simp [hq])] at e
  cases e
theorem addT_len (l:List Tk) (x:Tk):(addT l x).length=l.length:=by
  unfold addT
  cases rightT x with
  | false=>rfl
  | true=>cases freeT l with
    | none=>rfl
    | some i=>exact List.length_set
theorem setT_len (l:List Tk) (x:Tk):(setT l x).length=l.length:=by
  unfold setT
  cases rightT x with
  | false=>rfl
  | true=>cases findT l x.id with
    | none=>rfl
    | some i=>exact List.length_set
end Go.Proofs.YtalffooghioekaaGreatDoorX

namespace Go.Proofs.YtalffooghioekaaGreatDoorX
open IB (IT)
def er (r:RT):RT:=wakeR r false
end Go.Proofs.YtalffooghioekaaGreatDoorX

namespace Go.Proofs.YtalffooghioekaaGreatDoorX
open IB (IT)
/-! Lists. -/
section
variable (f : RT → RT) (hf : ∀ r, idR (f r) = idR r)
include hf
end
/-! Sets. -/
/-! Lags, who goes, who runs. -/
end Go.Proofs.YtalffooghioekaaGreatDoorX

namespace Go.Proofs.YtalffooghioekaaGreatDoorX
open Go Go.RowKit
structure Ac16 where
  d:Int
  r:RT
theorem rzero_in:Rq.zero.In:=by decide
instance:Inhabited Ac16:=⟨⟨0,⟨.zero,rzero_in⟩⟩⟩
end Go.Proofs.YtalffooghioekaaGreatDoorX

namespace Go.Proofs.YtalffooghioekaaGreatDoorX
open Go Go.RowKit
end Go.Proofs.YtalffooghioekaaGreatDoorX

namespace Go.Proofs.YtalffooghioekaaGreatDoorX
open IB (IT)
/-! Cores. -/
/-! Ticks. -/
end Go.Proofs.YtalffooghioekaaGreatDoorX

namespace Go.Proofs.YtalffooghioekaaGreatDoorX
open IB (IT)
/-! An act, with its report. -/
structure Ac18 where
  d:Int
  id:Int
  w:Int
  ns:Int
  lag:Int
instance:Inhabited Ac18:=⟨⟨0,0,0,0,0⟩⟩
end Go.Proofs.YtalffooghioekaaGreatDoorX

namespace Go.Proofs.YtalffooghioekaaGreatDoorX
open Go Go.RowKit
attribute [local irreducible] XS XC XA thenE blockE retE loopE loopS cutB cutN doneE SE
end Go.Proofs.YtalffooghioekaaGreatDoorX

namespace Go.Proofs.YtalffooghioekaaGreatDoorX
open Go Go.RowKit
attribute [local irreducible] XS XC XA thenE blockE retE loopE loopS cutB cutN doneE SE
end Go.Proofs.YtalffooghioekaaGreatDoorX

namespace Go.Proofs.YtalffooghioekaaGreatDoorX
open Go Go.RowKit
attribute [local irreducible] XS XC XA thenE blockE retE loopE loopS cutB cutN doneE SE
abbrev boolO (x:Bool):Obj := .cells #[.bool x] 4 (0,0)
end Go.Proofs.YtalffooghioekaaGreatDoorX

namespace Go.Proofs.YtalffooghioekaaGreatDoorX
open IB (IT)
theorem Rep.w_pos {s:Ss} {A:As} (h:Rep s A) (e:A.l≠[]):0 < (mA A).w:=by
  have hc:=h.cen e
  rw [h.mean e] at hc
  have:=hc.a0
  have:=hc.a1
  unfold mA
  omega
theorem ext_l {A:As} {a:RT} (hf:findR A.l (idR a)=some a):(extA A (idR a)).l=delR (idR a) A.l:=by
  unfold extA
  rw [hf];rfl
theorem del_sub {i:Int} {l:List RT}:∀ x∈delR i l,x∈l∧idR x≠i:=fun x hx=>by
  obtain ⟨h1,h2⟩:=List.mem_filter.1 hx
  exact ⟨h1,by simpa using h2⟩
structure Flushed (A:As) (G:List Gn) (B:As):Prop where
  none:B.l.find? (goesA B)=none
  sub:∀ x∈B.l,x∈A.l
  gone:∀ g∈G,g.r.asleep=true∧0≤g.lag∧g.id∈A.l.map idR∧∀ x∈B.l,idR x≠g.id
  len:B.l.length+G.length=A.l.length
  awake:∀ x∈A.l,x.1.asleep=false→x∈B.l
theorem Rep.flushed:∀ {n:Nat} {s:Ss} {A:As},Rep s A→A.l.length≤n→Flushed A (Go.Proofs.YtalffooghioekaaGreatDoorX.flushN n A).1 (Go.Proofs.YtalffooghioekaaGreatDoorX.flushN n A).2
  | 0,s,A,h,hn=>by
    have e:A.l=[]:=List.eq_nil_of_length_eq_zero (Nat.le_zero.1 hn)
    exact ⟨(by show A.l.find? _=_;rw [e];rfl),fun x hx=>hx,fun g hg=>(by cases hg),(by show A.l.length+0=_;omega),fun x hx _=>hx⟩
  | n+1,s,A,h,hn=>by
    unfold Go.Proofs.YtalffooghioekaaGreatDoorX.flushN
    cases e:A.l.find? (goesA A) with
    | none=>exact ⟨e,fun x hx=>hx,fun g hg=>(by cases hg),(by show A.l.length+0=_;omega),fun x hx _=>hx⟩
    | some a =>
      have ha:=List.mem_of_find?_eq_some e
      have hgo:=List.find?_some e
      have hf:=findR_at h.o ha
      obtain ⟨_,_,e3⟩:=h.exit hf
      have hl:=(del_perm h.o hf).length_eq
      have hx:=ext_l hf
      simp only [List.length_cons] at hl
      have ih:=e3.flushed (n:=n) (by rw [hx];omega)
      unfold goesA at hgo
      rw [Bool.and_eq_true,decide_eq_true_iff] at hgo
      have hw:=h.w_pos (fun k=>by rw [k] at ha;cases ha)
      refine ⟨ih.none,fun x hx'=>?_,fun g hg=>?_,?_,fun x hx' hs=>ih.awake x ?_ hs⟩
      · have:=ih.sub x hx'
        rw [hx] at this
        exact (del_sub x this).1
      · rcases List.mem_cons.1 hg with rfl | hg
        · refine ⟨hgo.1,Int.ediv_nonneg hgo.2 (by omega),List.mem_map_of_mem ha,fun x hx'=>?_⟩
          have:=ih.sub x hx'
          rw [hx] at this
          exact (del_sub x this).2
        · obtain ⟨k1,k2,k3,k4⟩:=ih.gone g hg
          refine ⟨k1,k2,?_,k4⟩
          obtain ⟨y,hy,hyi⟩:=List.mem_map.1 k3
          rw [hx] at hy
          exact List.mem_map.2 ⟨y,(del_sub y hy).1,hyi⟩
      · have:=ih.len
        rw [hx] at this
        simp only [List.length_cons]
        omega
      · rw [hx]
        refine List.mem_filter.2 ⟨hx',?_⟩
        simp only [decide_eq_true_eq]
        intro k
        have:x=a:=h.o.inj x hx' a ha k
        subst this
        rw [hs] at hgo
        cases hgo.1
theorem Rep.flushF {s:Ss} {A:As} (h:Rep s A):Flushed A (flushA A).1 (flushA A).2:=h.flushed (Nat.le_refl _)
end Go.Proofs.YtalffooghioekaaGreatDoorX

namespace Go.Proofs.YtalffooghioekaaGreatDoorX
open IB (IT)
def InvC (c:Cs):Prop:=(c.run=0∧c.A.l=[])∨∃ a∈c.A.l,c.run=idR a∧0 < idR a∧a.1.asleep=false∧0≤ovA c.A a
theorem InvC.new (k:Int):InvC (newC k) := .inl ⟨rfl,rfl⟩
end Go.Proofs.YtalffooghioekaaGreatDoorX

namespace Go.Proofs.YtalffooghioekaaGreatDoorX
open IB (IT)
theorem tick_parts:∀ (k:Nat) (left:Int) (c:Cs) (r:Rp),0≤left→left≤1099511627776→(((tickN k left c r).2.2.p.length:Nat):Int)≤r.p.length+left
  | 0,left,c,r,h0,_=>by show ((r.p.length:Nat):Int)≤_;omega
  | k+1,left,c,r,h0,hl=>by
    unfold tickN
    split
    · split
      · rename_i hs
        have h1:=srv_step (c:=c) (most:=left) ⟨h0,by omega⟩ hs
        have ih:=tick_parts k (left - srvN c left) (setC (srvA c left)) (srvR c left r) (by omega) (by omega)
        have e:(srvR c left r).p.length=r.p.length+1:=by show (r.p ++ [srvP c left]).length=_;simp
        rw [e] at ih
        omega
      · show ((r.p.length:Nat):Int)≤_;omega
    · show ((r.p.length:Nat):Int)≤_;omega
theorem putE_found {A:As} {r:RT} (h:putE A r=0):r.1.right=true∧∃ a,findR A.l (idR r)=some a:=by
  unfold putE layE at h
  cases hr:r.1.right with
  | false=>rw [hr] at h;cases h
  | true =>
    rw [hr] at h
    have h:changeA A r.1.i=0:=h
    unfold changeA at h
    rw [rright_i hr] at h
    refine ⟨rfl,?_⟩
    cases e:findR A.l (idR r) with
    | some a=>exact ⟨a,rfl⟩
    | none =>
      rw [show r.1.i.id=idR r from rfl,e] at h
      cases h
theorem put_l {A:As} {r:RT} (h:putE A r=0):(putA A r).l=putR r A.l:=by unfold putA;rw [if_pos h]
theorem put_len {s:Ss} {A:As} (h:Rep s A) (r:RT):(putA A r).l.length=A.l.length:=by
  by_cases e:putE A r=0
  · obtain ⟨_,a,ha⟩:=putE_found e
    rw [put_l e,(put_perm2 h.o).length_eq,(del_perm h.o ha).length_eq];rfl
  · unfold putA;rw [if_neg e]
theorem rep_srv {s:Ss} {c:Cs} (h:Rep s c.A) (m:Int):∃ s',Rep s' (srvA c m).A:=⟨_,(h.put (srvY c m)).2.1⟩
theorem tick_gone:∀ (k:Nat) (left:Int) (c:Cs) (r:Rp),(∃ s,Rep s c.A)→(tickN k left c r).2.2.g.length+(tickN k left c r).2.1.A.l.length=r.g.length+c.A.l.length∧∃ s,Rep s (tickN k left c r).2.1.A
  | 0,left,c,r,h=>⟨rfl,h⟩
  | k+1,left,c,r,h=>by
    unfold tickN
    split
    · split
      · obtain ⟨s,hs⟩:=h
        obtain ⟨s1,h1⟩:=rep_srv hs left
        obtain ⟨s2,_,h2⟩:=h1.flush
        have hF:=h1.flushF.len
        have hp:(srvA c left).A.l.length=c.A.l.length:=put_len hs _
        obtain ⟨i1,i2⟩:=tick_gone k (left - srvN c left) (setC (srvA c left)) (srvR c left r) ⟨s2,h2⟩
        refine ⟨?_,i2⟩
        rw [i1]
        show (r.g ++ goneC (srvA c left)).length+(flushA (srvA c left).A).2.l.length=_
        rw [List.length_append]
        show r.g.length+(flushA (srvA c left).A).1.length+(flushA (srvA c left).A).2.l.length=_
        omega
      · exact ⟨rfl,h⟩
    · exact ⟨rfl,h⟩
end Go.Proofs.YtalffooghioekaaGreatDoorX

namespace Go.Proofs.YtalffooghioekaaGreatDoorX
open Go Go.RowKit
def RepC (c:Cs):Prop:=∃ s,Rep s c.A
theorem repC_set {c:Cs} (h:RepC c):RepC (setC c):=by
  obtain ⟨s,hs⟩:=h
  obtain ⟨s',_,h'⟩:=hs.flush
  exact ⟨s',h'⟩
theorem repC_join {c:Cs} (h:RepC c) (id q ns lag:Int):RepC (joinC c id q ns lag).2:=by
  obtain ⟨s,hs⟩:=h
  unfold joinC
  split
  · exact ⟨s,hs⟩
  · split
    · exact ⟨s,hs⟩
    · split
      · exact ⟨s,hs⟩
      · cases joinOk c id q ns lag with
        | none=>exact ⟨s,hs⟩
        | some r =>
          show RepC (if entE c.A r=0 then (0,(⟨entA c.A r,c.run,carryW c.carr (lagA (entA c.A r) id)⟩:Cs)) else (entE c.A r,c)).2
          split
          · exact ⟨_,(hs.enter r).2⟩
          · exact ⟨s,hs⟩
theorem repC_tick {c:Cs} (h:RepC c) (ns:Int):RepC (tickC c ns).2.1:=by
  unfold tickC
  split
  · exact (tick_gone _ ns c .none h).2
  · exact h
end Go.Proofs.YtalffooghioekaaGreatDoorX

namespace Go.Proofs.YtalffooghioekaaGreatDoorX
open Go Go.RowKit
structure Ev where
  core:Int
  id:Int
  ns:Int
  done:Bool
  gone:Bool
deriving DecidableEq
abbrev Ev.cells (x:Ev):List Value:=[.int .i64 x.core,.int .i64 x.id,.int .u64 x.ns,.bool x.done,.bool x.gone]
def flatEv (l:List Ev):List Value:=(l.map Ev.cells).flatten
theorem flatEv_snoc (l:List Ev) (x:Ev):flatEv (l ++ [x])=flatEv l ++ x.cells:=by simp [flatEv]
structure Sy where
  cf:Cf
  t:List Tk
  k:List Cs
structure Ch where
  s:Sy
  ev:List Ev
def compT (x:Tk):Bool:=x.st == 1 || x.st == 2
def coreY (s:Sy) (k:Int):Cs:=s.k.getD k.toNat (newC 0)
def setKY (s:Sy) (k:Int) (c:Cs):Sy:={ s with k:=s.k.set k.toNat c }
def setRY (s:Sy) (x:Tk):Sy:={ s with t:=setT s.t x }
def evP (k:Int) (p:Pr):Ev:=⟨k,p.id,p.ns,p.done,false⟩
def goneTk (s:Sy) (g:Gn):Tk:={ taskT s.t g.id with st:=3,lag:=keepF s.cf g.lag (taskT s.t g.id).slice }
def absG (k:Int) (s:Ch) (g:Gn):Ch:=⟨setRY s.s (goneTk s.s g),s.ev ++ [⟨k,g.id,0,false,true⟩]⟩
def absP (k:Int) (s:Ch) (p:Pr):Ch:=⟨s.s,s.ev ++ [evP k p]⟩
def absorbY (s:Ch) (k:Int) (r:Rp):Ch:=r.g.foldl (absG k) (r.p.foldl (absP k) s)
def coreDoY (s:Ch) (k:Int) (l:Int × Cs × Rp):Int × Ch :=
  if l.1=0 then (0,absorbY ⟨setKY s.s k (tryC (coreY s.s k) l.1 l.2.1),s.ev⟩ k (tryR l.1 l.2.1 l.2.2)) else (l.1,s)
def joinY (s:Ch) (x:Tk) (lag:Int):Int × Ch:=coreDoY s x.core ((joinC (coreY s.s x.core) x.id x.w x.slice lag).1,(joinC (coreY s.s x.core) x.id x.w x.slice lag).2,.none)
def spawnYE (s:Sy) (core w slice:Int):Int:=allE [coreE s.cf core,withinE w 1048576,withinE slice (capN s.cf.slice)]
def newTY (core w slice:Int):Tk:=⟨0,1,core,IntKind.u32.wrap w,slice,0⟩
def spawnY (s:Ch) (core w slice:Int):Int × Int × Ch :=
  if spawnYE s.s core w slice≠0 then (spawnYE s.s core w slice,0,s) else
  if addE s.s.t (newTY core w slice)≠0 then (addE s.s.t (newTY core w slice),0,s) else
  let n:=addI s.s.t (newTY core w slice)
  let j:=joinY ⟨{ s.s with t:=addT s.s.t (newTY core w slice) },s.ev⟩ { newTY core w slice with id:=n } 0
  if j.1=0 then (0,n,j.2) else (j.1,0,s)
def tickYL:Nat→Nat→Ch→Int→Int × Ch
  | 0,_,s,_=>(0,s)
  | n+1,k,s,ns =>
    let l:=tickC (coreY s.s k) ns
    if l.1=0 then tickYL n (k+1) (absorbY ⟨setKY s.s k (tryC (coreY s.s k) l.1 l.2.1),s.ev⟩ k (tryR l.1 l.2.1 l.2.2)) ns else (l.1,s)
def tickY (s:Ch) (ns:Int):Int × Ch :=
  if withinE ns (capN s.s.cf.tick)≠0 then (withinE ns (capN s.s.cf.tick),s) else tickYL s.s.k.length 0 s ns
def trySy (s:Sy) (l:Int × Ch):List Ev × Sy:=if l.1=0 then (l.2.ev,l.2.s) else ([],s)
def newSy (c:Cf):Sy:=⟨c,List.replicate (sizeT c.tasks) .zero,List.replicate c.cores.toNat (newC c.origin)⟩
def OkR (n:Int) (x:Tk):Prop:=In64 x.id∧(0≤x.st∧x.st < 256)∧In64 x.core∧U32 x.w∧U64 x.slice∧In64 x.lag∧(x.st≠0→0≤x.core∧x.core < n)
theorem OkR.zero (n:Int):OkR n .zero:=⟨by decide,by decide,by decide,by decide,by decide,by decide,fun h=>absurd rfl h⟩
structure OkY (s:Sy):Prop where
  cf:s.cf.In
  lo:1≤s.cf.cores
  hi:s.cf.cores≤8
  len:(s.k.length:Int)=s.cf.cores
  row:∀ x∈s.t,OkR s.cf.cores x
  tl:s.t.length≤32
theorem ok_set {n:Int} {l:List Tk} (h:∀ x∈l,OkR n x) {y:Tk} (hy:OkR n y) (i:Nat):∀ x∈l.set i y,OkR n x:=fun x hx=>by
  rcases List.mem_or_eq_of_mem_set hx with h1 | rfl
  · exact h x h1
  · exact hy
theorem ok_setT {n:Int} {l:List Tk} (h:∀ x∈l,OkR n x) {y:Tk} (hy:OkR n y):∀ x∈setT l y,OkR n x:=by
  unfold setT
  cases rightT y with
  | false=>exact h
  | true =>
    cases findT l y.id with
    | none=>exact h
    | some i=>exact ok_set h hy i
theorem ok_task {n:Int} {l:List Tk} (h:∀ x∈l,OkR n x) (id:Int):OkR n (taskT l id):=by
  unfold taskT
  cases e:findT l id with
  | none=>exact OkR.zero n
  | some i =>
    have hi:=(findT_lt e).1
    show OkR n (l.getD i .zero)
    rw [List.getD_eq_getElem?_getD,List.getElem?_eq_getElem hi]
    exact h _ (List.getElem_mem hi)
theorem ok_addT {n:Int} {l:List Tk} (h:∀ x∈l,OkR n x) (hl:l.length≤32) {y:Tk} (hy:OkR n y):∀ x∈addT l y,OkR n x:=by
  unfold addT
  cases rightT y with
  | false=>exact h
  | true =>
    cases e:freeT l with
    | none=>exact h
    | some i =>
      have hi:=freeT_lt e
      have hn:In64 ((i:Int)+1):=by unfold In64;omega
      exact ok_set (y:={ y with id:=(i:Int)+1 }) h ⟨hn,hy.2⟩ i
theorem task_st {l:List Tk} {id:Int} (h:errT (findT l id)=0):(taskT l id).st≠0:=by
  cases e:findT l id with
  | none=>rw [e] at h;cases h
  | some i =>
    obtain ⟨x,h1,h2,_⟩:=findT_some e
    unfold taskT
    rw [e]
    show (l.getD i .zero).st≠0
    rw [List.getD_eq_getElem?_getD,h1]
    exact h2
theorem keepF_in (c:Cf) (x s:Int):In64 (keepF c x s):=clampW_in (winC_in _ _)
theorem OkY.setK {s:Sy} (h:OkY s) (k:Int) (c:Cs):OkY (setKY s k c):=⟨h.cf,h.lo,h.hi,by show ((s.k.set k.toNat c).length:Int)=_;rw [List.length_set];exact h.len,h.row,h.tl⟩
theorem OkY.rows {s:Sy} (h:OkY s) {t:List Tk} (ht:∀ x∈t,OkR s.cf.cores x) (hl:t.length=s.t.length):OkY { s with t:=t }:=⟨h.cf,h.lo,h.hi,h.len,ht,by show t.length≤32;rw [hl];exact h.tl⟩
theorem OkY.setR {s:Sy} (h:OkY s) {x:Tk} (hx:OkR s.cf.cores x):OkY (setRY s x):=h.rows (ok_setT h.row hx) (setT_len _ _)
theorem OkR.goneR {s:Sy} (h:OkY s) (g:Gn):OkR s.cf.cores (goneTk s g):=by
  have hx:=ok_task h.row g.id
  by_cases e:(taskT s.t g.id).st=0
  · cases k:findT s.t g.id with
    | none =>
      have ez:taskT s.t g.id = .zero:=by unfold taskT;rw [k]
      have:=h.lo
      unfold goneTk
      rw [ez]
      exact ⟨(by decide:In64 0),(by decide:(0:Int)≤3∧(3:Int) < 256),(by decide:In64 0),(by decide:U32 0),(by decide:U64 0),keepF_in _ _ _,fun _=>⟨Int.le_refl _,by show (0:Int) < _;omega⟩⟩
    | some i=>exact absurd e (task_st (by rw [k];rfl))
  · exact ⟨hx.1,(by decide:(0:Int)≤3∧(3:Int) < 256),hx.2.2.1,hx.2.2.2.1,hx.2.2.2.2.1,keepF_in _ _ _,fun _=>hx.2.2.2.2.2.2 e⟩
theorem absP_s (k:Int):∀ (l:List Pr) (s:Ch),(l.foldl (absP k) s).s=s.s∧(l.foldl (absP k) s).ev=s.ev ++ l.map (evP k)
  | [],s=>⟨rfl,by simp⟩
  | p :: l,s=>by
    obtain ⟨h1,h2⟩:=absP_s k l (absP k s p)
    refine ⟨h1,?_⟩
    rw [List.foldl_cons,h2]
    simp [absP]
theorem absG_ev (k:Int):∀ (l:List Gn) (s:Ch),(l.foldl (absG k) s).ev=s.ev ++ l.map (fun g=>⟨k,g.id,0,false,true⟩)
  | [],s=>by simp
  | g :: l,s=>by rw [List.foldl_cons,absG_ev k l];simp [absG]
theorem absorb_ev (s:Ch) (k:Int) (r:Rp):(absorbY s k r).ev=s.ev ++ r.p.map (evP k) ++ r.g.map (fun g=>⟨k,g.id,0,false,true⟩):=by
  unfold absorbY
  rw [absG_ev,(absP_s k r.p s).2]
end Go.Proofs.YtalffooghioekaaGreatDoorX

namespace Go.Proofs.YtalffooghioekaaGreatDoorX
open Go Go.RowKit
attribute [local irreducible] XS XC XA thenE blockE retE loopE loopS cutB cutN doneE SE
def x20:Tk:=⟨0,1,0,0,0,0⟩
def l20 (n:Nat):List Tk:=match n with
  | 0=>List.replicate (sizeT 3) .zero
  | 1=>addT (List.replicate (sizeT 3) .zero) x20
  | 2=>addT (addT (List.replicate (sizeT 3) .zero) x20) x20
  | 3=>addT (addT (addT (List.replicate (sizeT 3) .zero) x20) x20) x20
  | _=>dropT (addT (addT (addT (List.replicate (sizeT 3) .zero) x20) x20) x20) 2
theorem a20:addI (l20 0) x20=1∧addE (l20 0) x20=0∧addI (l20 1) x20=2∧addE (l20 1) x20=0∧addI (l20 2) x20=3∧addE (l20 2) x20=0∧errT (findT (l20 3) 2)=0∧addI (l20 4) x20=2∧addE (l20 4) x20=0:=by decide
set_option maxHeartbeats 8000000 in
theorem awake20_ret (w0:World) (ht:Pows w0):Ret Tryz.prog 110 #[] w0 fun v w'=>v = .bool true∧Only [] w0 w':=by
  have hs:=St.nil w0
  obtain ⟨e1,e2,e3,e4,e5,e6,e7,e8,e9⟩:=a20
  refine ret_of_xc Tryz.func110 (by kernel_rfl) rfl Tryz.ntmps110 rfl rfl rfl ?_
  repeat' (first|refine vs (k:=?_)|refine qRg ?_|refine Nx.h ?_|fail)
  (with_reducible apply xs_call);exact rfl;exact rfl;exact tnew_ret 3 _
  rintro v w1 ⟨⟨tb,rb,rfl,hT,g1,g2,hne⟩,ho1⟩
  have hoA:=(hs.only0 rfl).trans ho1
  have hzA:=(hs.only0 rfl).size
  have lr:rb < w1.heap.size:=by obtain ⟨_,_,_,h,_⟩:=hT;exact lt_of_block h
  clear hs
  have hs:=St.nil w1
  repeat' (first|refine vs (k:=?_)|(refine stA hs (k:=?_);intro w hs)|(refine al hs (k:=?_);intro b w hz hs)|refine qRg ?_|refine Nx.h ?_|fail)
  have gb:=hs.new _ List.mem_cons_self rfl
  simp only at gb
  have hnb:b∉[rb]:=by simp;omega
  have ho0a:=hs.onlyF [] (by simp) (by simp [D0])
  (with_reducible apply xs_call);exact rfl;exact rfl;exact tadd_ret tb rb (l20 0) x20 _ (hT.only ho0a)
  rw [e1,e2]
  rintro v w2 ⟨rfl,hT1,ho0b⟩
  have hb0:=ho0b.block (hs.get (b:=b) (by repeat (first | exact At.head | (with_reducible apply At.tail)))) hnb
  have hoX0:=(hoA.trans ho0a).step ho0b (fun k hk => .inr (by obtain rfl:=List.mem_singleton.1 hk;exact g2))
  clear hs
  have hs:=(St.nil w2).trackT hb0
  repeat' (first|refine vs (k:=?_)|refine qRg ?_|refine Nx.h ?_|fail)
  have ho1a:=hs.onlyF [] (by simp [hb0]) (by simp [D0])
  (with_reducible apply xs_call);exact rfl;exact rfl;exact tadd_ret tb rb (l20 1) x20 _ (hT1.only ho1a)
  rw [e3,e4]
  rintro v w3 ⟨rfl,hT2,ho1b⟩
  have hb1:=ho1b.block (hs.get (b:=b) (by repeat (first | exact At.head | (with_reducible apply At.tail)))) hnb
  have hoX1:=(hoX0.trans ho1a).step ho1b (fun k hk => .inr (by obtain rfl:=List.mem_singleton.1 hk;exact g2))
  clear hs
  have hs:=(St.nil w3).trackT hb1
  repeat' (first|refine vs (k:=?_)|refine qRg ?_|refine Nx.h ?_|fail)
  have ho2a:=hs.onlyF [] (by simp [hb1]) (by simp [D0])
  (with_reducible apply xs_call);exact rfl;exact rfl;exact tadd_ret tb rb (l20 2) x20 _ (hT2.only ho2a)
  rw [e5,e6]
  rintro v w4 ⟨rfl,hT3,ho2b⟩
  have hb2:=ho2b.block (hs.get (b:=b) (by repeat (first | exact At.head | (with_reducible apply At.tail)))) hnb
  have hoX2:=(hoX1.trans ho2a).step ho2b (fun k hk => .inr (by obtain rfl:=List.mem_singleton.1 hk;exact g2))
  clear hs
  have hs:=(St.nil w4).trackT hb2
  repeat' (first|refine vs (k:=?_)|refine qRg ?_|refine Nx.h ?_|fail)
  have ho3a:=hs.onlyF [] (by simp [hb2]) (by simp [D0])
  (with_reducible apply xs_call);exact rfl;exact rfl;exact tdrop_ret tb rb (l20 3) 2 _ (hT3.only ho3a) (by decide)
  rw [e7]
  rintro v w5 ⟨rfl,hT4,ho3b⟩
  have hb3:=ho3b.block (hs.get (b:=b) (by repeat (first | exact At.head | (with_reducible apply At.tail)))) hnb
  have hoX3:=(hoX2.trans ho3a).step ho3b (fun k hk => .inr (by obtain rfl:=List.mem_singleton.1 hk;exact g2))
  clear hs
  have hs:=(St.nil w5).trackT hb3
  repeat' (first|refine vs (k:=?_)|refine qRg ?_|refine Nx.h ?_|fail)
  have ho4a:=hs.onlyF [] (by simp [hb3]) (by simp [D0])
  (with_reducible apply xs_call);exact rfl;exact rfl;exact tadd_ret tb rb (l20 4) x20 _ (hT4.only ho4a)
  rw [e8,e9]
  rintro v w6 ⟨rfl,hT5,ho4b⟩
  have hb4:=ho4b.block (hs.get (b:=b) (by repeat (first | exact At.head | (with_reducible apply At.tail)))) hnb
  have hoX4:=(hoX3.trans ho4a).step ho4b (fun k hk => .inr (by obtain rfl:=List.mem_singleton.1 hk;exact g2))
  clear hs
  have hs:=(St.nil w6).trackT hb4
  repeat' (first|refine vs (k:=?_)|refine qRg ?_|refine Nx.h ?_|fail)
  have hoL:=hs.onlyF [] (by simp [hb4]) (by simp [D0])
  (with_reducible apply xs_call);exact rfl;exact rfl;exact Awake19_ret _ (tab_only ht (hoX4.trans hoL))
  rintro v w' ⟨rfl,ho⟩;replace hs:=hs.call0 ho;repeat' (first|refine vs (k:=?_)|refine Nx.h ?_|fail)
  first | refine rt (hq:=?_) | refine rt' (hq:=?_)
  exact ⟨rfl,hoX4.trans (hs.onlyF [] (by simp [hb4]) (by simp [D0]))⟩
end Go.Proofs.YtalffooghioekaaGreatDoorX

namespace Go.Proofs.YtalffooghioekaaGreatDoorX
open Go Go.RowKit
attribute [local irreducible] XS XC XA thenE blockE retE loopE loopS cutB cutN doneE SE
end Go.Proofs.YtalffooghioekaaGreatDoorX

namespace Go.Proofs.YtalffooghioekaaGreatDoorX
open Go Go.RowKit
attribute [local irreducible] XS XC XA thenE blockE retE loopE loopS cutB cutN doneE SE
end Go.Proofs.YtalffooghioekaaGreatDoorX

namespace Go.Proofs.YtalffooghioekaaGreatDoorX
open Go Go.RowKit
section
variable {ops : Array Oper} {QE : Exit → Env → World → Prop} {n : Nat} {rest : List Oper} {env : Env} {w : World} {d : Option Nat} {ty : Nat} {pos : String} {aft : Array Edge} {g : Option (Nat × Bool)}
theorem eqSN {t t' e:Nat} {x y:Operand} {a:Option Addr} {m c:Nat} (ht:Tryz.prog.underlying t=some (.slice e)) (hw:wantedE ops env g=true:=by exact rfl) (hx:ev env x = .slice a m c:=by exact rfl) (hy:ev env y = .slice none 0 0:=by exact rfl)
    (k:XS Tryz.prog ops QE n rest (updO env d (.bool a.isNone)) w):XS Tryz.prog ops QE n (⟨d,.binOp .eql t x y t',ty,pos,aft,g⟩ :: rest) env w :=
  xs_val hw (r_binX (by rw [hx,hy];simp [eqGuard]) (by
    rw [hx,hy]
    have h:∀ d:Nat,(Op.equalIn (d+1) t (.slice a m c) (.slice none 0 0)).run Tryz.prog w = .ok a.isNone w:=fun d=>by cases a <;> simp [Op.equalIn,run_underlying ht]
    simp only [binOp]
    simp [Op.equal,Op.maxDepth,h 9999])) k
end
end Go.Proofs.YtalffooghioekaaGreatDoorX

namespace Go.Proofs.YtalffooghioekaaGreatDoorX
open Go Go.RowKit
attribute [local irreducible] XS XC XA thenE blockE retE loopE loopS cutB cutN doneE SE
section
variable {ops : Array Oper} {QE : Exit → Env → World → Prop} {n : Nat} {rest : List Oper} {env : Env} {w : World}
  {d:Option Nat} {ty:Nat} {pos:String} {aft:Array Edge} {g:Option (Nat × Bool)}
theorem xs_append0 {t e size bytes:Nat} {x y:Operand} {v u:Value} {k:Nat} {xs ys:List Value} {G Gy:List Nat} (hO:SlV w e size v k xs G) (hY:SlV w e size u 0 ys Gy) (hw:wantedE ops env g=true:=by exact rfl) (hsl:look t tab.sls=some (e,size,bytes):=by exact rfl)
    (hx:ev env x=v:=by exact rfl) (hy:ev env y=u:=by exact rfl) (kk:XS Tryz.prog ops QE n rest (updO env d v) w) :
    XS Tryz.prog ops QE n (⟨d,.call { callee := .builtin .append,args:=#[x,y],argTypes:=#[t,t] },ty,pos,aft,g⟩ :: rest) env w:=by
  obtain ⟨hu,i,hi,hs1,hs2⟩:=sl_parts (tabOk.sl hsl)
  have hr:=append_0 (ty:=ty) hu hi hO hY
  refine XS.value hw (v:=v) (w':=w) ?_ kk
  simp [execOp,resolve,Sem.run_bind,invoke,builtin,hx,hy,hr]
end
theorem flatTk_len (l:List Tk):(flatTk l).length=l.length*6:=by
  induction l with
  | nil=>rfl
  | cons x l ih=>rw [flatTk_cons,List.length_append,ih,List.length_cons];simp;omega
theorem flatTk_one (l:List Tk):∀ u∈flatTk l,u.oneCell'=true:=fun u hu=>by
  unfold flatTk at hu
  obtain ⟨c,hc,hu⟩:=List.mem_flatten.1 hu
  obtain ⟨x,_,rfl⟩:=List.mem_map.1 hc
  simp only [List.mem_cons,List.not_mem_nil,or_false] at hu
  rcases hu with rfl | rfl | rfl | rfl | rfl | rfl <;> rfl
theorem slices_clone_ret (rb cap:Nat) (l:List Tk) (rest:List Value) (w0:World) (hm:l.length≤32) (hc:l.length≤cap) (hl:rest.length+l.length*6=cap*6) (h:w0.heap[rb]?=some (rowsO l rest)) :
    Ret Tryz.prog 113 #[.slice (some ⟨rb,0,none⟩) l.length cap] w0 fun v w'=>(∃ rb' cap' rest',v = .slice (some ⟨rb',0,none⟩) l.length cap'∧w'.heap[rb']?=some (rowsO l rest')∧l.length≤cap'∧rest'.length+l.length*6=cap'*6∧w0.heap.size≤rb')∧Only [] w0 w':=by
  have hs:=St.nil w0
  refine ret_of_xc Tryz.func113 (by kernel_rfl) rfl Tryz.ntmps113 rfl rfl rfl ?_
  repeat' (first|refine vs (k:=?_)|refine qRg ?_|refine Nx.h ?_|fail)
  refine eqSN (e:=51) (by kernel_rfl) (k:=?_)
  repeat' (first|refine qRg ?_|refine Nx.h ?_|refine qCf ?_|fail)
  refine xs_buildSlice0 tabOk rfl rfl hs (fun v w1 hO hne=>?_)
  rcases hO with ⟨rfl,_⟩ | ⟨g,cp,cur,rfl,hcp,hcl,_,_,hs1⟩
  · exact absurd rfl hne
  have hg:=hs1.get At.head
  have gg:=hs1.new _ List.mem_cons_self rfl
  simp only at gg
  have ho1:=hs1.only0 rfl
  have hO:SlV w1 51 6 (.slice (some ⟨g,0,none⟩) 0 cp) 0 [] [g] := .inr ⟨g,cp,cur,rfl,rfl,hcp,hcl,rfl,rfl,hg⟩
  have hY:SlV w1 51 6 (.slice (some ⟨rb,0,none⟩) l.length cap) l.length (flatTk l) [rb] := .inr ⟨rb,cap,flatTk l ++ rest,rfl,rfl,hc,by rw [List.length_append,flatTk_len];omega,flatTk_len l,by rw [← flatTk_len];exact List.take_left,ho1.block h (by simp)⟩
  clear hs
  have hs:=St.nil w1
  refine vs (k:=?_)
  by_cases h0:l.length=0
  · obtain rfl:=List.length_eq_zero_iff.1 h0
    refine xs_append0 hO hY (kk:=?_)
    repeat' (first|refine vs (k:=?_)|refine Nx.h ?_|fail)
    first | refine rt (hq:=?_) | refine rt' (hq:=?_)
    have ho2:=hs.only0 rfl
    exact ⟨⟨g,cp,cur,rfl,ho2.block hg (by simp),Nat.zero_le _,by simpa using hcl,gg⟩,ho1.trans ho2⟩
  · refine xs_appendL tabOk rfl rfl rfl rfl rfl rfl (flatTk_one l) hO hY (by omega) (by omega) ?_
    rintro v2 w2 ⟨G',hG',hGn⟩ ho2
    rw [Nat.zero_add,List.nil_append] at hG'
    rcases hG' with ⟨_,h1,_⟩ | ⟨g2,cp2,cur2,rfl,rfl,k1,k2,k3,k4,k5⟩
    · exact absurd h1 h0
    clear hs
    have hs:=St.nil w2
    repeat' (first|refine vs (k:=?_)|refine Nx.h ?_|fail)
    first | refine rt (hq:=?_) | refine rt' (hq:=?_)
    have ho3:=hs.only0 rfl
    have ho:=(ho1.step ho2 (fun k hk => .inr (by obtain rfl:=List.mem_singleton.1 hk;exact gg))).trans ho3
    refine ⟨⟨g2,cp2,cur2.drop (l.length*6),rfl,?_,k1,by rw [List.length_drop];omega,?_⟩,ho⟩
    · rw [ho3.block k5 (by simp)]
      unfold rowsO
      rw [← k4,List.take_append_drop]
    · have hz:=ho1.size
      rcases hGn g2 (by simp) with h | h
      · obtain rfl:=List.mem_singleton.1 h;exact gg
      · omega
theorem tclone_ret (tb rb:Nat) (l:List Tk) (w0:World) (h:TabAt w0 tb rb l):Ret Tryz.prog 62 #[.pointer (some ⟨tb,0,none⟩)] w0 fun v w'=>(∃ tb' rb',v = .pointer (some ⟨tb',0,none⟩)∧TabAt w' tb' rb' l∧w0.heap.size≤tb'∧w0.heap.size≤rb'∧tb'≠rb')∧Only [] w0 w':=by
  obtain ⟨cap,rest,h1,h2,h3,h4,h5⟩:=h
  have hs:=(St.nil w0).trackT h1
  refine ret_of_xc Tryz.func62 (by kernel_rfl) rfl Tryz.ntmps62 rfl rfl rfl ?_
  repeat' (first|refine vs (k:=?_)|refine qRg ?_|refine Nx.h ?_|refine qCf ?_|fail)
  have ho0:=hs.onlyF [] (by simp [h1]) (by simp [D0])
  (with_reducible apply xs_call);exact rfl;exact rfl;exact slices_clone_ret rb cap l rest _ h3 h4 h5 (ho0.block h2 (by simp))
  rintro v w1 ⟨⟨rb',cap',rest',rfl,k1,k2,k3,k4⟩,ho1⟩
  have lr:=lt_of_block k1
  have hz:=ho0.size
  clear hs
  have hs:=(St.nil w1)
  refine vs (k:=?_)
  refine bx hs (k:=?_);intro tb' w2 hz2 hs
  have g2:=hs.new _ List.mem_cons_self rfl
  simp only at g2
  have hz1:=ho1.size
  repeat' (first|refine vs (k:=?_)|refine Nx.h ?_|fail)
  first | refine rt (hq:=?_) | refine rt' (hq:=?_)
  have ho2:=hs.only0 rfl
  exact ⟨⟨tb',rb',rfl,⟨cap',rest',hs.get At.head,ho2.block k1 (by simp),h3,k2,k3⟩,by omega,by omega,by omega⟩,(ho0.trans ho1).trans ho2⟩
end Go.Proofs.YtalffooghioekaaGreatDoorX

namespace Go.Proofs.YtalffooghioekaaGreatDoorX
open Go Go.RowKit
theorem tick_bounds {s:Ss} {c:Cs} (h:Rep s c.A) (ns:Int):(tickC c ns).2.2.p.length < 2000000000000∧(tickC c ns).2.2.g.length≤32:=by
  unfold tickC
  split
  · rename_i hc
    have h1:=tick_parts (ns.toNat+1) ns c .none (by omega) hc.2
    have h2:=(tick_gone (ns.toNat+1) ns c .none ⟨s,h⟩).1
    have h3:=h.le
    have e1:Rp.none.p.length=0:=rfl
    have e2:Rp.none.g.length=0:=rfl
    rw [e1] at h1
    rw [e2] at h2
    constructor <;> omega
  · exact ⟨(by show (0:Nat) < 2000000000000;omega),(by show (0:Nat)≤32;omega)⟩
theorem CAt.repS {w:World} {cb:Nat} {c:Cs} {F:List Nat} (h:CAt w cb c F):∃ s,Rep s c.A:=by
  obtain ⟨sb,Fs,_,_,hS,_⟩:=h
  exact hS.rep
theorem tickT_ret (cb:Nat) (c:Cs) (F:List Nat) (ns:Int) (w0:World) (h:CAt w0 cb c F) (hns:U64 ns) :
    Ret Tryz.prog 96 #[.pointer (some ⟨cb,0,none⟩),.int .u64 ns] w0 fun v w'=>∃ rv,v = .tuple #[rv,.int .i64 (tickC c ns).1]∧Told18 w0 cb F rv (tickC c ns).1 c (tickC c ns).2.1 (tickC c ns).2.2 w':=by
  obtain ⟨s,hs⟩:=h.repS
  obtain ⟨h1,h2⟩:=tick_bounds hs ns
  exact tick_ret cb c F ns w0 h hns h1 (by omega)
end Go.Proofs.YtalffooghioekaaGreatDoorX

namespace Go.Proofs.YtalffooghioekaaGreatDoorX
open Go Go.RowKit
theorem SetAt.mem {w:World} {sb:Nat} {A:As} {F:List Nat} (h:SetAt w sb A F):sb∈F:=by
  obtain ⟨s,⟨qb,mb,Fq,rfl,_⟩,_⟩:=h
  simp
end Go.Proofs.YtalffooghioekaaGreatDoorX

namespace Go.Proofs.YtalffooghioekaaGreatDoorX
open Go Go.RowKit
attribute [local irreducible] XS XC XA thenE blockE retE loopE loopS cutB cutN doneE SE
theorem crun_ret (cb:Nat) (c:Cs) (F:List Nat) (w0:World) (h:CAt w0 cb c F):Ret Tryz.prog 24 #[.pointer (some ⟨cb,0,none⟩)] w0 fun v w'=>v = .int .i64 c.run∧Only [] w0 w':=by
  obtain ⟨sb,Fs,rfl,h1,hS,h3,h4⟩:=h
  have hs:=(St.nil w0).trackT h1
  refine ret_of_xc Tryz.func24 (by kernel_rfl) rfl Tryz.ntmps24 rfl rfl rfl ?_
  repeat' (first|refine vs (k:=?_)|refine qRg ?_|refine Nx.h ?_|refine qCf ?_|fail)
  first | refine rt (hq:=?_) | refine rt' (hq:=?_)
  exact ⟨rfl,hs.onlyF [] (by simp [h1]) (by simp [D0])⟩
theorem CAt.mem {w:World} {cb:Nat} {c:Cs} {F:List Nat} (h:CAt w cb c F):cb∈F:=by obtain ⟨_,_,rfl,_⟩:=h;simp
theorem CAt.opn {w:World} {cb:Nat} {c:Cs} {F:List Nat} (h:CAt w cb c F):∃ sb qb mb Fs,F=cb :: Fs∧w.heap[cb]?=some (coreO sb c.run c.carr)∧w.heap[sb]?=some (setO qb mb)∧SetAt w sb c.A Fs∧QuAt w qb c.A∧sb∈Fs:=by
  obtain ⟨sb,Fs,rfl,h1,hS,h3,h4⟩:=h
  obtain ⟨qb,mb,g1,gQ⟩:=hS.opn
  exact ⟨sb,qb,mb,Fs,rfl,h1,g1,hS,gQ,hS.mem⟩
end Go.Proofs.YtalffooghioekaaGreatDoorX
