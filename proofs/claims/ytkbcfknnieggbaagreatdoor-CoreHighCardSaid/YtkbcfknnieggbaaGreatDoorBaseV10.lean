/- A part of the proof: what its functions compute. -/
import Derived.Test.YtkbcfknnieggbaaGreatDoorBaseV9
import Derived.Test.YtkbcfknnieggbaaGreatDoorRows
import Derived.JoinedOf
import Derived.Test.YtkbcfknnieggbaaGreatDoorTie
import Derived.Lib.LaidTab
import Derived.Stop.LaidErr
import Derived.MakeChecks
import Derived.LaidMore
import Derived.LaidLaws
set_option linter.unusedVariables false
set_option linter.unusedSimpArgs false
set_option maxRecDepth 100000
namespace Go.Proofs.YtkbcfknnieggbaaGreatDoorX
open Go Go.RowKit
attribute [local irreducible] XS XC XA thenE blockE retE loopE loopS cutB cutN doneE SE
theorem RpAt.ne {w:World} {rb:Nat} {r:Rp} {F:List Nat} (h:RpAt w rb r F) {b:Nat} {cs:Array Value} {ty:Nat} {fz:Nat × Nat} (hb:w.heap[b]?=some (.cells cs ty fz)) (hne:ty≠71):rb≠b:=by
  obtain ⟨vg,vp,Gg,Gp,_,p1,_⟩:=h
  exact blocks_ne p1 hb (fun e=>hne e.symm)
set_option maxHeartbeats 8000000 in
theorem leave1_ret (b2 b3:Nat) (c:Cs) (id:Int) (wb w0:World) (hid:In64 id) (B2:w0.heap[b2]?=some (.cells #[.int .i64 id] 3 (0,0))) (B3:w0.heap[b3]?=some (wideO 0)) :
    DoAt wb w0 112 [.pointer (some ⟨b2,0,none⟩),.pointer (some ⟨b3,0,none⟩)] [b3] (fun w=>w.heap[b3]?=some (wideO (lagA c.A id))) c (leaveC c id).1 (leaveC c id).2 .none:=by
  intro cb rb F hC hR hFn hrb
  have hs:=((St.nil w0).trackT B2).trackT B3
  refine ret_of_xc Tryz.func112 (by kernel_rfl) rfl Tryz.ntmps112 rfl rfl rfl ?_
  repeat' (first|refine vs (k:=?_)|refine qRg ?_|refine Nx.h ?_|fail)
  have ho:=hs.onlyF [] (by simp [B2,B3]) (by simp [D0])
  (with_reducible apply xs_call);exact rfl;exact rfl;exact cleave_ret cb c F id _ (hC.only ho) hid
  rintro v w2 ⟨rfl,F2,hC2,hF2,ho2⟩
  have hz:=ho.size
  have y3:=ho2.block (ho.block B3 (by simp)) (hC.not B3 rfl)
  have hR2:RpAt w2 rb .none [rb]:=(hR.only ho).keepD ho2 (fun k hk hm=>hR.apart hC k hk hm)
  have hoA:Only (rb :: F ++ [b3]) w0 w2:=(ho.weaken (by simp)).step ho2 (fun k hk => .inl (by simp [hk]))
  have hr3:rb≠b3:=hR.ne B3 (by decide)
  generalize leaveC c id=J at *
  generalize lagA c.A id=lag at *
  clear hs
  have hs:=(St.nil w2).trackT y3
  repeat' (first|refine vs (k:=?_)|(refine stA hs (k:=?_);intro w hs)|(refine al hs (k:=?_);intro b w hz hs)|refine qRg ?_|refine Nx.h ?_|fail)
  first | refine rt (hq:=?_) | refine rt' (hq:=?_)
  have ho3:=hs.onlyF [b3] (by simp) (by simp [D0])
  refine ⟨rfl,hs.get (b:=b3) (by repeat (first | exact At.head | (with_reducible apply At.tail))),fun _=>⟨F2,[rb],hC2.keepD ho3 (fun k hk hm=>by obtain rfl:=List.mem_singleton.1 hm;exact hC2.not y3 rfl hk),hR2.keepD ho3 (fun k hk hm=>by obtain rfl:=List.mem_singleton.1 hk;exact hr3 (List.mem_singleton.1 hm)),fun k hk=>?_,fun k hk => .inl (by simpa using hk)⟩,hoA.step ho3 (fun k hk => .inl (by simp [List.mem_singleton.1 hk]))⟩
  rcases hF2 k hk with h | h
  · exact .inl h
  · exact .inr (by omega)
set_option maxHeartbeats 4000000 in
theorem cLeave_ret (cb:Nat) (c:Cs) (F:List Nat) (id:Int) (w0:World) (h:CAt w0 cb c F) (hid:In64 id) :
    Ret Tryz.prog 58 #[.pointer (some ⟨cb,0,none⟩),.int .i64 id] w0 fun v w'=>∃ rv,v = .tuple #[wv (lagA c.A id),rv,.int .i64 (leaveC c id).1]∧Told18 w0 cb F rv (leaveC c id).1 c (leaveC c id).2 .none w':=by
  have hs:=St.nil w0
  refine ret_of_xc Tryz.func58 (by kernel_rfl) rfl Tryz.ntmps58 rfl rfl rfl ?_
  refine xc_seq ?_
  refine xc_region ?_ ?_;exact rfl
  refine bx hs (k:=?_);intro b6 w _ hs
  refine al hs (k:=?_);intro b10 w hz10 hs
  refine al hs (k:=?_);intro b11 w hz11 hs
  repeat' (first|refine vs (k:=?_)|refine Nx.h ?_|fail)
  refine xc_region ?_ ?_;exact rfl
  refine al hs (k:=?_);intro b7 w hz7 hs
  repeat' (first|refine vs (k:=?_)|refine qRg ?_|refine Nx.h ?_|fail)
  have ho:=hs.only0 rfl
  have hz:=ho.size
  have x6:=hs.get (b:=b6) (by repeat (first | exact At.head | (with_reducible apply At.tail)))
  have x7:=hs.get (b:=b7) (by repeat (first | exact At.head | (with_reducible apply At.tail)))
  have x10:=hs.get (b:=b10) (by repeat (first | exact At.head | (with_reducible apply At.tail)))
  have x11:=hs.get (b:=b11) (by repeat (first | exact At.head | (with_reducible apply At.tail)))
  have hCw:=h.only ho
  have n710:b7≠b10:=by
    have nd:=hs.nd
    simp only [List.map_cons,List.map_nil,List.nodup_cons,List.mem_cons,List.not_mem_nil,or_false,not_or] at nd
    exact nd.1.2.1
  have g7:=hs.new (b7,true) (by simp) rfl
  have g10:=hs.new (b10,true) (by simp) rfl
  have g11:=hs.new (b11,true) (by simp) rfl
  simp only at g7 g10 g11
  have ncb:∀ {b:Nat} {cs:Array Value} {ty:Nat} {fz:Nat × Nat},w0.heap.size≤b→b≠cb:=fun hb he=>by
    have:=h.lt cb (by obtain ⟨_,_,rfl,_⟩:=h;simp)
    omega
  (with_reducible apply xs_call);exact rfl;exact rfl;exact try_ret cb c F _ hCw 112 [.pointer (some ⟨b6,0,none⟩),.pointer (some ⟨b7,0,none⟩)] [b7] (fun w=>w.heap[b7]?=some (wideO (lagA c.A id))) (leaveC c id).1 (leaveC c id).2 .none (fun _ _ _ hx hox hn=>hox.block hx (hn b7 (by simp))) (fun k hk=>by obtain rfl:=List.mem_singleton.1 hk;exact ⟨hCw.not x7 rfl,lt_of_block x7⟩) (by simp [Rp.none]) (fun w1 ho1=>leave1_ret b6 b7 c id _ w1 hid (ho1.block x6 (by simp)) (ho1.block x7 (by simp)))
  rintro v w2 ⟨rv,rfl,hXb,hRv,⟨F',hC',hF'⟩,ho2⟩
  obtain ⟨vg,vp,Gg,Gp,rfl,p1,p2⟩:=hRv
  obtain ⟨ag,cg,rfl⟩:=slv_form p1
  obtain ⟨ap,cp,rfl⟩:=slv_form p2
  have mcb:cb∈F:=by obtain ⟨_,_,rfl,_⟩:=h;simp
  have y10:=ho2.block x10 (fun hm=>by
    simp only [List.mem_cons,List.not_mem_nil,or_false] at hm
    rcases hm with rfl | rfl
    · exact hCw.not x10 rfl mcb
    · exact n710 rfl)
  have n117:b11≠b7:=blocks_ne x11 x7 (by decide)
  have y11:=ho2.block x11 (fun hm=>by
    simp only [List.mem_cons,List.not_mem_nil,or_false] at hm
    rcases hm with rfl | rfl
    · exact hCw.not x11 rfl mcb
    · exact n117 rfl)
  generalize leaveC c id=J at *
  generalize lagA c.A id=lag at *
  clear hs
  have hs:=(((St.nil w2).trackT y11).trackT y10).track hXb (by simp [n710,n117.symm])
  repeat' (first|refine vs (k:=?_)|(refine stA hs (k:=?_);intro w hs)|(refine al hs (k:=?_);intro b w hz hs)|refine Nx.h ?_|fail)
  have hR:∀ {w'':World} {o o':Obj},St w2 D0 [(b,.cells #[.slice ag (tryR J.1 J.2 .none).g.length cg,.slice ap (tryR J.1 J.2 .none).p.length cp] 71 (0,0),true),(b7,wideO lag,false),(b10,o,false),(b11,o',false)] w''→True=True→Hold [(b,.cells #[.slice ag (tryR J.1 J.2 .none).g.length cg,.slice ap (tryR J.1 J.2 .none).p.length cp] 71 (0,0),true),(b7,wideO lag,false)] w'':=fun hs _ e he=>hs.at_ e (by
      simp only [List.mem_cons,List.not_mem_nil,or_false] at he ⊢
      rcases he with he | he
      · exact .inl he
      · exact .inr (.inl he))
  refine drH [4] [(b,.cells #[.slice ag (tryR J.1 J.2 .none).g.length cg,.slice ap (tryR J.1 J.2 .none).p.length cp] 71 (0,0),true),(b7,wideO lag,false)] hs (k:=?_);intro hX w hs
  refine tk 0 hX (k:=?_)
  refine tk 1 hX (k:=?_)
  refine tk 2 hX (k:=?_)
  refine dt 3 hX (k:=?_)
  repeat' (first|(refine stA hs (k:=?_);intro w hs)|refine Nx.h ?_|fail)
  refine dn (k:=?_)
  refine dt 4 hX (k:=?_)
  repeat' (first|(refine stA hs (k:=?_);intro w hs)|refine Nx.h ?_|fail)
  refine dn (k:=?_)
  refine tk 5 hX (k:=?_)
  refine en (k:=?_)
  repeat' (first|refine Nx.h ?_|fail)
  first | refine rt (hq:=?_) | refine rt' (hq:=?_)
  have ho3:=hs.onlyF [b10,b11] (by simp [hXb]) (by simp [D0])
  exact ⟨_,rfl,rvs_keep p1 p2 ho3 (fun b hm=>by
      simp only [List.mem_cons,List.not_mem_nil,or_false] at hm
      rcases hm with rfl | rfl
      · exact ⟨_,_,_,y10,by decide,by decide⟩
      · exact ⟨_,_,_,y11,by decide,by decide⟩),⟨F',hC'.keepD ho3 (fun k hk hm=>by
      simp only [List.mem_cons,List.not_mem_nil,or_false] at hm
      rcases hm with rfl | rfl
      · exact hC'.not y10 rfl hk
      · exact hC'.not y11 rfl hk),fun k hk=>by
    rcases hF' k hk with h | h
    · exact .inl h
    · exact .inr (by omega)⟩,((ho.weaken (by simp)).step ho2 (fun k hk=>by
      simp only [List.mem_cons,List.not_mem_nil,or_false] at hk
      rcases hk with rfl | rfl
      · exact .inl (by simp)
      · exact .inr g7)).step ho3 (fun k hk=>by
      simp only [List.mem_cons,List.not_mem_nil,or_false] at hk
      rcases hk with rfl | rfl
      · exact .inr g10
      · exact .inr g11)⟩
def sleepX (c:Cs) (id:Int):Bool × Int:=match findR c.A.l id with
  | none=>(false,0)
  | some a=>if a.1.asleep=true then (false,0) else if owedA c.A id < 0 then (false,lagA c.A id) else (true,lagA c.A id)
abbrev boolO (x:Bool):Obj := .cells #[.bool x] 4 (0,0)
set_option maxHeartbeats 16000000 in
theorem sleep1_ret (b2 b3 b4:Nat) (c:Cs) (id:Int) (wb w0:World) (hid:In64 id) (B2:w0.heap[b2]?=some (.cells #[.int .i64 id] 3 (0,0))) (B3:w0.heap[b3]?=some (wideO 0)) (B4:w0.heap[b4]?=some (boolO false)) :
    DoAt wb w0 114 [.pointer (some ⟨b2,0,none⟩),.pointer (some ⟨b3,0,none⟩),.pointer (some ⟨b4,0,none⟩)] [b3,b4] (fun w=>w.heap[b3]?=some (wideO (sleepX c id).2)∧w.heap[b4]?=some (boolO (sleepX c id).1)) c (sleepC c id).1 (sleepC c id).2 .none:=by
  intro cb rb F hC hR hFn hrb
  have hC0:=hC
  have hR0:=hR
  obtain ⟨sb,Fs,rfl,h1,hS,h3,h4⟩:=hC
  obtain ⟨qb,mb,g1,gQ⟩:=hS.opn
  obtain ⟨x,bs,ex,eb,hxin,hcs⟩:=get_of c.A.l id
  have n1:cb∉Fs:=CAt.nod h1 hS
  have n2:b2∉Fs:=hS.not B2 rfl
  have n3:b3∉Fs:=hS.not B3 rfl
  have n4:b4∉Fs:=hS.not B4 rfl
  have c3:b3∉cb :: Fs:=hC0.not B3 rfl
  have c4:b4∉cb :: Fs:=hC0.not B4 rfl
  have r3:rb≠b3:=hR.ne B3 (by decide)
  have r4:rb≠b4:=hR.ne B4 (by decide)
  have d34:b3≠b4:=blocks_ne B3 B4 (by decide)
  have d23:b2≠b3:=blocks_ne B2 B3 (by decide)
  have hs0:sb∈Fs:=by
    obtain ⟨_,_,_,_,_,_,_,_,_,_,_,_,m1,_⟩:=hS.mean
    exact m1
  have ds3:sb≠b3:=fun e=>n3 (e ▸ hs0)
  have dc3:cb≠b3:=fun e=>c3 (by simp [e])
  generalize hJ:sleepC c id=J
  generalize hK:sleepX c id=K
  have hs:=(((((St.nil w0).trackT h1).trackT g1).trackT B2).trackT B3).trackT B4
  refine ret_of_xc Tryz.func114 (by kernel_rfl) rfl Tryz.ntmps114 rfl rfl rfl ?_
  repeat' (first|refine vs (k:=?_)|refine qRg ?_|refine Nx.h ?_|fail)
  refine dr [] hs (k:=?_);intro hX w hs
  refine tk 0 hX (k:=?_)
  refine tk 1 hX (k:=?_)
  refine tk 2 hX (k:=?_)
  refine tk 3 hX (k:=?_)
  refine tk 4 hX (k:=?_)
  refine pd0 9 8 hs (k:=?_);intro f X w hp;have hs:=hp.st
  apply xa_pend 5 9 (f:=f) (X:=X) hX hp;exact rfl;exact rfl;(apply makes_alloc tabOk;exact rfl);kernel_rfl;kernel_rfl;kernel_rfl;kernel_rfl;(intro X Y;(repeat (first | exact pgg_base | refine pgg_step ?_ (by exact rfl))));(intro w' hs;first|exact se_hold hs.hold|exact se_hold hs.hold.tail|exact se_done rfl);intro f X w hp;have hs:=hp.st
  have ho:=hs.onlyF [] (by simp [h1,g1,B2,B3,B4]) (by simp [D0])
  (with_reducible apply xs_call);exact rfl;exact rfl;exact areq_ret sb c.A Fs id _ (hS.only ho) hid
  rw [ex,eb]
  rintro v w' ⟨rfl,ho⟩;replace hp:=hp.only ho;replace hs:=hp.st;repeat' (first|refine Nx.h ?_|fail)
  refine dn (k:=?_)
  refine tk 6 hX (hc:=by cases f <;> kernel_rfl) (k:=?_)
  refine tk 7 hX (hc:=by cases f <;> kernel_rfl) (k:=?_)
  refine tk 8 hX (hc:=by cases f <;> kernel_rfl) (k:=?_)
  apply xa_pendE 9 (f:=f) (X:=X) hX hp;exact rfl;(apply makes_alloc tabOk;exact rfl);kernel_rfl;kernel_rfl;(intro X Y;(repeat (first | exact pgg_base | refine pgg_step ?_ (by exact rfl))));(intro w' hs;first|exact se_hold hs.hold|exact se_hold hs.hold.tail|exact se_done rfl);intro b w hI hs
  refine dt 10 hX (k:=?_)
  repeat' (first|(refine stA hs (k:=?_);intro w hs)|refine Nx.h ?_|fail)
  refine dn (k:=?_)
  refine tk 11 hX (k:=?_)
  refine en (k:=?_)
  rcases hcs with ⟨hb,e⟩ | ⟨a,hb,e,hx⟩
  · subst hb
    have eK:K=(false,0):=by rw [← hK];unfold sleepX;rw [e]
    repeat' (first|refine vs (k:=?_)|refine qRg ?_|refine Nx.h ?_|refine qCt ?_|fail)
    first | refine rt (hq:=?_) | refine rt' (hq:=?_)
    exact bad_of (n:=14) (by rw [← hJ];unfold sleepC;rw [e]) (by decide) ⟨by rw [eK];exact hs.get (b:=b3) (by repeat (first | exact At.head | (with_reducible apply At.tail))),by rw [eK];exact hs.get (b:=b4) (by repeat (first | exact At.head | (with_reducible apply At.tail)))⟩ (hs.onlyF [] (by simp [h1,g1,B2,B3,B4]) (by simp [D0]))
  subst hb
  repeat' (first|refine vs (k:=?_)|refine qRg ?_|refine Nx.h ?_|refine qCf ?_|(refine xc_cond rfl (fun hc=>?_) (fun hc=>?_))|fail)
  · first | refine rt (hq:=?_) | refine rt' (hq:=?_)
    have k:x.asleep=true:=by simpa using hc
    have eK:K=(false,0):=by rw [← hK];unfold sleepX;rw [e];show (if a.1.asleep=true then _ else _)=_;rw [← hx,k];rfl
    exact bad_of (n:=6) (by rw [← hJ];unfold sleepC;rw [e];show (if a.1.asleep=true then _ else _)=_;rw [← hx,k];rfl) (by decide) ⟨by rw [eK];exact hs.get (b:=b3) (by repeat (first | exact At.head | (with_reducible apply At.tail))),by rw [eK];exact hs.get (b:=b4) (by repeat (first | exact At.head | (with_reducible apply At.tail)))⟩ (hs.onlyF [] (by simp [h1,g1,B2,B3,B4]) (by simp [D0]))
  have k:x.asleep=false:=by simpa using hc
  have eJ:J=if owedA c.A id < 0 then (0,(⟨rouA c.A id true,c.run,c.carr⟩:Cs)) else leaveC c id:=by
    rw [← hJ];unfold sleepC;rw [e];show (if a.1.asleep=true then _ else _)=_;rw [← hx,k];rfl
  have eK:K=if owedA c.A id < 0 then (false,lagA c.A id) else (true,lagA c.A id):=by
    rw [← hK];unfold sleepX;rw [e];show (if a.1.asleep=true then _ else _)=_;rw [← hx,k];rfl
  have ho:=hs.onlyF [] (by simp [h1,g1,B2,B3,B4]) (by simp [D0])
  (with_reducible apply xs_call);exact rfl;exact rfl;exact lagof_ret cb c _ id _ (hC0.only ho) hid
  generalize lagA c.A id=lag at *
  rintro v w' ⟨rfl,ho⟩;replace hs:=hs.call0 ho;repeat' (first|(refine stA hs (k:=?_);intro w hs)|refine Nx.h ?_|fail)
  refine dr [] hs (k:=?_);intro hX w hs
  refine tk 0 hX (k:=?_)
  refine tk 1 hX (k:=?_)
  refine tk 2 hX (k:=?_)
  refine tk 3 hX (k:=?_)
  refine tk 4 hX (k:=?_)
  refine tk 5 hX (k:=?_)
  refine tk 6 hX (k:=?_)
  refine tk 7 hX (k:=?_)
  refine dt 8 hX (k:=?_)
  have ho1:=hs.onlyF [b3] (by simp [h1,g1,B2,B4]) (by simp [D0])
  have hS1:=hS.keepD ho1 (fun k hk hm=>by obtain rfl:=List.mem_singleton.1 hm;exact n3 hk)
  obtain ⟨qb',mb',g1',gQ'⟩:=hS1.opn
  have eqb:qb'=qb:=by
    have:=ho1.block g1 (by simpa using ds3)
    rw [this] at g1'
    injection g1' with g1'
    unfold setO at g1'
    simp at g1'
    exact g1'.1.symm
  subst eqb
  (with_reducible apply xs_call);exact rfl;exact rfl;exact aowed_ret qb' c.A id _ gQ' hid
  rintro v w' ⟨rfl,ho⟩;replace hs:=hs.call0 ho;repeat' (first|refine Nx.h ?_|fail)
  refine dn (k:=?_)
  refine tk 9 hX (k:=?_)
  refine tk 10 hX (k:=?_)
  refine tk 11 hX (k:=?_)
  refine tk 12 hX (k:=?_)
  refine tk 13 hX (k:=?_)
  refine en (k:=?_)
  repeat' (first|refine vs (k:=?_)|(refine st hs (k:=?_);intro w hs)|refine qRg ?_|refine Nx.h ?_|(refine xc_if rfl (fun hc=>?_) (fun hc=>?_))|fail)
  · have kk:owedA c.A id < 0:=by simpa using hc
    rw [if_pos kk] at eJ eK
    have ho:=hs.onlyF [b3] (by simp [h1,g1,B2,B4]) (by simp [D0])
    have x1:=hs.get (b:=cb) (by repeat (first | exact At.head | (with_reducible apply At.tail)))
    have x2:=hs.get (b:=b2) (by repeat (first | exact At.head | (with_reducible apply At.tail)))
    have x3:=hs.get (b:=b3) (by repeat (first | exact At.head | (with_reducible apply At.tail)))
    have x4:=hs.get (b:=b4) (by repeat (first | exact At.head | (with_reducible apply At.tail)))
    clear hs
    have hs:=((((St.nil _).trackT x1).trackT x2).trackT x3).trackT x4
    refine dr [] hs (k:=?_);intro hX w hs
    refine tk 0 hX (k:=?_)
    refine tk 1 hX (k:=?_)
    refine tk 2 hX (k:=?_)
    refine tk 3 hX (k:=?_)
    refine tk 4 hX (k:=?_)
    refine dt 5 hX (k:=?_)
    have ho':=hs.onlyF [] (by simp [x1,x2,x3,x4]) (by simp [D0])
    have ho1:=ho.step ho' (by simp)
    have hSw:=hS.keepD ho1 (fun k hk hm=>by obtain rfl:=List.mem_singleton.1 hm;exact n3 hk)
    (with_reducible apply xs_call);exact rfl;exact rfl;exact arouse_ret sb c.A Fs id true _ hSw hid
    rw [eb]
    rintro v w2 ⟨rfl,F2,hS2,hF2,ho2⟩
    have y1:=ho2.block (ho'.block x1 (by simp)) n1
    have y2:=ho2.block (ho'.block x2 (by simp)) n2
    have y3:=ho2.block (ho'.block x3 (by simp)) n3
    have y4:=ho2.block (ho'.block x4 (by simp)) n4
    have hz0:=ho1.size
    have hR2:RpAt w2 rb .none [rb]:=(hR.keepD ho1 (fun k hk hm=>by obtain rfl:=List.mem_singleton.1 hk;exact r3 (List.mem_singleton.1 hm))).keepD ho2 (fun k hk hm=>by
      obtain rfl:=List.mem_singleton.1 hk
      exact hR0.apart hC0 k (by simp) (by simp [hm]))
    clear hs
    have hs:=((((St.nil w2).trackT y1).trackT y2).trackT y3).trackT y4
    repeat' (first|refine Nx.h ?_|fail)
    refine dn (k:=?_)
    refine tk 6 hX (k:=?_)
    refine en (k:=?_)
    repeat' (first|refine Nx.h ?_|fail)
    first | refine rt (hq:=?_) | refine rt' (hq:=?_)
    have ho3:=hs.onlyF [] (by simp [y1,y2,y3,y4]) (by simp [D0])
    subst eJ
    subst eK
    refine ⟨rfl,⟨ho3.block y3 (by simp),ho3.block y4 (by simp)⟩,fun _=>⟨cb :: F2,[rb],⟨sb,F2,rfl,ho3.block y1 (by simp),hS2.only ho3,h3,h4⟩,hR2.only ho3,fun k hk=>?_,fun k hk => .inl (by simpa using hk)⟩,((ho1.weaken (G:=rb :: (cb :: Fs) ++ [b3,b4]) (by simp)).step ho2 (fun k hk => .inl (by simp [hk]))).step ho3 (by simp)⟩
    rcases List.mem_cons.1 hk with rfl | hk
    · simp
    · rcases hF2 k hk with h | h
      · simp [h]
      · exact .inr (by omega)
  · have kk:¬ owedA c.A id < 0:=by simpa using hc
    rw [if_neg kk] at eJ eK
    have ho:=hs.onlyF [b3,b4] (by simp [h1,g1,B2]) (by simp [D0])
    have x1:=hs.get (b:=cb) (o:=coreO sb c.run c.carr) (by repeat (first | exact At.head | (with_reducible apply At.tail)))
    have x2:=hs.get (b:=b2) (by repeat (first | exact At.head | (with_reducible apply At.tail)))
    have x3:=hs.get (b:=b3) (by repeat (first | exact At.head | (with_reducible apply At.tail)))
    have x4:=hs.get (b:=b4) (by repeat (first | exact At.head | (with_reducible apply At.tail)))
    have hSw:=hS.keepD ho (fun k hk hm=>by
      simp only [List.mem_cons,List.not_mem_nil,or_false] at hm
      rcases hm with rfl | rfl
      · exact n3 hk
      · exact n4 hk)
    have hCw:CAt _ cb c (cb :: Fs):=⟨sb,Fs,rfl,x1,hSw,h3,h4⟩
    (with_reducible apply xs_call);exact rfl;exact rfl;exact cleave_ret cb c _ id _ hCw hid
    rintro v w2 ⟨rfl,F2,hC2,hF2,ho2⟩
    have hz:=ho.size
    have y3:=ho2.block x3 c3
    have y4:=ho2.block x4 c4
    have hR2:RpAt w2 rb .none [rb]:=(hR.keepD ho (fun k hk hm=>by
      obtain rfl:=List.mem_singleton.1 hk
      simp only [List.mem_cons,List.not_mem_nil,or_false] at hm
      rcases hm with h | h
      · exact r3 h
      · exact r4 h)).keepD ho2 (fun k hk hm=>hR.apart hC0 k hk hm)
    have hoA:Only (rb :: (cb :: Fs) ++ [b3,b4]) w0 w2:=(ho.weaken (by simp)).step ho2 (fun k hk => .inl (List.mem_append.2 (.inl (List.mem_cons_of_mem _ hk))))
    clear hs
    have hs:=((St.nil w2).trackT y3).trackT y4
    repeat' (first|refine vs (k:=?_)|(refine stA hs (k:=?_);intro w hs)|(refine al hs (k:=?_);intro b w hz hs)|refine qRg ?_|refine Nx.h ?_|fail)
    first | refine rt (hq:=?_) | refine rt' (hq:=?_)
    have ho3:=hs.onlyF [] (by simp [y3,y4]) (by simp [D0])
    subst eJ
    subst eK
    refine ⟨rfl,⟨ho3.block y3 (by simp),ho3.block y4 (by simp)⟩,fun _=>⟨F2,[rb],hC2.only ho3,hR2.only ho3,fun k hk=>?_,fun k hk => .inl (by simpa using hk)⟩,hoA.step ho3 (by simp)⟩
    rcases hF2 k hk with h | h
    · exact .inl h
    · exact .inr (by omega)
set_option maxHeartbeats 8000000 in
theorem cSleep_ret (cb:Nat) (c:Cs) (F:List Nat) (id:Int) (w0:World) (h:CAt w0 cb c F) (hid:In64 id) :
    Ret Tryz.prog 59 #[.pointer (some ⟨cb,0,none⟩),.int .i64 id] w0 fun v w'=>∃ rv,v = .tuple #[.bool (sleepX c id).1,wv (sleepX c id).2,rv,.int .i64 (sleepC c id).1]∧Told18 w0 cb F rv (sleepC c id).1 c (sleepC c id).2 .none w':=by
  have hs:=St.nil w0
  refine ret_of_xc Tryz.func59 (by kernel_rfl) rfl Tryz.ntmps59 rfl rfl rfl ?_
  refine xc_seq ?_
  refine xc_region ?_ ?_;exact rfl
  refine bx hs (k:=?_);intro b6 w _ hs
  refine vs (k:=?_)
  refine al hs (k:=?_);intro b10 w hz10 hs
  refine al hs (k:=?_);intro b11 w hz11 hs
  repeat' (first|refine vs (k:=?_)|refine Nx.h ?_|fail)
  refine xc_region ?_ ?_;exact rfl
  refine al hs (k:=?_);intro b7 w hz7 hs
  repeat' (first|refine Nx.h ?_|fail)
  refine xc_region ?_ ?_;exact rfl
  refine al hs (k:=?_);intro b9 w hz9 hs
  repeat' (first|refine vs (k:=?_)|(refine st hs (k:=?_);intro w hs)|refine qRg ?_|refine Nx.h ?_|fail)
  have ho:=hs.only0 rfl
  have hz:=ho.size
  have x6:=hs.get (b:=b6) (by repeat (first | exact At.head | (with_reducible apply At.tail)))
  have x7:=hs.get (b:=b7) (by repeat (first | exact At.head | (with_reducible apply At.tail)))
  have x9:=hs.get (b:=b9) (by repeat (first | exact At.head | (with_reducible apply At.tail)))
  have x10:=hs.get (b:=b10) (by repeat (first | exact At.head | (with_reducible apply At.tail)))
  have x11:=hs.get (b:=b11) (by repeat (first | exact At.head | (with_reducible apply At.tail)))
  have hCw:=h.only ho
  have n710:b7≠b10:=by
    have nd:=hs.nd
    simp only [List.map_cons,List.map_nil,List.nodup_cons,List.mem_cons,List.not_mem_nil,or_false,not_or] at nd
    exact nd.2.1.2.1
  have g7:=hs.new (b7,true) (by simp) rfl
  have g9:=hs.new (b9,true) (by simp) rfl
  have g10:=hs.new (b10,true) (by simp) rfl
  have g11:=hs.new (b11,true) (by simp) rfl
  simp only at g7 g9 g10 g11
  (with_reducible apply xs_call);exact rfl;exact rfl;exact try_ret cb c F _ hCw 114 [.pointer (some ⟨b6,0,none⟩),.pointer (some ⟨b7,0,none⟩),.pointer (some ⟨b9,0,none⟩)] [b7,b9] (fun w=>w.heap[b7]?=some (wideO (sleepX c id).2)∧w.heap[b9]?=some (boolO (sleepX c id).1)) (sleepC c id).1 (sleepC c id).2 .none (fun _ _ _ hx hox hn=>⟨hox.block hx.1 (hn b7 (by simp)),hox.block hx.2 (hn b9 (by simp))⟩) (fun k hk=>by
    simp only [List.mem_cons,List.not_mem_nil,or_false] at hk
    rcases hk with rfl | rfl
    · exact ⟨hCw.not x7 rfl,lt_of_block x7⟩
    · exact ⟨hCw.not x9 rfl,lt_of_block x9⟩) (by simp [Rp.none]) (fun w1 ho1=>sleep1_ret b6 b7 b9 c id _ w1 hid (ho1.block x6 (by simp)) (ho1.block x7 (by simp)) (ho1.block x9 (by simp)))
  rintro v w2 ⟨rv,rfl,⟨hXb,hXc⟩,hRv,⟨F',hC',hF'⟩,ho2⟩
  obtain ⟨vg,vp,Gg,Gp,rfl,p1,p2⟩:=hRv
  obtain ⟨ag,cg,rfl⟩:=slv_form p1
  obtain ⟨ap,cp,rfl⟩:=slv_form p2
  have mcb:cb∈F:=by obtain ⟨_,_,rfl,_⟩:=h;simp
  have y10:=ho2.block x10 (fun hm=>by
    simp only [List.mem_cons,List.not_mem_nil,or_false] at hm
    rcases hm with rfl | rfl | rfl
    · exact hCw.not x10 rfl mcb
    · exact n710 rfl
    · exact blocks_ne x10 x9 (by decide) rfl)
  have n117:b11≠b7:=blocks_ne x11 x7 (by decide)
  have n119:b11≠b9:=blocks_ne x11 x9 (by decide)
  have n79:b7≠b9:=blocks_ne x7 x9 (by decide)
  have y11:=ho2.block x11 (fun hm=>by
    simp only [List.mem_cons,List.not_mem_nil,or_false] at hm
    rcases hm with rfl | rfl | rfl
    · exact hCw.not x11 rfl mcb
    · exact n117 rfl
    · exact n119 rfl)
  generalize sleepC c id=J at *
  generalize sleepX c id=K at *
  clear hs
  have hs:=((((St.nil w2).trackT y11).trackT y10).track hXb (by simp [n710,n117.symm])).trackT hXc
  repeat' (first|refine vs (k:=?_)|(refine stA hs (k:=?_);intro w hs)|(refine al hs (k:=?_);intro b w hz hs)|refine Nx.h ?_|fail)
  have hR:∀ {w'':World} {o o':Obj},St w2 D0 [(b,.cells #[.slice ag (tryR J.1 J.2 .none).g.length cg,.slice ap (tryR J.1 J.2 .none).p.length cp] 71 (0,0),true),(b9,boolO K.1,false),(b7,wideO K.2,false),(b10,o,false),(b11,o',false)] w''→True=True→Hold [(b,.cells #[.slice ag (tryR J.1 J.2 .none).g.length cg,.slice ap (tryR J.1 J.2 .none).p.length cp] 71 (0,0),true),(b9,boolO K.1,false),(b7,wideO K.2,false)] w'':=fun hs _ e he=>hs.at_ e (by
      simp only [List.mem_cons,List.not_mem_nil,or_false] at he ⊢
      rcases he with he | he | he
      · exact .inl he
      · exact .inr (.inl he)
      · exact .inr (.inr (.inl he)))
  refine drH [6] [(b,.cells #[.slice ag (tryR J.1 J.2 .none).g.length cg,.slice ap (tryR J.1 J.2 .none).p.length cp] 71 (0,0),true),(b9,boolO K.1,false),(b7,wideO K.2,false)] hs (k:=?_);intro hX w hs
  refine tk 0 hX (k:=?_)
  refine tk 1 hX (k:=?_)
  refine tk 2 hX (k:=?_)
  refine tk 3 hX (k:=?_)
  refine tk 4 hX (k:=?_)
  refine dt 5 hX (k:=?_)
  repeat' (first|(refine stA hs (k:=?_);intro w hs)|refine Nx.h ?_|fail)
  refine dn (k:=?_)
  refine dt 6 hX (k:=?_)
  repeat' (first|(refine stA hs (k:=?_);intro w hs)|refine Nx.h ?_|fail)
  refine dn (k:=?_)
  refine tk 7 hX (k:=?_)
  refine en (k:=?_)
  repeat' (first|refine Nx.h ?_|fail)
  first | refine rt (hq:=?_) | refine rt' (hq:=?_)
  have ho3:=hs.onlyF [b10,b11] (by simp [hXb,hXc]) (by simp [D0])
  exact ⟨_,rfl,rvs_keep p1 p2 ho3 (fun b hm=>by
      simp only [List.mem_cons,List.not_mem_nil,or_false] at hm
      rcases hm with rfl | rfl
      · exact ⟨_,_,_,y10,by decide,by decide⟩
      · exact ⟨_,_,_,y11,by decide,by decide⟩),⟨F',hC'.keepD ho3 (fun k hk hm=>by
      simp only [List.mem_cons,List.not_mem_nil,or_false] at hm
      rcases hm with rfl | rfl
      · exact hC'.not y10 rfl hk
      · exact hC'.not y11 rfl hk),fun k hk=>by
    rcases hF' k hk with h | h
    · exact .inl h
    · exact .inr (by omega)⟩,((ho.weaken (by simp)).step ho2 (fun k hk=>by
      simp only [List.mem_cons,List.not_mem_nil,or_false] at hk
      rcases hk with rfl | rfl | rfl
      · exact .inl (by simp)
      · exact .inr g7
      · exact .inr g9)).step ho3 (fun k hk=>by
      simp only [List.mem_cons,List.not_mem_nil,or_false] at hk
      rcases hk with rfl | rfl
      · exact .inr g10
      · exact .inr g11)⟩
end Go.Proofs.YtkbcfknnieggbaaGreatDoorX

namespace Go.Proofs.YtkbcfknnieggbaaGreatDoorX
open Go Go.RowKit
theorem tick_bounds {s:Ss} {c:Cs} (h:Rep s c.A) (ns:Int):(tickC c ns).2.2.p.length < 2000000000000∧(tickC c ns).2.2.g.length≤32:=by
  unfold tickC
  split
  · rename_i hc
    have h1:=tick_parts (ns.toNat+1) ns c .none (by omega) hc.2
    have h2:=(tick_gone (ns.toNat+1) ns c .none ⟨s,h⟩).1
    have h3:=h.le
    have e1:Rp.none.p.length=0:=rfl
    have e2:Rp.none.g.length=0:=rfl
    rw [e1] at h1
    rw [e2] at h2
    constructor <;> omega
  · exact ⟨(by show (0:Nat) < 2000000000000;omega),(by show (0:Nat)≤32;omega)⟩
theorem CAt.repS {w:World} {cb:Nat} {c:Cs} {F:List Nat} (h:CAt w cb c F):∃ s,Rep s c.A:=by
  obtain ⟨sb,Fs,_,_,hS,_⟩:=h
  exact hS.rep
theorem tickT_ret (cb:Nat) (c:Cs) (F:List Nat) (ns:Int) (w0:World) (h:CAt w0 cb c F) (hns:U64 ns) :
    Ret Tryz.prog 37 #[.pointer (some ⟨cb,0,none⟩),.int .u64 ns] w0 fun v w'=>∃ rv,v = .tuple #[rv,.int .i64 (tickC c ns).1]∧Told18 w0 cb F rv (tickC c ns).1 c (tickC c ns).2.1 (tickC c ns).2.2 w':=by
  obtain ⟨s,hs⟩:=h.repS
  obtain ⟨h1,h2⟩:=tick_bounds hs ns
  exact tick_ret cb c F ns w0 h hns h1 (by omega)
end Go.Proofs.YtkbcfknnieggbaaGreatDoorX

namespace Go.Proofs.YtkbcfknnieggbaaGreatDoorX
open Go Go.RowKit
section
variable {ops : Array Oper} {QE : Exit → Env → World → Prop} {n : Nat} {rest : List Oper} {env : Env} {w : World} {d : Option Nat} {ty : Nat} {pos : String} {aft : Array Edge} {g : Option (Nat × Bool)}
theorem rem8 {t t':Nat} {x y:Operand} {a b:Int} (h0:0≤a) (h2:0 < b) (hw:wantedE ops env g=true:=by exact rfl) (hx:ev env x = .int .u8 a:=by exact rfl) (hy:ev env y = .int .u8 b:=by exact rfl)
    (k:XS Tryz.prog ops QE n rest (updO env d (.int .u8 (a % b))) w):XS Tryz.prog ops QE n (⟨d,.binOp .rem t x y t',ty,pos,aft,g⟩ :: rest) env w :=
  xs_val hw (by rw [r_rem (by omega) hx hy,Int.tmod_eq_emod_of_nonneg h0]) k
end
end Go.Proofs.YtkbcfknnieggbaaGreatDoorX

namespace Go.Proofs.YtkbcfknnieggbaaGreatDoorX
open Go Go.RowKit
attribute [local irreducible] XS XC XA thenE blockE retE loopE loopS cutB cutN doneE SE
theorem eqPr (p q:Pr):(cellEq (.int .i64 p.id) (.int .i64 q.id) && (cellEq (.int .u64 p.ns) (.int .u64 q.ns) && cellEq (.bool p.done) (.bool q.done)))=decide (p=q):=by
  show ((p.id == q.id) && ((p.ns == q.ns) && (p.done == q.done)))=_
  obtain ⟨a,b,c⟩:=p
  obtain ⟨a',b',c'⟩:=q
  simp only [Pr.mk.injEq]
  by_cases h1:a=a' <;> by_cases h2:b=b' <;> by_cases h3:c=c' <;> simp [h1,h2,h3]
set_option maxHeartbeats 4000000 in
theorem eqP_ret (va vb:Value) (A B:List Pr) (hm:A.length≤9223372036854775807) (w0:World) (hA:LsAt w0 75 3 va (A.map Pr.cells)) (hB:LsAt w0 75 3 vb (B.map Pr.cells)) :
    Ret Tryz.prog 38 #[va,vb] w0 fun v w'=>v = .bool (decide (A=B))∧Only [] w0 w':=by
  obtain ⟨ada,ca,rfl,hA⟩:=hA
  obtain ⟨adb,cb,rfl,hB⟩:=hB
  rw [List.length_map] at *
  rw [List.length_map] at *
  have hs:=St.nil w0
  refine ret_of_xc Tryz.func38 (by kernel_rfl) rfl Tryz.ntmps38 rfl rfl rfl ?_
  repeat' (first|refine vs (k:=?_)|refine qRg ?_|refine Nx.h ?_|(refine xc_cond rfl (fun hc=>?_) (fun hc=>?_))|fail)
  · first | refine rt (hq:=?_) | refine rt' (hq:=?_)
    refine ⟨congrArg Value.bool ?_,hs.only0 rfl⟩
    have hne:A≠B:=fun e=>by subst e;simp at hc
    exact (decide_eq_false hne).symm
  · have hln:A.length=B.length:=by
      have h:((A.length:Nat):Int)=B.length:=by simpa using hc
      omega
    refine xc_cutB (fun _:Unit=>[]) (fun _ w=>A=B∧Only [] w0 w) ?_ ?_
    · refine xc_loopS (fun (i:Nat)=>[(0,.slice ada A.length ca),(1,.slice adb B.length cb),(12,.int .i64 (A.length:Nat)),(13,.int .i64 (i:Nat))])
        (fun i w=>i≤A.length∧A.take i=B.take i∧Only [] w0 w)
        (fun i=>A.length - i) 0 (by (repeat (first | exact agree_nil | (apply agree_cons;exact rfl)))) ⟨Nat.zero_le _,by simp,hs.only0 rfl⟩ fun i env w ⟨hi,ht,ho⟩=>?_
      clear hs
      have hs:=St.nil w
      repeat' (first|refine vs (k:=?_)|refine qRg ?_|refine Nx.h ?_|(refine xc_if rfl (fun hc=>?_) (fun hc=>?_))|fail)
      · have hlt:i < A.length:=by omega
        have hltB:i < B.length:=by omega
        obtain ⟨ba,oa,csa,fa,rfl,a2,a3,a4⟩:=hA (fun h=>by have:=congrArg List.length h;rw [List.length_map,List.length_nil] at this;omega)
        obtain ⟨bb,ob,csb,fb,rfl,b2,b3,b4⟩:=hB (fun h=>by have:=congrArg List.length h;rw [List.length_map,List.length_nil] at this;omega)
        have ga:=a4 i _ (by rw [List.getElem?_map,List.getElem?_eq_getElem hlt];rfl)
        have gb:=b4 i _ (by rw [List.getElem?_map,List.getElem?_eq_getElem hltB];rfl)
        have a3:=ho.block a3 (by simp)
        have b3:=ho.block b3 (by simp)
        have key:A[i]=B[i]→A.take (i+1)=B.take (i+1):=fun he=>by rw [List.take_add_one,List.take_add_one,ht,List.getElem?_eq_getElem hlt,List.getElem?_eq_getElem hltB,he]
        have key2:A[i]≠B[i]→A≠B:=fun h e=>h (by subst e;rfl)
        have ei:=nx64 hlt hm
        generalize A[i]=x at *
        generalize B[i]=y at *
        by_cases e:ba=bb
        · subst e
          rw [a3] at b3
          cases b3
          replace hs:=hs.track a3 (by simp)
          refine dr [] hs (k:=?_);intro hX w hs
          refine tk 0 hX (k:=?_)
          refine tk 1 hX (k:=?_)
          refine tk 2 hX (hr:=fun w' hH=>r_indexAddr tabOk rfl rfl rfl (by omega) (by omega)) (k:=?_)
          refine tk 3 hX (hr:=fun w' hH=>r_loadA tabOk rfl rfl (hH rfl) At.head ga) (k:=?_)
          refine tk 4 hX (k:=?_)
          refine tk 5 hX (k:=?_)
          refine tk 6 hX (hr:=fun w' hH=>r_indexAddr tabOk rfl rfl rfl (by omega) (by omega)) (k:=?_)
          refine tk 7 hX (hr:=fun w' hH=>r_loadA tabOk rfl rfl (hH rfl) At.head gb) (k:=?_)
          refine tk 8 hX (k:=?_)
          refine en (k:=?_)
          repeat' (first|refine vs (k:=?_)|refine qRg ?_|refine Nx.h ?_|(refine xc_cond rfl (fun hc=>?_) (fun hc=>?_))|fail)
          · rw [eqPr] at hc
            first | refine rt (hq:=?_) | refine rt' (hq:=?_)
            exact ⟨congrArg Value.bool (decide_eq_false (key2 (by simpa using hc))).symm,ho.step (hs.onlyF [] (by simp [a3]) (by simp [D0])) (by simp)⟩
          · rw [eqPr] at hc
            exact loopS_next (i+1) (by omega) (by (repeat (first | exact agree_nil | (apply agree_cons;first | exact rfl | exact congrArg (Value.int .i64) ei)))) ⟨by omega,key (by simpa using hc),ho.step (hs.onlyF [] (by simp [a3]) (by simp [D0])) (by simp)⟩
        · replace hs:=(hs.track a3 (by simp)).track b3 (by simpa using Ne.symm e)
          refine dr [] hs (k:=?_);intro hX w hs
          refine tk 0 hX (k:=?_)
          refine tk 1 hX (k:=?_)
          refine tk 2 hX (hr:=fun w' hH=>r_indexAddr tabOk rfl rfl rfl (by omega) (by omega)) (k:=?_)
          refine tk 3 hX (hr:=fun w' hH=>r_loadA tabOk rfl rfl (hH rfl) (At.tail At.head) ga) (k:=?_)
          refine tk 4 hX (k:=?_)
          refine tk 5 hX (k:=?_)
          refine tk 6 hX (hr:=fun w' hH=>r_indexAddr tabOk rfl rfl rfl (by omega) (by omega)) (k:=?_)
          refine tk 7 hX (hr:=fun w' hH=>r_loadA tabOk rfl rfl (hH rfl) At.head gb) (k:=?_)
          refine tk 8 hX (k:=?_)
          refine en (k:=?_)
          repeat' (first|refine vs (k:=?_)|refine qRg ?_|refine Nx.h ?_|(refine xc_cond rfl (fun hc=>?_) (fun hc=>?_))|fail)
          · rw [eqPr] at hc
            first | refine rt (hq:=?_) | refine rt' (hq:=?_)
            exact ⟨congrArg Value.bool (decide_eq_false (key2 (by simpa using hc))).symm,ho.step (hs.onlyF [] (by simp [a3,b3]) (by simp [D0])) (by simp)⟩
          · rw [eqPr] at hc
            exact loopS_next (i+1) (by omega) (by (repeat (first | exact agree_nil | (apply agree_cons;first | exact rfl | exact congrArg (Value.int .i64) ei)))) ⟨by omega,key (by simpa using hc),ho.step (hs.onlyF [] (by simp [a3,b3]) (by simp [D0])) (by simp)⟩
      · have e:i=A.length:=by omega
        have hAB:A=B:=by
          have h1:A.take i=A:=List.take_of_length_le (by omega)
          have h2:B.take i=B:=List.take_of_length_le (by omega)
          rw [← h1,ht,h2]
        exact cutB_exit () (by (repeat (first | exact agree_nil | (apply agree_cons;exact rfl)))) ⟨hAB,ho.step (hs.only0 rfl) (by simp)⟩
    · rintro _ env w ⟨rfl,ho⟩
      clear hs
      have hs:=St.nil w
      repeat' (first|refine vs (k:=?_)|refine qRg ?_|refine Nx.h ?_|fail)
      first | refine rt (hq:=?_) | refine rt' (hq:=?_)
      exact ⟨congrArg Value.bool (decide_eq_true rfl).symm,ho.step (hs.only0 rfl) (by simp)⟩
end Go.Proofs.YtkbcfknnieggbaaGreatDoorX

namespace Go.Proofs.YtkbcfknnieggbaaGreatDoorX
open Go Go.RowKit
open IB (IT ITsAt flatT)
attribute [local irreducible] XS XC XA thenE blockE retE loopE loopS cutB cutN doneE SE
def rk:RT:=⟨⟨⟨⟨3,0,1⟩,1,⟨5242883,0,1⟩⟩,5,5,false⟩,by decide⟩
theorem k1:newR ⟨3,0,1⟩ 1 5=some rk.1:=by kernel_rfl
theorem k2:enterE (newS 0) rk=0:=by kernel_rfl
theorem k3:(enterS (newS 0) rk).l=[rk]:=by kernel_rfl
theorem k4:(rouseS (enterS (newS 0) rk) 1 true).l=[wakeR rk true]:=by kernel_rfl
theorem k5:rouseE (enterS (newS 0) rk) 1=0:=by kernel_rfl
set_option maxHeartbeats 4000000 in
theorem awake16_ret (w0:World) (ht:Pows w0):Ret Tryz.prog 87 #[] w0 fun v w'=>v = .bool true∧Only [] w0 w':=by
  have hs:=St.nil w0
  refine ret_of_xc Tryz.func87 (by kernel_rfl) rfl Tryz.ntmps87 rfl rfl rfl ?_
  repeat' (first|refine vs (k:=?_)|refine qRg ?_|refine Nx.h ?_|fail)
  (with_reducible apply xs_call);exact rfl;exact rfl;exact snew_ret 0 (by decide) _
  rintro v w1 ⟨⟨sb,F0,rfl,hS,hF0⟩,ho1⟩
  have hF0:∀ k∈F0,w0.heap.size≤k:=fun k hk=>by have:=hF0 k hk;have:=hs.size;omega
  have hz1:=ho1.size
  have hq:=hs.call0 ho1
  have ho1':=hq.only0 rfl
  clear hs hq
  have hs:=St.nil w1
  repeat' (first|refine vs (k:=?_)|refine qRg ?_|refine Nx.h ?_|fail)
  (with_reducible apply xs_call);exact rfl;exact rfl;exact runnable_ret sb (newS 0) F0 _ hS (by decide)
  rw [show runN (newS 0).l=0 from rfl]
  rintro v w2 ⟨rfl,ho2⟩;replace hs:=hs.call0 ho2
  repeat' (first|refine vs (k:=?_)|refine qRg ?_|refine Nx.h ?_|refine qCf ?_|fail)
  (with_reducible apply xs_call);exact rfl;exact rfl;exact rnew_ret ⟨3,0,1⟩ 1 5 (by decide) (by decide) (by decide) _
  rw [k1]
  rintro v w' ⟨rfl,ho⟩;replace hs:=hs.call0 ho;repeat' (first|refine vs (k:=?_)|(refine stA hs (k:=?_);intro w hs)|(refine al hs (k:=?_);intro b w hz hs)|refine qRg ?_|refine Nx.h ?_|fail)
  have hSw:=hS.only (hs.only0 rfl)
  have hzw:=hs.size
  (with_reducible apply xs_call);exact rfl;exact rfl;exact enter_ret sb (newS 0) F0 rk _ hSw (by decide) (by decide) (by decide)
  rw [k2]
  rintro v w3 ⟨rfl,F1,hS3,hF1,ho3⟩
  replace hs:=hs.call ho3 (hSw.apart hs rfl) (by simp [D0])
  have hF1':∀ k∈F1,w0.heap.size≤k:=fun k hk=>by
    rcases hF1 k hk with h | h
    · exact hF0 k h
    · omega
  have hm:∀ w',Only (F0 ++ []) w1 w'→Only [] w0 w':=fun w' ho=>ho1'.step ho (fun k hk=>by
    rw [List.append_nil] at hk
    exact .inr (hF0 k hk))
  have hm2:∀ w',Only (F1 ++ (F0 ++ [])) w1 w'→Only [] w0 w':=fun w' ho=>ho1'.step ho (fun k hk=>by
    rw [List.append_nil,List.mem_append] at hk
    rcases hk with hk | hk
    · exact .inr (hF1' k hk)
    · exact .inr (hF0 k hk))
  have e3:=k3
  have e4:=k4
  have e5:=k5
  generalize enterS (newS 0) rk=s1 at *
  repeat' (first|refine vs (k:=?_)|refine qRg ?_|refine Nx.h ?_|fail)
  (with_reducible apply xs_call);exact rfl;exact rfl;exact Awake15_ret _ (tab_only ht (hm _ hs.only))
  rintro v w4 ⟨rfl,ho4⟩;replace hS3:=hS3.only ho4;replace hs:=hs.call0 ho4
  repeat' (first|refine vs (k:=?_)|fail)
  (with_reducible apply xs_call);exact rfl;exact rfl;exact runnable_ret sb s1 F1 _ hS3 (by rw [e3];decide)
  rw [e3,show runN [rk]=1 from rfl]
  rintro v w5 ⟨rfl,ho5⟩;replace hS3:=hS3.only ho5;replace hs:=hs.call0 ho5
  repeat' (first|refine vs (k:=?_)|fail)
  (with_reducible apply xs_call);exact rfl;exact rfl;exact rouse_ret sb s1 F1 1 true _ hS3 (by decide) (by rw [e3];decide)
  rw [e5]
  rintro v w6 ⟨rfl,hS6,ho6⟩
  replace hs:=hs.call ho6 (hS3.apart hs rfl) (by simp [D0])
  repeat' (first|refine vs (k:=?_)|fail)
  (with_reducible apply xs_call);exact rfl;exact rfl;exact runnable_ret sb (rouseS s1 1 true) F1 _ hS6 (by rw [e4];decide)
  rw [e4,show runN [wakeR rk true]=0 from rfl]
  rintro v w7 ⟨rfl,ho7⟩;replace hs:=hs.call0 ho7
  repeat' (first|refine vs (k:=?_)|refine Nx.h ?_|fail)
  first | refine rt (hq:=?_) | refine rt' (hq:=?_)
  exact ⟨rfl,hm2 _ hs.only⟩
theorem Awake16_ret (w0:World) (ht:Pows w0):Ret Tryz.prog 43 #[] w0 fun v w'=>v = .bool true∧Only [] w0 w':=by
  have hs:=St.nil w0
  refine ret_of_xc Tryz.func43 (by kernel_rfl) rfl Tryz.ntmps43 rfl rfl rfl ?_
  repeat' (first|refine vs (k:=?_)|refine qRg ?_|refine Nx.h ?_|fail)
  (with_reducible apply xs_call);exact rfl;exact rfl;exact awake16_ret _ ht
  rintro v w' ⟨rfl,ho⟩;replace hs:=hs.call0 ho;repeat' (first|refine vs (k:=?_)|refine Nx.h ?_|fail)
  first | refine rt (hq:=?_) | refine rt' (hq:=?_)
  exact ⟨rfl,hs.only0 rfl⟩
end Go.Proofs.YtkbcfknnieggbaaGreatDoorX

namespace Go.Proofs.YtkbcfknnieggbaaGreatDoorX
open Go Go.RowKit
open IB (IT ITsAt flatT)
attribute [local irreducible] XS XC XA thenE blockE retE loopE loopS cutB cutN doneE SE
def rs:RT:=wakeR rk true
def s17:Ss:=enterS (newS 0) rs
def g17:Gn:=⟨1,0,rs.1⟩
theorem p1:enterE (newS 0) rs=0:=by kernel_rfl
theorem p2:nextS s17=some g17:=by kernel_rfl
theorem p3:s17.q.f 1=some (itR rs):=by kernel_rfl
theorem p4:CutOk (itR rs) s17.q.t:=fun _=>⟨by kernel_rfl,by kernel_rfl⟩
theorem p5:nextS (exitS s17 1)=none:=by kernel_rfl
theorem p6:soonId (exitS s17 1).q=0:=by kernel_rfl
theorem f17:Flushes s17 [g17] (exitS s17 1) := .step p2 p3 p4 (.done p5)
set_option maxHeartbeats 4000000 in
theorem awake17_ret (w0:World) (ht:Pows w0):Ret Tryz.prog 11 #[] w0 fun v w'=>v = .bool true∧Only [] w0 w':=by
  have hs:=St.nil w0
  refine ret_of_xc Tryz.func11 (by kernel_rfl) rfl Tryz.ntmps11 rfl rfl rfl ?_
  repeat' (first|refine vs (k:=?_)|refine qRg ?_|refine Nx.h ?_|fail)
  (with_reducible apply xs_call);exact rfl;exact rfl;exact snew_ret 0 (by decide) _
  rintro v w1 ⟨⟨sb,F0,rfl,hS,hF0⟩,ho1⟩
  have hF0:∀ k∈F0,w0.heap.size≤k:=fun k hk=>by have:=hF0 k hk;have:=hs.size;omega
  have hz1:=ho1.size
  have hq:=hs.call0 ho1
  have ho1':=hq.only0 rfl
  clear hs hq
  have hs:=St.nil w1
  repeat' (first|refine vs (k:=?_)|refine qRg ?_|refine Nx.h ?_|fail)
  (with_reducible apply xs_call);exact rfl;exact rfl;exact rnew_ret ⟨3,0,1⟩ 1 5 (by decide) (by decide) (by decide) _
  rw [k1]
  rintro v w' ⟨rfl,ho⟩;replace hs:=hs.call0 ho;repeat' (first|refine vs (k:=?_)|(refine st hs (k:=?_);intro w hs)|(refine stA hs (k:=?_);intro w hs)|(refine al hs (k:=?_);intro b w hz hs)|refine qRg ?_|refine Nx.h ?_|fail)
  have hSw:=hS.only (hs.only0 rfl)
  have hzw:=hs.size
  (with_reducible apply xs_call);exact rfl;exact rfl;exact enter_ret sb (newS 0) F0 rs _ hSw (by decide) (by decide) (by decide)
  rw [p1,show enterS (newS 0) rs=s17 from rfl]
  rintro v w3 ⟨rfl,F1,hS3,hF1,ho3⟩
  replace hs:=hs.call ho3 (hSw.apart hs rfl) (by simp [D0])
  have hF1':∀ k∈F1,w0.heap.size≤k:=fun k hk=>by
    rcases hF1 k hk with h | h
    · exact hF0 k h
    · omega
  have hoA:Only [] w0 w3:=ho1'.step hs.only (fun k hk=>by
    have hk:k∈F0 ++ []:=hk
    rw [List.append_nil] at hk
    exact .inr (hF0 k hk))
  have e6:=p6
  have hf:=f17
  have hn:=(show s17.l.length≤1000000 by decide)
  have hq:=(show s17.q.t.list.length≤1000000 by decide)
  generalize s17=s at *
  generalize exitS s 1=s' at *
  have hz3:=hoA.size
  clear hs
  have hs:=St.nil w3
  repeat' (first|refine vs (k:=?_)|refine qRg ?_|refine Nx.h ?_|refine qCf ?_|fail)
  (with_reducible apply xs_call);exact rfl;exact rfl;exact settle_ret sb s s' [g17] F1 _ hS3 hn hq (by decide) hf
  rw [e6]
  rintro v w4 ⟨sl,rfl,⟨G,hG,hGn⟩,F2,hS4,hF2,ho4⟩
  have hL:=hG.ls (xs:=[g17.cells]) rfl rfl (by simp)
  obtain ⟨ad,cap,rfl,hD⟩:=hL
  obtain ⟨bb,off,cs,fz,rfl,_,hbb,hcs⟩:=hD (by simp)
  have hpk:=hcs 0 g17.cells rfl
  have hoB:Only [] w0 w4:=hoA.step ho4 (fun k hk => .inr (hF1' k hk))
  clear hs
  have hs:=St.nil w4
  repeat' (first|refine vs (k:=?_)|refine qRg ?_|refine Nx.h ?_|fail)
  (with_reducible apply xs_call);exact rfl;exact rfl;exact Awake16_ret _ (tab_only ht hoB)
  rintro v w5 ⟨rfl,ho5⟩
  have hb5:=ho5.block hbb (by simp)
  have hoC:=hoB.trans ho5
  clear hs
  have hs:=St.nil w5
  repeat' (first|refine vs (k:=?_)|fail)
  refine ix (h0:=(by decide)) (h1:=(by decide)) (k:=?_)
  repeat' (first|refine vs (k:=?_)|fail)
  refine lh hb5 (by cases hpk with | cons h _=>exact h) (k:=?_)
  repeat' (first|refine vs (k:=?_)|fail)
  refine ix (h0:=(by decide)) (h1:=(by decide)) (k:=?_)
  refine vs (k:=?_)
  have hpk2:Pick cs (off+1) 2 [.int .i64 0,.int .u64 0]:=by
    cases hpk with | cons _ h=>cases h with | cons h1 h=>cases h with | cons h2 _=>exact .cons h1 (.cons h2 .nil)
  refine lhK hb5 hpk2 (k:=?_)
  skip
  (with_reducible apply xs_call);exact rfl;exact rfl;exact sign_ret 0 (by decide) _
  rintro v w' ⟨rfl,ho⟩;replace hs:=hs.call0 ho;repeat' (first|refine vs (k:=?_)|refine Nx.h ?_|fail)
  first | refine rt (hq:=?_) | refine rt' (hq:=?_)
  exact ⟨rfl,hoC.trans (hs.only0 rfl)⟩
end Go.Proofs.YtkbcfknnieggbaaGreatDoorX

namespace Go.Proofs.YtkbcfknnieggbaaGreatDoorX
open Go Go.RowKit
attribute [local irreducible] XS XC XA thenE blockE retE loopE loopS cutB cutN doneE SE
def c18a:Cs:=tryC (newC 0) (joinC (newC 0) 1 1 2 0).1 (joinC (newC 0) 1 1 2 0).2
def c18b:Cs:=tryC c18a (joinC c18a 2 1 2 0).1 (joinC c18a 2 1 2 0).2
theorem a18_1:(joinC (newC 0) 1 1 2 0).1=0:=by kernel_rfl
theorem a18_2:(joinC c18a 2 1 2 0).1=0:=by kernel_rfl
theorem a18_3:(tickC c18b 4).1=0:=by kernel_rfl
theorem a18_4:(tickC c18b 4).2.2.p=[⟨1,2,true⟩,⟨2,2,true⟩]:=by kernel_rfl
theorem a18_5:(tickC c18b 4).2.2.g.length=0:=by kernel_rfl
theorem AwakeL17_ret (w0:World) (ht:Pows w0):Ret Tryz.prog 57 #[] w0 fun v w'=>v = .bool true∧Only [] w0 w':=by
  have hs:=St.nil w0
  refine ret_of_xc Tryz.func57 (by kernel_rfl) rfl Tryz.ntmps57 rfl rfl rfl ?_
  repeat' (first|refine vs (k:=?_)|refine qRg ?_|refine Nx.h ?_|fail)
  (with_reducible apply xs_call);exact rfl;exact rfl;exact awake17_ret _ (tab_only ht (hs.only0 rfl))
  rintro v w' ⟨rfl,ho⟩;replace hs:=hs.call0 ho;repeat' (first|refine vs (k:=?_)|refine Nx.h ?_|fail)
  first | refine rt (hq:=?_) | refine rt' (hq:=?_)
  exact ⟨rfl,hs.only0 rfl⟩
theorem lit_ls {w:World} {b e n k:Nat} {xs:List (List Value)} (hb:w.heap[b]?=some (.cells xs.flatten.toArray e (0,0))) (hn:xs.length=n) (hk:∀ x∈xs,x.length=k) (hl:xs.flatten.length=n*k):LsAt w e k (.slice (some ⟨b,0,none⟩) n n) xs :=
  SlV.ls (n:=n) (G:=[b]) (.inr ⟨b,n,xs.flatten,rfl,rfl,Nat.le_refl _,hl,hl,by rw [← hl];exact List.take_length,hb⟩) rfl hn.symm hk
theorem SlP.ls {w:World} {v:Value} {l:List Pr} {G:List Nat} (h:SlP w v l G):LsAt w 75 3 v (l.map Pr.cells):=SlV.ls h rfl (by simp) (fun x hx=>by obtain ⟨p,_,rfl⟩:=List.mem_map.1 hx;rfl)
set_option maxHeartbeats 8000000 in
theorem awake18_ret (w0:World) (ht:Pows w0):Ret Tryz.prog 20 #[] w0 fun v w'=>v = .bool true∧Only [] w0 w':=by
  have hs:=St.nil w0
  refine ret_of_xc Tryz.func20 (by kernel_rfl) rfl Tryz.ntmps20 rfl rfl rfl ?_
  repeat' (first|refine vs (k:=?_)|refine qRg ?_|refine Nx.h ?_|fail)
  (with_reducible apply xs_call);exact rfl;exact rfl;exact cnew_ret 0 (by decide) _
  rintro v w1 ⟨⟨cb,F0,rfl,hC,hF0⟩,ho1⟩
  have hz1:=ho1.size
  have hoA:=(hs.only0 rfl).trans ho1
  have hF0':∀ k∈F0,w0.heap.size≤k:=fun k hk=>by have:=hF0 k hk;have:=(hs.only0 rfl).size;omega
  have hcF:cb∈F0:=by obtain ⟨_,_,rfl,_⟩:=hC;simp
  have hcb:w0.heap.size≤cb:=hF0' cb hcF
  clear hs
  have hs:=St.nil w1
  repeat' (first|refine vs (k:=?_)|refine qRg ?_|refine Nx.h ?_|refine qCf ?_|fail)
  (with_reducible apply xs_call);exact rfl;exact rfl;exact join_ret cb (newC 0) F0 1 1 2 0 _ (hC.only (hs.only0 rfl)) (by decide) (by decide) (by decide) (by decide)
  rw [a18_1]
  rintro v w2 ⟨rv,rfl,hRv,⟨F1,hC1,hF1⟩,ho2⟩
  have hC1:CAt w2 cb c18a F1:=by have e:=a18_1;unfold c18a;rw [e];exact hC1
  obtain ⟨vg,vp,Gg,Gp,rfl,p1,p2⟩:=hRv
  obtain ⟨ag,cg,rfl⟩:=slv_form p1
  obtain ⟨ap,cp,rfl⟩:=slv_form p2
  have hz2:=(hs.only0 rfl).size
  have hoB:Only [] w0 w2:=(hoA.trans (hs.only0 rfl)).step ho2 (fun k hk => .inr (by obtain rfl:=List.mem_singleton.1 hk;exact hcb))
  clear hs
  have hs:=St.nil w2
  repeat' (first|refine vs (k:=?_)|(refine stA hs (k:=?_);intro w hs)|(refine al hs (k:=?_);intro b w hz hs)|refine qRg ?_|refine Nx.h ?_|fail)
  (with_reducible apply xs_call);exact rfl;exact rfl;exact join_ret cb c18a F1 2 1 2 0 _ (hC1.only (hs.only0 rfl)) (by decide) (by decide) (by decide) (by decide)
  rw [a18_2]
  rintro v w3 ⟨rv,rfl,hRv,⟨F2,hC2,hF2⟩,ho3⟩
  have hC2:CAt w3 cb c18b F2:=by have e:=a18_2;unfold c18b;rw [e];exact hC2
  obtain ⟨vg,vp,Gg,Gp,rfl,p1,p2⟩:=hRv
  obtain ⟨ag,cg,rfl⟩:=slv_form p1
  obtain ⟨ap,cp,rfl⟩:=slv_form p2
  have hz3:=(hs.only0 rfl).size
  have hoC:Only [] w0 w3:=(hoB.trans (hs.only0 rfl)).step ho3 (fun k hk => .inr (by obtain rfl:=List.mem_singleton.1 hk;exact hcb))
  clear hs
  have hs:=St.nil w3
  repeat' (first|refine vs (k:=?_)|(refine stA hs (k:=?_);intro w hs)|(refine al hs (k:=?_);intro b w hz hs)|refine qRg ?_|refine Nx.h ?_|fail)
  have hpl:(tickC c18b 4).2.2.p.length < 2000000000000:=by rw [a18_4];decide
  have hgl:(tickC c18b 4).2.2.g.length≤1000000:=by rw [a18_5];decide
  (with_reducible apply xs_call);exact rfl;exact rfl;exact tick_ret cb c18b F2 4 _ (hC2.only (hs.only0 rfl)) (by decide) hpl hgl
  rw [a18_3]
  rintro v w4 ⟨rv,rfl,hRv,_,ho4⟩
  obtain ⟨vg,vp,Gg,Gp,rfl,p1,p2⟩:=hRv
  obtain ⟨ag,cg,rfl⟩:=slv_form p1
  have p3:SlP w4 vp [⟨1,2,true⟩,⟨2,2,true⟩] Gp:=by rw [← a18_4];exact p2
  obtain ⟨ap,cp,rfl⟩:=slv_form p3
  have hz4:=(hs.only0 rfl).size
  have hoD:Only [] w0 w4:=(hoC.trans (hs.only0 rfl)).step ho4 (fun k hk => .inr (by obtain rfl:=List.mem_singleton.1 hk;exact hcb))
  clear hs
  have hs:=St.nil w4
  repeat' (first|refine vs (k:=?_)|(refine stA hs (k:=?_);intro w hs)|(refine al hs (k:=?_);intro b w hz hs)|refine qRg ?_|refine Nx.h ?_|fail)
  have hoE:=hoD.trans (hs.only0 rfl)
  (with_reducible apply xs_call);exact rfl;exact rfl;exact AwakeL17_ret _ (tab_only ht hoE)
  rintro v w' ⟨rfl,ho⟩;replace hs:=hs.call0 ho;repeat' (first|refine vs (k:=?_)|(refine bs hs (k:=?_);intro b w hz hs)|fail)
  have hlit:=lit_ls (xs:=[Pr.cells ⟨1,2,true⟩,Pr.cells ⟨2,2,true⟩]) (k:=3) (hs.get At.head) rfl (by decide) rfl
  (with_reducible apply xs_call);exact rfl;exact rfl;exact eqP_ret _ _ [⟨1,2,true⟩,⟨2,2,true⟩] [⟨1,2,true⟩,⟨2,2,true⟩] (by decide) _ ((SlP.ls p3).only (hs.only0 rfl)) hlit
  rw [show decide ([(⟨1,2,true⟩:Pr),⟨2,2,true⟩]=[⟨1,2,true⟩,⟨2,2,true⟩])=true by decide]
  rintro v w' ⟨rfl,ho⟩;replace hs:=hs.call0 ho;repeat' (first|refine vs (k:=?_)|refine Nx.h ?_|fail)
  first | refine rt (hq:=?_) | refine rt' (hq:=?_)
  exact ⟨rfl,hoD.trans (hs.only0 rfl)⟩
end Go.Proofs.YtkbcfknnieggbaaGreatDoorX

namespace Go.Proofs.YtkbcfknnieggbaaGreatDoorX
open Go Go.RowKit
attribute [local irreducible] XS XC XA thenE blockE retE loopE loopS cutB cutN doneE SE
abbrev av18 (a:Ac18):Value := .agg #[.int .u8 a.d,.int .i64 a.id,.int .u32 a.w,.int .u64 a.ns,.int .i64 a.lag]
theorem Told18.fin {w0 w1 w2 w3:World} {cb:Nat} {F G:List Nat} {rv:Value} {e:Int} {c c1:Cs} {r1:Rp} (T:Told18 w1 cb F rv e c c1 r1 w2) (ho:Only [] w0 w1) (ho3:Only G w2 w3)
    (hG:∀ b∈G,w0.heap.size≤b∧∃ cs ty fz,w2.heap[b]?=some (.cells cs ty fz)∧ty≠53∧ty≠75∧okC (.cells cs ty fz)=true):Told18 w0 cb F rv e c c1 r1 w3:=by
  obtain ⟨⟨vg,vp,Gg,Gp,rfl,p1,p2⟩,⟨F',hC,hF⟩,ho2⟩:=T
  have hz:=ho.size
  refine ⟨⟨vg,vp,Gg,Gp,rfl,p1.keep ho3 (fun k hk hm=>?_),p2.keep ho3 (fun k hk hm=>?_)⟩,⟨F',hC.keepD ho3 (fun k hk hm=>?_),fun k hk=>?_⟩,((ho.weaken (by simp)).step ho2 (fun k hk => .inl hk)).step ho3 (fun k hk => .inr (hG k hk).1)⟩
  · obtain ⟨_,cs,ty,fz,a,b,_,_⟩:=hG k hm;exact slv_ne p1 a b hk
  · obtain ⟨_,cs,ty,fz,a,_,b,_⟩:=hG k hm;exact slv_ne p2 a b hk
  · obtain ⟨_,cs,ty,fz,a,_,_,b⟩:=hG k hm;exact hC.not a b hk
  · rcases hF k hk with h | h
    · exact .inl h
    · exact .inr (by omega)
theorem Told18.form {w1 w2:World} {cb:Nat} {F:List Nat} {rv:Value} {e:Int} {c c1:Cs} {r1:Rp} (T:Told18 w1 cb F rv e c c1 r1 w2):∃ ag cg ap cp,rv = .agg #[.slice ag (tryR e c1 r1).g.length cg,.slice ap (tryR e c1 r1).p.length cp]:=by
  obtain ⟨⟨vg,vp,Gg,Gp,rfl,p1,p2⟩,_,_⟩:=T
  obtain ⟨ag,cg,rfl⟩:=slv_form p1
  obtain ⟨ap,cp,rfl⟩:=slv_form p2
  exact ⟨ag,cg,ap,cp,rfl⟩
set_option maxHeartbeats 16000000 in
theorem act_ret (cb:Nat) (c:Cs) (F:List Nat) (a:Ac18) (ha:a.In) (w0:World) (h:CAt w0 cb c F) :
    Ret Tryz.prog 23 #[.pointer (some ⟨cb,0,none⟩),av18 a] w0 fun v w'=>∃ rv,v = .tuple #[rv,.int .i64 (doC c a).1]∧Told18 w0 cb F rv (doC c a).1 c (doC c a).2.1 (doC c a).2.2 w':=by
  have hs:=St.nil w0
  obtain ⟨d0,hid,hw,hns,hlag⟩:=ha
  have mcb:cb∈F:=by obtain ⟨_,_,rfl,_⟩:=h;simp
  have lcb:=h.lt cb mcb
  refine ret_of_xc Tryz.func23 (by kernel_rfl) rfl Tryz.ntmps23 rfl rfl rfl ?_
  refine xc_seq ?_
  refine xc_region ?_ ?_;exact rfl
  first | refine bx hs (k:=?_) | refine bs hs (k:=?_)
  intro b3 w1 hz1 hs
  refine al hs (k:=?_);intro b4 w2 hz2 hs
  repeat' (first|refine vs (k:=?_)|refine qRg ?_|refine Nx.h ?_|fail)
  refine rem8 (b:=10) d0.1 (by decide) (k:=?_)
  have g4:=hs.new (b4,true) (by simp) rfl
  simp only at g4
  by_cases k0:a.d % 10=0
  · rw [k0]
    have eD:doC c a=((joinC c a.id a.w a.ns a.lag).1,(joinC c a.id a.w a.ns a.lag).2,.none):=by unfold doC;rw [if_pos (show a.d % 10 < 2 by omega)]
    repeat' (first|refine vs (k:=?_)|refine qRg ?_|refine Nx.h ?_|refine qCt ?_|fail)
    have ho:=hs.only0 rfl
    (with_reducible apply xs_call);exact rfl;exact rfl;exact join_ret cb c F a.id a.w a.ns a.lag _ (h.only ho) hid hw hns hlag
    rintro v w5 ⟨rv,rfl,T⟩
    have T:Told18 _ cb F rv (joinC c a.id a.w a.ns a.lag).1 c (joinC c a.id a.w a.ns a.lag).2 .none w5:=T
    obtain ⟨ag,cg,ap,cp,rfl⟩:=T.form
    have y4:=T.2.2.block (hs.get (b:=b4) (by repeat (first | exact At.head | (with_reducible apply At.tail)))) (by simp;omega)
    rw [eD]
    clear hs
    have hs:=(St.nil w5).trackT y4
    repeat' (first|refine vs (k:=?_)|(refine stA hs (k:=?_);intro w hs)|refine Nx.h ?_|fail)
    first | refine rt (hq:=?_) | refine rt' (hq:=?_)
    exact ⟨_,rfl,T.fin ho (hs.onlyF [b4] (by simp) (by simp [D0])) (fun b hb=>by
      obtain rfl:=List.mem_singleton.1 hb
      exact ⟨g4,_,_,_,y4,by decide,by decide,rfl⟩)⟩
  by_cases k1:a.d % 10=1
  · rw [k1]
    have eD:doC c a=((joinC c a.id a.w a.ns a.lag).1,(joinC c a.id a.w a.ns a.lag).2,.none):=by unfold doC;rw [if_pos (show a.d % 10 < 2 by omega)]
    repeat' (first|refine vs (k:=?_)|refine qRg ?_|refine Nx.h ?_|refine qCt ?_|refine qCf ?_|fail)
    have ho:=hs.only0 rfl
    (with_reducible apply xs_call);exact rfl;exact rfl;exact join_ret cb c F a.id a.w a.ns a.lag _ (h.only ho) hid hw hns hlag
    rintro v w5 ⟨rv,rfl,T⟩
    have T:Told18 _ cb F rv (joinC c a.id a.w a.ns a.lag).1 c (joinC c a.id a.w a.ns a.lag).2 .none w5:=T
    obtain ⟨ag,cg,ap,cp,rfl⟩:=T.form
    have y4:=T.2.2.block (hs.get (b:=b4) (by repeat (first | exact At.head | (with_reducible apply At.tail)))) (by simp;omega)
    rw [eD]
    clear hs
    have hs:=(St.nil w5).trackT y4
    repeat' (first|refine vs (k:=?_)|(refine stA hs (k:=?_);intro w hs)|refine Nx.h ?_|fail)
    first | refine rt (hq:=?_) | refine rt' (hq:=?_)
    exact ⟨_,rfl,T.fin ho (hs.onlyF [b4] (by simp) (by simp [D0])) (fun b hb=>by
      obtain rfl:=List.mem_singleton.1 hb
      exact ⟨g4,_,_,_,y4,by decide,by decide,rfl⟩)⟩
  by_cases k2:a.d % 10=2
  · rw [k2]
    have eD:doC c a=((leaveC c a.id).1,(leaveC c a.id).2,.none):=by unfold doC;rw [if_neg (show ¬ a.d % 10 < 2 by omega),if_pos k2]
    repeat' (first|refine vs (k:=?_)|refine qRg ?_|refine Nx.h ?_|refine qCt ?_|refine qCf ?_|fail)
    have ho:=hs.only0 rfl
    (with_reducible apply xs_call);exact rfl;exact rfl;exact cLeave_ret cb c F a.id _ (h.only ho) hid
    rintro v w5 ⟨rv,rfl,T⟩
    obtain ⟨ag,cg,ap,cp,rfl⟩:=T.form
    have y4:=T.2.2.block (hs.get (b:=b4) (by repeat (first | exact At.head | (with_reducible apply At.tail)))) (by simp;omega)
    rw [eD]
    clear hs
    have hs:=(St.nil w5).trackT y4
    repeat' (first|refine vs (k:=?_)|(refine stA hs (k:=?_);intro w hs)|(refine al hs (k:=?_);intro b w hz hs)|refine qRg ?_|refine Nx.h ?_|fail)
    first | refine rt (hq:=?_) | refine rt' (hq:=?_)
    exact ⟨_,rfl,T.fin ho (hs.onlyF [b4] (by simp) (by simp [D0])) (fun b hb=>by
      obtain rfl:=List.mem_singleton.1 hb
      exact ⟨g4,_,_,_,y4,by decide,by decide,rfl⟩)⟩
  by_cases k3:a.d % 10=3
  · rw [k3]
    have eD:doC c a=((sleepC c a.id).1,(sleepC c a.id).2,.none):=by unfold doC;rw [if_neg (show ¬ a.d % 10 < 2 by omega),if_neg (show ¬ a.d % 10=2 by omega),if_pos k3]
    repeat' (first|refine vs (k:=?_)|refine qRg ?_|refine Nx.h ?_|refine qCt ?_|refine qCf ?_|fail)
    have ho:=hs.only0 rfl
    (with_reducible apply xs_call);exact rfl;exact rfl;exact cSleep_ret cb c F a.id _ (h.only ho) hid
    rintro v w5 ⟨rv,rfl,T⟩
    obtain ⟨ag,cg,ap,cp,rfl⟩:=T.form
    have y4:=T.2.2.block (hs.get (b:=b4) (by repeat (first | exact At.head | (with_reducible apply At.tail)))) (by simp;omega)
    rw [eD]
    clear hs
    have hs:=(St.nil w5).trackT y4
    repeat' (first|refine vs (k:=?_)|(refine stA hs (k:=?_);intro w hs)|(refine al hs (k:=?_);intro b w hz hs)|refine qRg ?_|refine Nx.h ?_|fail)
    first | refine rt (hq:=?_) | refine rt' (hq:=?_)
    exact ⟨_,rfl,T.fin ho (hs.onlyF [b4] (by simp) (by simp [D0])) (fun b hb=>by
      obtain rfl:=List.mem_singleton.1 hb
      exact ⟨g4,_,_,_,y4,by decide,by decide,rfl⟩)⟩
  by_cases k4:a.d % 10=4
  · rw [k4]
    have eD:doC c a=((wakeC c a.id).1,(wakeC c a.id).2,.none):=by unfold doC;rw [if_neg (show ¬ a.d % 10 < 2 by omega),if_neg (show ¬ a.d % 10=2 by omega),if_neg (show ¬ a.d % 10=3 by omega),if_pos k4]
    repeat' (first|refine vs (k:=?_)|refine qRg ?_|refine Nx.h ?_|refine qCt ?_|refine qCf ?_|fail)
    have ho:=hs.only0 rfl
    (with_reducible apply xs_call);exact rfl;exact rfl;exact wake_ret cb c F a.id _ (h.only ho) hid
    rintro v w5 ⟨rv,rfl,T⟩
    obtain ⟨ag,cg,ap,cp,rfl⟩:=T.form
    have y4:=T.2.2.block (hs.get (b:=b4) (by repeat (first | exact At.head | (with_reducible apply At.tail)))) (by simp;omega)
    rw [eD]
    clear hs
    have hs:=(St.nil w5).trackT y4
    repeat' (first|refine vs (k:=?_)|(refine stA hs (k:=?_);intro w hs)|refine Nx.h ?_|fail)
    first | refine rt (hq:=?_) | refine rt' (hq:=?_)
    exact ⟨_,rfl,T.fin ho (hs.onlyF [b4] (by simp) (by simp [D0])) (fun b hb=>by
      obtain rfl:=List.mem_singleton.1 hb
      exact ⟨g4,_,_,_,y4,by decide,by decide,rfl⟩)⟩
  by_cases k5:a.d % 10=5
  · rw [k5]
    have eD:doC c a=((weighC c a.id a.w).1,(weighC c a.id a.w).2,.none):=by unfold doC;rw [if_neg (show ¬ a.d % 10 < 2 by omega),if_neg (show ¬ a.d % 10=2 by omega),if_neg (show ¬ a.d % 10=3 by omega),if_neg (show ¬ a.d % 10=4 by omega),if_pos k5]
    repeat' (first|refine vs (k:=?_)|refine qRg ?_|refine Nx.h ?_|refine qCt ?_|refine qCf ?_|fail)
    have ho:=hs.only0 rfl
    (with_reducible apply xs_call);exact rfl;exact rfl;exact cweigh_ret cb c F a.id a.w _ (h.only ho) hid hw
    rintro v w5 ⟨rv,rfl,T⟩
    obtain ⟨ag,cg,ap,cp,rfl⟩:=T.form
    have y4:=T.2.2.block (hs.get (b:=b4) (by repeat (first | exact At.head | (with_reducible apply At.tail)))) (by simp;omega)
    rw [eD]
    clear hs
    have hs:=(St.nil w5).trackT y4
    repeat' (first|refine vs (k:=?_)|(refine stA hs (k:=?_);intro w hs)|refine Nx.h ?_|fail)
    first | refine rt (hq:=?_) | refine rt' (hq:=?_)
    exact ⟨_,rfl,T.fin ho (hs.onlyF [b4] (by simp) (by simp [D0])) (fun b hb=>by
      obtain rfl:=List.mem_singleton.1 hb
      exact ⟨g4,_,_,_,y4,by decide,by decide,rfl⟩)⟩
  by_cases k6:a.d % 10=6
  · rw [k6]
    have eD:doC c a=((sliceC c a.id a.ns).1,(sliceC c a.id a.ns).2,.none):=by unfold doC;rw [if_neg (show ¬ a.d % 10 < 2 by omega),if_neg (show ¬ a.d % 10=2 by omega),if_neg (show ¬ a.d % 10=3 by omega),if_neg (show ¬ a.d % 10=4 by omega),if_neg (show ¬ a.d % 10=5 by omega),if_pos k6]
    repeat' (first|refine vs (k:=?_)|refine qRg ?_|refine Nx.h ?_|refine qCt ?_|refine qCf ?_|fail)
    have ho:=hs.only0 rfl
    (with_reducible apply xs_call);exact rfl;exact rfl;exact slice_ret cb c F a.id a.ns _ (h.only ho) hid hns
    rintro v w5 ⟨rv,rfl,T⟩
    obtain ⟨ag,cg,ap,cp,rfl⟩:=T.form
    have y4:=T.2.2.block (hs.get (b:=b4) (by repeat (first | exact At.head | (with_reducible apply At.tail)))) (by simp;omega)
    rw [eD]
    clear hs
    have hs:=(St.nil w5).trackT y4
    repeat' (first|refine vs (k:=?_)|(refine stA hs (k:=?_);intro w hs)|refine Nx.h ?_|fail)
    first | refine rt (hq:=?_) | refine rt' (hq:=?_)
    exact ⟨_,rfl,T.fin ho (hs.onlyF [b4] (by simp) (by simp [D0])) (fun b hb=>by
      obtain rfl:=List.mem_singleton.1 hb
      exact ⟨g4,_,_,_,y4,by decide,by decide,rfl⟩)⟩
  have eD:doC c a=tickC c a.ns:=by unfold doC;rw [if_neg (show ¬ a.d % 10 < 2 by omega),if_neg (show ¬ a.d % 10=2 by omega),if_neg (show ¬ a.d % 10=3 by omega),if_neg (show ¬ a.d % 10=4 by omega),if_neg (show ¬ a.d % 10=5 by omega),if_neg (show ¬ a.d % 10=6 by omega)]
  have t0:(a.d % 10 == 0)=false:=by simpa using k0
  have t1:(a.d % 10 == 1)=false:=by simpa using k1
  have t2:(a.d % 10 == 2)=false:=by simpa using k2
  have t3:(a.d % 10 == 3)=false:=by simpa using k3
  have t4:(a.d % 10 == 4)=false:=by simpa using k4
  have t5:(a.d % 10 == 5)=false:=by simpa using k5
  have t6:(a.d % 10 == 6)=false:=by simpa using k6
  generalize a.d % 10=m at *
  repeat' (first|refine Nx.h ?_|fail)
  refine xc_region ?_ ?_;exact rfl
  refine vs (k:=?_)
  rw [show (m == 0)=false from t0]
  repeat' (first|refine vs (k:=?_)|refine Nx.h ?_|refine qCf ?_|fail)
  refine xc_region ?_ ?_;exact rfl
  refine vs (k:=?_)
  rw [show (m == 1)=false from t1]
  repeat' (first|refine vs (k:=?_)|refine Nx.h ?_|refine qCf ?_|fail)
  refine xc_region ?_ ?_;exact rfl
  refine vs (k:=?_)
  rw [show (m == 2)=false from t2]
  repeat' (first|refine vs (k:=?_)|refine Nx.h ?_|refine qCf ?_|fail)
  refine xc_region ?_ ?_;exact rfl
  refine vs (k:=?_)
  rw [show (m == 3)=false from t3]
  repeat' (first|refine vs (k:=?_)|refine Nx.h ?_|refine qCf ?_|fail)
  refine xc_region ?_ ?_;exact rfl
  refine vs (k:=?_)
  rw [show (m == 4)=false from t4]
  repeat' (first|refine vs (k:=?_)|refine Nx.h ?_|refine qCf ?_|fail)
  refine xc_region ?_ ?_;exact rfl
  refine vs (k:=?_)
  rw [show (m == 5)=false from t5]
  repeat' (first|refine vs (k:=?_)|refine Nx.h ?_|refine qCf ?_|fail)
  refine xc_region ?_ ?_;exact rfl
  refine vs (k:=?_)
  rw [show (m == 6)=false from t6]
  repeat' (first|refine vs (k:=?_)|refine qRg ?_|refine Nx.h ?_|refine qCf ?_|fail)
  have ho:=hs.only0 rfl
  (with_reducible apply xs_call);exact rfl;exact rfl;exact tickT_ret cb c F a.ns _ (h.only ho) hns
  rintro v w5 ⟨rv,rfl,T⟩
  obtain ⟨ag,cg,ap,cp,rfl⟩:=T.form
  have y4:=T.2.2.block (hs.get (b:=b4) (by repeat (first | exact At.head | (with_reducible apply At.tail)))) (by simp;omega)
  rw [eD]
  clear hs
  have hs:=(St.nil w5).trackT y4
  repeat' (first|refine vs (k:=?_)|(refine stA hs (k:=?_);intro w hs)|refine Nx.h ?_|fail)
  first | refine rt (hq:=?_) | refine rt' (hq:=?_)
  exact ⟨_,rfl,T.fin ho (hs.onlyF [b4] (by simp) (by simp [D0])) (fun b hb=>by
    obtain rfl:=List.mem_singleton.1 hb
    exact ⟨g4,_,_,_,y4,by decide,by decide,rfl⟩)⟩
end Go.Proofs.YtkbcfknnieggbaaGreatDoorX

namespace Go.Proofs.YtkbcfknnieggbaaGreatDoorX
open Go Go.RowKit
attribute [local irreducible] XS XC XA thenE blockE retE loopE loopS cutB cutN doneE SE
end Go.Proofs.YtkbcfknnieggbaaGreatDoorX

namespace Go.Proofs.YtkbcfknnieggbaaGreatDoorX
open Go Go.RowKit
attribute [local irreducible] XS XC XA thenE blockE retE loopE loopS cutB cutN doneE SE
theorem SetAt.mem {w:World} {sb:Nat} {A:As} {F:List Nat} (h:SetAt w sb A F):sb∈F:=by
  obtain ⟨s,⟨qb,mb,Fq,rfl,_⟩,_⟩:=h
  simp
theorem rs_rq {w:World} {v:Value} {l:List RT} {G:List Nat} (h:SlV w 51 10 v l.length (flatR l) G):LsAt w 51 10 v ((l.map Subtype.val).map Rq.cells):=by
  rw [List.map_map]
  exact rs_of h
end Go.Proofs.YtkbcfknnieggbaaGreatDoorX

namespace Go.Proofs.YtkbcfknnieggbaaGreatDoorX
open Go Go.RowKit
attribute [local irreducible] XS XC XA thenE blockE retE loopE loopS cutB cutN doneE SE
set_option maxHeartbeats 8000000 in
theorem light_ret (xs:List Ac18) (sl:Value) (hx:∀ a∈xs,a.In) (w0:World) (hL:LsX w0 5 sl (xs.map Ac18.cells)):Ret Tryz.prog 21 #[sl] w0 fun v w'=>(∃ b,v = .bool b∧(b=true→xs.length≤40))∧Only [] w0 w':=by
  obtain ⟨ad,cap,rfl,hD⟩:=hL
  rw [List.length_map]
  have hs:=St.nil w0
  refine ret_of_xc Tryz.func21 (by kernel_rfl) rfl Tryz.ntmps21 rfl rfl rfl ?_
  repeat' (first|refine vs (k:=?_)|refine qRg ?_|refine Nx.h ?_|(refine xc_if rfl (fun hc=>?_) (fun hc=>?_))|fail)
  · first | refine rt (hq:=?_) | refine rt' (hq:=?_)
    exact ⟨⟨false,rfl,fun h=>by cases h⟩,hs.only0 rfl⟩
  have hm:xs.length≤40:=by omega
  refine xc_cutB (fun (x:Int × Int)=>[(3,.int .u64 x.1),(4,.int .u64 x.2)]) (fun x w=>1≤x.1∧x.1 < 18446744073709551616∧U64 x.2∧Only [] w0 w) ?_ ?_
  · refine xc_loopS (fun (x:Nat × Int × Int)=>[(3,.int .u64 x.2.1),(4,.int .u64 x.2.2),(11,.slice ad xs.length cap),(12,.int .i64 (xs.length:Nat)),(13,.int .i64 (x.1:Nat))])
      (fun x w=>x.1≤xs.length∧1≤x.2.1∧x.2.1 < 18446744073709551616∧U64 x.2.2∧Only [] w0 w) (fun x=>xs.length - x.1) (0,1099511627776,0) (by (repeat (first | exact agree_nil | (apply agree_cons;exact rfl)))) ⟨Nat.zero_le _,by decide,by decide,by decide,hs.only0 rfl⟩ fun x env wl ⟨hi,hT⟩=>?_
    obtain ⟨i,least,ticks⟩:=x
    simp only at hi hT
    obtain ⟨hl1,hl2,ht,ho⟩:=hT
    clear hs
    have hs:=St.nil wl
    repeat' (first|refine vs (k:=?_)|refine qRg ?_|refine Nx.h ?_|(refine xc_if rfl (fun hc=>?_) (fun hc=>?_))|fail)
    · have hlt:i < xs.length:=by omega
      obtain ⟨b,off,cs,E,fz,rfl,hb,hcs⟩:=hD (fun h=>by have:=congrArg List.length h;rw [List.length_map,List.length_nil] at this;omega)
      have hpk:=hcs i (Ac18.cells xs[i]) (by rw [List.getElem?_map,List.getElem?_eq_getElem hlt];rfl)
      have ei:=nx64 (m:=xs.length) hlt (by omega)
      obtain ⟨d0,hid,hw,hns,hlag⟩:=hx xs[i] (List.getElem_mem hlt)
      generalize xs[i]=q at *
      refine ix (h0:=(by omega)) (h1:=(by omega)) (k:=?_)
      refine lhK (vs:=q.cells) (ho.block hb (by simp)) hpk (k:=?_)
      refine al hs (k:=?_);clear hs;intro b11 w3 hz3 hs
      refine stA hs (k:=?_);clear hs;intro w4 hs
      repeat' (first|refine vs (k:=?_)|refine qRg ?_|refine Nx.h ?_|fail)
      refine rem8 (b:=10) d0.1 (by decide) (k:=?_)
      generalize q.d % 10=m at *
      have hns':0≤q.ns∧q.ns < 18446744073709551616:=hns
      have ht':0≤ticks∧ticks < 18446744073709551616:=ht
      repeat' (first|refine vs (k:=?_)|refine ps (k:=?_)|refine qRg ?_|refine Nx.h ?_|refine qCf ?_|((with_reducible apply xs_guard);exact rfl;exact rfl;intro c hc;(fail_if_success have:true=c:=hc);(fail_if_success have:false=c:=hc);cases c)|(refine xc_if rfl (fun hc=>?_) (fun hc=>?_))|fail)
      all_goals (first
        | (refine loopS_next (i+1,least,IntKind.u64.wrap (ticks+q.ns)) (by show xs.length - (i+1) < xs.length - i;omega) ?_ ⟨by show i+1≤_;omega,hl1,hl2,u64_rng _,ho.trans (hs.only0 rfl)⟩;(repeat (first | exact agree_nil | (apply agree_cons;first | exact rfl | exact congrArg (Value.int .i64) ei)));done)
        | (refine loopS_next (i+1,least,ticks) (by show xs.length - (i+1) < xs.length - i;omega) ?_ ⟨by show i+1≤_;omega,hl1,hl2,ht,ho.trans (hs.only0 rfl)⟩;(repeat (first | exact agree_nil | (apply agree_cons;first | exact rfl | exact congrArg (Value.int .i64) ei)));done)
        | (have hq:1≤lessN least q.ns∧lessN least q.ns < 18446744073709551616:=(by simp only [decide_eq_true_eq,decide_eq_false_iff_not,ge_iff_le] at *;unfold lessN;split <;> omega)
           refine loopS_next (i+1,lessN least q.ns,ticks) (by show xs.length - (i+1) < xs.length - i;omega) ?_ ⟨by show i+1≤_;omega,hq.1,hq.2,ht,ho.trans (hs.only0 rfl)⟩;(repeat (first | exact agree_nil | (apply agree_cons;first | exact rfl | exact congrArg (Value.int .i64) ei)));done))
    · exact cutB_exit (least,ticks) (by (repeat (first | exact agree_nil | (apply agree_cons;exact rfl)))) ⟨hl1,hl2,ht,ho⟩
  · rintro ⟨least,ticks⟩ env w ⟨hl1,hl2,ht,ho⟩
    simp only at hl1 hl2 ht
    have ht':0≤ticks∧ticks < 18446744073709551616:=ht
    clear hs
    have hs:=St.nil w
    repeat' (first|refine vs (k:=?_)|refine qRg ?_|refine Nx.h ?_|fail)
    first | refine rt (hq:=?_) | refine rt' (hq:=?_)
    exact ⟨⟨_,rfl,fun _=>hm⟩,ho.trans (hs.only0 rfl)⟩
theorem ccarried_ret (cb:Nat) (c:Cs) (F:List Nat) (w0:World) (h:CAt w0 cb c F):Ret Tryz.prog 30 #[.pointer (some ⟨cb,0,none⟩)] w0 fun v w'=>v=wv c.carr∧Only [] w0 w':=by
  obtain ⟨sb,Fs,rfl,h1,hS,h3,h4⟩:=h
  have hs:=(St.nil w0).trackT h1
  refine ret_of_xc Tryz.func30 (by kernel_rfl) rfl Tryz.ntmps30 rfl rfl rfl ?_
  repeat' (first|refine vs (k:=?_)|(refine stA hs (k:=?_);intro w hs)|(refine al hs (k:=?_);intro b w hz hs)|refine qRg ?_|refine Nx.h ?_|refine qCf ?_|fail)
  first | refine rt (hq:=?_) | refine rt' (hq:=?_)
  exact ⟨rfl,hs.onlyF [] (by simp [h1]) (by simp [D0])⟩
theorem CAt.mem {w:World} {cb:Nat} {c:Cs} {F:List Nat} (h:CAt w cb c F):cb∈F:=by obtain ⟨_,_,rfl,_⟩:=h;simp
theorem CAt.opn {w:World} {cb:Nat} {c:Cs} {F:List Nat} (h:CAt w cb c F):∃ sb qb mb Fs,F=cb :: Fs∧w.heap[cb]?=some (coreO sb c.run c.carr)∧w.heap[sb]?=some (setO qb mb)∧SetAt w sb c.A Fs∧QuAt w qb c.A∧sb∈Fs:=by
  obtain ⟨sb,Fs,rfl,h1,hS,h3,h4⟩:=h
  obtain ⟨qb,mb,g1,gQ⟩:=hS.opn
  exact ⟨sb,qb,mb,Fs,rfl,h1,g1,hS,gQ,hS.mem⟩
structure TwoC (w0:World) (cb db:Nat) (c d:Cs) (F G:List Nat) (w:World):Prop where
  a:CAt w cb c F
  b:CAt w db d G
  d:∀ k∈F,k∉G
  f:∀ k∈F,w0.heap.size≤k
  g:∀ k∈G,w0.heap.size≤k
  o:Only [] w0 w
section
variable {w0 w w' : World} {cb db : Nat} {c d : Cs} {F G : List Nat}
theorem TwoC.keep (h:TwoC w0 cb db c d F G w) (ho:Only [] w w'):TwoC w0 cb db c d F G w':=⟨h.a.only ho,h.b.only ho,h.d,h.f,h.g,h.o.trans ho⟩
theorem TwoC.left {rv:Value} {e:Int} {c1:Cs} {r1:Rp} (h:TwoC w0 cb db c d F G w) (T:Told18 w cb F rv e c c1 r1 w'):∃ F',TwoC w0 cb db (tryC c e c1) d F' G w':=by
  obtain ⟨_,⟨F',hC,hF⟩,ho⟩:=T
  have hz:=h.o.size
  refine ⟨F',hC,h.b.keepD ho (fun k hk hm=>?_),fun k hk hm=>?_,fun k hk=>?_,h.g,h.o.step ho (fun k hk=>?_)⟩
  · obtain rfl:=List.mem_singleton.1 hm
    exact h.d _ h.a.mem hk
  · rcases hF k hk with q | q
    · exact h.d k q hm
    · have:=h.b.lt k hm;omega
  · rcases hF k hk with q | q
    · exact h.f k q
    · omega
  · obtain rfl:=List.mem_singleton.1 hk
    exact .inr (h.f _ h.a.mem)
theorem TwoC.ne (h:TwoC w0 cb db c d F G w):db≠cb:=fun k=>h.d cb h.a.mem (k ▸ h.b.mem)
end
theorem TwoC.clone {w0 w w':World} {cb db:Nat} {c:Cs} {F G:List Nat} (h:CAt w cb c F) (hF:∀ k∈F,w0.heap.size≤k) (ho:Only [] w0 w) (hd:CAt w' db c G) (hG:∀ k∈G,w.heap.size≤k) (ho':Only [] w w'):TwoC w0 cb db c c F G w' :=
  ⟨h.only ho',hd,fun k hk hm=>by have:=h.lt k hk;have:=hG k hm;omega,hF,fun k hk=>by have:=hG k hk;have:=ho.size;omega,ho.trans ho'⟩
end Go.Proofs.YtkbcfknnieggbaaGreatDoorX

namespace Go.Proofs.YtkbcfknnieggbaaGreatDoor
open Go
theorem pf_laid:laidOutB Tryz.prog=true:=by kernel_rfl
theorem pf_maps:mapsRowed Tryz.prog=true:=by kernel_rfl
theorem pf_keys:(true == Tryz.prog.plainKeys)=true:=by kernel_rfl
theorem pf_heard:Tryz.prog.stopsHeard=true:=by kernel_rfl
theorem pf_enter:Tryz.prog.mayEnter=true:=by kernel_rfl
theorem pf_lift:(false == Tryz.prog.liftsFinal)=true:=by kernel_rfl
theorem pf_make:(Tryz.prog.make == some .cut)=true:=by kernel_rfl
theorem and_mk {a b:Bool} (h:a=true) (k:b=true):(a && b)=true:=by rw [h,k];rfl
end Go.Proofs.YtkbcfknnieggbaaGreatDoor

namespace Go.Proofs.YtkbcfknnieggbaaGreatDoorX
open Go
theorem door_met (os : Os) (args : Array Value) : laidMetH Tryz.prog [("math/bits.deBruijn32tab", YtkbcfknnieggbaaGreatDoor.Rows.laid_math_bits_deBruijn32tab), ("math/bits.deBruijn64tab", YtkbcfknnieggbaaGreatDoor.Rows.laid_math_bits_deBruijn64tab), ("internal/strconv.uint64pow10", YtkbcfknnieggbaaGreatDoor.Rows.laid_internal_strconv_uint64pow10)] ((World.doorLaid Tryz.prog 24 os).forCall (fun _ _ => 0) ⟨#[], args, []⟩).memory :=
  laidMetH_of_parts3 (fuel:=8) (laidMet_of_run' 8 (by kernel_rfl) (by kernel_rfl)) (by kernel_rfl) (by kernel_rfl)
theorem pows_of {W : World} (h : laidMetH Tryz.prog [("math/bits.deBruijn32tab", YtkbcfknnieggbaaGreatDoor.Rows.laid_math_bits_deBruijn32tab), ("math/bits.deBruijn64tab", YtkbcfknnieggbaaGreatDoor.Rows.laid_math_bits_deBruijn64tab), ("internal/strconv.uint64pow10", YtkbcfknnieggbaaGreatDoor.Rows.laid_internal_strconv_uint64pow10)] W) : Pows W := by
  rw [MakeChecks.laidMetH_plain _ _ _ (by kernel_rfl)] at h
  have h2:=h.tail.tail
  exact Lib.tabIs_of_head (g := (Tryz.prog.globalNamed "internal/strconv.uint64pow10").getD 0) (t := 339) (e := 22) (n := 20) (by kernel_rfl) (by kernel_rfl) (by kernel_rfl) (by kernel_rfl) (by kernel_rfl) (by kernel_rfl) h2
end Go.Proofs.YtkbcfknnieggbaaGreatDoorX
