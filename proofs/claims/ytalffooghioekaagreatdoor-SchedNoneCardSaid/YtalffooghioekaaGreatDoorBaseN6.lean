/- A part of the proof: what its functions compute. -/
import Derived.Test.YtalffooghioekaaGreatDoorBaseN5
import Derived.Maps.OwnSet
set_option linter.unusedVariables false
set_option linter.unusedSimpArgs false
set_option maxRecDepth 100000
namespace Go.Proofs.YtalffooghioekaaGreatDoorX
open Go Go.RowKit Go.Maps
def hld (v:Value):Option (DataW Value × List MemPlace):=some (.held v,[])
def keyL (i:Int):Lit := .int .i64 i
def MapAt (w:World) (b:Nat) (f:Int→Option Value) (c:Nat):Prop :=
  ∃ D:DataW Value,w.ownsMap Tryz.prog 3 hld b c D∧Maps.size D=c∧∀ i,In64 i→Maps.has D (keyL i)=(f i).isSome∧∀ z,D.atKey (keyL i) (.held z) = .held ((f i).getD z)
theorem intK:Keyed Tryz.prog 3:=int_keyed (q := .i64) (by kernel_rfl)
theorem key_of {i:Int} (h:In64 i):keyOf Tryz.prog 3 (.int .i64 i)=some (keyL i):=keyOf_int_mk (q := .i64) (by kernel_rfl) (by
  show (decide (IntKind.i64.min≤i) && decide (i≤IntKind.i64.max))=true
  have e1:IntKind.i64.min=-9223372036854775808:=rfl
  have e2:IntKind.i64.max=9223372036854775807:=rfl
  obtain ⟨h1,h2⟩:=h
  rw [e1,e2,decide_eq_true h1,decide_eq_true (show i≤9223372036854775807 by omega)];rfl)
theorem Only.of_grown {w w':World} {b:Nat} (h:w.grownBy w' (some b)):Only [b] w w':=by
  obtain ⟨h1,h2,h3,h4,h5⟩:=h
  exact ⟨h1,h2,h3,h4,fun k hk hn=>h5 k hk (fun e=>hn (by cases e;exact List.mem_singleton.2 rfl))⟩
theorem MapAt.keep {w w':World} {b c:Nat} {f:Int→Option Value} {F:List Nat} (h:MapAt w b f c) (ho:Only F w w') (hb:b∉F):MapAt w' b f c:=by
  obtain ⟨D,⟨es,clock,h1,h2⟩,h3⟩:=h
  exact ⟨D,⟨es,clock,ho.block h1 hb,h2⟩,h3⟩
theorem MapAt.lt {w:World} {b c:Nat} {f:Int→Option Value} (h:MapAt w b f c):b < w.heap.size:=by
  obtain ⟨D,⟨es,clock,h1,h2⟩,h3⟩:=h
  exact lt_of_block h1
theorem MapAt.ne {w:World} {b c:Nat} {f:Int→Option Value} (h:MapAt w b f c) {b':Nat} {cs:Array Value} {t:Nat} {fz:Nat × Nat} (hb:w.heap[b']?=some (.cells cs t fz)):b'≠b:=fun e=>by
  subst e
  obtain ⟨D,⟨es,clock,h1,h2⟩,h3⟩:=h
  rw [h1] at hb;cases hb
theorem MapAt.made (w:World):MapAt (w.alloc (.map #[] 0)) w.heap.size (fun _=>none) 0 :=
  ⟨.map [],World.ownsMap_made _ _ _ _,rfl,fun i hi=>⟨rfl,fun z=>rfl⟩⟩
def updF (f:Int→Option Value) (i:Int) (v:Option Value):Int→Option Value:=fun j=>bif decide (j=i) then v else f j
theorem key_ne {i j:Int} (h:j≠i):keyL j≠keyL i:=fun e=>by
  unfold keyL at e
  injection e with _ e
  exact h e
theorem isKeyL (i:Int) (h:In64 i):WideAt.IsKeyLit (keyL i):=(intK.key (key_of h))
section
variable {w : World} {b c : Nat} {f : Int → Option Value} {t e : Nat} {z v : Value} {i : Int}
theorem MapAt.look (h:MapAt w b f c) (ht:Tryz.prog.underlying t=some (.map 3 e)) (hz:(zeroValue e).run Tryz.prog w = .ok z w) (hi:In64 i):(Instr.lookup t (.map (some b)) (.int .i64 i) true).run Tryz.prog w = .ok (.tuple #[(f i).getD z,.bool (f i).isSome]) w:=by
  obtain ⟨D,h1,h2,h3⟩:=h
  obtain ⟨v,ps,hr,hv⟩:=h1.look_ok intK ht hz (zd := .held z) (zp:=[]) rfl (key_of hi)
  obtain ⟨h4,h5⟩:=h3 i hi
  have e1:DataW.held v=D.atKey (keyL i) (.held z):=by
    unfold hld at hv;simp only [Option.some.injEq,Prod.mk.injEq] at hv;exact hv.1
  rw [h5 z] at e1
  injection e1 with e1
  rw [hr,show Maps.has D (keyL i)=(f i).isSome from h4,e1]
theorem MapAt.look1 (h:MapAt w b f c) (ht:Tryz.prog.underlying t=some (.map 3 e)) (hz:(zeroValue e).run Tryz.prog w = .ok z w) (hi:In64 i):(Instr.lookup t (.map (some b)) (.int .i64 i) false).run Tryz.prog w = .ok ((f i).getD z) w:=by
  obtain ⟨D,h1,h2,h3⟩:=h
  obtain ⟨v,ps,hr,hv⟩:=h1.lookup intK ht hz (zd := .held z) (zp:=[]) rfl (key_of hi)
  obtain ⟨h4,h5⟩:=h3 i hi
  have e1:DataW.held v=D.atKey (keyL i) (.held z):=by
    unfold hld at hv;simp only [Option.some.injEq,Prod.mk.injEq] at hv;exact hv.1
  rw [h5 z] at e1
  injection e1 with e1
  rw [hr,e1]
theorem ownsMap_fit {D:DataW Value} {n:Nat} (h:w.ownsMap Tryz.prog 3 hld b n D):w.ownsMap Tryz.prog 3 hld b (Maps.size D) D:=by
  obtain ⟨es,clock,h1,h2,h3,h4⟩:=h
  refine ⟨es,clock,h1,h2,?_,h4⟩
  rw [h4]
  simp [Maps.size,length_sorted]
theorem MapAt.store (h:MapAt w b f c) (ht:Tryz.prog.underlying t=some (.map 3 e)) (hi:In64 i) (hc:c < maxLen):∃ w',(Instr.mapUpdate t (.map (some b)) (.int .i64 i) v).run Tryz.prog w = .ok () w'∧MapAt w' b (updF f i (some v)) (if (f i).isSome then c else c+1)∧Only [b] w w':=by
  obtain ⟨D,h1,h2,h3⟩:=h
  obtain ⟨w',hr,h4,h5⟩:=h1.store intK ht hc (d := .held v) (ps:=[]) (val:=v) (key_of hi) rfl
  have hT:=h1.tidy intK
  have hs:Maps.size (D.put (keyL i) (.held v))=if (f i).isSome then c else c+1:=by rw [size_put hT,(h3 i hi).1,h2]
  refine ⟨w',hr,⟨_,by rw [← hs];exact ownsMap_fit h4,hs,fun j hj=>?_⟩,Only.of_grown h5.grown⟩
  by_cases e1:j=i
  · subst e1
    unfold updF
    rw [decide_eq_true rfl,cond_true]
    exact ⟨has_put_same h1.isMap (isKeyL j hj) _,fun z=>atKey_put_same h1.isMap (isKeyL j hj) _ _⟩
  · unfold updF
    rw [decide_eq_false e1,cond_false,has_put_other (key_ne e1)]
    exact ⟨(h3 j hj).1,fun z=>by rw [atKey_put_other (key_ne e1)];exact (h3 j hj).2 z⟩
theorem MapAt.drop (h:MapAt w b f c) (ht:Tryz.prog.underlying t=some (.map 3 e)) (hi:In64 i) (ty:Nat):∃ w',(Builtin.delete_ #[t,3] ty #[.map (some b),.int .i64 i]).run Tryz.prog w = .ok (.tuple #[]) w'∧MapAt w' b (updF f i none) (if (f i).isSome then c - 1 else c)∧Only [b] w w':=by
  obtain ⟨D,h1,h2,h3⟩:=h
  obtain ⟨w',hr,h4,h5⟩:=h1.drop intK ht (key_of hi) ty
  have hT:=h1.tidy intK
  have hs:Maps.size (D.del (keyL i))=if (f i).isSome then c - 1 else c:=by
    have:=size_del (k:=keyL i) hT
    rw [(h3 i hi).1,h2] at this
    split at this <;> rename_i hx <;> simp only [hx,if_true,if_false,Bool.false_eq_true] <;> omega
  refine ⟨w',hr,⟨_,by rw [← hs];exact ownsMap_fit h4,hs,fun j hj=>?_⟩,Only.of_grown h5.grown⟩
  by_cases e1:j=i
  · subst e1
    unfold updF
    rw [decide_eq_true rfl,cond_true]
    exact ⟨has_del_same,fun z=>atKey_del_same _⟩
  · unfold updF
    rw [decide_eq_false e1,cond_false,has_del_other (key_ne e1)]
    exact ⟨(h3 j hj).1,fun z=>by rw [atKey_del_other (key_ne e1)];exact (h3 j hj).2 z⟩
end
end Go.Proofs.YtalffooghioekaaGreatDoorX

namespace Go.Proofs.YtalffooghioekaaGreatDoorX
open Go Go.RowKit
section
variable {ops : Array Oper} {QE : Exit → Env → World → Prop} {n : Nat} {rest : List Oper} {env : Env} {w wb : World} {D : Ctx} {H : List Ent} {d : Option Nat} {ty : Nat} {pos : String} {aft : Array Edge} {g : Option (Nat × Bool)}
theorem zero_run {e:Nat} {z:Value} (h:(Tryz.prog.info? e).bind (·.zero)=some z) (w:World):(zeroValue e).run Tryz.prog w = .ok z w:=by
  obtain ⟨i,hi,hz⟩:=Option.bind_eq_some_iff.1 h
  simp [zeroValue,Sem.run_bind,run_typeInfo' hi,hz]
theorem xs_look {t e b c:Nat} {f:Int→Option Value} {x y:Operand} {i:Int} {z:Value} (hM:MapAt w b f c) (hi:In64 i) (hz:(Tryz.prog.info? e).bind (·.zero)=some z) (ht:Tryz.prog.underlying t=some (.map 3 e)) (hw:wantedE ops env g=true:=by exact rfl) (hx:ev env x = .map (some b):=by exact rfl) (hy:ev env y = .int .i64 i:=by exact rfl)
    (k:XS Tryz.prog ops QE n rest (updO env d (.tuple #[(f i).getD z,.bool (f i).isSome])) w):XS Tryz.prog ops QE n (⟨d,.lookup t x y true,ty,pos,aft,g⟩ :: rest) env w :=
  xs_val hw (by simp [execOp,hx,hy,Sem.run_bind,hM.look ht (zero_run hz w) hi]) k
theorem xs_look1 {t e b c:Nat} {f:Int→Option Value} {x y:Operand} {i:Int} {z:Value} (hM:MapAt w b f c) (hi:In64 i) (hz:(Tryz.prog.info? e).bind (·.zero)=some z) (ht:Tryz.prog.underlying t=some (.map 3 e)) (hw:wantedE ops env g=true:=by exact rfl) (hx:ev env x = .map (some b):=by exact rfl) (hy:ev env y = .int .i64 i:=by exact rfl)
    (k:XS Tryz.prog ops QE n rest (updO env d ((f i).getD z)) w):XS Tryz.prog ops QE n (⟨d,.lookup t x y false,ty,pos,aft,g⟩ :: rest) env w :=
  xs_val hw (by simp [execOp,hx,hy,Sem.run_bind,hM.look1 ht (zero_run hz w) hi]) k
theorem xs_mapPut {t e b c:Nat} {f:Int→Option Value} {x y u:Operand} {i:Int} {v:Value} (hM:MapAt w b f c) (hi:In64 i) (hc:c < maxLen) (ht:Tryz.prog.underlying t=some (.map 3 e)) (hw:wantedE ops env g=true:=by exact rfl) (hx:ev env x = .map (some b):=by exact rfl) (hy:ev env y = .int .i64 i:=by exact rfl) (hu:ev env u=v:=by exact rfl)
    (k:∀ w',MapAt w' b (updF f i (some v)) (if (f i).isSome then c else c+1)→Only [b] w w'→XS Tryz.prog ops QE n rest (updO env d undef) w'):XS Tryz.prog ops QE n (⟨d,.mapUpdate t x y u,ty,pos,aft,g⟩ :: rest) env w:=by
  obtain ⟨w',hr,h1,h2⟩:=hM.store (v:=v) ht hi hc
  exact XS.skipped hw (by simp [execOp,hx,hy,hu,Sem.run_bind,hr]) (k w' h1 h2)
theorem xs_mapDel {t e b c:Nat} {f:Int→Option Value} {x y:Operand} {i:Int} (hM:MapAt w b f c) (hi:In64 i) (ht:Tryz.prog.underlying t=some (.map 3 e)) (hw:wantedE ops env g=true:=by exact rfl) (hx:ev env x = .map (some b):=by exact rfl) (hy:ev env y = .int .i64 i:=by exact rfl)
    (k:∀ w',MapAt w' b (updF f i none) (if (f i).isSome then c - 1 else c)→Only [b] w w'→XS Tryz.prog ops QE n rest (updO env d (.tuple #[])) w'):XS Tryz.prog ops QE n (⟨d,.call { callee := .builtin .delete,args:=#[x,y],argTypes:=#[t,3] },ty,pos,aft,g⟩ :: rest) env w:=by
  obtain ⟨w',hr,h1,h2⟩:=hM.drop ht hi ty
  exact XS.value hw (v := .tuple #[]) (w':=w') (by simp [execOp,resolve,Sem.run_bind,invoke,builtin,hx,hy,hr]) (k w' h1 h2)
theorem xs_mapNew {t:Nat} (hw:wantedE ops env g=true:=by exact rfl)
    (k:∀ b w',Only [] w w'→MapAt w' b (fun _=>none) 0→w.heap.size≤b→XS Tryz.prog ops QE n rest (updO env d (.map (some b))) w'):XS Tryz.prog ops QE n (⟨d,.makeMap t none,ty,pos,aft,g⟩ :: rest) env w :=
  XS.value hw (v := .map (some w.heap.size)) (w':=w.alloc (.map #[] 0)) (by simp [execOp,Sem.run_bind,run_makeMap]) (k _ _ (((St.nil w).alloc _).only0 rfl) (MapAt.made w) (Nat.le_refl _))
end
end Go.Proofs.YtalffooghioekaaGreatDoorX

namespace Go.Proofs.YtalffooghioekaaGreatDoorX
open Go Go.RowKit
attribute [local irreducible] XS XC XA thenE blockE retE loopE loopS cutB cutN doneE SE
def wdV (o:Option Int):Value := .tuple #[wv (o.getD 0),.bool o.isSome]
def ovL (m:Mn) (p:Pt):Int:=m.a*p.w - dist p m.b*m.w
def ovM (m:Mn) (p:Pt):Option Int:=if m.right=true∧m.n≠0∧p.right=true∧InW (m.a*p.w)∧InW (ovL m p) then some (ovL m p) else none
theorem ovM_in {m:Mn} {p:Pt}:InW ((ovM m p).getD 0):=by
  unfold ovM;split
  · rename_i h;exact h.2.2.2.2
  · decide
theorem i64_of {x:Int} (h:In64 x):IntKind.i64.wrap x=x:=by rw [wrap_i64];unfold In64 at h;omega
theorem had_rng {m:Mn} {p:Pt} (hp:p.In) (h5:m.right=true) (h6:p.right=true):InW (dist p m.b*m.w)∧-(9671406556917033397649408+1048576)≤dist p m.b∧dist p m.b≤9671406556917033397649408+1048576:=by
  have h5:=mright_iff.1 h5
  have h6:=pright_iff.1 h6
  have h7:=sn_rng p.t m.b
  have h8:=mul_rng (w:=p.w) (s:=sn p.t m.b) (W:=1048576) (S:=9223372036854775808) (by omega) (by omega) (by omega) (by omega)
  have hr:=hp.2.1.1
  have h9:-(9671406556917033397649408+1048576)≤dist p m.b∧dist p m.b≤9671406556917033397649408+1048576:=by unfold dist;omega
  have h10:=mul_rng (w:=m.w) (s:=dist p m.b) (W:=33554432) (S:=9671406556917033397649408+1048576) (by omega) (by omega) h9.1 h9.2
  have e:=Int.mul_comm (dist p m.b) m.w
  exact ⟨by unfold InW;rw [e];omega,h9⟩
set_option maxHeartbeats 4000000 in
theorem over_ret (m:Mn) (p:Pt) (hm:m.In) (hp':p.In) (w0:World):Ret Tryz.prog 164 #[mv m,pv p] w0 fun v w'=>v=wdV (ovM m p)∧Only [] w0 w':=by
  have hs:=St.nil w0
  refine ret_of_xc Tryz.func164 (by kernel_rfl) rfl Tryz.ntmps164 rfl rfl rfl ?_
  repeat' (first|refine vs (k:=?_)|(refine al hs (k:=?_);intro b w hz hs)|(refine bx hs (k:=?_);intro b w hz hs)|refine qRg ?_|refine Nx.h ?_|fail)
  (with_reducible apply xs_call);exact rfl;exact rfl;exact mright_ret m _
  rintro v w' ⟨rfl,ho⟩;replace hs:=hs.call0 ho;repeat' (first|refine vs (k:=?_)|refine ps (k:=?_)|(refine stA hs (k:=?_);intro w hs)|refine qRg ?_|refine Nx.h ?_|refine qCt ?_|((with_reducible apply xs_guard);exact rfl;exact rfl;intro c hc;(fail_if_success have:true=c:=hc);(fail_if_success have:false=c:=hc);cases c)|fail)
  · (with_reducible apply xs_call);exact rfl;exact rfl;exact pright_ret p _
    rintro v w' ⟨rfl,ho⟩;replace hs:=hs.call0 ho;repeat' (first|refine vs (k:=?_)|(refine stA hs (k:=?_);intro w hs)|refine qRg ?_|refine Nx.h ?_|(refine xc_cond rfl (fun hc=>?_) (fun hc=>?_))|fail)
    · first | refine rt (hq:=?_) | refine rt' (hq:=?_)
      refine ⟨?_,hs.only0 rfl⟩
      have:ovM m p=none:=by unfold ovM;rw [if_neg (fun h=>absurd h.2.2.1 (by simpa using hc))]
      rw [this];rfl
    · have h1:m.right=true:=by simpa using ‹(!m.right)=false›
      have h2:p.right=true:=by simpa using hc
      have h3:m.n≠0:=by simpa using ‹(m.n == 0)=false›
      have h5:=mright_iff.1 h1
      have h6:=pright_iff.1 h2
      have h7:=had_rng (m:=m) hp' h1 h2
      have e1:IntKind.i64.wrap p.w=p.w:=i64_of ⟨by omega,by omega⟩
      have e2:IntKind.i64.wrap m.w=m.w:=i64_of ⟨by omega,by omega⟩
      (with_reducible apply xs_call);exact rfl;exact rfl;exact mul_t m.a (IntKind.i64.wrap p.w) hm.2.1 (by rw [e1];exact ⟨by omega,by omega⟩) _
      rw [e1]
      rintro v w' ⟨rfl,ho⟩;replace hs:=hs.call0 ho;repeat' (first|refine vs (k:=?_)|(refine stA hs (k:=?_);intro w hs)|(refine al hs (k:=?_);intro b w hz hs)|refine Nx.h ?_|fail)
      refine dr [] hs (k:=?_);intro hX w hs
      refine tk 0 hX (k:=?_)
      refine tk 1 hX (k:=?_)
      refine tk 2 hX (k:=?_)
      refine tk 4 hX (k:=?_)
      refine tk 5 hX (k:=?_)
      refine tk 6 hX (k:=?_)
      refine pd0 11 8 hs (k:=?_);intro f X w hp;have hs:=hp.st
      apply xa_pend 3 11 (f:=f) (X:=X) hX hp;exact rfl;exact rfl;(apply makes_alloc tabOk;exact rfl);kernel_rfl;kernel_rfl;kernel_rfl;kernel_rfl;(intro X Y;(repeat (first | exact pgg_base | refine pgg_step ?_ (by exact rfl))));(intro w' hs;first|exact se_hold hs.hold|exact se_hold hs.hold.tail|exact se_done rfl);intro f X w hp;have hs:=hp.st
      (with_reducible apply xs_call);exact rfl;exact rfl;exact dist_ret p m.b hp' _
      rintro v w' ⟨rfl,ho⟩;replace hp:=hp.only ho;replace hs:=hp.st;repeat' (first|refine Nx.h ?_|fail)
      refine dn (k:=?_)
      apply xa_pend 7 11 (f:=f) (X:=X) hX hp;exact rfl;exact rfl;(apply makes_alloc tabOk;exact rfl);kernel_rfl;kernel_rfl;kernel_rfl;kernel_rfl;(intro X Y;(repeat (first | exact pgg_base | refine pgg_step ?_ (by exact rfl))));(intro w' hs;first|exact se_hold hs.hold|exact se_hold hs.hold.tail|exact se_done rfl);intro f X w hp;have hs:=hp.st
      (with_reducible apply xs_call);exact rfl;exact rfl;exact mul_ok (dist p m.b) (IntKind.i64.wrap m.w) (dist_in hp' _) (by rw [e2];omega) (by rw [e2];omega) (by rw [e2];exact h7.1) _
      rw [e2]
      rintro v w' ⟨rfl,ho⟩;replace hp:=hp.only ho;replace hs:=hp.st;repeat' (first|refine Nx.h ?_|fail)
      refine dn (k:=?_)
      refine tk 8 hX (hc:=by cases f <;> kernel_rfl) (k:=?_)
      refine tk 9 hX (hc:=by cases f <;> kernel_rfl) (k:=?_)
      refine tk 10 hX (hc:=by cases f <;> kernel_rfl) (k:=?_)
      apply xa_pendE 11 (f:=f) (X:=X) hX hp;exact rfl;(apply makes_alloc tabOk;exact rfl);kernel_rfl;kernel_rfl;(intro X Y;(repeat (first | exact pgg_base | refine pgg_step ?_ (by exact rfl))));(intro w' hs;first|exact se_hold hs.hold|exact se_hold hs.hold.tail|exact se_done rfl);intro b w hI hs
      refine dt 12 hX (k:=?_)
      repeat' (first|(refine stA hs (k:=?_);intro w hs)|refine Nx.h ?_|fail)
      refine dn (k:=?_)
      refine tk 13 hX (k:=?_)
      refine en (k:=?_)
      repeat' (first|refine vs (k:=?_)|refine qRg ?_|refine Nx.h ?_|fail)
      (with_reducible apply xs_call);exact rfl;exact rfl;exact sub_t (tot (m.a*p.w)) (dist p m.b*m.w) (tot_in _) h7.1 _
      rintro v w' ⟨rfl,ho⟩;replace hs:=hs.call0 ho;repeat' (first|refine vs (k:=?_)|refine ps (k:=?_)|(refine stA hs (k:=?_);intro w hs)|(refine al hs (k:=?_);intro b w hz hs)|refine qRg ?_|refine Nx.h ?_|refine qCt ?_|((with_reducible apply xs_guard);exact rfl;exact rfl;intro c hc;(fail_if_success have:true=c:=hc);(fail_if_success have:false=c:=hc);cases c)|(refine xc_cond rfl (fun hc=>?_) (fun hc=>?_))|fail)
      · have h8:InW (m.a*p.w):=by simpa using ‹(!decide (InW (m.a*p.w)))=false›
        have e3:tot (m.a*p.w)=m.a*p.w:=if_pos h8
        first | refine rt (hq:=?_) | refine rt' (hq:=?_)
        refine ⟨?_,hs.only0 rfl⟩
        rw [e3] at hc
        have h9:¬ InW (ovL m p):=by unfold ovL;simpa using hc
        have:ovM m p=none:=by unfold ovM;rw [if_neg (fun h=>h9 h.2.2.2.2)]
        rw [this];rfl
      · have h8:InW (m.a*p.w):=by simpa using ‹(!decide (InW (m.a*p.w)))=false›
        have e3:tot (m.a*p.w)=m.a*p.w:=if_pos h8
        first | refine rt (hq:=?_) | refine rt' (hq:=?_)
        refine ⟨?_,hs.only0 rfl⟩
        rw [e3] at hc
        have h9:InW (ovL m p):=by unfold ovL;simpa using hc
        have:ovM m p=some (ovL m p):=by unfold ovM;rw [if_pos ⟨h1,h3,h2,h8,h9⟩]
        have e4:tot (m.a*p.w - dist p m.b*m.w)=ovL m p:=if_pos h9
        rw [this,e3,e4];rfl
      · first | refine rt (hq:=?_) | refine rt' (hq:=?_)
        refine ⟨?_,hs.only0 rfl⟩
        have h8:¬ InW (m.a*p.w):=by simpa using hc
        have:ovM m p=none:=by unfold ovM;rw [if_neg (fun h=>h8 h.2.2.2.1)]
        rw [this];rfl
  · first | refine rt (hq:=?_) | refine rt' (hq:=?_)
    refine ⟨?_,hs.only0 rfl⟩
    have:ovM m p=none:=by unfold ovM;rw [if_neg (fun h=>h.2.1 (by simpa using hc))]
    rw [this];rfl
  · first | refine rt (hq:=?_) | refine rt' (hq:=?_)
    refine ⟨?_,hs.only0 rfl⟩
    have:ovM m p=none:=by unfold ovM;rw [if_neg (fun h=>absurd h.1 (by simpa using hc))]
    rw [this];rfl
theorem lsign_ret (m:Mn) (p:Pt) (hm:m.In) (hp':p.In) (w0:World):Ret Tryz.prog 171 #[mv m,pv p] w0 fun v w'=>v = .tuple #[.int .i64 (cmpI ((ovM m p).getD 0) 0),.bool (ovM m p).isSome]∧Only [] w0 w':=by
  have hs:=St.nil w0
  refine ret_of_xc Tryz.func171 (by kernel_rfl) rfl Tryz.ntmps171 rfl rfl rfl ?_
  repeat' (first|refine vs (k:=?_)|(refine bx hs (k:=?_);intro b w hz hs)|refine qRg ?_|refine Nx.h ?_|fail)
  (with_reducible apply xs_call);exact rfl;exact rfl;exact over_ret m p hm hp' _
  rintro v w' ⟨rfl,ho⟩;replace hs:=hs.call0 ho;repeat' (first|refine vs (k:=?_)|(refine stA hs (k:=?_);intro w hs)|(refine al hs (k:=?_);intro b w hz hs)|refine qRg ?_|refine Nx.h ?_|fail)
  (with_reducible apply xs_call);exact rfl;exact rfl;exact sign_ret ((ovM m p).getD 0) ovM_in _
  rintro v w' ⟨rfl,ho⟩;replace hs:=hs.call0 ho;repeat' (first|refine vs (k:=?_)|refine Nx.h ?_|fail)
  first | refine rt (hq:=?_) | refine rt' (hq:=?_)
  exact ⟨rfl,hs.only0 rfl⟩
def elig (m:Mn) (p:Pt):Bool:=(ovM m p).isSome && decide (0≤(ovM m p).getD 0)
theorem elig_ret (m:Mn) (p:Pt) (hm:m.In) (hp':p.In) (w0:World):Ret Tryz.prog 254 #[mv m,pv p] w0 fun v w'=>v = .bool (elig m p)∧Only [] w0 w':=by
  have hs:=St.nil w0
  refine ret_of_xc Tryz.func254 (by kernel_rfl) rfl Tryz.ntmps254 rfl rfl rfl ?_
  repeat' (first|refine vs (k:=?_)|(refine bx hs (k:=?_);intro b w hz hs)|refine qRg ?_|refine Nx.h ?_|fail)
  (with_reducible apply xs_call);exact rfl;exact rfl;exact lsign_ret m p hm hp' _
  rintro v w' ⟨rfl,ho⟩;replace hs:=hs.call0 ho;repeat' (first|refine vs (k:=?_)|refine ps (k:=?_)|refine qRg ?_|refine Nx.h ?_|((with_reducible apply xs_guard);exact rfl;exact rfl;intro c hc;(fail_if_success have:true=c:=hc);(fail_if_success have:false=c:=hc);cases c)|fail)
  · first | refine rt (hq:=?_) | refine rt' (hq:=?_)
    refine ⟨?_,hs.only0 rfl⟩
    unfold elig;rw [hc];rfl
  · first | refine rt (hq:=?_) | refine rt' (hq:=?_)
    refine ⟨?_,hs.only0 rfl⟩
    unfold elig;rw [hc]
    show Value.bool _=Value.bool _
    congr 1
    rw [Bool.true_and]
    refine decide_eq_decide.2 ?_
    unfold cmpI;split
    · omega
    · split <;> omega
def rdM (m:Mn) (p:Pt):Option Int:=(ovM m p).map fun x=>x / m.w
theorem read_ret (m:Mn) (p:Pt) (hm:m.In) (hp':p.In) (w0:World):Ret Tryz.prog 123 #[mv m,pv p] w0 fun v w'=>v=wdV (rdM m p)∧Only [] w0 w':=by
  have hs:=St.nil w0
  refine ret_of_xc Tryz.func123 (by kernel_rfl) rfl Tryz.ntmps123 rfl rfl rfl ?_
  repeat' (first|refine vs (k:=?_)|(refine al hs (k:=?_);intro b w hz hs)|(refine bx hs (k:=?_);intro b w hz hs)|refine qRg ?_|refine Nx.h ?_|fail)
  (with_reducible apply xs_call);exact rfl;exact rfl;exact over_ret m p hm hp' _
  have hin:=ovM_in (m:=m) (p:=p)
  have hU:=hm.2.2.1
  unfold rdM
  cases ho:ovM m p with
  | none =>
    rintro v w' ⟨rfl,ho⟩;replace hs:=hs.call0 ho;repeat' (first|refine vs (k:=?_)|(refine stA hs (k:=?_);intro w hs)|(refine al hs (k:=?_);intro b w hz hs)|refine qRg ?_|refine Nx.h ?_|refine qCt ?_|fail)
    first | refine rt (hq:=?_) | refine rt' (hq:=?_)
    exact ⟨rfl,hs.only0 rfl⟩
  | some x =>
    rw [ho] at hin
    have hw:0 < m.w:=by
      unfold ovM at ho;split at ho
      · rename_i h;have:=mright_iff.1 h.1;omega
      · cases ho
    rintro v w' ⟨rfl,ho⟩;replace hs:=hs.call0 ho;repeat' (first|refine vs (k:=?_)|(refine stA hs (k:=?_);intro w hs)|(refine al hs (k:=?_);intro b w hz hs)|refine qRg ?_|refine Nx.h ?_|refine qCf ?_|fail)
    (with_reducible apply xs_call);exact rfl;exact rfl;exact div_ok x m.w hin hw hU.2 _
    rintro v w' ⟨rfl,ho⟩;replace hs:=hs.call0 ho;repeat' (first|refine vs (k:=?_)|(refine stA hs (k:=?_);intro w hs)|(refine al hs (k:=?_);intro b w hz hs)|refine qRg ?_|refine Nx.h ?_|fail)
    first | refine rt (hq:=?_) | refine rt' (hq:=?_)
    exact ⟨rfl,hs.only0 rfl⟩
end Go.Proofs.YtalffooghioekaaGreatDoorX

namespace Go.Proofs.YtalffooghioekaaGreatDoorX
open Go Go.RowKit
attribute [local irreducible] XS XC XA thenE blockE retE loopE loopS cutB cutN doneE SE
def plD (m:Mn) (q lag:Int):Int:=m.a*q - lag*(m.w+q)
def plM (m:Mn) (clock q lag:Int):Option Pt :=
  if m.right=true∧mayW q=true then (if m.n=0 then some ⟨clock,0,q⟩ else if InW (m.a*q)∧InW (plD m q lag) then atP m.b (plD m q lag / m.w) q else none) else none
theorem mayW_no {q:Int} (h:q < 1∨1048576 < q):¬ mayW q=true:=fun h'=>by have:=mayW_iff.1 h';omega
set_option maxHeartbeats 4000000 in
theorem place_ret (m:Mn) (clock q lag:Int) (hm:m.In) (hq:U32 q) (hl:In64 lag) (w0:World):Ret Tryz.prog 166 #[mv m,.int .u64 clock,.int .u32 q,.int .i64 lag] w0 fun v w'=>v=ptV (plM m clock q lag)∧Only [] w0 w':=by
  have hs:=St.nil w0
  refine ret_of_xc Tryz.func166 (by kernel_rfl) rfl Tryz.ntmps166 rfl rfl rfl ?_
  repeat' (first|refine vs (k:=?_)|(refine al hs (k:=?_);intro b w hz hs)|(refine bx hs (k:=?_);intro b w hz hs)|refine qRg ?_|refine Nx.h ?_|fail)
  (with_reducible apply xs_call);exact rfl;exact rfl;exact mright_ret m _
  rintro v w' ⟨rfl,ho⟩;replace hs:=hs.call0 ho;repeat' (first|refine vs (k:=?_)|refine ps (k:=?_)|(refine stA hs (k:=?_);intro w hs)|refine qRg ?_|refine Nx.h ?_|refine qCt ?_|((with_reducible apply xs_guard);exact rfl;exact rfl;intro c hc;(fail_if_success have:true=c:=hc);(fail_if_success have:false=c:=hc);cases c)|(refine xc_if rfl (fun hc=>?_) (fun hc=>?_))|fail)
  · first | refine rt (hq:=?_) | refine rt' (hq:=?_)
    refine ⟨?_,hs.only0 rfl⟩
    have:plM m clock q lag=none:=by unfold plM;rw [if_neg (fun h=>mayW_no (.inr (by omega)) h.2)]
    rw [this];rfl
  · first | refine rt (hq:=?_) | refine rt' (hq:=?_)
    refine ⟨?_,hs.only0 rfl⟩
    have h1:m.right=true:=by simpa using ‹(!m.right)=false›
    have h2:=of_decide_eq_false ‹decide (q < 1)=false›
    have:plM m clock q lag=some ⟨clock,0,q⟩:=by unfold plM;rw [if_pos ⟨h1,mayW_iff.2 (by omega)⟩,if_pos (by assumption)]
    rw [this];rfl
  · have h1:m.right=true:=by simpa using ‹(!m.right)=false›
    have h2:=of_decide_eq_false ‹decide (q < 1)=false›
    have h3:¬ m.n=0:=by assumption
    have h4:mayW q=true:=mayW_iff.2 (by omega)
    have h5:=mright_iff.1 h1
    have h6:=mayW_iff.1 h4
    obtain ⟨hl0,hl1⟩:=hl
    have e1:IntKind.i64.wrap q=q:=i64_of ⟨by omega,by omega⟩
    have e2:IntKind.i64.wrap (IntKind.i64.wrap m.w+IntKind.i64.wrap q)=m.w+q:=by rw [e1,i64_of (x:=m.w) ⟨by omega,by omega⟩,i64_of ⟨by omega,by omega⟩]
    have h7:=mul_rng (w:=m.w+q) (s:=lag) (W:=34603008) (S:=9223372036854775808) (by omega) (by omega) (by omega) (by omega)
    have e3:=Int.mul_comm lag (m.w+q)
    have h8:InW (lag*(m.w+q)):=by unfold InW;rw [e3];omega
    have hev:plM m clock q lag=if InW (m.a*q)∧InW (plD m q lag) then atP m.b (plD m q lag / m.w) q else none:=by unfold plM;rw [if_pos ⟨h1,h4⟩,if_neg h3]
    (with_reducible apply xs_call);exact rfl;exact rfl;exact mul_t m.a (IntKind.i64.wrap q) hm.2.1 (by rw [e1];exact ⟨by omega,by omega⟩) _
    rw [e1]
    rintro v w' ⟨rfl,ho⟩;replace hs:=hs.call0 ho;repeat' (first|refine vs (k:=?_)|(refine stA hs (k:=?_);intro w hs)|(refine al hs (k:=?_);intro b w hz hs)|refine Nx.h ?_|fail)
    refine dr [] hs (k:=?_);intro hX w hs
    refine tk 0 hX (k:=?_)
    refine tk 2 hX (k:=?_)
    refine tk 3 hX (k:=?_)
    refine tk 4 hX (k:=?_)
    refine tk 5 hX (k:=?_)
    refine tk 6 hX (k:=?_)
    refine tk 7 hX (k:=?_)
    refine xa_set 53 (congrArg (Value.int .i64) e2) ?_
    refine pd0 12 12 hs (k:=?_);intro f X w hp;have hs:=hp.st
    apply xa_pend 1 12 (f:=f) (X:=X) hX hp;exact rfl;exact rfl;(apply makes_alloc tabOk;exact rfl);kernel_rfl;kernel_rfl;kernel_rfl;kernel_rfl;(intro X Y;(repeat (first | exact pgg_base | refine pgg_step ?_ (by exact rfl))));(intro w' hs;first|exact se_hold hs.hold|exact se_hold hs.hold.tail|exact se_done rfl);intro f X w hp;have hs:=hp.st
    (with_reducible apply xs_call);exact rfl;exact rfl;exact of_ret lag hl0 hl1 _
    rintro v w' ⟨rfl,ho⟩;replace hp:=hp.only ho;replace hs:=hp.st;repeat' (first|refine Nx.h ?_|fail)
    refine dn (k:=?_)
    apply xa_pend 8 12 (f:=f) (X:=X) hX hp;exact rfl;exact rfl;(apply makes_alloc tabOk;exact rfl);kernel_rfl;kernel_rfl;kernel_rfl;kernel_rfl;(intro X Y;(repeat (first | exact pgg_base | refine pgg_step ?_ (by exact rfl))));(intro w' hs;first|exact se_hold hs.hold|exact se_hold hs.hold.tail|exact se_done rfl);intro f X w hp;have hs:=hp.st
    (with_reducible apply xs_call);exact rfl;exact rfl;exact mul_ok lag (m.w+q) (by unfold InW;omega) (by omega) (by omega) h8 _
    rintro v w' ⟨rfl,ho⟩;replace hp:=hp.only ho;replace hs:=hp.st;repeat' (first|refine Nx.h ?_|fail)
    refine dn (k:=?_)
    refine tk 9 hX (hc:=by cases f <;> kernel_rfl) (k:=?_)
    refine tk 10 hX (hc:=by cases f <;> kernel_rfl) (k:=?_)
    refine tk 11 hX (hc:=by cases f <;> kernel_rfl) (k:=?_)
    apply xa_pendE 12 (f:=f) (X:=X) hX hp;exact rfl;(apply makes_alloc tabOk;exact rfl);kernel_rfl;kernel_rfl;(intro X Y;(repeat (first | exact pgg_base | refine pgg_step ?_ (by exact rfl))));(intro w' hs;first|exact se_hold hs.hold|exact se_hold hs.hold.tail|exact se_done rfl);intro b w hI hs
    refine dt 13 hX (k:=?_)
    repeat' (first|(refine stA hs (k:=?_);intro w hs)|refine Nx.h ?_|fail)
    refine dn (k:=?_)
    refine tk 14 hX (k:=?_)
    refine en (k:=?_)
    repeat' (first|refine vs (k:=?_)|refine qRg ?_|refine Nx.h ?_|fail)
    (with_reducible apply xs_call);exact rfl;exact rfl;exact sub_t (tot (m.a*q)) (lag*(m.w+q)) (tot_in _) h8 _
    rintro v w' ⟨rfl,ho⟩;replace hs:=hs.call0 ho;repeat' (first|refine vs (k:=?_)|refine ps (k:=?_)|(refine stA hs (k:=?_);intro w hs)|(refine al hs (k:=?_);intro b w hz hs)|refine qRg ?_|refine Nx.h ?_|refine qCt ?_|((with_reducible apply xs_guard);exact rfl;exact rfl;intro c hc;(fail_if_success have:true=c:=hc);(fail_if_success have:false=c:=hc);cases c)|(refine xc_cond rfl (fun hc=>?_) (fun hc=>?_))|fail)
    · have h9:InW (m.a*q):=by simpa using ‹(!decide (InW (m.a*q)))=false›
      have e4:tot (m.a*q)=m.a*q:=if_pos h9
      first | refine rt (hq:=?_) | refine rt' (hq:=?_)
      refine ⟨?_,hs.only0 rfl⟩
      rw [e4] at hc
      have h10:¬ InW (plD m q lag):=by unfold plD;simpa using hc
      rw [hev,if_neg (fun h=>h10 h.2)];rfl
    · have h9:InW (m.a*q):=by simpa using ‹(!decide (InW (m.a*q)))=false›
      have e4:tot (m.a*q)=m.a*q:=if_pos h9
      rw [e4] at hc
      have h10:InW (plD m q lag):=by unfold plD;simpa using hc
      have e5:tot (tot (m.a*q) - lag*(m.w+q))=plD m q lag:=by rw [e4];exact if_pos h10
      (with_reducible apply xs_call);exact rfl;exact rfl;exact div_ok (tot (tot (m.a*q) - lag*(m.w+q))) m.w (tot_in _) (by omega) (by omega) _
      rw [e5]
      rintro v w' ⟨rfl,ho⟩;replace hs:=hs.call0 ho;repeat' (first|refine vs (k:=?_)|(refine stA hs (k:=?_);intro w hs)|(refine al hs (k:=?_);intro b w hz hs)|refine qRg ?_|refine Nx.h ?_|fail)
      (with_reducible apply xs_call);exact rfl;exact rfl;exact at_ret m.b (plD m q lag / m.w) q (div_in h10 (by omega)) _
      rintro v w' ⟨rfl,ho⟩;replace hs:=hs.call0 ho;repeat' (first|refine vs (k:=?_)|(refine stA hs (k:=?_);intro w hs)|refine Nx.h ?_|fail)
      first | refine rt (hq:=?_) | refine rt' (hq:=?_)
      refine ⟨?_,hs.only0 rfl⟩
      rw [hev,if_pos ⟨h9,h10⟩];rfl
    · first | refine rt (hq:=?_) | refine rt' (hq:=?_)
      refine ⟨?_,hs.only0 rfl⟩
      have h9:¬ InW (m.a*q):=by simpa using hc
      rw [hev,if_neg (fun h=>h9 h.1)];rfl
  · first | refine rt (hq:=?_) | refine rt' (hq:=?_)
    refine ⟨?_,hs.only0 rfl⟩
    have:plM m clock q lag=none:=by unfold plM;rw [if_neg (fun h=>mayW_no (.inl (by simpa using hc)) h.2)]
    rw [this];rfl
  · first | refine rt (hq:=?_) | refine rt' (hq:=?_)
    refine ⟨?_,hs.only0 rfl⟩
    have:plM m clock q lag=none:=by unfold plM;rw [if_neg (fun h=>absurd h.1 (by simpa using hc))]
    rw [this];rfl
def weB (m:Mn) (p:Pt) (q:Int):Int:=m.a*(q - p.w)
def weD (m:Mn) (p:Pt) (q:Int):Int:=dist p m.b+weB m p q / m.w
def weM (m:Mn) (p:Pt) (q:Int):Option Pt :=
  if m.right=true∧m.n≠0∧p.right=true∧mayW q=true∧InW (weB m p q)∧InW (weD m p q) then atP m.b (weD m p q) q else none
set_option maxHeartbeats 4000000 in
theorem weigh_ret (m:Mn) (p:Pt) (q:Int) (hm:m.In) (hp':p.In) (hq:U32 q) (w0:World):Ret Tryz.prog 139 #[mv m,pv p,.int .u32 q] w0 fun v w'=>v=ptV (weM m p q)∧Only [] w0 w':=by
  have hs:=St.nil w0
  refine ret_of_xc Tryz.func139 (by kernel_rfl) rfl Tryz.ntmps139 rfl rfl rfl ?_
  repeat' (first|refine vs (k:=?_)|(refine al hs (k:=?_);intro b w hz hs)|(refine bx hs (k:=?_);intro b w hz hs)|refine qRg ?_|refine Nx.h ?_|fail)
  (with_reducible apply xs_call);exact rfl;exact rfl;exact mright_ret m _
  rintro v w' ⟨rfl,ho⟩;replace hs:=hs.call0 ho;repeat' (first|refine vs (k:=?_)|refine ps (k:=?_)|(refine stA hs (k:=?_);intro w hs)|refine qRg ?_|refine Nx.h ?_|refine qCt ?_|((with_reducible apply xs_guard);exact rfl;exact rfl;intro c hc;(fail_if_success have:true=c:=hc);(fail_if_success have:false=c:=hc);cases c)|fail)
  · (with_reducible apply xs_call);exact rfl;exact rfl;exact pright_ret p _
    rintro v w' ⟨rfl,ho⟩;replace hs:=hs.call0 ho;repeat' (first|refine vs (k:=?_)|refine ps (k:=?_)|(refine stA hs (k:=?_);intro w hs)|refine qRg ?_|refine Nx.h ?_|refine qCt ?_|((with_reducible apply xs_guard);exact rfl;exact rfl;intro c hc;(fail_if_success have:true=c:=hc);(fail_if_success have:false=c:=hc);cases c)|fail)
    · (with_reducible apply xs_call);exact rfl;exact rfl;exact pright_ret ⟨0,0,q⟩ _
      rintro v w' ⟨rfl,ho⟩;replace hs:=hs.call0 ho;repeat' (first|refine vs (k:=?_)|(refine stA hs (k:=?_);intro w hs)|refine qRg ?_|refine Nx.h ?_|(refine xc_cond rfl (fun hc=>?_) (fun hc=>?_))|fail)
      · first | refine rt (hq:=?_) | refine rt' (hq:=?_)
        refine ⟨?_,hs.only0 rfl⟩
        have:weM m p q=none:=by
          unfold weM;rw [if_neg (fun h=>?_)]
          have h1:(⟨0,0,q⟩:Pt).right=false:=by simpa using hc
          have h2:=mayW_iff.1 h.2.2.2.1
          have h3:(⟨0,0,q⟩:Pt).right=true:=pright_iff.2 ⟨h2.1,h2.2,by show (0:Int) < q;omega⟩
          rw [h1] at h3;cases h3
        rw [this];rfl
      · have h1:m.right=true:=by simpa using ‹(!m.right)=false›
        have h2:p.right=true:=by simpa using ‹(!p.right)=false›
        have h3:m.n≠0:=by simpa using ‹(m.n == 0)=false›
        have h4':(⟨0,0,q⟩:Pt).right=true:=by simpa using hc
        have h4:mayW q=true:=by have:=pright_iff.1 h4';exact mayW_iff.2 ⟨this.1,this.2.1⟩
        have h5:=mright_iff.1 h1
        have h6:=pright_iff.1 h2
        have h6':=mayW_iff.1 h4
        have e1:IntKind.i64.wrap (IntKind.i64.wrap q - IntKind.i64.wrap p.w)=q - p.w:=by rw [i64_of (x:=q) ⟨by omega,by omega⟩,i64_of (x:=p.w) ⟨by omega,by omega⟩,i64_of ⟨by omega,by omega⟩]
        (with_reducible apply xs_call);exact rfl;exact rfl;exact mul_t m.a (IntKind.i64.wrap (IntKind.i64.wrap q - IntKind.i64.wrap p.w)) hm.2.1 (by rw [e1];exact ⟨by omega,by omega⟩) _
        rw [e1]
        rintro v w' ⟨rfl,ho⟩;replace hs:=hs.call0 ho;repeat' (first|refine vs (k:=?_)|(refine stA hs (k:=?_);intro w hs)|(refine al hs (k:=?_);intro b w hz hs)|refine qRg ?_|refine Nx.h ?_|(refine xc_cond rfl (fun hc=>?_) (fun hc=>?_))|fail)
        · first | refine rt (hq:=?_) | refine rt' (hq:=?_)
          refine ⟨?_,hs.only0 rfl⟩
          have h8:¬ InW (weB m p q):=by unfold weB;simpa using hc
          have:weM m p q=none:=by unfold weM;rw [if_neg (fun h=>h8 h.2.2.2.2.1)]
          rw [this];rfl
        · have h8:InW (weB m p q):=by unfold weB;simpa using hc
          have e2:tot (m.a*(q - p.w))=weB m p q:=if_pos h8
          (with_reducible apply xs_call);exact rfl;exact rfl;exact div_ok (tot (m.a*(q - p.w))) m.w (tot_in _) (by omega) (by omega) _
          rw [e2]
          rintro v w' ⟨rfl,ho⟩;replace hs:=hs.call0 ho;repeat' (first|refine vs (k:=?_)|(refine stA hs (k:=?_);intro w hs)|(refine al hs (k:=?_);intro b w hz hs)|refine Nx.h ?_|fail)
          refine dr [] hs (k:=?_);intro hX w hs
          refine tk 0 hX (k:=?_)
          refine tk 1 hX (k:=?_)
          refine tk 2 hX (k:=?_)
          refine tk 4 hX (k:=?_)
          refine pd0 9 13 hs (k:=?_);intro f X w hp;have hs:=hp.st
          apply xa_pend 3 9 (f:=f) (X:=X) hX hp;exact rfl;exact rfl;(apply makes_alloc tabOk;exact rfl);kernel_rfl;kernel_rfl;kernel_rfl;kernel_rfl;(intro X Y;(repeat (first | exact pgg_base | refine pgg_step ?_ (by exact rfl))));(intro w' hs;first|exact se_hold hs.hold|exact se_hold hs.hold.tail|exact se_done rfl);intro f X w hp;have hs:=hp.st
          (with_reducible apply xs_call);exact rfl;exact rfl;exact dist_ret p m.b hp' _
          rintro v w' ⟨rfl,ho⟩;replace hp:=hp.only ho;replace hs:=hp.st;repeat' (first|refine Nx.h ?_|fail)
          refine dn (k:=?_)
          apply xa_pend 5 9 (f:=f) (X:=X) hX hp;exact rfl;exact rfl;(apply makes_alloc tabOk;exact rfl);kernel_rfl;kernel_rfl;kernel_rfl;kernel_rfl;(intro X Y;(repeat (first | exact pgg_base | refine pgg_step ?_ (by exact rfl))));(intro w' hs;first|exact se_hold hs.hold|exact se_hold hs.hold.tail|exact se_done rfl);intro f X w hp;have hs:=hp.st
          (with_reducible apply xs_call);exact rfl;exact rfl;exact add_t (dist p m.b) (weB m p q / m.w) (dist_in hp' _) (div_in h8 (by omega)) _
          rintro v w' ⟨rfl,ho⟩;replace hp:=hp.only ho;replace hs:=hp.st;repeat' (first|refine Nx.h ?_|fail)
          refine dn (k:=?_)
          refine tk 6 hX (hc:=by cases f <;> kernel_rfl) (k:=?_)
          refine tk 7 hX (hc:=by cases f <;> kernel_rfl) (k:=?_)
          refine tk 8 hX (hc:=by cases f <;> kernel_rfl) (k:=?_)
          apply xa_pendE 9 (f:=f) (X:=X) hX hp;exact rfl;(apply makes_alloc tabOk;exact rfl);kernel_rfl;kernel_rfl;(intro X Y;(repeat (first | exact pgg_base | refine pgg_step ?_ (by exact rfl))));(intro w' hs;first|exact se_hold hs.hold|exact se_hold hs.hold.tail|exact se_done rfl);intro b w hI hs
          refine dt 10 hX (k:=?_)
          repeat' (first|(refine stA hs (k:=?_);intro w hs)|refine Nx.h ?_|fail)
          refine dn (k:=?_)
          refine tk 11 hX (k:=?_)
          refine en (k:=?_)
          repeat' (first|refine vs (k:=?_)|(refine stA hs (k:=?_);intro w hs)|refine qRg ?_|refine Nx.h ?_|(refine xc_cond rfl (fun hc=>?_) (fun hc=>?_))|fail)
          · first | refine rt (hq:=?_) | refine rt' (hq:=?_)
            refine ⟨?_,hs.only0 rfl⟩
            have h9:¬ InW (weD m p q):=by unfold weD;simpa using hc
            have:weM m p q=none:=by unfold weM;rw [if_neg (fun h=>h9 h.2.2.2.2.2)]
            rw [this];rfl
          · have h9:InW (weD m p q):=by unfold weD;simpa using hc
            have e3:tot (dist p m.b+weB m p q / m.w)=weD m p q:=if_pos h9
            (with_reducible apply xs_call);exact rfl;exact rfl;exact at_ret m.b (tot (dist p m.b+weB m p q / m.w)) q (tot_in _) _
            rw [e3]
            rintro v w' ⟨rfl,ho⟩;replace hs:=hs.call0 ho;repeat' (first|refine vs (k:=?_)|(refine stA hs (k:=?_);intro w hs)|refine Nx.h ?_|fail)
            first | refine rt (hq:=?_) | refine rt' (hq:=?_)
            refine ⟨?_,hs.only0 rfl⟩
            have:weM m p q=atP m.b (weD m p q) q:=by unfold weM;rw [if_pos ⟨h1,h3,h2,h4,h8,h9⟩]
            rw [this];rfl
    · first | refine rt (hq:=?_) | refine rt' (hq:=?_)
      refine ⟨?_,hs.only0 rfl⟩
      have:weM m p q=none:=by unfold weM;rw [if_neg (fun h=>absurd h.2.2.1 (by simpa using hc))]
      rw [this];rfl
  · first | refine rt (hq:=?_) | refine rt' (hq:=?_)
    refine ⟨?_,hs.only0 rfl⟩
    have:weM m p q=none:=by unfold weM;rw [if_neg (fun h=>h.2.1 (by simpa using hc))]
    rw [this];rfl
  · first | refine rt (hq:=?_) | refine rt' (hq:=?_)
    refine ⟨?_,hs.only0 rfl⟩
    have:weM m p q=none:=by unfold weM;rw [if_neg (fun h=>absurd h.1 (by simpa using hc))]
    rw [this];rfl
end Go.Proofs.YtalffooghioekaaGreatDoorX

namespace Go.Proofs.YtalffooghioekaaGreatDoorX
open Go Go.RowKit
open IB (IT ITsAt flatT)
attribute [local irreducible] XS XC XA thenE blockE retE loopE loopS cutB cutN doneE SE
structure Qs where
  m:Mn
  t:RB IT
  f:Int→Option IT
  n:Nat
  c:Int
abbrev queueO (m:Mn) (tb mb:Nat) (c:Int):Obj := .cells #[.int .u64 m.b,.int .i64 (m.a / 18446744073709551616),.int .u64 (m.a % 18446744073709551616),.int .u64 m.w,.int .i64 m.n,.pointer (some ⟨tb,0,none⟩),.map (some mb),.int .u64 c] 132 (0,0)
def vals (f:Int→Option IT):Int→Option Value:=fun i=>(f i).map fun a=>iv a.1
def updI (f:Int→Option IT) (i:Int) (a:Option IT):Int→Option IT:=fun j=>bif decide (j=i) then a else f j
theorem vals_upd (f:Int→Option IT) (i:Int) (a:Option IT):updF (vals f) i (a.map fun a=>iv a.1)=vals (updI f i a):=by
  funext j
  unfold updF vals updI
  cases decide (j=i) <;> rfl
theorem vals_isSome (f:Int→Option IT) (i:Int):(vals f i).isSome=(f i).isSome:=by unfold vals;cases f i <;> rfl
def QAt (w:World) (qb:Nat) (s:Qs) (F:List Nat):Prop :=
  ∃ tb mb Ft,F=qb :: mb :: Ft∧w.heap[qb]?=some (queueO s.m tb mb s.c)∧MapAt w mb (vals s.f) s.n∧IB.Obj6 w tb s.t Ft∧s.m.In∧U64 s.c
theorem QAt.keepD {w w':World} {qb:Nat} {s:Qs} {F G:List Nat} (h:QAt w qb s F) (ho:Only G w w') (hd:∀ k∈F,k∉G):QAt w' qb s F:=by
  obtain ⟨tb,mb,Ft,rfl,h1,h2,h3,h4⟩:=h
  exact ⟨tb,mb,Ft,rfl,ho.block h1 (hd qb (by simp)),h2.keep ho (hd mb (by simp)),h3.keepD ho (fun k hk=>hd k (by simp [hk])),h4⟩
theorem QAt.only {w w':World} {qb:Nat} {s:Qs} {F:List Nat} (h:QAt w qb s F) (ho:Only [] w w'):QAt w' qb s F:=h.keepD ho (by simp)
theorem QAt.lt {w:World} {qb:Nat} {s:Qs} {F:List Nat} (h:QAt w qb s F):∀ k∈F,k < w.heap.size:=by
  obtain ⟨tb,mb,Ft,rfl,h1,h2,h3,h4⟩:=h
  intro k hk
  simp only [List.mem_cons] at hk
  rcases hk with rfl | rfl | hk
  · exact lt_of_block h1
  · exact h2.lt
  · exact h3.lt k hk
theorem QAt.not {w:World} {qb:Nat} {s:Qs} {F:List Nat} (h:QAt w qb s F) {b:Nat} {cs:Array Value} {ty:Nat} {fz:Nat × Nat} (hb:w.heap[b]?=some (.cells cs ty fz)) (h1:ty≠295) (h2:ty≠225) (h3:ty≠132):b∉F:=fun hm=>by
  obtain ⟨tb,mb,Ft,rfl,k1,k2,k3,k4⟩:=h
  simp only [List.mem_cons] at hm
  rcases hm with rfl | rfl | hm
  · exact blocks_ne hb k1 h3 rfl
  · exact k2.ne hb rfl
  · exact k3.not hb h1 h2 hm
theorem qb_not {w:World} {qb tb:Nat} {t:RB IT} {Ft:List Nat} (h:IB.Obj6 w tb t Ft) {cs:Array Value} {fz:Nat × Nat} (hb:w.heap[qb]?=some (.cells cs 132 fz)):qb∉Ft:=h.not hb (by decide) (by decide)
theorem mb_not {w:World} {mb tb c:Nat} {t:RB IT} {Ft:List Nat} {f:Int→Option Value} (h:IB.Obj6 w tb t Ft) (hM:MapAt w mb f c):mb∉Ft:=fun hm=>by
  obtain ⟨p,fp,rfl,k1,k2,k3⟩:=h
  rcases List.mem_cons.1 hm with rfl | hm
  · exact hM.ne k1 rfl
  · obtain ⟨cs',fz',k4⟩:=k2.nodes mb hm
    exact hM.ne k4 rfl
def nowQ (s:Qs):Int:=bif decide (s.t.list.length=0) then s.c else (flM s.m).getD 0
theorem nowQ_in {s:Qs} (h:U64 s.c):U64 (nowQ s):=by
  unfold nowQ
  cases decide (s.t.list.length=0)
  · rw [cond_false]
    unfold flM
    split
    · exact lat_in _ _
    · decide
  · exact h
def centreQ (s:Qs):Qs:={ s with m:=(rebM s.m (nowQ s)).getD .zero }
theorem getD_in {o:Option Mn} (h:∀ m,o=some m→m.In):(o.getD .zero).In:=by
  cases o with
  | none=>decide
  | some m=>exact h m rfl
theorem qlen_ret (qb:Nat) (s:Qs) (F:List Nat) (w0:World) (h:QAt w0 qb s F):Ret Tryz.prog 67 #[.pointer (some ⟨qb,0,none⟩)] w0 fun v w'=>v = .int .i64 (s.t.list.length:Nat)∧Only [] w0 w':=by
  obtain ⟨tb,mb,Ft,rfl,h1,h2,h3,h4⟩:=h
  have hs:=(St.nil w0).track h1 (by simp)
  refine ret_of_xc Tryz.func67 (by kernel_rfl) rfl Tryz.ntmps67 rfl rfl rfl ?_
  repeat' (first|refine vs (k:=?_)|refine qRg ?_|refine Nx.h ?_|refine qCf ?_|fail)
  have ho:=hs.onlyF [] (by simp [h1]) (by simp [D0])
  (with_reducible apply xs_call);exact rfl;exact rfl;exact IB.rbLen_ret tb s.t Ft _ (h3.only ho)
  rintro v w' ⟨rfl,ho⟩;replace hs:=hs.call0 ho;repeat' (first|refine vs (k:=?_)|refine Nx.h ?_|fail)
  first | refine rt (hq:=?_) | refine rt' (hq:=?_)
  exact ⟨rfl,hs.onlyF [] (by simp [h1]) (by simp [D0])⟩
theorem qitems_ret (qb:Nat) (s:Qs) (F:List Nat) (w0:World) (h:QAt w0 qb s F) (hlen:s.t.list.length≤1000000):Ret Tryz.prog 234 #[.pointer (some ⟨qb,0,none⟩)] w0 fun v w'=>(∃ G,SlV w' 64 7 v s.t.list.length (flatT s.t.list) G∧∀ k∈G,w0.heap.size≤k)∧Only [] w0 w':=by
  obtain ⟨tb,mb,Ft,rfl,h1,h2,h3,h4⟩:=h
  have hs:=(St.nil w0).track h1 (by simp)
  refine ret_of_xc Tryz.func234 (by kernel_rfl) rfl Tryz.ntmps234 rfl rfl rfl ?_
  repeat' (first|refine vs (k:=?_)|refine qRg ?_|refine Nx.h ?_|refine qCf ?_|fail)
  have ho:=hs.onlyF [] (by simp [h1]) (by simp [D0])
  (with_reducible apply xs_call);exact rfl;exact rfl;exact IB.rbAll_ret tb s.t Ft _ (h3.only ho) hlen
  rintro v w' ⟨⟨G,hG,hn⟩,ho'⟩;replace hs:=hs.call0 ho'
  have hz:=ho.size
  repeat' (first|refine vs (k:=?_)|refine Nx.h ?_|fail)
  first | refine rt (hq:=?_) | refine rt' (hq:=?_)
  exact ⟨⟨G,hG,fun k hk=>by have:=hn k hk;omega⟩,hs.onlyF [] (by simp [h1]) (by simp [D0])⟩
theorem qnow_ret (qb:Nat) (s:Qs) (F:List Nat) (w0:World) (h:QAt w0 qb s F):Ret Tryz.prog 26 #[.pointer (some ⟨qb,0,none⟩)] w0 fun v w'=>v = .int .u64 (nowQ s)∧Only [] w0 w':=by
  have hq:=h
  obtain ⟨tb,mb,Ft,rfl,h1,h2,h3,h4⟩:=h
  have hs:=(St.nil w0).track h1 (by simp)
  refine ret_of_xc Tryz.func26 (by kernel_rfl) rfl Tryz.ntmps26 rfl rfl rfl ?_
  repeat' (first|refine vs (k:=?_)|refine qRg ?_|refine Nx.h ?_|refine qCf ?_|fail)
  have ho:=hs.onlyF [] (by simp [h1]) (by simp [D0])
  (with_reducible apply xs_call);exact rfl;exact rfl;exact qlen_ret qb s _ _ (hq.only ho)
  rintro v w' ⟨rfl,ho⟩;replace hs:=hs.call0 ho;repeat' (first|refine vs (k:=?_)|refine qRg ?_|refine Nx.h ?_|(refine xc_if rfl (fun hc=>?_) (fun hc=>?_))|fail)
  · first | refine rt (hq:=?_) | refine rt' (hq:=?_)
    refine ⟨?_,hs.onlyF [] (by simp [h1]) (by simp [D0])⟩
    have e:s.t.list.length=0:=by omega
    unfold nowQ;rw [decide_eq_true e];rfl
  · (with_reducible apply xs_call);exact rfl;exact rfl;exact floor_ret s.m h4.1 _
    rintro v w' ⟨rfl,ho⟩;replace hs:=hs.call0 ho;repeat' (first|refine vs (k:=?_)|refine qRg ?_|refine Nx.h ?_|fail)
    first | refine rt (hq:=?_) | refine rt' (hq:=?_)
    refine ⟨?_,hs.onlyF [] (by simp [h1]) (by simp [D0])⟩
    have e:¬ s.t.list.length=0:=by omega
    unfold nowQ;rw [decide_eq_false e];rfl
theorem qcentre_ret (qb:Nat) (s:Qs) (F:List Nat) (w0:World) (h:QAt w0 qb s F):Ret Tryz.prog 241 #[.pointer (some ⟨qb,0,none⟩)] w0 fun v w'=>QAt w' qb (centreQ s) F∧Only [qb] w0 w':=by
  have hq:=h
  obtain ⟨tb,mb,Ft,rfl,h1,h2,h3,h4,h5⟩:=h
  have hs:=(St.nil w0).track h1 (by simp)
  refine ret_of_xc Tryz.func241 (by kernel_rfl) rfl Tryz.ntmps241 rfl rfl rfl ?_
  skip
  refine dr [13] hs (k:=?_);intro hX w hs
  refine tk 0 hX (k:=?_)
  refine tk 1 hX (k:=?_)
  refine tk 2 hX (k:=?_)
  refine tk 3 hX (k:=?_)
  refine tk 4 hX (k:=?_)
  refine tk 5 hX (k:=?_)
  refine dt 6 hX (k:=?_)
  have ho:=hs.onlyF [] (by simp [h1]) (by simp [D0])
  (with_reducible apply xs_call);exact rfl;exact rfl;exact qnow_ret qb s _ _ (hq.only ho)
  rintro v w' ⟨rfl,ho⟩;replace hs:=hs.call0 ho;repeat' (first|refine Nx.h ?_|fail)
  refine dn (k:=?_)
  refine dt 7 hX (k:=?_)
  (with_reducible apply xs_call);exact rfl;exact rfl;exact rebase_ret s.m (nowQ s) h4 _
  rintro v w' ⟨rfl,ho⟩;replace hs:=hs.call0 ho;repeat' (first|refine Nx.h ?_|fail)
  refine dn (k:=?_)
  refine tk 8 hX (k:=?_)
  refine tk 9 hX (k:=?_)
  refine tk 10 hX (k:=?_)
  refine tk 11 hX (k:=?_)
  refine tk 12 hX (k:=?_)
  refine dt 13 hX (k:=?_)
  repeat' (first|(refine stA hs (k:=?_);intro w hs)|refine Nx.h ?_|fail)
  refine dn (k:=?_)
  refine en (k:=?_)
  skip
  first | refine rt' (vs:=[]) (hr:=resOk_nil) (hq:=?_) | refine rt (vs:=[]) (hr:=resOk_nil) (hq:=?_)
  have ho2:=hs.onlyF [qb] (by simp) (by simp [D0])
  exact ⟨⟨tb,mb,Ft,rfl,hs.get At.head,h2.keep ho2 (fun hm=>by obtain rfl:=List.mem_singleton.1 hm;exact h2.ne h1 rfl),h3.keepD ho2 (fun k hk hm=>by obtain rfl:=List.mem_singleton.1 hm;exact qb_not h3 h1 hk),getD_in (fun m e=>rebM_in h4 (nowQ_in h5) e),h5⟩,ho2⟩
end Go.Proofs.YtalffooghioekaaGreatDoorX

namespace Go.Proofs.YtalffooghioekaaGreatDoorX
open Go Go.RowKit
open IB (IT ITsAt flatT)
attribute [local irreducible] XS XC XA thenE blockE retE loopE loopS cutB cutN doneE SE
abbrev itQ (a:It):Obj := .cells #[.int .u64 a.p.t,.int .u32 a.p.r,.int .u32 a.p.w,.int .i64 a.id,.int .u64 a.d.t,.int .u32 a.d.r,.int .u32 a.d.w] 64 (0,0)
def preM (s:Qs) (a:IT):Mn:=bif decide (s.t.list.length=0) then ⟨a.1.p.t,0,0,0⟩ else s.m
def putQ1 (s:Qs) (a:IT):Qs:=⟨(addM (preM s a) a.1.p).getD .zero,IB.RB.insert s.t a,updI s.f a.1.id (some a),if (s.f a.1.id).isSome then s.n else s.n+1,s.c⟩
def putQ (s:Qs) (a:IT):Qs:=centreQ (putQ1 s a)
theorem preM_in {s:Qs} {a:IT} (h:s.m.In):(preM s a).In:=by
  unfold preM
  cases decide (s.t.list.length=0)
  · exact h
  · exact ⟨a.2.1.1,inW0,u640,in640⟩
structure QP (w:World) (qb tb mb:Nat) (Ft:List Nat) (s:Qs):Prop where
  q:w.heap[qb]?=some (queueO s.m tb mb s.c)
  M:MapAt w mb (vals s.f) s.n
  T:IB.Obj6 w tb s.t Ft
theorem QP.qm {w:World} {qb tb mb:Nat} {Ft:List Nat} {s:Qs} (h:QP w qb tb mb Ft s):qb≠mb:=h.M.ne h.q
theorem QP.qT {w:World} {qb tb mb:Nat} {Ft:List Nat} {s:Qs} (h:QP w qb tb mb Ft s):qb∉Ft:=qb_not h.T h.q
theorem QP.mT {w:World} {qb tb mb:Nat} {Ft:List Nat} {s:Qs} (h:QP w qb tb mb Ft s):mb∉Ft:=mb_not h.T h.M
theorem QP.only {w w':World} {qb tb mb:Nat} {Ft:List Nat} {s:Qs} (h:QP w qb tb mb Ft s) (ho:Only [] w w'):QP w' qb tb mb Ft s:=⟨ho.block h.q (by simp),h.M.keep ho (by simp),h.T.only ho⟩
theorem QP.own {w w':World} {qb tb mb:Nat} {Ft:List Nat} {s:Qs} {m:Mn} {c:Int} (h:QP w qb tb mb Ft s) (ho:Only [qb] w w') (hq:w'.heap[qb]?=some (queueO m tb mb c)):QP w' qb tb mb Ft { s with m:=m,c:=c } :=
  ⟨hq,h.M.keep ho (fun hm=>h.qm (List.mem_singleton.1 hm).symm),h.T.keepD ho (fun k hk hm=>by obtain rfl:=List.mem_singleton.1 hm;exact h.qT hk)⟩
set_option maxHeartbeats 4000000 in
theorem qput_ret (qb:Nat) (s:Qs) (F:List Nat) (a:IT) (w0:World) (h:QAt w0 qb s F) (hlen:s.t.list.length+1≤1000000) (hn:s.n < 1000000) :
    Ret Tryz.prog 219 #[.pointer (some ⟨qb,0,none⟩),iv a.1] w0 fun v w'=>∃ F',QAt w' qb (putQ s a) F'∧(∀ k∈F',k∈F∨w0.heap.size≤k)∧Only F w0 w':=by
  have hq:=h
  obtain ⟨tb,mb,Ft,rfl,h1,h2,h3,h4,h5⟩:=h
  have hs:=(St.nil w0).track h1 (by simp)
  have lt1:=lt_of_block h1
  have ltF:=hq.lt
  have hin:=preM_in (s:=s) (a:=a) h4
  refine ret_of_xc Tryz.func219 (by kernel_rfl) rfl Tryz.ntmps219 rfl rfl rfl ?_
  refine xc_seq ?_
  refine xc_region ?_ ?_;exact rfl
  refine bx hs (k:=?_);intro bq wq hzq hs
  refine XS.nil ?_
  refine then_of ?_
  refine xc_seq ?_
  have hbq:=hs.new (bq,true) (by simp) rfl
  simp only at hbq
  have hP0:QP w0 qb tb mb Ft s:=⟨h1,h2,h3⟩
  refine xc_cutN (fun _:Unit=>[(0,.pointer (some ⟨qb,0,none⟩)),(3,.pointer (some ⟨bq,0,none⟩))]) (fun _ w=>QP w qb tb mb Ft { s with m:=preM s a }∧Only [qb] w0 w∧w.heap[bq]?=some (itQ a.1)) ?_ ?_
  · repeat' (first|refine vs (k:=?_)|refine qRg ?_|refine Nx.h ?_|fail)
    have ho:=hs.onlyF [] (by simp [h1]) (by simp [D0])
    (with_reducible apply xs_call);exact rfl;exact rfl;exact qlen_ret qb s _ _ (hq.only ho)
    rintro v w' ⟨rfl,ho⟩;replace hs:=hs.call0 ho;repeat' (first|refine vs (k:=?_)|(refine stA hs (k:=?_);intro w hs)|refine qRg ?_|refine Nx.h ?_|(refine xc_if rfl (fun hc=>?_) (fun hc=>?_))|fail)
    · have e:s.t.list.length=0:=by omega
      have ho2:=hs.onlyF [qb] (by simp) (by simp [D0])
      have e2:preM s a=⟨a.1.p.t,0,0,0⟩:=by unfold preM;rw [decide_eq_true e];rfl
      rw [e2]
      exact cutN_normal () (by (repeat (first | exact agree_nil | (apply agree_cons;exact rfl)))) ⟨hP0.own ho2 (hs.get (At.tail At.head)),ho2,hs.get At.head⟩
    · have e:¬ s.t.list.length=0:=by omega
      have ho2:=hs.onlyF [] (by simp [h1]) (by simp [D0])
      have e2:preM s a=s.m:=by unfold preM;rw [decide_eq_false e];rfl
      rw [e2]
      exact cutN_normal () (by (repeat (first | exact agree_nil | (apply agree_cons;exact rfl)))) ⟨hP0.only ho2,ho2.weaken (by simp),hs.get At.head⟩
  clear hs
  rintro _ env wA ⟨hP,hoA,hQ⟩
  have n1:bq≠qb:=blocks_ne hQ hP.q (by decide)
  have hs:=((St.nil wA).track hP.q (by simp)).track hQ (by simpa using n1)
  repeat' (first|refine Nx.h ?_|fail)
  refine dr [13] hs (k:=?_);intro hX w hs
  refine tk 0 hX (k:=?_)
  refine tk 1 hX (k:=?_)
  refine tk 2 hX (k:=?_)
  refine tk 3 hX (k:=?_)
  refine tk 4 hX (k:=?_)
  refine tk 5 hX (k:=?_)
  refine tk 6 hX (k:=?_)
  refine dt 7 hX (k:=?_)
  (with_reducible apply xs_call);exact rfl;exact rfl;exact madd_ret (preM s a) a.1.p hin a.2.1 _
  rintro v w' ⟨rfl,ho⟩;replace hs:=hs.call0 ho;repeat' (first|refine Nx.h ?_|fail)
  refine dn (k:=?_)
  refine tk 8 hX (k:=?_)
  refine tk 9 hX (k:=?_)
  refine tk 10 hX (k:=?_)
  refine tk 11 hX (k:=?_)
  refine tk 12 hX (k:=?_)
  refine dt 13 hX (k:=?_)
  repeat' (first|(refine stA hs (k:=?_);intro w hs)|refine Nx.h ?_|fail)
  refine dn (k:=?_)
  refine en (k:=?_)
  repeat' (first|refine Nx.h ?_|fail)
  have ho2:=hs.onlyF [qb] (by simp [hQ]) (by simp [D0])
  have hP2:=hP.own ho2 (hs.get (At.tail At.head))
  have hQ2:=hs.get At.head
  have hoB:=hoA.step ho2 (fun k hk => .inl hk)
  clear hs
  have hs:=((St.nil _).track hP2.q (by simp)).track hQ2 (by simpa using n1)
  refine dr [] hs (k:=?_);intro hX w hs
  refine tk 0 hX (k:=?_)
  refine tk 1 hX (k:=?_)
  refine tk 2 hX (k:=?_)
  refine tk 3 hX (k:=?_)
  refine tk 4 hX (k:=?_)
  refine tk 5 hX (k:=?_)
  refine dt 6 hX (k:=?_)
  have ho3:=hs.onlyF [] (by simp [hP2.q,hQ2]) (by simp [D0])
  have hP3:=hP2.only ho3
  have hQ3:=hs.get At.head
  have hoC:=hoB.step ho3 (by simp)
  (with_reducible apply xs_call);exact rfl;exact rfl;exact IB.rbInsert_ret tb s.t Ft a _ hP3.T hlen
  rintro v w4 ⟨rfl,F',hT',hF',ho4⟩
  have hz:=hoC.size
  have hM4:=hP3.M.keep ho4 hP3.mT
  have hq4:=ho4.block hP3.q hP3.qT
  have hQ4:=ho4.block hQ3 (hP3.T.not hQ3 (by decide) (by decide))
  have hF'':∀ k∈F',k∈Ft∨w0.heap.size≤k:=fun k hk=>by rcases hF' k hk with h | h;exact .inl h;exact .inr (by omega)
  have hoD:Only (qb :: mb :: Ft) w0 w4:=(hoC.weaken (by simp)).step ho4 (fun k hk => .inl (by simp [hk]))
  clear hs
  have hs:=((St.nil w4).track hq4 (by simp)).track hQ4 (by simpa using n1)
  repeat' (first|refine Nx.h ?_|fail)
  refine dn (k:=?_)
  refine en (k:=?_)
  repeat' (first|refine Nx.h ?_|fail)
  refine dr [] hs (k:=?_);intro hX w hs
  refine tk 0 hX (k:=?_)
  refine tk 1 hX (k:=?_)
  refine tk 2 hX (k:=?_)
  refine tk 3 hX (k:=?_)
  refine tk 4 hX (k:=?_)
  refine tk 5 hX (k:=?_)
  refine tk 6 hX (k:=?_)
  refine dt 7 hX (k:=?_)
  have ho5:=hs.onlyF [] (by simp [hq4,hQ4]) (by simp [D0])
  have hM5:=hM4.keep ho5 (by simp)
  have hT5:=hT'.only ho5
  have hq5:=hs.get (At.tail At.head)
  refine xs_mapPut (e:=64) (v:=iv a.1) hM5 a.2.2.1 (by show s.n < maxLen;unfold maxLen;omega) (by kernel_rfl) (k:=?_)
  intro w6 hM6 ho6
  have hbm:=hM5.ne (hs.get At.head)
  have hqm:=hM5.ne hq5
  have hmT:=mb_not hT5 hM5
  replace hs:=hs.call ho6 (fun k hk hm=>by
    obtain rfl:=List.mem_singleton.1 hk
    simp only [List.map_cons,List.map_nil,List.mem_cons,List.not_mem_nil,or_false] at hm
    rcases hm with rfl | rfl
    · exact hbm rfl
    · exact hqm rfl) (by simp [D0])
  have hq6:=hs.get (At.tail At.head)
  have hT6:=hT5.keepD ho6 (fun k hk hm=>by obtain rfl:=List.mem_singleton.1 hm;exact hmT hk)
  have hoE:Only (qb :: mb :: Ft) w0 w6:=(hoD.step ho5 (by simp)).step ho6 (fun k hk => .inl (by obtain rfl:=List.mem_singleton.1 hk;simp))
  have hM6':MapAt w6 mb (vals (updI s.f a.1.id (some a))) (if (s.f a.1.id).isSome then s.n else s.n+1):=by
    rw [← vals_upd,← vals_isSome]
    exact hM6
  have hA6:QAt w6 qb (putQ1 s a) (qb :: mb :: F'):=⟨tb,mb,F',rfl,hq6,hM6',hT6,getD_in (fun m e=>addM_in hin e),h5⟩
  have hz6:=hoE.size
  have hQ6:=hs.get At.head
  clear hs
  have hs:=((St.nil w6).track hq6 (by simp)).track hQ6 (by simpa using n1)
  refine XS.nil ?_
  refine dn (k:=?_)
  refine en (k:=?_)
  repeat' (first|refine vs (k:=?_)|refine qRg ?_|refine Nx.h ?_|fail)
  have ho7:=hs.onlyF [] (by simp [hq6,hQ6]) (by simp [D0])
  (with_reducible apply xs_call);exact rfl;exact rfl;exact qcentre_ret qb (putQ1 s a) _ _ (hA6.only ho7)
  rintro v w8 ⟨hA8,ho8⟩
  have hs:=St.nil w8
  repeat' (first|refine Nx.h ?_|fail)
  first | refine rt' (vs:=[]) (hr:=resOk_nil) (hq:=?_) | refine rt (vs:=[]) (hr:=resOk_nil) (hq:=?_)
  refine ⟨_,hA8,fun k hk=>?_,((hoE.step ho7 (by simp)).step ho8 (fun k hk => .inl (by obtain rfl:=List.mem_singleton.1 hk;simp)))⟩
  simp only [List.mem_cons] at hk
  rcases hk with rfl | rfl | hk
  · exact .inl (by simp)
  · exact .inl (by simp)
  · rcases hF'' k hk with h | h
    · exact .inl (by simp [h])
    · exact .inr h
end Go.Proofs.YtalffooghioekaaGreatDoorX

namespace Go.Proofs.YtalffooghioekaaGreatDoorX
open Go Go.RowKit
open IB (IT ITsAt flatT)
attribute [local irreducible] XS XC XA thenE blockE retE loopE loopS cutB cutN doneE SE
def cutT (a:IT) (t:RB IT):RB IT:=bif RB.has IB.ltT a t then RB.blacken ((IB.delC a t).getD .nil) else t
def CutOk (a:IT) (t:RB IT):Prop:=RB.has IB.ltT a t=true→IB.delC a t=some ((IB.delC a t).getD .nil)∧((IB.delC a t).getD .nil).list.length+1=t.list.length
def cutQ1 (s:Qs) (a:IT):Qs:=⟨(takM s.m a.1.p).getD .zero,cutT a s.t,updI s.f a.1.id none,if (s.f a.1.id).isSome then s.n - 1 else s.n,nowQ s⟩
def cutQ (s:Qs) (a:IT):Qs:=centreQ (cutQ1 s a)
set_option maxHeartbeats 4000000 in
theorem qcut_ret (qb:Nat) (s:Qs) (F:List Nat) (a:IT) (w0:World) (h:QAt w0 qb s F) (hlen:s.t.list.length≤1000000) (hd:CutOk a s.t) :
    Ret Tryz.prog 218 #[.pointer (some ⟨qb,0,none⟩),iv a.1] w0 fun v w'=>∃ F',QAt w' qb (cutQ s a) F'∧(∀ k∈F',k∈F∨w0.heap.size≤k)∧Only F w0 w':=by
  have hq:=h
  obtain ⟨tb,mb,Ft,rfl,h1,h2,h3,h4,h5⟩:=h
  have hs:=(St.nil w0).track h1 (by simp)
  have lt1:=lt_of_block h1
  have ltF:=hq.lt
  have hP0:QP w0 qb tb mb Ft s:=⟨h1,h2,h3⟩
  refine ret_of_xc Tryz.func218 (by kernel_rfl) rfl Tryz.ntmps218 rfl rfl rfl ?_;refine xc_seq ?_;refine xc_region ?_ ?_;exact rfl;refine bx hs (k:=?_);intro bq wq hzq hs;repeat' (first|refine vs (k:=?_)|refine qRg ?_|refine Nx.h ?_|fail)
  have hbq:=hs.new (bq,true) (by simp) rfl
  simp only at hbq
  have ho:=hs.onlyF [] (by simp [h1]) (by simp [D0])
  (with_reducible apply xs_call);exact rfl;exact rfl;exact qnow_ret qb s _ _ (hq.only ho)
  rintro v w' ⟨rfl,ho⟩;replace hs:=hs.call0 ho;repeat' (first|refine vs (k:=?_)|(refine st hs (k:=?_);intro w hs)|refine Nx.h ?_|fail)
  refine dr [13] hs (k:=?_);intro hX w hs
  refine tk 0 hX (k:=?_)
  refine tk 1 hX (k:=?_)
  refine tk 2 hX (k:=?_)
  refine tk 3 hX (k:=?_)
  refine tk 4 hX (k:=?_)
  refine tk 5 hX (k:=?_)
  refine tk 6 hX (k:=?_)
  refine dt 7 hX (k:=?_)
  (with_reducible apply xs_call);exact rfl;exact rfl;exact mtake_ret s.m a.1.p h4 a.2.1 _
  rintro v w' ⟨rfl,ho⟩;replace hs:=hs.call0 ho;repeat' (first|refine Nx.h ?_|fail)
  refine dn (k:=?_)
  refine tk 8 hX (k:=?_)
  refine tk 9 hX (k:=?_)
  refine tk 10 hX (k:=?_)
  refine tk 11 hX (k:=?_)
  refine tk 12 hX (k:=?_)
  refine dt 13 hX (k:=?_)
  repeat' (first|(refine stA hs (k:=?_);intro w hs)|refine Nx.h ?_|fail)
  refine dn (k:=?_)
  refine en (k:=?_)
  repeat' (first|refine Nx.h ?_|fail)
  have ho2:=hs.onlyF [qb] (by simp) (by simp [D0])
  have hP2:=hP0.own ho2 (hs.get (At.tail At.head))
  have hQ2:=hs.get At.head
  have n1:bq≠qb:=blocks_ne hQ2 hP2.q (by decide)
  clear hs
  have hs:=((St.nil _).track hP2.q (by simp)).track hQ2 (by simpa using n1)
  refine dr [] hs (k:=?_);intro hX w hs
  refine tk 0 hX (k:=?_)
  refine tk 1 hX (k:=?_)
  refine tk 2 hX (k:=?_)
  refine tk 3 hX (k:=?_)
  refine tk 4 hX (k:=?_)
  refine tk 5 hX (k:=?_)
  refine dt 6 hX (k:=?_)
  have ho3:=hs.onlyF [] (by simp [hP2.q,hQ2]) (by simp [D0])
  have hP3:=hP2.only ho3
  have hQ3:=hs.get At.head
  have hoC:=ho2.step ho3 (by simp)
  (with_reducible apply xs_call);exact rfl;exact rfl;exact IB.rbDelete_ret tb s.t Ft a _ _ hP3.T hd hlen
  rintro v w4 ⟨rfl,F',hT',hF',ho4⟩
  have hz:=hoC.size
  have hM4:=hP3.M.keep ho4 hP3.mT
  have hq4:=ho4.block hP3.q hP3.qT
  have hQ4:=ho4.block hQ3 (hP3.T.not hQ3 (by decide) (by decide))
  have hF'':∀ k∈F',k∈Ft∨w0.heap.size≤k:=fun k hk=>by rcases hF' k hk with h | h;exact .inl h;exact .inr (by omega)
  have hoD:Only (qb :: mb :: Ft) w0 w4:=(hoC.weaken (by simp)).step ho4 (fun k hk => .inl (by simp [hk]))
  clear hs
  have hs:=((St.nil w4).track hq4 (by simp)).track hQ4 (by simpa using n1)
  repeat' (first|refine Nx.h ?_|fail)
  refine dn (k:=?_)
  refine en (k:=?_)
  repeat' (first|refine Nx.h ?_|fail)
  refine dr [] hs (k:=?_);intro hX w hs
  refine tk 0 hX (k:=?_)
  refine tk 1 hX (k:=?_)
  refine tk 2 hX (k:=?_)
  refine tk 3 hX (k:=?_)
  refine tk 4 hX (k:=?_)
  refine tk 5 hX (k:=?_)
  refine dt 6 hX (k:=?_)
  have ho5:=hs.onlyF [] (by simp [hq4,hQ4]) (by simp [D0])
  have hM5:=hM4.keep ho5 (by simp)
  have hT5:=hT'.only ho5
  have hq5:=hs.get (At.tail At.head)
  refine xs_mapDel (e:=64) hM5 a.2.2.1 (by kernel_rfl) (k:=?_)
  intro w6 hM6 ho6
  have hbm:=hM5.ne (hs.get At.head)
  have hqm:=hM5.ne hq5
  have hmT:=mb_not hT5 hM5
  replace hs:=hs.call ho6 (fun k hk hm=>by
    obtain rfl:=List.mem_singleton.1 hk
    simp only [List.map_cons,List.map_nil,List.mem_cons,List.not_mem_nil,or_false] at hm
    rcases hm with rfl | rfl
    · exact hbm rfl
    · exact hqm rfl) (by simp [D0])
  have hq6:=hs.get (At.tail At.head)
  have hT6:=hT5.keepD ho6 (fun k hk hm=>by obtain rfl:=List.mem_singleton.1 hm;exact hmT hk)
  have hoE:Only (qb :: mb :: Ft) w0 w6:=(hoD.step ho5 (by simp)).step ho6 (fun k hk => .inl (by obtain rfl:=List.mem_singleton.1 hk;simp))
  have hM6':MapAt w6 mb (vals (updI s.f a.1.id none)) (if (s.f a.1.id).isSome then s.n - 1 else s.n):=by
    rw [← vals_upd,← vals_isSome]
    exact hM6
  have hA6:QAt w6 qb (cutQ1 s a) (qb :: mb :: F'):=⟨tb,mb,F',rfl,hq6,hM6',hT6,getD_in (fun m e=>takM_in h4 e),nowQ_in h5⟩
  have hz6:=hoE.size
  have hQ6:=hs.get At.head
  clear hs
  have hs:=((St.nil w6).track hq6 (by simp)).track hQ6 (by simpa using n1)
  refine XS.nil ?_
  refine dn (k:=?_)
  refine en (k:=?_)
  repeat' (first|refine vs (k:=?_)|refine qRg ?_|refine Nx.h ?_|fail)
  have ho7:=hs.onlyF [] (by simp [hq6,hQ6]) (by simp [D0])
  (with_reducible apply xs_call);exact rfl;exact rfl;exact qcentre_ret qb (cutQ1 s a) _ _ (hA6.only ho7)
  rintro v w8 ⟨hA8,ho8⟩
  have hs:=St.nil w8
  repeat' (first|refine Nx.h ?_|fail)
  first | refine rt' (vs:=[]) (hr:=resOk_nil) (hq:=?_) | refine rt (vs:=[]) (hr:=resOk_nil) (hq:=?_)
  refine ⟨_,hA8,fun k hk=>?_,((hoE.step ho7 (by simp)).step ho8 (fun k hk => .inl (by obtain rfl:=List.mem_singleton.1 hk;simp)))⟩
  simp only [List.mem_cons] at hk
  rcases hk with rfl | rfl | hk
  · exact .inl (by simp)
  · exact .inl (by simp)
  · rcases hF'' k hk with h | h
    · exact .inl (by simp [h])
    · exact .inr h
theorem vals_get (f:Int→Option IT) (i:Int):(vals f i).getD (iv .zero)=iv (match f i with | some a=>a.1 | none => .zero):=by unfold vals;cases f i <;> rfl
def leaveQ (s:Qs) (id:Int):Qs:=match s.f id with | some a=>cutQ s a | none=>s
set_option maxHeartbeats 4000000 in
theorem qleave_ret (qb:Nat) (s:Qs) (F:List Nat) (id:Int) (w0:World) (h:QAt w0 qb s F) (hid:In64 id) (hlen:s.t.list.length≤1000000) (hd:∀ a,s.f id=some a→CutOk a s.t) :
    Ret Tryz.prog 207 #[.pointer (some ⟨qb,0,none⟩),.int .i64 id] w0 fun v w'=>v = .tuple #[iv (match s.f id with | some a=>a.1 | none => .zero),.int .i64 (if (s.f id).isSome then 0 else 14)]∧∃ F',QAt w' qb (leaveQ s id) F'∧(∀ k∈F',k∈F∨w0.heap.size≤k)∧Only F w0 w':=by
  have hq:=h
  obtain ⟨tb,mb,Ft,rfl,h1,h2,h3,h4,h5⟩:=h
  have hs:=(St.nil w0).track h1 (by simp)
  refine ret_of_xc Tryz.func207 (by kernel_rfl) rfl Tryz.ntmps207 rfl rfl rfl ?_
  refine xc_seq ?_
  refine xc_region ?_ ?_;exact rfl
  refine al hs (k:=?_);intro b4 w hz hs
  have g4:=hs.new (b4,true) (by simp) rfl
  simp only at g4
  repeat' (first|refine vs (k:=?_)|refine qRg ?_|refine Nx.h ?_|refine qCf ?_|fail)
  have ho:=hs.onlyF [] (by simp [h1]) (by simp [D0])
  refine xs_look (e:=64) (z:=iv .zero) (h2.keep ho (by simp)) hid (by kernel_rfl) (by kernel_rfl) (k:=?_)
  rw [vals_get,vals_isSome]
  unfold leaveQ
  cases hf:s.f id with
  | none =>
    repeat' (first|refine vs (k:=?_)|(refine stA hs (k:=?_);intro w hs)|(refine al hs (k:=?_);intro b w hz hs)|refine qRg ?_|refine Nx.h ?_|refine qCt ?_|fail)
    first | refine rt (hq:=?_) | refine rt' (hq:=?_)
    have ho:=hs.onlyF [] (by simp [h1]) (by simp [D0])
    exact ⟨rfl,_,hq.only ho,fun k hk => .inl hk,ho.weaken (by simp)⟩
  | some a =>
    refine vs (k:=?_)
    refine vs (k:=?_)
    refine vs (k:=?_)
    refine al hs (k:=?_);intro b6 w6 hz6 hs
    have g6:=hs.new (b6,true) (by simp) rfl
    simp only at g6
    have n46:b6≠b4:=by have:=hs.nd;simp only [List.map_cons,List.nodup_cons,List.mem_cons,not_or] at this;exact this.1.1
    repeat' (first|refine vs (k:=?_)|(refine stA hs (k:=?_);intro w hs)|refine qRg ?_|refine Nx.h ?_|refine qCf ?_|fail)
    have ho:=hs.onlyF [] (by simp [h1]) (by simp [D0])
    have hqw:=hq.only ho
    (with_reducible apply xs_call);exact rfl;exact rfl;exact qcut_ret qb s _ a _ hqw hlen (hd a hf)
    rintro v w7 ⟨F',hA,hF',ho7⟩
    have k4:=ho7.block (hs.get (At.tail At.head)) (hqw.not (hs.get (At.tail At.head)) (by decide) (by decide) (by decide))
    have k6:=ho7.block (hs.get At.head) (hqw.not (hs.get At.head) (by decide) (by decide) (by decide))
    have hz7:=ho.size
    clear hs
    have hs:=((St.nil w7).track k4 (by simp)).track k6 (by simpa using n46)
    repeat' (first|refine vs (k:=?_)|(refine stA hs (k:=?_);intro w hs)|refine qRg ?_|refine Nx.h ?_|fail)
    first | refine rt (hq:=?_) | refine rt' (hq:=?_)
    have ho8:=hs.onlyF [b4] (by simp [k6]) (by simp [D0])
    refine ⟨rfl,F',hA.keepD ho8 (fun k hk hm=>by obtain rfl:=List.mem_singleton.1 hm;exact hA.not k4 (by decide) (by decide) (by decide) hk),fun k hk=>?_,((ho.weaken (by simp)).step ho7 (fun k hk => .inl hk)).step ho8 (fun k hk => .inr (by obtain rfl:=List.mem_singleton.1 hk;exact g4))⟩
    rcases hF' k hk with h | h
    · exact .inl h
    · exact .inr (by omega)
end Go.Proofs.YtalffooghioekaaGreatDoorX

namespace Go.Proofs.YtalffooghioekaaGreatDoorX
open IB (IT)
namespace RB
variable {α : Type} {lt : α → α → Bool} {S : α → Prop} {x : α}
theorem insL_perm (x:α):∀ l:List α,(insL lt x l).Perm (x :: l)
  | [] => .refl _
  | y :: l=>by
    unfold insL
    cases lt x y
    · exact ((insL_perm x l).cons y).trans (.swap _ _ _)
    · exact .refl _
theorem insL_srt (ho:OrdOn lt S) (hx:S x):∀ {l:List α},(∀ z∈l,S z)→Srt lt l→x∉l→Srt lt (insL lt x l)
  | [],_,_,_=>List.pairwise_singleton _ _
  | y :: l,hS,h,hn=>by
    obtain ⟨h1,h2⟩:=List.pairwise_cons.1 h
    have hy:=hS y List.mem_cons_self
    unfold insL
    cases e:lt x y
    · have hyx:lt y x=true:=by
        cases e':lt y x
        · exact absurd (ho.tri x y hx hy e e') (fun h=>hn (by rw [h];exact List.mem_cons_self))
        · rfl
      refine List.pairwise_cons.2 ⟨fun z hz=>?_,insL_srt ho hx (fun z hz=>hS z (List.mem_cons_of_mem _ hz)) h2 (fun hm=>hn (List.mem_cons_of_mem _ hm))⟩
      rcases List.mem_cons.1 ((insL_perm x l).mem_iff.1 hz) with rfl | hz
      · exact hyx
      · exact h1 z hz
    · refine List.pairwise_cons.2 ⟨fun z hz=>?_,h⟩
      rcases List.mem_cons.1 hz with rfl | hz
      · exact e
      · exact ho.tr x y z hx hy (hS z (List.mem_cons_of_mem _ hz)) e (h1 z hz)
theorem srt_nodup (ho:OrdOn lt S) {l:List α} (hS:∀ z∈l,S z) (h:Srt lt l):l.Nodup:=by
  refine List.Pairwise.imp_of_mem (fun {a b} ha hb hab e=>?_) h
  subst e
  rw [ho.irr a (hS a ha)] at hab;cases hab
theorem sans_perm [DecidableEq α] {l:List α} (h:l.Nodup) (hx:x∈l):l.Perm (x :: sans x l):=by
  induction l with
  | nil=>cases hx
  | cons y l ih =>
    obtain ⟨h1,h2⟩:=List.nodup_cons.1 h
    by_cases e:y=x
    · subst e
      rw [sans_self,sans_none (fun z hz he=>h1 (by rw [← he];exact hz))]
    · rw [sans_cons e]
      exact ((ih h2 ((List.mem_cons.1 hx).resolve_left (fun h=>e h.symm))).cons y).trans (.swap _ _ _)
end RB
theorem ordT {L:List IT} {b lo:Int} (h:∀ x∈L,Win b lo x.1) (hm:Mid lo) (hi:∀ x∈L,∀ y∈L,x.1.id=y.1.id→x=y):OrdOn IB.ltT (·∈L):=by
  have o:=ahead_ord (b:=b) (lo:=lo) (S:=fun z=>∃ y∈L,y.1=z) hm (by rintro _ ⟨y,hy,rfl⟩;exact h y hy) (by rintro _ _ ⟨y,hy,rfl⟩ ⟨z,hz,rfl⟩ e;rw [hi y hy z hz e])
  exact ⟨fun a ha=>o.irr a.1 ⟨a,ha,rfl⟩,fun a b c ha hb hc=>o.tr a.1 b.1 c.1 ⟨a,ha,rfl⟩ ⟨b,hb,rfl⟩ ⟨c,hc,rfl⟩,fun a b ha hb k1 k2=>Subtype.ext (o.tri a.1 b.1 ⟨a,ha,rfl⟩ ⟨b,hb,rfl⟩ k1 k2)⟩
theorem dueT {L:List IT} {b lo:Int} (h:∀ x∈L,Win b lo x.1) (hm:Mid lo) (hi:∀ x∈L,∀ y∈L,x.1.id=y.1.id→x=y):OrdOn (fun x y:IT=>due x.1 y.1) (·∈L):=by
  have o:=due_ord (b:=b) (lo:=lo) (S:=fun z=>∃ y∈L,y.1=z) hm (by rintro _ ⟨y,hy,rfl⟩;exact h y hy) (by rintro _ _ ⟨y,hy,rfl⟩ ⟨z,hz,rfl⟩ e;rw [hi y hy z hz e])
  exact ⟨fun a ha=>o.irr a.1 ⟨a,ha,rfl⟩,fun a b c ha hb hc=>o.tr a.1 b.1 c.1 ⟨a,ha,rfl⟩ ⟨b,hb,rfl⟩ ⟨c,hc,rfl⟩,fun a b ha hb k1 k2=>Subtype.ext (o.tri a.1 b.1 ⟨a,ha,rfl⟩ ⟨b,hb,rfl⟩ k1 k2)⟩
theorem delC_ok {a:IT} {t:RB IT} {S:IT→Prop} (ho:OrdOn IB.ltT S) (hg:RB.Good t) (hs:RB.Srt IB.ltT t.list) (hS:∀ z∈t.list,S z) (ha:a∈t.list):∃ t',IB.delC a t=some t'∧(∃ h,RB.Ok t' h)∧t'.list=RB.sans a t.list:=by
  cases t with
  | nil=>cases ha
  | node l y r c =>
    obtain ⟨hc,h,hk⟩:=hg
    obtain rfl:c=false:=hc
    obtain ⟨h',rfl,hl,hr,hrr⟩:=hk.inv_black
    have hq:∃ h',RB.Ok (.node l y r (IB.rootC l r false)) h'∧(IB.rootC l r false=true∨l.red=true):=by
      unfold IB.rootC
      rw [hrr]
      cases e:l.red
      · exact ⟨_,.red hl hr e hrr,.inl rfl⟩
      · exact ⟨_,.black hl hr hrr,.inr rfl⟩
    obtain ⟨h2,hok,hc⟩:=hq
    obtain ⟨t1,e1,e2⟩:=RB.cut_ok ho (RB.node l y r false).list.length (.node l y r (IB.rootC l r false)) h2 hok rfl hc (Nat.le_refl _) ⟨hs,hS,ha⟩
    exact ⟨t1,e1,⟨_,e2.ok⟩,e2.list⟩
end Go.Proofs.YtalffooghioekaaGreatDoorX

namespace Go.Proofs.YtalffooghioekaaGreatDoorX
open Go Go.RowKit
open IB (IT ITsAt flatT)
attribute [local irreducible] XS XC XA thenE blockE retE loopE loopS cutB cutN doneE SE
def newQ (c:Int):Qs:=⟨.zero,.nil,fun _=>none,0,c⟩
theorem qnew_ret (c:Int) (hc:U64 c) (w0:World):Ret Tryz.prog 157 #[.int .u64 c] w0 fun v w'=>(∃ qb F,v = .pointer (some ⟨qb,0,none⟩)∧QAt w' qb (newQ c) F∧∀ k∈F,w0.heap.size≤k)∧Only [] w0 w':=by
  have hs:=St.nil w0
  refine ret_of_xc Tryz.func157 (by kernel_rfl) rfl Tryz.ntmps157 rfl rfl rfl ?_
  repeat' (first|refine vs (k:=?_)|refine qRg ?_|refine Nx.h ?_|fail)
  (with_reducible apply xs_call);exact rfl;exact rfl;exact IB.newTree_ret [] (.slice none 0 0) (by simp) _ (LsAt.nil _ _ _)
  rintro v w1 ⟨⟨tb,Ft,rfl,hT,hFt⟩,ho⟩;replace hs:=hs.call0 ho
  have ho1:=hs.only0 rfl
  have hz1:=ho1.size
  refine xs_mapNew (k:=?_)
  intro mb w2 ho2 hM hmb
  clear hs
  have hs:=St.nil w2
  refine vs (k:=?_)
  refine vs (k:=?_)
  refine bx hs (k:=?_);intro qb w3 hz hs
  have hqb:=hs.new (qb,true) (by simp) rfl
  simp only at hqb
  have hz2:=ho2.size
  have hM3:=hM.keep (hs.only0 rfl) (by simp)
  have hT3:=(hT.only ho2).only (hs.only0 rfl)
  have hM4:MapAt w3 mb (vals (fun _=>none)) 0:=hM3
  have hq3:=hs.get At.head
  have ho3:=(ho1.trans ho2).trans (hs.only0 rfl)
  have hA:QAt w3 qb (newQ c) (qb :: mb :: Ft):=⟨tb,mb,Ft,rfl,hq3,hM4,hT3,(by decide:Mn.zero.In),hc⟩
  have hnew:∀ k∈qb :: mb :: Ft,w0.heap.size≤k:=fun k hk=>by
    simp only [List.mem_cons] at hk
    rcases hk with rfl | rfl | hk
    · omega
    · omega
    · have:=hFt k hk;omega
  repeat' (first|refine vs (k:=?_)|refine Nx.h ?_|fail)
  first | refine rt (hq:=?_) | refine rt' (hq:=?_)
  exact ⟨⟨qb,_,rfl,hA,hnew⟩,ho3⟩
def owedQ (s:Qs) (id:Int):Int:=match s.f id with | some a=>cmpI ((ovM s.m a.1.p).getD 0) 0 | none=>0
def lagQ (s:Qs) (id:Int):Int:=match s.f id with | some a=>(rdM s.m a.1.p).getD 0 | none=>0
def errN (b:Bool):Int:=bif b then 0 else 14
set_option maxHeartbeats 4000000 in
theorem qowed_ret (qb:Nat) (s:Qs) (F:List Nat) (id:Int) (w0:World) (h:QAt w0 qb s F) (hid:In64 id):Ret Tryz.prog 133 #[.pointer (some ⟨qb,0,none⟩),.int .i64 id] w0 fun v w'=>v = .tuple #[.int .i64 (owedQ s id),.int .i64 (errN (s.f id).isSome)]∧Only [] w0 w':=by
  obtain ⟨tb,mb,Ft,rfl,h1,h2,h3,h4,h5⟩:=h
  have hs:=(St.nil w0).track h1 (by simp)
  refine ret_of_xc Tryz.func133 (by kernel_rfl) rfl Tryz.ntmps133 rfl rfl rfl ?_
  repeat' (first|refine vs (k:=?_)|refine qRg ?_|refine Nx.h ?_|refine qCf ?_|fail)
  have ho:=hs.onlyF [] (by simp [h1]) (by simp [D0])
  refine xs_look (e:=64) (z:=iv .zero) (h2.keep ho (by simp)) hid (by kernel_rfl) (by kernel_rfl) (k:=?_)
  rw [vals_get,vals_isSome]
  unfold owedQ
  cases hf:s.f id with
  | none =>
    repeat' (first|refine vs (k:=?_)|(refine stA hs (k:=?_);intro w hs)|(refine al hs (k:=?_);intro b w hz hs)|refine qRg ?_|refine Nx.h ?_|refine qCt ?_|fail)
    first | refine rt (hq:=?_) | refine rt' (hq:=?_)
    exact ⟨rfl,hs.onlyF [] (by simp [h1]) (by simp [D0])⟩
  | some a =>
    repeat' (first|refine vs (k:=?_)|(refine stA hs (k:=?_);intro w hs)|(refine al hs (k:=?_);intro b w hz hs)|refine qRg ?_|refine Nx.h ?_|refine qCf ?_|fail)
    refine dr [] hs (k:=?_);intro hX w hs
    refine tk 0 hX (k:=?_)
    refine tk 1 hX (k:=?_)
    refine tk 2 hX (k:=?_)
    refine tk 3 hX (k:=?_)
    refine tk 4 hX (k:=?_)
    refine tk 5 hX (k:=?_)
    refine dt 6 hX (k:=?_)
    (with_reducible apply xs_call);exact rfl;exact rfl;exact lsign_ret s.m a.1.p h4 a.2.1 _
    rintro v w' ⟨rfl,ho⟩;replace hs:=hs.call0 ho;repeat' (first|refine Nx.h ?_|fail)
    refine dn (k:=?_)
    refine tk 7 hX (k:=?_)
    refine tk 8 hX (k:=?_)
    refine tk 9 hX (k:=?_)
    refine tk 10 hX (k:=?_)
    refine tk 11 hX (k:=?_)
    refine en (k:=?_)
    repeat' (first|refine vs (k:=?_)|refine qRg ?_|refine Nx.h ?_|fail)
    first | refine rt (hq:=?_) | refine rt' (hq:=?_)
    exact ⟨rfl,hs.onlyF [] (by simp [h1]) (by simp [D0])⟩
set_option maxHeartbeats 4000000 in
theorem qlag_ret (qb:Nat) (s:Qs) (F:List Nat) (id:Int) (w0:World) (h:QAt w0 qb s F) (hid:In64 id):Ret Tryz.prog 71 #[.pointer (some ⟨qb,0,none⟩),.int .i64 id] w0 fun v w'=>v = .tuple #[wv (lagQ s id),.int .i64 (errN (s.f id).isSome)]∧Only [] w0 w':=by
  obtain ⟨tb,mb,Ft,rfl,h1,h2,h3,h4,h5⟩:=h
  have hs:=(St.nil w0).track h1 (by simp)
  refine ret_of_xc Tryz.func71 (by kernel_rfl) rfl Tryz.ntmps71 rfl rfl rfl ?_
  repeat' (first|refine vs (k:=?_)|(refine al hs (k:=?_);intro b w hz hs)|refine qRg ?_|refine Nx.h ?_|refine qCf ?_|fail)
  have ho:=hs.onlyF [] (by simp [h1]) (by simp [D0])
  refine xs_look (e:=64) (z:=iv .zero) (h2.keep ho (by simp)) hid (by kernel_rfl) (by kernel_rfl) (k:=?_)
  rw [vals_get,vals_isSome]
  unfold lagQ
  cases hf:s.f id with
  | none =>
    repeat' (first|refine vs (k:=?_)|(refine stA hs (k:=?_);intro w hs)|(refine al hs (k:=?_);intro b w hz hs)|refine qRg ?_|refine Nx.h ?_|refine qCt ?_|fail)
    first | refine rt (hq:=?_) | refine rt' (hq:=?_)
    exact ⟨rfl,hs.onlyF [] (by simp [h1]) (by simp [D0])⟩
  | some a =>
    repeat' (first|refine vs (k:=?_)|(refine stA hs (k:=?_);intro w hs)|(refine al hs (k:=?_);intro b w hz hs)|refine qRg ?_|refine Nx.h ?_|refine qCf ?_|fail)
    refine dr [] hs (k:=?_);intro hX w hs
    refine tk 0 hX (k:=?_)
    refine tk 1 hX (k:=?_)
    refine tk 2 hX (k:=?_)
    refine tk 3 hX (k:=?_)
    refine tk 4 hX (k:=?_)
    refine tk 5 hX (k:=?_)
    refine pd0 10 8 hs (k:=?_);intro f X w hp;have hs:=hp.st
    apply xa_pend 6 10 (f:=f) (X:=X) hX hp;exact rfl;exact rfl;(apply makes_alloc tabOk;exact rfl);kernel_rfl;kernel_rfl;kernel_rfl;kernel_rfl;(intro X Y;(repeat (first | exact pgg_base | refine pgg_step ?_ (by exact rfl))));(intro w' hs;first|exact se_hold hs.hold|exact se_hold hs.hold.tail|exact se_done rfl);intro f X w hp;have hs:=hp.st
    (with_reducible apply xs_call);exact rfl;exact rfl;exact read_ret s.m a.1.p h4 a.2.1 _
    rintro v w' ⟨rfl,ho⟩;replace hp:=hp.only ho;replace hs:=hp.st;repeat' (first|refine Nx.h ?_|fail)
    refine dn (k:=?_)
    refine tk 7 hX (hc:=by cases f <;> kernel_rfl) (k:=?_)
    refine tk 8 hX (hc:=by cases f <;> kernel_rfl) (k:=?_)
    refine tk 9 hX (hc:=by cases f <;> kernel_rfl) (k:=?_)
    apply xa_pendE 10 (f:=f) (X:=X) hX hp;exact rfl;(apply makes_alloc tabOk;exact rfl);kernel_rfl;kernel_rfl;(intro X Y;(repeat (first | exact pgg_base | refine pgg_step ?_ (by exact rfl))));(intro w' hs;first|exact se_hold hs.hold|exact se_hold hs.hold.tail|exact se_done rfl);intro b w hI hs
    refine dt 11 hX (k:=?_)
    repeat' (first|(refine stA hs (k:=?_);intro w hs)|refine Nx.h ?_|fail)
    refine dn (k:=?_)
    refine tk 12 hX (k:=?_)
    refine en (k:=?_)
    repeat' (first|refine vs (k:=?_)|(refine stA hs (k:=?_);intro w hs)|refine qRg ?_|refine Nx.h ?_|fail)
    first | refine rt (hq:=?_) | refine rt' (hq:=?_)
    exact ⟨rfl,hs.onlyF [] (by simp [h1]) (by simp [D0])⟩
abbrev qptrO (qb:Nat):Obj := .cells #[.pointer (some ⟨qb,0,none⟩)] 76 (0,0)
theorem qelig_ret (qb tb mb bb:Nat) (m:Mn) (c:Int) (a:IT) (w0:World) (hm:m.In) (h1:w0.heap[qb]?=some (queueO m tb mb c)) (h2:w0.heap[bb]?=some (qptrO qb)):Ret Tryz.prog 253 #[iv a.1,.pointer (some ⟨bb,0,none⟩)] w0 fun v w'=>v = .bool (elig m a.1.p)∧Only [] w0 w':=by
  have n1:=blocks_ne h2 h1 (by decide)
  have hs:=((St.nil w0).track h1 (by simp)).track h2 (by simpa using n1)
  refine ret_of_xc Tryz.func253 (by kernel_rfl) rfl Tryz.ntmps253 rfl rfl rfl ?_;refine xc_seq ?_;refine xc_region ?_ ?_;exact rfl;refine bx hs (k:=?_);intro bq wq hzq hs;repeat' (first|refine vs (k:=?_)|refine Nx.h ?_|fail)
  refine dr [] hs (k:=?_);intro hX w hs
  refine tk 0 hX (k:=?_)
  refine tk 1 hX (k:=?_)
  refine tk 2 hX (k:=?_)
  refine tk 3 hX (k:=?_)
  refine tk 4 hX (k:=?_)
  refine tk 5 hX (k:=?_)
  refine dt 6 hX (k:=?_)
  (with_reducible apply xs_call);exact rfl;exact rfl;exact elig_ret m a.1.p hm a.2.1 _
  rintro v w' ⟨rfl,ho⟩;replace hs:=hs.call0 ho;repeat' (first|refine Nx.h ?_|fail)
  refine dn (k:=?_)
  refine tk 7 hX (k:=?_)
  refine en (k:=?_)
  repeat' (first|refine Nx.h ?_|fail)
  first | refine rt (hq:=?_) | refine rt' (hq:=?_)
  exact ⟨rfl,hs.onlyF [] (by simp [h1,h2]) (by simp [D0])⟩
def soonQ (s:Qs):Option IT:=IB.foldT (fun a=>elig s.m a.1.p) s.t none
set_option maxHeartbeats 4000000 in
theorem qsoonest_ret (qb:Nat) (s:Qs) (F:List Nat) (w0:World) (h:QAt w0 qb s F):Ret Tryz.prog 236 #[.pointer (some ⟨qb,0,none⟩)] w0 fun v w'=>v = .tuple #[iv (IB.valO (soonQ s)),.bool (soonQ s).isSome]∧Only [] w0 w':=by
  obtain ⟨tb,mb,Ft,rfl,h1,h2,h3,h4,h5⟩:=h
  have hs:=(St.nil w0).track h1 (by simp)
  refine ret_of_xc Tryz.func236 (by kernel_rfl) rfl Tryz.ntmps236 rfl rfl rfl ?_
  refine xc_seq ?_
  refine xc_region ?_ ?_;exact rfl
  refine bx hs (k:=?_);intro bb w hz hs
  refine al hs (k:=?_);intro b2 w hz hs
  repeat' (first|refine vs (k:=?_)|refine qRg ?_|refine Nx.h ?_|refine qCf ?_|fail)
  have ho:=hs.onlyF [] (by simp [h1]) (by simp [D0])
  have hq:=hs.get (At.tail (At.tail At.head))
  have hb:=hs.get (At.tail At.head)
  (with_reducible apply xs_call);exact rfl;exact rfl;exact IB.dsoonest_ret tb s.t Ft _ (h3.only ho) 253 [.pointer (some ⟨bb,0,none⟩)] (fun a=>elig s.m a.1.p) (fun y w _ hw=>qelig_ret qb tb mb bb s.m s.c y w h4 (hw.block hq (by simp)) (hw.block hb (by simp)))
  rintro v w' ⟨rfl,ho⟩;replace hs:=hs.call0 ho;repeat' (first|refine vs (k:=?_)|(refine stA hs (k:=?_);intro w hs)|refine Nx.h ?_|fail)
  first | refine rt (hq:=?_) | refine rt' (hq:=?_)
  exact ⟨rfl,hs.onlyF [] (by simp [h1]) (by simp [D0])⟩
end Go.Proofs.YtalffooghioekaaGreatDoorX

namespace Go.Proofs.YtalffooghioekaaGreatDoorX
open Go Go.RowKit
attribute [local irreducible] XS XC XA thenE blockE retE loopE loopS cutB cutN doneE SE
def within (base:Int) (l:List It):Bool:=decide (spr base l≤4611686018427387904)
theorem within_ret (base:Int) (l:List It) (sl:Value) (hm:l.length≤1000000) (w0:World) (hP:ItsAt w0 sl l) :
    Ret Tryz.prog 217 #[.int .u64 base,sl] w0 fun v w'=>v = .bool (within base l)∧Only [] w0 w':=by
  obtain ⟨ad,cap,rfl,hD⟩:=id hP
  have hs:=St.nil w0
  refine ret_of_xc Tryz.func217 (by kernel_rfl) rfl Tryz.ntmps217 rfl rfl rfl ?_
  repeat' (first|refine vs (k:=?_)|refine qRg ?_|refine Nx.h ?_|fail)
  (with_reducible apply xs_call);exact rfl;exact rfl;exact spread_ret base l _ hm _ (hP.only (hs.only0 rfl))
  rintro v w' ⟨rfl,ho⟩;replace hs:=hs.call0 ho;repeat' (first|refine vs (k:=?_)|refine Nx.h ?_|fail)
  first | refine rt (hq:=?_) | refine rt' (hq:=?_)
  exact ⟨rfl,hs.only0 rfl⟩
theorem room0_ret (w0:World):Ret Tryz.prog 282 #[.int .u64 0,.slice none 0 0] w0 fun v w'=>v = .int .u64 4611686018427387904∧Only [] w0 w':=by
  have hs:=St.nil w0
  refine ret_of_xc Tryz.func282 (by kernel_rfl) rfl Tryz.ntmps282 rfl rfl rfl ?_
  repeat' (first|refine vs (k:=?_)|refine qRg ?_|refine Nx.h ?_|fail)
  (with_reducible apply xs_call);exact rfl;exact rfl;exact within_ret 0 [] _ (by simp) _ (LsAt.nil _ _ _)
  rw [show within 0 []=true from by decide]
  rintro v w' ⟨rfl,ho⟩;replace hs:=hs.call0 ho;repeat' (first|refine vs (k:=?_)|refine qRg ?_|refine Nx.h ?_|refine qCf ?_|fail)
  (with_reducible apply xs_call);exact rfl;exact rfl;exact spread_ret 0 [] _ (by simp) _ (LsAt.nil _ _ _)
  rw [show spr 0 []=0 from by decide]
  rintro v w' ⟨rfl,ho⟩;replace hs:=hs.call0 ho;repeat' (first|refine vs (k:=?_)|refine Nx.h ?_|fail)
  first | refine rt (hq:=?_) | refine rt' (hq:=?_)
  exact ⟨rfl,hs.only0 rfl⟩
end Go.Proofs.YtalffooghioekaaGreatDoorX

namespace Go.Proofs.YtalffooghioekaaGreatDoorX
open Go Go.RowKit
open IB (IT ITsAt flatT)
attribute [local irreducible] XS XC XA thenE blockE retE loopE loopS cutB cutN doneE SE
def baseQ (s:Qs) (a:IT):Int:=bif decide (s.t.list.length=0) then a.1.p.t else nowQ s
def plain (l:List IT):List It:=l.map (·.1)
def joinE (s:Qs) (a:IT):Int :=
  bif !a.1.right then 2 else bif (s.f a.1.id).isSome then 13 else bif decide (s.t.list.length=32) then 7 else bif !within (baseQ s a) (plain (s.t.list ++ [a])) then 8 else 0
def joinQ (s:Qs) (a:IT):Qs:=bif decide (joinE s a=0) then putQ s a else s
set_option maxHeartbeats 4000000 in
theorem qjoin_ret (qb:Nat) (s:Qs) (F:List Nat) (a:IT) (w0:World) (h:QAt w0 qb s F) (hlen:s.t.list.length+1≤1000000) (hn:s.n < 1000000) :
    Ret Tryz.prog 205 #[.pointer (some ⟨qb,0,none⟩),iv a.1] w0 fun v w'=>v = .int .i64 (joinE s a)∧∃ F',QAt w' qb (joinQ s a) F'∧(∀ k∈F',k∈F∨w0.heap.size≤k)∧Only F w0 w':=by
  have hq:=h
  obtain ⟨tb,mb,Ft,rfl,h1,h2,h3,h4,h5⟩:=h
  have hs:=(St.nil w0).track h1 (by simp)
  have same:∀ w',Only [] w0 w'→∃ F',QAt w' qb s F'∧(∀ k∈F',k∈qb :: mb :: Ft∨w0.heap.size≤k)∧Only (qb :: mb :: Ft) w0 w':=fun w' ho=>⟨_,hq.only ho,fun k hk => .inl hk,ho.weaken (by simp)⟩
  refine ret_of_xc Tryz.func205 (by kernel_rfl) rfl Tryz.ntmps205 rfl rfl rfl ?_;refine xc_seq ?_;refine xc_region ?_ ?_;exact rfl;refine bx hs (k:=?_);intro bq wq hzq hs;repeat' (first|refine vs (k:=?_)|refine qRg ?_|refine Nx.h ?_|refine qCf ?_|fail)
  have hbq:=hs.new (bq,true) (by simp) rfl
  simp only at hbq
  have ho:=hs.onlyF [] (by simp [h1]) (by simp [D0])
  (with_reducible apply xs_call);exact rfl;exact rfl;exact qnow_ret qb s _ _ (hq.only ho)
  rintro v w' ⟨rfl,ho⟩;replace hs:=hs.call0 ho
  refine vs (k:=?_)
  refine XS.nil ?_
  refine then_of ?_
  refine xc_seq ?_
  refine xc_cutN (fun _:Unit=>[(0,.pointer (some ⟨qb,0,none⟩)),(3,.pointer (some ⟨bq,0,none⟩)),(4,.int .i64 0),(5,.int .u64 (baseQ s a))]) (fun _ w=>St w0 D0 [(bq,itQ a.1,true),(qb,queueO s.m tb mb s.c,false)] w) ?_ ?_
  · repeat' (first|refine vs (k:=?_)|refine qRg ?_|refine Nx.h ?_|fail)
    have ho:=hs.onlyF [] (by simp [h1]) (by simp [D0])
    (with_reducible apply xs_call);exact rfl;exact rfl;exact qlen_ret qb s _ _ (hq.only ho)
    rintro v w' ⟨rfl,ho⟩;replace hs:=hs.call0 ho;repeat' (first|refine vs (k:=?_)|refine qRg ?_|refine Nx.h ?_|(refine xc_if rfl (fun hc=>?_) (fun hc=>?_))|fail)
    · have e:baseQ s a=a.1.p.t:=by unfold baseQ;rw [decide_eq_true (show s.t.list.length=0 by omega)];rfl
      rw [e]
      exact cutN_normal () (by (repeat (first | exact agree_nil | (apply agree_cons;exact rfl)))) hs
    · have e:baseQ s a=nowQ s:=by unfold baseQ;rw [decide_eq_false (show ¬ s.t.list.length=0 by omega)];rfl
      rw [e]
      exact cutN_normal () (by (repeat (first | exact agree_nil | (apply agree_cons;exact rfl)))) hs
  clear hs ho
  rintro _ env w hs
  repeat' (first|refine Nx.h ?_|fail)
  refine dr [] hs (k:=?_);intro hX w hs
  refine tk 0 hX (k:=?_)
  refine tk 1 hX (k:=?_)
  refine tk 2 hX (k:=?_)
  refine tk 3 hX (k:=?_)
  refine tk 4 hX (k:=?_)
  refine tk 5 hX (k:=?_)
  refine pd0 10 6 hs (k:=?_);intro f X w hp;have hs:=hp.st
  apply xa_pend 6 10 (f:=f) (X:=X) hX hp;exact rfl;exact rfl;(first | (apply makes_alloc tabOk;exact rfl) | (apply makes_slice tabOk;exact rfl;exact rfl;exact rfl;exact rfl;exact rfl;(intro X;((repeat (first | exact Bld.nil | (apply Bld.one;exact rfl;(conv=>lhs;whnf);exact rfl;(repeat (first | exact PutL.nil | apply PutL.skip | apply PutL.cons))) | (apply Bld.agg;exact rfl;exact rfl;exact rfl;(repeat (first | exact PutL.nil | apply PutL.skip | apply PutL.cons)))))))));kernel_rfl;kernel_rfl;kernel_rfl;kernel_rfl;(intro X Y;(repeat (first | exact pgg_base | refine pgg_step ?_ (by exact rfl))));(intro w' hs;first|exact se_hold hs.hold|exact se_hold hs.hold.tail|exact se_done rfl);intro f X w hp;have hs:=hp.st
  have ho:=hs.onlyF [] (by simp [h1]) (by simp [D0])
  refine xs_look (e:=64) (z:=iv .zero) (h2.keep ho (by simp)) a.2.2.1 (by kernel_rfl) (by kernel_rfl) (k:=?_)
  rw [vals_get,vals_isSome]
  generalize hx:(match s.f a.1.id with | some a=>a.1 | none=>It.zero)=x
  repeat' (first|refine Nx.h ?_|fail)
  refine dn (k:=?_)
  refine tk 7 hX (hc:=by cases f <;> kernel_rfl) (k:=?_)
  refine tk 8 hX (hc:=by cases f <;> kernel_rfl) (k:=?_)
  refine tk 9 hX (hc:=by cases f <;> kernel_rfl) (k:=?_)
  apply xa_pendE 10 (f:=f) (X:=X) hX hp;exact rfl;(first | (apply makes_alloc tabOk;exact rfl) | (apply makes_slice tabOk;exact rfl;exact rfl;exact rfl;exact rfl;exact rfl;(intro X;((repeat (first | exact Bld.nil | (apply Bld.one;exact rfl;(conv=>lhs;whnf);exact rfl;(repeat (first | exact PutL.nil | apply PutL.skip | apply PutL.cons))) | (apply Bld.agg;exact rfl;exact rfl;exact rfl;(repeat (first | exact PutL.nil | apply PutL.skip | apply PutL.cons)))))))));kernel_rfl;kernel_rfl;(intro X Y;(repeat (first | exact pgg_base | refine pgg_step ?_ (by exact rfl))));(intro w' hs;first|exact se_hold hs.hold|exact se_hold hs.hold.tail|exact se_done rfl);intro b w hI hs
  refine dt 11 hX (k:=?_)
  repeat' (first|(refine stA hs (k:=?_);intro w hs)|refine Nx.h ?_|fail)
  refine dn (k:=?_)
  refine tk 12 hX (k:=?_)
  refine en (k:=?_)
  replace hs:=hs.forgetNew
  repeat' (first|refine vs (k:=?_)|refine qRg ?_|refine Nx.h ?_|fail)
  (with_reducible apply xs_call);exact rfl;exact rfl;exact iright_ret a.1 _
  rintro v w' ⟨rfl,ho⟩;replace hs:=hs.call0 ho;repeat' (first|refine vs (k:=?_)|refine qRg ?_|refine Nx.h ?_|(refine xc_cond rfl (fun hc=>?_) (fun hc=>?_))|fail)
  · first | refine rt (hq:=?_) | refine rt' (hq:=?_)
    have ho:=hs.onlyF [] (by simp [h1]) (by simp [D0])
    have e:joinE s a=2:=by unfold joinE;rw [show (!a.1.right)=true by simpa using hc];rfl
    refine ⟨by rw [e];rfl,?_⟩
    unfold joinQ;rw [e]
    exact same _ ho
  · first | refine rt (hq:=?_) | refine rt' (hq:=?_)
    have ho:=hs.onlyF [] (by simp [h1]) (by simp [D0])
    have e:joinE s a=13:=by unfold joinE;rw [show (!a.1.right)=false by assumption,hc];rfl
    refine ⟨by rw [e];rfl,?_⟩
    unfold joinQ;rw [e]
    exact same _ ho
  · have r1:(!a.1.right)=false:=by assumption
    have r2:(s.f a.1.id).isSome=false:=by simpa using hc
    have ho:=hs.onlyF [] (by simp [h1]) (by simp [D0])
    (with_reducible apply xs_call);exact rfl;exact rfl;exact qlen_ret qb s _ _ (hq.only ho)
    rintro v w' ⟨rfl,ho⟩;replace hs:=hs.call0 ho;repeat' (first|refine vs (k:=?_)|refine qRg ?_|refine Nx.h ?_|(refine xc_if rfl (fun hc=>?_) (fun hc=>?_))|fail)
    · first | refine rt (hq:=?_) | refine rt' (hq:=?_)
      have ho:=hs.onlyF [] (by simp [h1]) (by simp [D0])
      have e:joinE s a=7:=by unfold joinE;rw [r1,r2,decide_eq_true (show s.t.list.length=32 by omega)];rfl
      refine ⟨by rw [e];rfl,?_⟩
      unfold joinQ;rw [e]
      exact same _ ho
    · have r3:¬ s.t.list.length=32:=by omega
      refine dr [] hs (k:=?_);intro hX w hs
      refine tk 0 hX (k:=?_)
      refine tk 1 hX (k:=?_)
      refine tk 3 hX (k:=?_)
      refine pd0S 4 43 a.1.cells hs (k:=?_);intro f X w hp;have hs:=hp.st
      apply xa_pend 2 4 (f:=f) (X:=X) hX hp;exact rfl;exact rfl;(first | (apply makes_alloc tabOk;exact rfl) | (apply makes_slice tabOk;exact rfl;exact rfl;exact rfl;exact rfl;exact rfl;(intro X;((repeat (first | exact Bld.nil | (apply Bld.one;exact rfl;(conv=>lhs;whnf);exact rfl;(repeat (first | exact PutL.nil | apply PutL.skip | apply PutL.cons))) | (apply Bld.agg;exact rfl;exact rfl;exact rfl;(repeat (first | exact PutL.nil | apply PutL.skip | apply PutL.cons)))))))));kernel_rfl;kernel_rfl;kernel_rfl;kernel_rfl;(intro X Y;(repeat (first | exact pgg_base | refine pgg_step ?_ (by exact rfl))));(intro w' hs;first|exact se_hold hs.hold|exact se_hold hs.hold.tail|exact se_done rfl);intro f X w hp;have hs:=hp.st
      have ho:=hs.onlyF [] (by simp [h1]) (by simp [D0])
      have hbl:=lt_of_block (hs.get At.head)
      (with_reducible apply xs_call);exact rfl;exact rfl;exact qitems_ret qb s _ _ (hq.only ho) (by omega)
      rintro v1 w1 ⟨⟨G,hG,hGn⟩,ho1⟩
      have hz:=ho.size
      replace hp:=(⟨hp.core.only ho1,hG,fun _ _ ho h=>h.keep ho (by simp)⟩:Pend w0 D0 _ _ _ (fun w=>SlV w 64 7 v1 s.t.list.length (flatT s.t.list) G) _ _ _)
      replace hs:=hp.st
      have hGn':∀ k∈G,w0.heap.size≤k:=fun k hk=>by have:=hGn k hk;omega
      repeat' (first|refine Nx.h ?_|fail)
      refine dn (k:=?_)
      apply xa_pendE 4 (f:=f) (X:=X) hX hp;exact rfl;(first | (apply makes_alloc tabOk;exact rfl) | (apply makes_slice tabOk;exact rfl;exact rfl;exact rfl;exact rfl;exact rfl;(intro X;((repeat (first | exact Bld.nil | (apply Bld.one;exact rfl;(conv=>lhs;whnf);exact rfl;(repeat (first | exact PutL.nil | apply PutL.skip | apply PutL.cons))) | (apply Bld.agg;exact rfl;exact rfl;exact rfl;(repeat (first | exact PutL.nil | apply PutL.skip | apply PutL.cons)))))))));kernel_rfl;kernel_rfl;(intro X Y;(repeat (first | exact pgg_base | refine pgg_step ?_ (by exact rfl))));(intro w' hs;first|exact se_hold hs.hold|exact se_hold hs.hold.tail|exact se_done rfl);intro b w hI hs
      refine dt 5 hX (k:=?_)
      have hb4:=hs.get At.head
      have ho2:=hs.onlyF [] (by simp [h1]) (by simp [D0])
      refine xs_appendW tabOk rfl rfl rfl rfl rfl rfl rfl (by decide) (lit_cells (news:=a.1.cells) hb4) (by simp [Value.oneCell']) hI (by omega) (by omega) ?_
      intro v2 w2 ⟨G',hG2,hG2'⟩ ho3
      have hbG:bq∉G:=fun hm=>by have:=hGn bq hm;omega
      have hqG:qb∉G:=IB.slv_not hI (by decide) (hs.get (At.tail (At.tail At.head)))
      replace hs:=hs.forgetNew.call ho3 (fun k hk hm=>by
        simp only [List.map_cons,List.map_nil,List.mem_cons,List.not_mem_nil,or_false] at hm
        rcases hm with rfl | rfl
        · exact hbG hk
        · exact hqG hk) (by simp [D0])
      have hoo:Only [] w0 w2:=(hs.onlyF (G ++ []) (by simp [h1]) (by simp [D0])).mono (fun k hk hm=>by
        rw [List.append_nil] at hm
        have:=hGn' k hm
        omega)
      have hL:ItsAt w2 v2 (plain (s.t.list ++ [a])):=IB.its_of (G:=G') (by
        rw [IB.flatT_app,List.length_append]
        exact hG2)
      repeat' (first|refine Nx.h ?_|fail)
      refine dn (k:=?_)
      refine dt 6 hX (k:=?_)
      (with_reducible apply xs_call);exact rfl;exact rfl;exact within_ret (baseQ s a) (plain (s.t.list ++ [a])) v2 (by simp [plain];omega) _ hL
      generalize hwi:within (baseQ s a) (plain (s.t.list ++ [a]))=wi
      rintro v3 w3 ⟨rfl,ho4⟩;replace hs:=hs.call0 ho4
      have hoo3:=hoo.trans ho4
      repeat' (first|refine Nx.h ?_|fail)
      refine dn (k:=?_)
      refine tk 7 hX (k:=?_)
      refine tk 8 hX (k:=?_)
      refine en (k:=?_)
      cases wi
      · repeat' (first|refine vs (k:=?_)|refine qRg ?_|refine Nx.h ?_|refine qCt ?_|fail)
        first | refine rt (hq:=?_) | refine rt' (hq:=?_)
        have e:joinE s a=8:=by unfold joinE;rw [r1,r2,decide_eq_false r3,hwi];rfl
        refine ⟨by rw [e];rfl,?_⟩
        unfold joinQ;rw [e]
        exact same _ hoo3
      · have e:joinE s a=0:=by unfold joinE;rw [r1,r2,decide_eq_false r3,hwi];rfl
        repeat' (first|refine vs (k:=?_)|refine qRg ?_|refine Nx.h ?_|refine qCf ?_|fail)
        (with_reducible apply xs_call);exact rfl;exact rfl;exact qput_ret qb s _ a _ (hq.only hoo3) hlen hn
        rintro v w5 ⟨F',hA,hF',ho5⟩
        have hz5:=hoo3.size
        clear hs
        have hs:=St.nil w5
        repeat' (first|refine vs (k:=?_)|refine qRg ?_|refine Nx.h ?_|fail)
        first | refine rt (hq:=?_) | refine rt' (hq:=?_)
        refine ⟨by rw [e];rfl,?_⟩
        unfold joinQ;rw [e]
        exact ⟨F',hA.only (hs.only0 rfl),fun k hk=>by rcases hF' k hk with h | h;exact .inl h;exact .inr (by omega),((hoo3.weaken (by simp)).step ho5 (fun k hk => .inl hk)).step (hs.only0 rfl) (by simp)⟩
end Go.Proofs.YtalffooghioekaaGreatDoorX

namespace Go.Proofs.YtalffooghioekaaGreatDoorX
open IB (IT)
structure QI (s:Qs):Prop where
  good:RB.Good s.t
  srt:RB.Srt IB.ltT s.t.list
  f:∀ i a,s.f i=some a↔a∈s.t.list∧a.1.id=i
  n:s.n=s.t.list.length
  len:s.t.list.length≤32
  cen:s.t.list≠[]→Cen s.m (plain s.t.list)
  nil:s.t.list=[]→s.m.a=0∧s.m.w=0∧s.m.n=0
theorem QI.inj {s:Qs} (h:QI s):∀ x∈s.t.list,∀ y∈s.t.list,x.1.id=y.1.id→x=y:=fun x hx y hy e=>by
  have h1:=(h.f _ x).2 ⟨hx,rfl⟩
  have h2:=(h.f _ y).2 ⟨hy,e.symm⟩
  rw [h1] at h2;exact Option.some.inj h2
theorem plain_ne {l:List IT} (h:l≠[]):plain l≠[]:=fun e=>h (List.map_eq_nil_iff.1 e)
theorem plain_perm {l l':List IT} (h:l.Perm l'):(plain l).Perm (plain l'):=h.map _
theorem plain_win {l:List IT} {b lo:Int} (h:AllW b lo (plain l)):∀ x∈l,Win b lo x.1:=fun x hx=>h.2.2 _ (List.mem_map_of_mem hx)
theorem QI.win {s:Qs} (h:QI s):∃ lo,AllW s.m.b lo (plain s.t.list):=by
  by_cases e:s.t.list=[]
  · rw [e];exact ⟨0,by unfold Mid;omega,by simp [plain],by simp [plain]⟩
  · exact (h.cen e).all
theorem QI.ord {s:Qs} (h:QI s):OrdOn IB.ltT (·∈s.t.list):=by
  obtain ⟨lo,k⟩:=h.win
  exact ordT (plain_win k) k.1 h.inj
theorem nowQ_ne {s:Qs} (h:s.t.list≠[]):nowQ s=(flM s.m).getD 0:=by
  unfold nowQ
  rw [decide_eq_false (fun e=>h (List.eq_nil_of_length_eq_zero e)),cond_false]
theorem nowQ_nil {s:Qs} (h:s.t.list=[]):nowQ s=s.c:=by
  unfold nowQ
  rw [h];rfl
theorem QI.now {s:Qs} (h:QI s) (e:s.t.list≠[]):nowQ s=s.m.b:=by
  rw [nowQ_ne e,(h.cen e).now (plain_ne e)];rfl
theorem preM_nil {s:Qs} {a:IT} (h:s.t.list=[]):preM s a=⟨a.1.p.t,0,0,0⟩:=by unfold preM;rw [h];rfl
theorem preM_ne {s:Qs} {a:IT} (h:s.t.list≠[]):preM s a=s.m:=by
  unfold preM
  rw [decide_eq_false (fun e=>h (List.eq_nil_of_length_eq_zero e)),cond_false]
theorem QI.pre {s:Qs} (h:QI s) (a:IT):IsM (preM s a) (plain s.t.list):=by
  by_cases e:s.t.list=[]
  · rw [preM_nil e,e];exact ⟨rfl,rfl,rfl⟩
  · rw [preM_ne e];exact (h.cen e).is
theorem updI_spec {f:Int→Option IT} {L L':List IT} {a:IT} (h:∀ i x,f i=some x↔x∈L∧x.1.id=i) (hn:f a.1.id=none) (hp:L'.Perm (a :: L)):∀ i x,updI f a.1.id (some a) i=some x↔x∈L'∧x.1.id=i:=fun i x=>by
  unfold updI
  rw [hp.mem_iff,List.mem_cons]
  by_cases e:i=a.1.id
  · rw [decide_eq_true e,cond_true]
    constructor
    · rintro ⟨⟩;exact ⟨.inl rfl,e.symm⟩
    · rintro ⟨rfl | hx,hi⟩
      · rfl
      · rw [(h a.1.id x).2 ⟨hx,by omega⟩] at hn;cases hn
  · rw [decide_eq_false e,cond_false,h i x]
    constructor
    · exact fun ⟨h1,h2⟩=>⟨.inr h1,h2⟩
    · rintro ⟨rfl | hx,hi⟩
      · exact absurd hi.symm e
      · exact ⟨hx,hi⟩
theorem QI.put {s:Qs} (h:QI s) {a:IT} {lo:Int} (hn:s.f a.1.id=none) (hw:AllW (preM s a).b lo (a.1 :: plain s.t.list)):QI (putQ s a)∧(putQ s a).t.list.Perm (a :: s.t.list)∧(putQ s a).c=s.c:=by
  have hna:a∉s.t.list:=fun hm=>by rw [(h.f _ a).2 ⟨hm,rfl⟩] at hn;cases hn
  have hid:∀ x∈s.t.list,x.1.id≠a.1.id:=fun x hx e=>by rw [(h.f _ x).2 ⟨hx,e⟩] at hn;cases hn
  have ho:OrdOn IB.ltT (·∈a :: s.t.list):=ordT (b:=(preM s a).b) (lo:=lo) (fun x hx=>by
      rcases List.mem_cons.1 hx with rfl | hx
      · exact hw.head
      · exact plain_win hw.tail x hx) hw.1 (fun x hx y hy e=>by
      rcases List.mem_cons.1 hx with h1 | h1 <;> rcases List.mem_cons.1 hy with h2 | h2
      · rw [h1,h2]
      · rw [h1] at e;exact absurd e.symm (hid y h2)
      · rw [h2] at e;exact absurd e (hid x h1)
      · exact h.inj x h1 y h2 e)
  have hhas:RB.has IB.ltT a s.t=false:=by
    have:=RB.has_iff ho (x:=a) List.mem_cons_self s.t h.srt (fun z hz=>List.mem_cons_of_mem _ hz)
    cases e:RB.has IB.ltT a s.t
    · rfl
    · exact absurd (this.1 e) hna
  have ht:(putQ1 s a).t=RB.blacken (RB.ins IB.ltT s.t a):=by show IB.RB.insert s.t a=_;unfold IB.RB.insert;rw [hhas];rfl
  have hl:(putQ1 s a).t.list=RB.insL IB.ltT a s.t.list:=by rw [ht,RB.list_blacken,RB.list_ins ho List.mem_cons_self s.t h.srt (fun z hz=>List.mem_cons_of_mem _ hz)]
  have hp:(putQ1 s a).t.list.Perm (a :: s.t.list):=by rw [hl];exact RB.insL_perm _ _
  obtain ⟨m',e1,e2,e3⟩:=add_is hw (h.pre a)
  have em:(putQ1 s a).m=m':=by show (addM _ _).getD .zero=_;rw [e1];rfl
  have hne:(putQ1 s a).t.list≠[]:=fun e=>by rw [e] at hp;exact absurd hp.length_eq (by simp)
  obtain ⟨m2,e4,e5⟩:=centre_is (m:=m') (lo:=lo) (l:=a.1 :: plain s.t.list) (by rw [e2];exact hw) e3 (by simp)
  have ec:putQ s a={ putQ1 s a with m:=m2 }:=by
    unfold putQ centreQ
    rw [nowQ_ne hne,em,e4];rfl
  have hl32:=hw.2.1
  simp only [plain,List.length_cons,List.length_map] at hl32
  refine ⟨?_,by rw [ec];exact hp,by rw [ec];rfl⟩
  rw [ec]
  exact {
    good:=by show RB.Good (putQ1 s a).t;rw [ht];exact RB.Good.ins h.good
    srt:=by show RB.Srt _ (putQ1 s a).t.list;rw [hl];exact RB.insL_srt ho List.mem_cons_self (fun z hz=>List.mem_cons_of_mem _ hz) h.srt hna
    f:=updI_spec h.f hn hp
    n:=by
      show (if (s.f a.1.id).isSome then s.n else s.n+1)=(putQ1 s a).t.list.length
      rw [hn,hp.length_eq,h.n];rfl
    len:=by show (putQ1 s a).t.list.length≤32;rw [hp.length_eq];exact hl32
    cen:=fun _=>e5.perm (plain_perm hp.symm)
    nil:=fun e=>absurd e hne }
theorem QI.cut {s:Qs} (h:QI s) {a:IT} (ha:a∈s.t.list):QI (cutQ s a)∧(cutQ s a).t.list=RB.sans a s.t.list∧s.t.list.Perm (a :: RB.sans a s.t.list)∧(cutQ s a).c=nowQ s∧CutOk a s.t:=by
  have hne:s.t.list≠[]:=fun e=>by rw [e] at ha;cases ha
  obtain ⟨t1,d1,d2,d3⟩:=delC_ok h.ord h.good h.srt (fun z hz=>hz) ha
  have hhas:RB.has IB.ltT a s.t=true:=(RB.has_iff h.ord (x:=a) ha s.t h.srt (fun z hz=>hz)).2 ha
  have hnd:=RB.srt_nodup h.ord (fun z hz=>hz) h.srt
  have hp:=RB.sans_perm hnd ha
  have ht:(cutQ1 s a).t=RB.blacken t1:=by show cutT a s.t=_;unfold cutT;rw [hhas,d1];rfl
  have hl:(cutQ1 s a).t.list=RB.sans a s.t.list:=by rw [ht,RB.list_blacken,d3]
  have hC:=h.cen hne
  obtain ⟨lo,hw⟩:=hC.all
  have hw2:AllW s.m.b lo (a.1 :: plain (RB.sans a s.t.list)):=hw.perm (plain_perm hp)
  have hm2:IsM s.m (a.1 :: plain (RB.sans a s.t.list)):=hC.is.perm (plain_perm hp)
  obtain ⟨e1,e2⟩:=take_is hw2 hm2
  have em:(cutQ1 s a).m=lessM s.m a.1.p:=by show (takM _ _).getD .zero=_;rw [e1];rfl
  have hok:CutOk a s.t:=fun _=>⟨by rw [d1];rfl,by rw [d1];show t1.list.length+1=_;rw [d3,hp.length_eq];rfl⟩
  have hmem:∀ x,x∈RB.sans a s.t.list↔x∈s.t.list∧x≠a:=fun x=>by unfold RB.sans;rw [List.mem_filter];simp
  have hsrt:RB.Srt IB.ltT (RB.sans a s.t.list):=List.Pairwise.filter _ h.srt
  have hlen:=hp.length_eq
  simp only [List.length_cons] at hlen
  have hfa:s.f a.1.id=some a:=(h.f _ a).2 ⟨ha,rfl⟩
  have hf:∀ i x,updI s.f a.1.id none i=some x↔x∈RB.sans a s.t.list∧x.1.id=i:=fun i x=>by
    unfold updI
    rw [hmem]
    by_cases e:i=a.1.id
    · rw [decide_eq_true e,cond_true]
      constructor
      · rintro ⟨⟩
      · rintro ⟨⟨k1,k2⟩,k3⟩;exact absurd (h.inj x k1 a ha (by omega)) k2
    · rw [decide_eq_false e,cond_false,h.f i x]
      constructor
      · exact fun ⟨h1,h2⟩=>⟨⟨h1,fun e'=>e (by rw [← h2,e'])⟩,h2⟩
      · exact fun ⟨h1,h2⟩=>⟨h1.1,h2⟩
  have hn:(if (s.f a.1.id).isSome then s.n - 1 else s.n)=(RB.sans a s.t.list).length:=by rw [hfa,h.n];simp only [Option.isSome_some,if_true];omega
  have hg:RB.Good (cutQ1 s a).t:=by rw [ht];obtain ⟨k,d2⟩:=d2;exact ⟨RB.blacken_red _,d2.blacken⟩
  by_cases hz:RB.sans a s.t.list=[]
  · have e3:rebM (lessM s.m a.1.p) (nowQ s)=some ⟨nowQ s,0,0,0⟩:=by
      have i1:=e2.a;have i2:=e2.w;have i3:=e2.n
      rw [hz] at i1 i2 i3
      simp only [plain,List.map_nil,sumD,sumW,List.length_nil] at i1 i2 i3
      unfold rebM
      rw [i1,i2,i3]
      simp only [Int.zero_mul,Int.sub_zero]
      exact if_pos ⟨by rw [mright_iff];left;exact ⟨i3,i2,i1⟩,inW0⟩
    have ec:cutQ s a={ cutQ1 s a with m:=⟨nowQ s,0,0,0⟩ }:=by
      unfold cutQ centreQ
      rw [nowQ_nil (hl.trans hz),em,show (cutQ1 s a).c=nowQ s from rfl,e3];rfl
    refine ⟨?_,by rw [ec];exact hl,hp,by rw [ec];rfl,hok⟩
    rw [ec]
    exact { good:=hg,srt:=by show RB.Srt _ (cutQ1 s a).t.list;rw [hl];exact hsrt,f:=by show ∀ i x,updI s.f a.1.id none i=some x↔x∈(cutQ1 s a).t.list∧_;rw [hl];exact hf,n:=by show (if _ then _ else _)=(cutQ1 s a).t.list.length;rw [hl];exact hn,len:=by show (cutQ1 s a).t.list.length≤32;rw [hl,hz];simp,cen:=fun k=>absurd (hl.trans hz) k,nil:=fun _=>⟨rfl,rfl,rfl⟩ }
  · obtain ⟨m2,e4,e5⟩:=centre_is (m:=lessM s.m a.1.p) (lo:=lo) (l:=plain (RB.sans a s.t.list)) hw2.tail e2 (plain_ne hz)
    have ec:cutQ s a={ cutQ1 s a with m:=m2 }:=by
      unfold cutQ centreQ
      rw [nowQ_ne (by rw [hl];exact hz),em,e4];rfl
    refine ⟨?_,by rw [ec];exact hl,hp,by rw [ec];rfl,hok⟩
    rw [ec]
    exact { good:=hg,srt:=by show RB.Srt _ (cutQ1 s a).t.list;rw [hl];exact hsrt,f:=by show ∀ i x,updI s.f a.1.id none i=some x↔x∈(cutQ1 s a).t.list∧_;rw [hl];exact hf,n:=by show (if _ then _ else _)=(cutQ1 s a).t.list.length;rw [hl];exact hn,len:=by show (cutQ1 s a).t.list.length≤32;rw [hl];have:=h.len;omega,cen:=fun _=>by show Cen m2 (plain (cutQ1 s a).t.list);rw [hl];exact e5,nil:=fun k=>absurd (hl.symm.trans k) hz }
theorem QI.new (c:Int):QI (newQ c) where
  good:=RB.Good.nil
  srt:=List.Pairwise.nil
  f i a:=by constructor;rintro ⟨⟩;rintro ⟨h,_⟩;cases h
  n:=rfl
  len:=by simp [newQ,RB.list]
  cen h:=absurd rfl h
  nil _:=⟨rfl,rfl,rfl⟩
end Go.Proofs.YtalffooghioekaaGreatDoorX

namespace Go.Proofs.YtalffooghioekaaGreatDoorX
open Go Go.RowKit
attribute [local irreducible] XS XC XA thenE blockE retE loopE loopS cutB cutN doneE SE
structure Rq where
  i:It
  left:Int
  slice:Int
  asleep:Bool
deriving DecidableEq
abbrev Rq.cells (r:Rq):List Value:=[.int .u64 r.i.p.t,.int .u32 r.i.p.r,.int .u32 r.i.p.w,.int .i64 r.i.id,.int .u64 r.i.d.t,.int .u32 r.i.d.r,.int .u32 r.i.d.w,.int .u64 r.left,.int .u64 r.slice,.bool r.asleep]
def rv (r:Rq):Value := .agg #[.int .u64 r.i.p.t,.int .u32 r.i.p.r,.int .u32 r.i.p.w,.int .i64 r.i.id,.int .u64 r.i.d.t,.int .u32 r.i.d.r,.int .u32 r.i.d.w,.int .u64 r.left,.int .u64 r.slice,.bool r.asleep]
def Rq.In (r:Rq):Prop:=r.i.In∧U64 r.left∧U64 r.slice
instance decRqIn (r:Rq):Decidable r.In:=by unfold Rq.In;infer_instance
def Rq.zero:Rq:=⟨.zero,0,0,false⟩
def mayN (n:Int):Bool:=decide (1≤n) && decide (n≤1099511627776)
theorem mayN_iff {n:Int}:mayN n=true↔1≤n∧n≤1099511627776:=by unfold mayN;simp
theorem may_ret (n:Int) (w0:World):Ret Tryz.prog 211 #[.int .u64 n] w0 fun v w'=>v = .bool (mayN n)∧Only [] w0 w':=by
  have hs:=St.nil w0
  refine ret_of_xc Tryz.func211 (by kernel_rfl) rfl Tryz.ntmps211 rfl rfl rfl ?_
  repeat' (first|refine vs (k:=?_)|refine ps (k:=?_)|refine qRg ?_|refine Nx.h ?_|((with_reducible apply xs_guard);exact rfl;exact rfl;intro c hc;(fail_if_success have:true=c:=hc);(fail_if_success have:false=c:=hc);cases c)|fail)
  all_goals (first | refine rt (hq:=?_) | refine rt' (hq:=?_))
  all_goals refine ⟨?_,hs.only0 rfl⟩
  all_goals clear hs
  · have h1:decide (1≤n)=false:=hc
    unfold mayN;rw [h1];rfl
  · have h1:decide (1≤n)=true:=hc
    unfold mayN;rw [h1];rfl
def dueP (p:Pt) (n:Int):Pt:=(movP p (n*1048576)).getD .zero
theorem ptD_in {o:Option Pt} (h:∀ p,o=some p→p.In):(o.getD .zero).In:=by
  cases o with
  | none=>decide
  | some p=>exact h p rfl
theorem dueP_in (p:Pt) (n:Int):(dueP p n).In:=ptD_in fun q h=>(at_some h).1
theorem rdue_ret (p:Pt) (n:Int) (hp':p.In) (h0:0≤n) (h1:n≤1099511627776) (w0:World):Ret Tryz.prog 212 #[pv p,.int .u64 n] w0 fun v w'=>v=pv (dueP p n)∧Only [] w0 w':=by
  have e:IntKind.u64.wrap (n*1048576)=n*1048576:=by rw [wrap_u64];omega
  have hs:=St.nil w0
  refine ret_of_xc Tryz.func212 (by kernel_rfl) rfl Tryz.ntmps212 rfl rfl rfl ?_
  repeat' (first|refine vs (k:=?_)|(refine al hs (k:=?_);intro b w hz hs)|(refine bx hs (k:=?_);intro b w hz hs)|refine qRg ?_|refine Nx.h ?_|fail)
  (with_reducible apply xs_call);exact rfl;exact rfl;exact move_ret p (IntKind.u64.wrap (n*1048576)) hp' (by rw [e];exact ⟨by omega,by omega⟩) _
  rw [e]
  rintro v w' ⟨rfl,ho⟩;replace hs:=hs.call0 ho;repeat' (first|refine vs (k:=?_)|(refine stA hs (k:=?_);intro w hs)|(refine al hs (k:=?_);intro b w hz hs)|refine qRg ?_|refine Nx.h ?_|fail)
  first | refine rt (hq:=?_) | refine rt' (hq:=?_)
  exact ⟨rfl,hs.only0 rfl⟩
def Rq.right (r:Rq):Bool:=r.i.right && mayN r.left && mayN r.slice && decide (dueP r.i.p r.left=r.i.d)
theorem eqPt (p q:Pt):(cellEq (.int .u64 p.t) (.int .u64 q.t) && (cellEq (.int .u32 p.r) (.int .u32 q.r) && cellEq (.int .u32 p.w) (.int .u32 q.w)))=decide (p=q):=by
  show ((p.t == q.t) && ((p.r == q.r) && (p.w == q.w)))=_
  obtain ⟨a,b,c⟩:=p
  obtain ⟨a',b',c'⟩:=q
  simp only [Pt.mk.injEq]
  by_cases h1:a=a' <;> by_cases h2:b=b' <;> by_cases h3:c=c' <;> simp [h1,h2,h3]
set_option maxHeartbeats 4000000 in
theorem rright_ret (r:Rq) (hr:r.In) (w0:World):Ret Tryz.prog 176 #[rv r] w0 fun v w'=>v = .bool r.right∧Only [] w0 w':=by
  have hs:=St.nil w0
  refine ret_of_xc Tryz.func176 (by kernel_rfl) rfl Tryz.ntmps176 rfl rfl rfl ?_
  repeat' (first|refine vs (k:=?_)|(refine bx hs (k:=?_);intro b w hz hs)|refine qRg ?_|refine Nx.h ?_|fail)
  refine dr [] hs (k:=?_);intro hX w hs
  refine tk 0 hX (k:=?_)
  refine tk 1 hX (k:=?_)
  refine dt 2 hX (k:=?_)
  (with_reducible apply xs_call);exact rfl;exact rfl;exact iright_ret r.i _
  rintro v w' ⟨rfl,ho⟩;replace hs:=hs.call0 ho;repeat' (first|refine Nx.h ?_|fail)
  refine dn (k:=?_)
  refine tk 3 hX (k:=?_)
  refine xa_late 6 rfl ?_;intro c q1;cases c
  · refine pt 4 hX (k:=?_)
    refine pt 5 hX (k:=?_)
    refine pt 6 hX (k:=?_)
    refine tk 7 hX (k:=?_)
    refine tk 8 hX (k:=?_)
    refine pt 9 hX (k:=?_)
    refine pt 10 hX (k:=?_)
    refine pt 11 hX (k:=?_)
    refine tk 12 hX (k:=?_)
    refine tk 13 hX (k:=?_)
    refine pt 14 hX (k:=?_)
    refine pt 15 hX (k:=?_)
    refine pt 16 hX (k:=?_)
    refine pt 17 hX (k:=?_)
    refine pt 18 hX (k:=?_)
    refine pt 19 hX (k:=?_)
    refine pt 20 hX (k:=?_)
    refine pt 21 hX (k:=?_)
    refine pt 22 hX (k:=?_)
    refine pt 23 hX (k:=?_)
    refine tk 24 hX (k:=?_)
    refine tk 25 hX (k:=?_)
    refine en (k:=?_)
    repeat' (first|refine Nx.h ?_|fail)
    first | refine rt (hq:=?_) | refine rt' (hq:=?_)
    refine ⟨?_,hs.only0 rfl⟩
    unfold Rq.right;rw [q1];rfl
  · refine tk 4 hX (k:=?_)
    refine tk 5 hX (k:=?_)
    refine dt 6 hX (k:=?_)
    (with_reducible apply xs_call);exact rfl;exact rfl;exact may_ret r.left _
    rintro v w' ⟨rfl,ho⟩;replace hs:=hs.call0 ho;repeat' (first|refine Nx.h ?_|fail)
    refine dn (k:=?_)
    refine tk 7 hX (k:=?_)
    refine tk 8 hX (k:=?_)
    refine xa_late 11 rfl ?_;intro c q2;cases c
    · refine pt 9 hX (k:=?_)
      refine pt 10 hX (k:=?_)
      refine pt 11 hX (k:=?_)
      refine tk 12 hX (k:=?_)
      refine tk 13 hX (k:=?_)
      refine pt 14 hX (k:=?_)
      refine pt 15 hX (k:=?_)
      refine pt 16 hX (k:=?_)
      refine pt 17 hX (k:=?_)
      refine pt 18 hX (k:=?_)
      refine pt 19 hX (k:=?_)
      refine pt 20 hX (k:=?_)
      refine pt 21 hX (k:=?_)
      refine pt 22 hX (k:=?_)
      refine pt 23 hX (k:=?_)
      refine tk 24 hX (k:=?_)
      refine tk 25 hX (k:=?_)
      refine en (k:=?_)
      repeat' (first|refine Nx.h ?_|fail)
      first | refine rt (hq:=?_) | refine rt' (hq:=?_)
      refine ⟨?_,hs.only0 rfl⟩
      unfold Rq.right;rw [q1,q2];rfl
    · refine tk 9 hX (k:=?_)
      refine tk 10 hX (k:=?_)
      refine dt 11 hX (k:=?_)
      (with_reducible apply xs_call);exact rfl;exact rfl;exact may_ret r.slice _
      rintro v w' ⟨rfl,ho⟩;replace hs:=hs.call0 ho;repeat' (first|refine Nx.h ?_|fail)
      refine dn (k:=?_)
      refine tk 12 hX (k:=?_)
      refine tk 13 hX (k:=?_)
      refine xa_late 16 rfl ?_;intro c q3;cases c
      · refine pt 14 hX (k:=?_)
        refine pt 15 hX (k:=?_)
        refine pt 16 hX (k:=?_)
        refine pt 17 hX (k:=?_)
        refine pt 18 hX (k:=?_)
        refine pt 19 hX (k:=?_)
        refine pt 20 hX (k:=?_)
        refine pt 21 hX (k:=?_)
        refine pt 22 hX (k:=?_)
        refine pt 23 hX (k:=?_)
        refine tk 24 hX (k:=?_)
        refine tk 25 hX (k:=?_)
        refine en (k:=?_)
        repeat' (first|refine Nx.h ?_|fail)
        first | refine rt (hq:=?_) | refine rt' (hq:=?_)
        refine ⟨?_,hs.only0 rfl⟩
        unfold Rq.right;rw [q1,q2,q3];rfl
      · have h2:=mayN_iff.1 q2
        refine tk 14 hX (k:=?_)
        refine tk 15 hX (k:=?_)
        refine tk 16 hX (k:=?_)
        refine tk 17 hX (k:=?_)
        refine tk 18 hX (k:=?_)
        refine tk 20 hX (k:=?_)
        refine tk 21 hX (k:=?_)
        refine tk 22 hX (k:=?_)
        refine dt 19 hX (k:=?_)
        (with_reducible apply xs_call);exact rfl;exact rfl;exact rdue_ret r.i.p r.left hr.1.1 (by omega) h2.2 _
        rintro v w' ⟨rfl,ho⟩;replace hs:=hs.call0 ho;repeat' (first|refine Nx.h ?_|fail)
        refine dn (k:=?_)
        refine tk 23 hX (k:=?_)
        refine tk 24 hX (k:=?_)
        refine tk 25 hX (k:=?_)
        refine en (k:=?_)
        repeat' (first|refine Nx.h ?_|fail)
        first | refine rt (hq:=?_) | refine rt' (hq:=?_)
        refine ⟨?_,hs.only0 rfl⟩
        unfold Rq.right;rw [q1,q2,q3]
        show Value.bool _=Value.bool _
        rw [eqPt];rfl
def fixR (r:Rq):Rq:=bif mayN r.left then ⟨⟨r.i.p,r.i.id,dueP r.i.p r.left⟩,r.left,r.slice,r.asleep⟩ else r
def setR (r:Rq):Option Rq:=bif (fixR r).right then some (fixR r) else none
theorem fixR_in {r:Rq} (h:r.In):(fixR r).In:=by
  unfold fixR
  cases mayN r.left
  · exact h
  · exact ⟨⟨h.1.1,h.1.2.1,dueP_in _ _⟩,h.2⟩
def rqV (o:Option Rq):Value := .tuple #[rv (o.getD .zero),.bool o.isSome]
set_option maxHeartbeats 4000000 in
theorem rset_ret (r:Rq) (hr:r.In) (w0:World):Ret Tryz.prog 177 #[rv r] w0 fun v w'=>v=rqV (setR r)∧Only [] w0 w':=by
  have hs:=St.nil w0
  refine ret_of_xc Tryz.func177 (by kernel_rfl) rfl Tryz.ntmps177 rfl rfl rfl ?_
  refine xc_seq ?_
  refine xc_region ?_ ?_;exact rfl
  refine bx hs (k:=?_);intro b1 w hz hs
  refine al hs (k:=?_);intro b2 w hz hs
  refine vs (k:=?_)
  refine XS.nil ?_
  refine then_of ?_
  refine xc_seq ?_
  refine xc_cutN (fun _:Unit=>[(1,.pointer (some ⟨b1,0,none⟩)),(2,.pointer (some ⟨b2,0,none⟩))]) (fun _ w=>St w0 D0 [(b2,.cells Rq.zero.cells.toArray 66,true),(b1,.cells (fixR r).cells.toArray 66,true)] w) ?_ ?_
  · repeat' (first|refine vs (k:=?_)|refine qRg ?_|refine Nx.h ?_|fail)
    (with_reducible apply xs_call);exact rfl;exact rfl;exact may_ret r.left _
    generalize hq:mayN r.left=q
    cases q
    · have e:fixR r=r:=by unfold fixR;rw [hq];rfl
      rw [e]
      rintro v w' ⟨rfl,ho⟩;replace hs:=hs.call0 ho;repeat' (first|refine Nx.h ?_|refine qCf ?_|fail)
      exact cutN_normal () (by (repeat (first | exact agree_nil | (apply agree_cons;exact rfl)))) hs
    · have e:fixR r=⟨⟨r.i.p,r.i.id,dueP r.i.p r.left⟩,r.left,r.slice,r.asleep⟩:=by unfold fixR;rw [hq];rfl
      have h2:=mayN_iff.1 hq
      rw [e]
      rintro v w' ⟨rfl,ho⟩;replace hs:=hs.call0 ho;repeat' (first|refine vs (k:=?_)|refine qRg ?_|refine Nx.h ?_|refine qCt ?_|fail)
      (with_reducible apply xs_call);exact rfl;exact rfl;exact rdue_ret r.i.p r.left hr.1.1 (by omega) h2.2 _
      rintro v w' ⟨rfl,ho⟩;replace hs:=hs.call0 ho;repeat' (first|refine vs (k:=?_)|(refine stA hs (k:=?_);intro w hs)|refine Nx.h ?_|fail)
      exact cutN_normal () (by (repeat (first | exact agree_nil | (apply agree_cons;exact rfl)))) hs
  clear hs
  rintro _ env w hs
  have hf:=fixR_in hr
  unfold setR
  generalize fixR r=u at *
  repeat' (first|refine vs (k:=?_)|refine qRg ?_|refine Nx.h ?_|fail)
  (with_reducible apply xs_call);exact rfl;exact rfl;exact rright_ret u hf _
  generalize hq:u.right=q
  cases q
  · rintro v w' ⟨rfl,ho⟩;replace hs:=hs.call0 ho;repeat' (first|refine vs (k:=?_)|(refine stA hs (k:=?_);intro w hs)|refine qRg ?_|refine Nx.h ?_|refine qCt ?_|fail)
    first | refine rt (hq:=?_) | refine rt' (hq:=?_)
    exact ⟨rfl,hs.only0 rfl⟩
  · rintro v w' ⟨rfl,ho⟩;replace hs:=hs.call0 ho;repeat' (first|refine vs (k:=?_)|(refine stA hs (k:=?_);intro w hs)|refine qRg ?_|refine Nx.h ?_|refine qCf ?_|fail)
    first | refine rt (hq:=?_) | refine rt' (hq:=?_)
    exact ⟨rfl,hs.only0 rfl⟩
def newR (p:Pt) (id n:Int):Option Rq:=setR ⟨⟨p,id,.zero⟩,n,n,false⟩
theorem rnew_ret (p:Pt) (id n:Int) (hp':p.In) (hi:In64 id) (hn:U64 n) (w0:World):Ret Tryz.prog 167 #[pv p,.int .i64 id,.int .u64 n] w0 fun v w'=>v=rqV (newR p id n)∧Only [] w0 w':=by
  have hs:=St.nil w0
  refine ret_of_xc Tryz.func167 (by kernel_rfl) rfl Tryz.ntmps167 rfl rfl rfl ?_
  repeat' (first|refine vs (k:=?_)|(refine al hs (k:=?_);intro b w hz hs)|(refine bx hs (k:=?_);intro b w hz hs)|refine qRg ?_|refine Nx.h ?_|fail)
  (with_reducible apply xs_call);exact rfl;exact rfl;exact rset_ret ⟨⟨p,id,.zero⟩,n,n,false⟩ ⟨⟨hp',hi,(by decide:Pt.zero.In)⟩,hn,hn⟩ _
  rintro v w' ⟨rfl,ho⟩;replace hs:=hs.call0 ho;repeat' (first|refine vs (k:=?_)|(refine stA hs (k:=?_);intro w hs)|refine Nx.h ?_|fail)
  first | refine rt (hq:=?_) | refine rt' (hq:=?_)
  exact ⟨rfl,hs.only0 rfl⟩
end Go.Proofs.YtalffooghioekaaGreatDoorX

namespace Go.Proofs.YtalffooghioekaaGreatDoorX
open Go Go.RowKit
attribute [local irreducible] XS XC XA thenE blockE retE loopE loopS cutB cutN doneE SE
theorem setR_in {r u:Rq} (h:r.In) (e:setR r=some u):u.In∧u.right=true:=by
  unfold setR at e
  cases hq:(fixR r).right
  · rw [hq] at e;cases e
  · rw [hq,cond_true] at e
    cases e
    exact ⟨fixR_in h,hq⟩
def lessR (r:Rq) (p:Pt) (n:Int):Rq:=⟨⟨p,r.i.id,r.i.d⟩,bif decide (r.left - n=0) then r.slice else r.left - n,r.slice,r.asleep⟩
def serveR (r:Rq) (n:Int):Option (Rq × Bool) :=
  if r.right=true∧n≠0∧n≤r.left then (match movP r.i.p (n*1048576) with | none=>none | some p=>(setR (lessR r p n)).map fun u=>(u,decide (r.left - n=0))) else none
def svV (o:Option (Rq × Bool)):Value:=match o with
  | none => .tuple #[rv .zero,.bool false,.bool false]
  | some (u,b) => .tuple #[rv u,.bool b,.bool true]
theorem right_left {r:Rq} (h:r.right=true):1≤r.left∧r.left≤1099511627776∧1≤r.slice∧r.slice≤1099511627776:=by
  unfold Rq.right at h
  simp only [Bool.and_eq_true] at h
  have h1:=mayN_iff.1 h.1.1.2
  have h2:=mayN_iff.1 h.1.2
  omega
theorem lessR_in {r:Rq} {p:Pt} {n:Int} (hr:r.In) (hp:p.In) (h0:0≤n) (h1:n≤r.left):(lessR r p n).In:=by
  refine ⟨⟨hp,hr.1.2⟩,?_,hr.2.2⟩
  show U64 (bif decide (r.left - n=0) then r.slice else r.left - n)
  cases decide (r.left - n=0)
  · have:=hr.2.1;unfold U64 at *;simp only [cond_false];omega
  · exact hr.2.2
set_option maxHeartbeats 4000000 in
theorem rserve_ret (r:Rq) (n:Int) (hr:r.In) (hn:U64 n) (w0:World):Ret Tryz.prog 183 #[rv r,.int .u64 n] w0 fun v w'=>v=svV (serveR r n)∧Only [] w0 w':=by
  have hs:=St.nil w0
  refine ret_of_xc Tryz.func183 (by kernel_rfl) rfl Tryz.ntmps183 rfl rfl rfl ?_
  refine xc_seq ?_
  refine xc_region ?_ ?_;exact rfl
  refine bx hs (k:=?_);intro b2 w hz hs
  refine al hs (k:=?_);intro b4 w hz hs
  repeat' (first|refine vs (k:=?_)|refine qRg ?_|refine Nx.h ?_|fail)
  (with_reducible apply xs_call);exact rfl;exact rfl;exact rright_ret r hr _
  rintro v w' ⟨rfl,ho⟩;replace hs:=hs.call0 ho;repeat' (first|refine vs (k:=?_)|refine ps (k:=?_)|(refine stA hs (k:=?_);intro w hs)|refine qRg ?_|refine Nx.h ?_|refine qCt ?_|((with_reducible apply xs_guard);exact rfl;exact rfl;intro c hc;(fail_if_success have:true=c:=hc);(fail_if_success have:false=c:=hc);cases c)|(refine xc_if rfl (fun hc=>?_) (fun hc=>?_))|fail)
  · first | refine rt (hq:=?_) | refine rt' (hq:=?_)
    refine ⟨?_,hs.only0 rfl⟩
    have:serveR r n=none:=by unfold serveR;rw [if_neg (fun h=>by omega)]
    rw [this];rfl
  · have h1:r.right=true:=by simpa using ‹(!r.right)=false›
    have h2:n≠0:=by simpa using ‹(n == 0)=false›
    have h3:n≤r.left:=by omega
    have h4:=right_left h1
    have hn':=hn
    obtain ⟨hn0,hn1⟩:=hn'
    have e1:IntKind.u64.wrap (n*1048576)=n*1048576:=by rw [wrap_u64];omega
    have ev:serveR r n=match movP r.i.p (n*1048576) with | none=>none | some p=>(setR (lessR r p n)).map fun u=>(u,decide (r.left - n=0)):=by unfold serveR;rw [if_pos ⟨h1,h2,h3⟩]
    (with_reducible apply xs_call);exact rfl;exact rfl;exact move_ret r.i.p (IntKind.u64.wrap (n*1048576)) hr.1.1 (by rw [e1];exact ⟨by omega,by omega⟩) _
    rw [e1]
    cases hp:movP r.i.p (n*1048576) with
    | none =>
      rintro v w' ⟨rfl,ho⟩;replace hs:=hs.call0 ho;repeat' (first|refine vs (k:=?_)|(refine stA hs (k:=?_);intro w hs)|(refine al hs (k:=?_);intro b w hz hs)|refine qRg ?_|refine Nx.h ?_|refine qCt ?_|fail)
      first | refine rt (hq:=?_) | refine rt' (hq:=?_)
      refine ⟨?_,hs.only0 rfl⟩
      rw [ev,hp];rfl
    | some p =>
      have hpin:=(at_some hp).1
      have e2:IntKind.u64.wrap (r.left - n)=r.left - n:=by rw [wrap_u64];omega
      rw [hp] at ev
      simp only at ev
      have hlin:=lessR_in hr hpin hn0 h3
      have ele:(lessR r p n).left=if IntKind.u64.wrap (r.left - n)=0 then r.slice else IntKind.u64.wrap (r.left - n):=by
        rw [e2];unfold lessR
        by_cases h:r.left - n=0
        · rw [if_pos h,decide_eq_true h];rfl
        · rw [if_neg h,decide_eq_false h];rfl
      rintro v w' ⟨rfl,ho⟩;replace hs:=hs.call0 ho
      repeat' (first|refine vs (k:=?_)|(refine st hs (k:=?_);intro w hs)|(refine stA hs (k:=?_);intro w hs)|(refine al hs (k:=?_);intro b w hz hs)|refine qRg ?_|refine Nx.h ?_|refine qCf ?_|(refine xc_if rfl (fun hc=>?_) (fun hc=>?_))|fail)
      · have ez:r.left - n=0:=by rw [← e2];assumption
        have el:lessR r p n=⟨⟨p,r.i.id,r.i.d⟩,r.slice,r.slice,r.asleep⟩:=by unfold lessR;rw [decide_eq_true ez];rfl
        rw [el] at ev hlin
        rw [decide_eq_true ez] at ev
        have eb:(IntKind.u64.wrap (r.left - n) == 0)=true:=by rw [e2,ez];rfl
        (with_reducible apply xs_call);exact rfl;exact rfl;exact rset_ret ⟨⟨p,r.i.id,r.i.d⟩,r.slice,r.slice,r.asleep⟩ hlin _
        generalize setR ⟨⟨p,r.i.id,r.i.d⟩,r.slice,r.slice,r.asleep⟩=o at *
        cases o
        · rintro v w' ⟨rfl,ho⟩;replace hs:=hs.call0 ho;repeat' (first|refine vs (k:=?_)|(refine stA hs (k:=?_);intro w hs)|refine qRg ?_|refine Nx.h ?_|refine qCt ?_|fail)
          first | refine rt (hq:=?_) | refine rt' (hq:=?_)
          exact ⟨by rw [ev];rfl,hs.only0 rfl⟩
        · rintro v w' ⟨rfl,ho⟩;replace hs:=hs.call0 ho;repeat' (first|refine vs (k:=?_)|(refine stA hs (k:=?_);intro w hs)|refine qRg ?_|refine Nx.h ?_|refine qCf ?_|fail)
          first | refine rt (hq:=?_) | refine rt' (hq:=?_)
          exact ⟨by rw [ev,eb];rfl,hs.only0 rfl⟩
      · have ez:¬r.left - n=0:=by rw [← e2];assumption
        have el:lessR r p n=⟨⟨p,r.i.id,r.i.d⟩,IntKind.u64.wrap (r.left - n),r.slice,r.asleep⟩:=by unfold lessR;rw [decide_eq_false ez,e2];rfl
        rw [el] at ev hlin
        rw [decide_eq_false ez] at ev
        have eb:(IntKind.u64.wrap (r.left - n) == 0)=false:=beq_false_of_ne (by rw [e2];exact ez)
        (with_reducible apply xs_call);exact rfl;exact rfl;exact rset_ret ⟨⟨p,r.i.id,r.i.d⟩,IntKind.u64.wrap (r.left - n),r.slice,r.asleep⟩ hlin _
        generalize setR ⟨⟨p,r.i.id,r.i.d⟩,IntKind.u64.wrap (r.left - n),r.slice,r.asleep⟩=o at *
        cases o
        · rintro v w' ⟨rfl,ho⟩;replace hs:=hs.call0 ho;repeat' (first|refine vs (k:=?_)|(refine stA hs (k:=?_);intro w hs)|refine qRg ?_|refine Nx.h ?_|refine qCt ?_|fail)
          first | refine rt (hq:=?_) | refine rt' (hq:=?_)
          exact ⟨by rw [ev];rfl,hs.only0 rfl⟩
        · rintro v w' ⟨rfl,ho⟩;replace hs:=hs.call0 ho;repeat' (first|refine vs (k:=?_)|(refine stA hs (k:=?_);intro w hs)|refine qRg ?_|refine Nx.h ?_|refine qCf ?_|fail)
          first | refine rt (hq:=?_) | refine rt' (hq:=?_)
          exact ⟨by rw [ev,eb];rfl,hs.only0 rfl⟩
  · first | refine rt (hq:=?_) | refine rt' (hq:=?_)
    refine ⟨?_,hs.only0 rfl⟩
    have:serveR r n=none:=by unfold serveR;rw [if_neg (fun h=>by simp_all)]
    rw [this];rfl
  · first | refine rt (hq:=?_) | refine rt' (hq:=?_)
    refine ⟨?_,hs.only0 rfl⟩
    have:serveR r n=none:=by unfold serveR;rw [if_neg (fun h=>by simp_all)]
    rw [this];rfl
end Go.Proofs.YtalffooghioekaaGreatDoorX

namespace Go.Proofs.YtalffooghioekaaGreatDoorX
open Go Go.RowKit
attribute [local irreducible] XS XC XA thenE blockE retE loopE loopS cutB cutN doneE SE
def lessN (n a:Int):Int:=if a < n then a else n
theorem lessN_in {n a:Int} (h1:U64 n) (h2:U64 a):U64 (lessN n a):=by
  unfold lessN U64 at *;split <;> omega
def servedL:Rq→Nat→List Int→Option (Rq × Nat)
  | r,c,[]=>some (r,c)
  | r,c,n :: l=>match serveR r (lessN n r.left) with
    | none=>none
    | some (u,b)=>servedL u (c+bif b then 1 else 0) l
def sdV (o:Option (Rq × Nat)):Value:=match o with
  | none => .tuple #[rv .zero,.int .i64 0,.bool false]
  | some (u,c) => .tuple #[rv u,.int .i64 c,.bool true]
theorem serveR_in {r u:Rq} {n:Int} {b:Bool} (hr:r.In) (hn:U64 n) (h:serveR r n=some (u,b)):u.In:=by
  unfold serveR at h
  split at h
  · rename_i h1
    cases hp:movP r.i.p (n*1048576) with
    | none=>rw [hp] at h;cases h
    | some p =>
      rw [hp] at h
      obtain ⟨v,hv,h⟩:=Option.map_eq_some_iff.1 h
      cases h
      exact (setR_in (lessR_in hr (at_some hp).1 hn.1 h1.2.2) hv).1
  · cases h
theorem servedL_cons {r:Rq} {c:Nat} {n:Int} {l:List Int}:servedL r c (n :: l)=match serveR r (lessN n r.left) with
    | none=>none
    | some (u,b)=>servedL u (c+bif b then 1 else 0) l:=rfl
set_option maxHeartbeats 2000000 in
theorem rserved_ret (r:Rq) (ns:List Int) (sl:Value) (hr:r.In) (hn:∀ n∈ns,U64 n) (hm:ns.length≤1000000) (w0:World) (hL:LsAt w0 22 1 sl (ns.map fun n=>[.int .u64 n])) :
    Ret Tryz.prog 275 #[rv r,sl] w0 fun v w'=>v=sdV (servedL r 0 ns)∧Only [] w0 w':=by
  obtain ⟨ad,cap,rfl,hD⟩:=hL
  rw [List.length_map] at *
  have hs:=St.nil w0
  refine ret_of_xc Tryz.func275 (by kernel_rfl) rfl Tryz.ntmps275 rfl rfl rfl ?_
  refine xc_seq ?_
  refine xc_region ?_ ?_;exact rfl
  refine bx hs (k:=?_);intro b2 w hz hs
  refine al hs (k:=?_);intro b4 w hz hs
  repeat' (first|refine vs (k:=?_)|refine qRg ?_|refine Nx.h ?_|fail)
  refine xc_cutB (fun (s:Rq × Nat)=>[(2,.pointer (some ⟨b2,0,none⟩)),(4,.pointer (some ⟨b4,0,none⟩)),(7,.int .i64 (s.2:Nat))]) (fun s w=>St w0 D0 [(b4,.cells Rq.zero.cells.toArray 66,true),(b2,.cells s.1.cells.toArray 66,true)] w∧servedL r 0 ns=some s) ?_ ?_
  · refine xc_loopS (fun (s:Nat × Rq × Nat)=>[(2,.pointer (some ⟨b2,0,none⟩)),(4,.pointer (some ⟨b4,0,none⟩)),(7,.int .i64 (s.2.2:Nat)),(13,.slice ad ns.length cap),(14,.int .i64 (ns.length:Nat)),(15,.int .i64 (s.1:Nat))])
      (fun s w=>s.1≤ns.length∧s.2.2≤s.1∧s.2.1.In∧servedL r 0 ns=servedL s.2.1 s.2.2 (ns.drop s.1)∧St w0 D0 [(b4,.cells Rq.zero.cells.toArray 66,true),(b2,.cells s.2.1.cells.toArray 66,true)] w) (fun s=>ns.length - s.1) (0,r,0) (by (repeat (first | exact agree_nil | (apply agree_cons;exact rfl)))) ⟨Nat.zero_le _,Nat.le_refl _,hr,rfl,hs⟩ fun s env wl ⟨hi,hc0,hu,hv,hs⟩=>?_
    obtain ⟨i,u,c⟩:=s
    simp only at hi hc0 hu hv hs
    repeat' (first|refine vs (k:=?_)|refine qRg ?_|refine Nx.h ?_|(refine xc_if rfl (fun hc=>?_) (fun hc=>?_))|fail)
    · have hlt:i < ns.length:=by omega
      obtain ⟨b,off,cs,fz,rfl,_,hb,hcs⟩:=hD (fun h=>by simp at h;subst h;cases hlt)
      have hpk:=hcs i [.int .u64 ns[i]] (by rw [List.getElem?_map,List.getElem?_eq_getElem hlt];rfl)
      have ei:=nx64 (m:=ns.length) hlt (by omega)
      have ec:=nx64 (i:=c) (m:=ns.length) (by omega) (by omega)
      have ed:ns.drop i=ns[i] :: ns.drop (i+1):=List.drop_eq_getElem_cons hlt
      have hnn:=hn _ (List.getElem_mem hlt)
      rw [ed,servedL_cons] at hv
      generalize ns[i]=n at *
      refine ix (h0:=(by omega)) (h1:=(by omega)) (k:=?_)
      refine lh ((hs.only0 rfl).block hb (by simp)) (by cases hpk;assumption) (k:=?_)
      repeat' (first|refine vs (k:=?_)|refine qRg ?_|refine Nx.h ?_|fail)
      have hin:∀ x y,serveR u (lessN n u.left)=some (x,y)→x.In:=fun x y h=>serveR_in hu (lessN_in hnn hu.2.1) h
      (with_reducible apply xs_call);exact rfl;exact rfl;exact rserve_ret u (lessN n u.left) hu (lessN_in hnn hu.2.1) _
      generalize serveR u (lessN n u.left)=o at *
      rcases o with _ | ⟨u',b'⟩
      · simp only at hv
        rintro v w' ⟨rfl,ho⟩;replace hs:=hs.call0 ho;repeat' (first|refine vs (k:=?_)|(refine stA hs (k:=?_);intro w hs)|(refine al hs (k:=?_);intro b w hz hs)|refine qRg ?_|refine Nx.h ?_|refine qCt ?_|fail)
        first | refine rt (hq:=?_) | refine rt' (hq:=?_)
        exact ⟨by rw [hv];rfl,hs.only0 rfl⟩
      · simp only at hv
        have hu2:=hin _ _ rfl
        cases b'
        · rintro v w' ⟨rfl,ho⟩;replace hs:=hs.call0 ho;repeat' (first|refine vs (k:=?_)|(refine stA hs (k:=?_);intro w hs)|(refine al hs (k:=?_);intro b w hz hs)|refine qRg ?_|refine Nx.h ?_|refine qCf ?_|fail)
          exact loopS_next (i+1,u',c) (by show ns.length - (i+1) < ns.length - i;omega) (by (repeat (first | exact agree_nil | (apply agree_cons;first | exact rfl | exact congrArg (Value.int .i64) ei)))) ⟨by show i+1≤_;omega,by show c≤i+1;omega,hu2,by rw [hv];rfl,hs.forgetNew⟩
        · rintro v w' ⟨rfl,ho⟩;replace hs:=hs.call0 ho;repeat' (first|refine vs (k:=?_)|(refine stA hs (k:=?_);intro w hs)|(refine al hs (k:=?_);intro b w hz hs)|refine qRg ?_|refine Nx.h ?_|refine qCt ?_|refine qCf ?_|fail)
          exact loopS_next (i+1,u',c+1) (by show ns.length - (i+1) < ns.length - i;omega) (by (repeat (first | exact agree_nil | (apply agree_cons;first | exact rfl | exact congrArg (Value.int .i64) ei | exact congrArg (Value.int .i64) ec)))) ⟨by show i+1≤_;omega,by show c+1≤i+1;omega,hu2,by rw [hv];rfl,hs.forgetNew⟩
    · have e:i=ns.length:=by omega
      subst e
      rw [List.drop_length] at hv
      exact cutB_exit (u,c) (by (repeat (first | exact agree_nil | (apply agree_cons;exact rfl)))) ⟨hs,hv⟩
  · clear hs
    rintro ⟨u,c⟩ env w ⟨hs,hv⟩
    simp only at hs
    rw [hv]
    repeat' (first|refine vs (k:=?_)|(refine stA hs (k:=?_);intro w hs)|refine qRg ?_|refine Nx.h ?_|fail)
    first | refine rt (hq:=?_) | refine rt' (hq:=?_)
    exact ⟨rfl,hs.only0 rfl⟩
end Go.Proofs.YtalffooghioekaaGreatDoorX

namespace Go.Proofs.YtalffooghioekaaGreatDoorX
open Go Go.RowKit
abbrev RT:={r:Rq // r.In}
def idR (r:RT):Int:=r.1.i.id
def OrdR (l:List RT):Prop:=(l.map idR).Pairwise (· < ·)
def findR (l:List RT) (i:Int):Option RT:=l.find? fun a=>decide (idR a=i)
def putR (r:RT):List RT→List RT
  | []=>[r]
  | a :: l=>if idR r < idR a then r :: a :: l else if idR r=idR a then r :: l else a :: putR r l
def delR (i:Int) (l:List RT):List RT:=l.filter fun a=>decide (idR a≠i)
def rvals (l:List RT):Int→Option Value:=fun i=>(findR l i).map fun a=>rv a.1
theorem findR_nil (i:Int):findR [] i=none:=rfl
theorem findR_cons (a:RT) (l:List RT) (i:Int):findR (a :: l) i=if idR a=i then some a else findR l i:=by
  unfold findR
  rw [List.find?_cons]
  by_cases h:idR a=i
  · rw [if_pos h,decide_eq_true h]
  · rw [if_neg h,decide_eq_false h]
theorem findR_put (r:RT) (i:Int):∀ l:List RT,findR (putR r l) i=if i=idR r then some r else findR l i
  | []=>by
    unfold putR
    rw [findR_cons,findR_nil]
    by_cases h:i=idR r
    · rw [if_pos h,if_pos h.symm]
    · rw [if_neg h,if_neg (fun e=>h e.symm)]
  | a :: l=>by
    unfold putR
    split
    · rw [findR_cons]
      by_cases h:i=idR r
      · rw [if_pos h,if_pos h.symm]
      · rw [if_neg h,if_neg (fun e=>h e.symm)]
    · split
      · rename_i h1 h2
        rw [findR_cons,findR_cons]
        by_cases h:i=idR r
        · rw [if_pos h,if_pos h.symm]
        · rw [if_neg h,if_neg (fun e=>h e.symm),if_neg (fun e=>h (by omega))]
      · rename_i h1 h2
        rw [findR_cons,findR_cons,findR_put r i l]
        by_cases h:i=idR r
        · rw [if_pos h,if_pos h,if_neg (by omega)]
        · rw [if_neg h,if_neg h]
theorem findR_del (k i:Int):∀ l:List RT,findR (delR k l) i=if i=k then none else findR l i
  | []=>by unfold delR;rw [List.filter_nil,findR_nil];split <;> rfl
  | a :: l=>by
    have ih:=findR_del k i l
    unfold delR at ih ⊢
    rw [List.filter_cons]
    by_cases h:idR a=k
    · rw [if_neg (by simp [h]),ih,findR_cons]
      by_cases hi:i=k
      · rw [if_pos hi,if_pos hi]
      · rw [if_neg hi,if_neg hi,if_neg (fun e=>hi (by omega))]
    · rw [if_pos (by simp [h]),findR_cons,findR_cons,ih]
      by_cases hi:i=k
      · rw [if_pos hi,if_pos hi,if_neg (by omega)]
      · rw [if_neg hi,if_neg hi]
theorem OrdR.tail {a:RT} {l:List RT} (h:OrdR (a :: l)):OrdR l:=by
  unfold OrdR at *;rw [List.map_cons,List.pairwise_cons] at h;exact h.2
theorem OrdR.head {a:RT} {l:List RT} (h:OrdR (a :: l)):∀ b∈l,idR a < idR b:=fun b hb=>by
  unfold OrdR at *;rw [List.map_cons,List.pairwise_cons] at h;exact h.1 _ (List.mem_map_of_mem hb)
theorem OrdR.cons {a:RT} {l:List RT} (h:OrdR l) (hd:∀ b∈l,idR a < idR b):OrdR (a :: l):=by
  unfold OrdR at *;rw [List.map_cons,List.pairwise_cons]
  exact ⟨fun x hx=>by obtain ⟨b,hb,rfl⟩:=List.mem_map.1 hx;exact hd b hb,h⟩
theorem findR_some {l:List RT} {i:Int} {a:RT} (h:findR l i=some a):a∈l∧idR a=i:=by
  unfold findR at h
  exact ⟨List.mem_of_find?_eq_some h,by simpa using List.find?_some h⟩
theorem findR_mem {l:List RT} {a:RT} (h:a∈l):(findR l (idR a)).isSome=true:=by
  unfold findR
  rw [List.find?_isSome]
  exact ⟨a,h,by simp⟩
theorem findR_less {l:List RT} {i:Int} (h:∀ b∈l,i < idR b):findR l i=none:=by
  cases e:findR l i with
  | none=>rfl
  | some a=>obtain ⟨h1,h2⟩:=findR_some e;have:=h a h1;omega
theorem mem_put {r b:RT}:∀ {l:List RT},b∈putR r l→b=r∨b∈l
  | [],h=>by simpa [putR] using h
  | a :: l,h=>by
    unfold putR at h
    split at h
    · simpa using h
    · split at h
      · rcases List.mem_cons.1 h with h | h
        · exact .inl h
        · exact .inr (List.mem_cons_of_mem _ h)
      · rcases List.mem_cons.1 h with h | h
        · exact .inr (h ▸ List.mem_cons_self)
        · rcases mem_put h with h | h
          · exact .inl h
          · exact .inr (List.mem_cons_of_mem _ h)
theorem ord_put {r:RT}:∀ {l:List RT},OrdR l→OrdR (putR r l)
  | [],h=>by show OrdR [r];exact OrdR.cons h (by simp)
  | a :: l,h=>by
    unfold putR
    split
    · rename_i h1
      refine h.cons fun b hb=>?_
      rcases List.mem_cons.1 hb with rfl | hb
      · exact h1
      · have:=h.head b hb;omega
    · split
      · rename_i h1 h2
        exact h.tail.cons fun b hb=>by have:=h.head b hb;omega
      · rename_i h1 h2
        refine (ord_put h.tail).cons fun b hb=>?_
        rcases mem_put hb with rfl | hb
        · omega
        · exact h.head b hb
theorem len_put {r:RT}:∀ {l:List RT},OrdR l→(putR r l).length=if (findR l (idR r)).isSome then l.length else l.length+1
  | [],h=>rfl
  | a :: l,h=>by
    unfold putR
    split
    · rename_i h1
      rw [findR_less (fun b hb=>by
        rcases List.mem_cons.1 hb with rfl | hb
        · exact h1
        · have:=h.head b hb;omega)]
      rfl
    · split
      · rename_i h1 h2
        rw [findR_cons,if_pos h2.symm];rfl
      · rename_i h1 h2
        have e1:findR (a :: l) (idR r)=findR l (idR r):=by rw [findR_cons];exact if_neg fun e=>h2 e.symm
        rw [e1,List.length_cons,len_put h.tail]
        cases (findR l (idR r)).isSome <;> simp
theorem ord_del {i:Int} {l:List RT} (h:OrdR l):OrdR (delR i l):=by
  unfold OrdR delR at *
  exact h.sublist (List.filter_sublist.map _)
theorem len_del {i:Int}:∀ {l:List RT},OrdR l→(delR i l).length=if (findR l i).isSome then l.length - 1 else l.length
  | [],h=>rfl
  | a :: l,h=>by
    have ih:=len_del (i:=i) h.tail
    unfold delR at ih ⊢
    rw [List.filter_cons,findR_cons]
    by_cases e:idR a=i
    · rw [if_neg (by simp [e]),if_pos e,ih,findR_less (fun b hb=>by have:=h.head b hb;omega)]
      rfl
    · rw [if_pos (by simp [e]),if_neg e,List.length_cons,ih]
      cases hf:findR l i with
      | none=>rfl
      | some b =>
        have h1:=(findR_some hf).1
        cases l with
        | nil=>cases h1
        | cons c l=>simp
theorem rvals_put (r:RT) (l:List RT):updF (rvals l) (idR r) (some (rv r.1))=rvals (putR r l):=by
  funext i
  unfold updF rvals
  rw [findR_put]
  by_cases h:i=idR r
  · rw [if_pos h,decide_eq_true h];rfl
  · rw [if_neg h,decide_eq_false h];rfl
theorem rvals_del (k:Int) (l:List RT):updF (rvals l) k none=rvals (delR k l):=by
  funext i
  unfold updF rvals
  rw [findR_del]
  by_cases h:i=k
  · rw [if_pos h,decide_eq_true h];rfl
  · rw [if_neg h,decide_eq_false h];rfl
theorem rvals_some (l:List RT) (i:Int):(rvals l i).isSome=(findR l i).isSome:=by unfold rvals;cases findR l i <;> rfl
def getL (l:List RT) (i:Int):Rq:=match findR l i with | some a=>a.1 | none => .zero
theorem rvals_get (l:List RT) (i:Int):(rvals l i).getD (rv .zero)=rv (getL l i):=by unfold rvals getL;cases findR l i <;> rfl
theorem ids_iff (l:List RT) (x:Int):x∈l.map idR↔In64 x∧(rvals l x).isSome=true:=by
  rw [rvals_some]
  constructor
  · intro h
    obtain ⟨a,ha,rfl⟩:=List.mem_map.1 h
    exact ⟨a.2.1.2.1,findR_mem ha⟩
  · rintro ⟨_,h⟩
    cases e:findR l x with
    | none=>rw [e] at h;cases h
    | some a=>obtain ⟨h1,h2⟩:=findR_some e;exact List.mem_map.2 ⟨a,h1,h2⟩
theorem findR_at {l:List RT} (h:OrdR l) {a:RT} (ha:a∈l):findR l (idR a)=some a:=by
  induction l with
  | nil=>cases ha
  | cons b l ih =>
    rw [findR_cons]
    rcases List.mem_cons.1 ha with rfl | ha
    · rw [if_pos rfl]
    · have:=h.head a ha
      rw [if_neg (by omega)]
      exact ih h.tail ha
end Go.Proofs.YtalffooghioekaaGreatDoorX
