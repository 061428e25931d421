/- A part of the proof: what its functions compute. -/
import Derived.Calls
import Derived.Tactics
import Derived.Orders
import Derived.Laws.Sem
import Derived.Laws.Cells
import Derived.Laws.CopyRow
import Derived.Laws.Externs
import Derived.KernelRfl
import Derived.Below
import Derived.Deep.LoopGhost
import Derived.Laws.AppendOwn
import Derived.Laws.MakeOwn
import Derived.Laws.Pointers
import Derived.Laws.Small
import Derived.Laws.StructEq
import Derived.Laws.Tables
import Derived.OrdersHeld
import Derived.Test.YtjiiakjheghcoaaGreatDoorProg
set_option linter.unusedVariables false
set_option linter.unusedSimpArgs false
set_option maxRecDepth 100000
set_option maxHeartbeats 64000000
set_option linter.unusedSectionVars false
namespace Go.Proofs.Q0
open Go Go.RowKit
abbrev aCu:=@List.mem_cons
abbrev aCv:=@List.length_append
abbrev aCw:=@List.mem_cons_self
abbrev aCx:=@List.length_cons
abbrev aCy:=@List.mem_cons_of_mem
abbrev aCz:=@Sem.run_bind
abbrev aC0:=@List.length_map
abbrev aC1:=@List.not_mem_nil
abbrev aC2:=@List.map_cons
abbrev aC3:=@List.getElem?_eq_getElem
abbrev aC4:=@List.mem_append
abbrev aC5:=@Nat.le_refl
abbrev aC6:=@List.nodup_cons
abbrev aC7:=@Nat.zero_le
abbrev aC8:=@List.getElem?_map
abbrev aC9:=@Nat.le_trans
abbrev aDA:=@List.length_nil
abbrev aDB:=@Bool.and_eq_true
abbrev aDC:=@List.mem_append_left
abbrev aDD:=@List.map_nil
abbrev aDE:=@List.mem_append_right
abbrev aDF:=@List.mem_map_of_mem
abbrev aDG:=@List.nodup_append
abbrev aDH:=@Nat.add_mul
abbrev aDI:=@List.getD_eq_getElem?_getD
abbrev aDJ:=@List.mem_of_getElem?
abbrev aDK:=@List.take_length
abbrev aDL:=@Nat.lt_or_ge
abbrev aDM:=@List.take_of_length_le
abbrev aDN:=@List.length_set
abbrev aDO:=@Nat.zero_add
abbrev aDP:=@List.append_nil
abbrev aDQ:=@List.append_assoc
abbrev aDR:=@List.cons_append
abbrev aDS:=@List.getElem_mem
abbrev aDT:=@Nat.eq_of_beq_eq_true
abbrev aDU:=@Int.mul_comm
abbrev aDV:=@List.nil_append
abbrev aDW:=@Sem.run_pure
abbrev aDX:=@Result.andThen_ok
abbrev aDY:=@List.getElem?_eq_none
abbrev aDZ:=@List.foldl_cons
abbrev aDa:=@List.map_append
abbrev aDb:=@Int.le_of_lt
abbrev aDc:=@Int.ediv_nonneg
abbrev aDd:=@Option.some.injEq
abbrev aDe:=@Int.emod_nonneg
abbrev aDf:=@Bool.not_eq_true'
abbrev aDg:=@List.length_take
abbrev aDh:=@List.foldl_append
abbrev aDi:=@Int.emod_lt_of_pos
abbrev aDj:=@List.getElem?_set
abbrev aDk:=@Bool.not_true
abbrev aDl:=@Array.toList_append
abbrev aDm:=@Int.mul_nonneg
abbrev aDn:=@Int.mul_le_mul_of_nonneg_left
abbrev aDo:=@Option.some.inj
abbrev aDp:=@List.eq_nil_of_length_eq_zero
abbrev aDq:=@Array.getElem?_eq_none
abbrev aDr:=@Int.mul_ediv_add_emod
abbrev aDs:=@Int.mul_le_mul_of_nonneg_right
abbrev aDt:=@List.take_add_one
abbrev aDu:=@Nat.le_of_ble_eq_true
abbrev aDv:=@Int.tmod_eq_emod_of_nonneg
abbrev aDw:=@Bool.and_false
abbrev aDx:=@Array.getD_eq_getD_getElem?
abbrev aDy:=@Int.eq_ofNat_of_zero_le
abbrev aDz:=@List.getElem?_take
abbrev aD0:=@List.drop_eq_getElem_cons
abbrev aD1:=@List.filter_cons
abbrev aD2:=@Nat.eq_zero_or_pos
abbrev aD3:=@List.take_append_of_le_length
abbrev aD4:=@Int.add_mul_ediv_right
abbrev aD5:=@List.mem_of_find?_eq_some
abbrev aD6:=@List.length_filter_le
abbrev aD7:=@List.length_replicate
abbrev aD8:=@List.mem_or_eq_of_mem_set
abbrev aD9:=@Int.ediv_eq_zero_of_lt
abbrev Env:=Nat→Value
def upd (env:Env) (t:Nat) (v:Value):Env:=fun i=>bif Nat.beq i t then v else env i
def Bf (env:Env):Option Nat→Value→Env
 | some t,v=>upd env t v
 | none,_=>env
def ev (env:Env):Operand→Value
 | .tmp t=>env t
 | .const v=>v
 | .global g => .pointer (some ⟨g,0,none⟩)
 | .func f => .func (.func f) #[] #[]
structure Fits (n:Nat) (env:Env) (a:Act):Prop where
 defers:a.defers=[]
 size:a.tmps.size=n
 at_:∀ i,i < n→a.tmps[i]?=some (env i)
 out:∀ i,n≤i→env i=undef
theorem Ep (env:Env) (t:Nat) (v:Value):upd env t v t=v:=by simp [upd]
theorem FN (env:Env) {t i:Nat} (v:Value) (h:i≠t):upd env t v i=env i:=by
 simp only [upd];cases hb:Nat.beq i t
 ·rfl
 ·exact absurd (aDT hb) h
theorem Fits.get {n:Nat} {env:Env} {a:Act} (h:Fits n env a) (i:Nat):a.tmps.getD i undef=env i:=by
 by_cases hi:i < n
 ·simp [aDx,h.at_ i hi]
 ·have hs:a.tmps.size≤i:=by rw [h.size];omega
  rw [h.out i (by omega)];simp [aDx,aDq hs]
theorem Fits.eval {n:Nat} {env:Env} {a:Act} (h:Fits n env a):a.eval=ev env:=by
 funext x;cases x with
 | tmp t=>exact h.get t
 | const v=>rfl
 | global g=>rfl
 | func f=>rfl
theorem Fits.put {n:Nat} {env:Env} {a:Act} (h:Fits n env a) {d:Option Nat} (hd:∀ t,d=some t→t < n) (v:Value):Fits n (Bf env d v) (a.put d v):=by
 cases d with
 | none=>exact h
 | some t =>
   have ht:=hd t rfl;refine ⟨h.defers,by simp [Act.put,h.size],fun i hi=>?_,fun i hi=>?_⟩
   ·simp only [Act.put,Bf];by_cases e:i=t
    ·subst e;rw [Ep,Array.getElem?_setIfInBounds];simp [h.size,hi]
    ·rw [FN _ _ e,Array.getElem?_setIfInBounds];simp [Ne.symm e,h.at_ i hi]
   ·simp only [Bf];rw [FN _ _ (by omega)];exact h.out i hi
def Ax (ops:Array Oper) (env:Env) (g:Option (Nat × Bool)):Bool :=
 match g with
 | none=>true
 | some (j,want)=>match (ops[j]?).bind (·.dst) with
   | none=>false
   | some d=>match env d with
     | .bool b=>b == want
     | _=>false
theorem Fits.wanted {n:Nat} {env:Env} {a:Act} (h:Fits n env a) (ops:Array Oper) (o:Oper) :
 Region.wanted o (yielded ops a.tmps)=Ax ops env o.guard:=by
 unfold Region.wanted Ax;cases hg:o.guard with
 | none=>rfl
 | some jw =>
   obtain ⟨j,want⟩:=jw;simp only [yielded];cases hd:(ops[j]?).bind (·.dst) with
   | none=>simp
   | some d =>
     simp only [Option.bind_some];by_cases hi:d < n
     ·rw [h.at_ d hi];cases env d <;> simp
     ·have hs:a.tmps.size≤d:=by rw [h.size];exact Nat.le_of_not_lt hi
      rw [aDq hs,h.out d (Nat.le_of_not_lt hi)];simp [undef]
def lift (n:Nat) (QE:Exit→Env→World→Prop):Exit→Act→World→Prop:=fun e a w=>∃ env,Fits n env a∧QE e env w
def SJ (n:Nat) (o:Oper):Bool:=match o.dst with
 | some d=>Nat.blt d n
 | none=>true
theorem OP {n:Nat} {o:Oper} (h:SJ n o=true):∀ t,o.dst=some t→t < n:=by
 intro t ht;simp only [SJ,ht] at h;exact aDu h
def XS (P:Program) (ops:Array Oper) (QE:Exit→Env→World→Prop) (n:Nat) (l:List Oper) (env:Env) (w:World):Prop :=
 l.all (SJ n)=true→∀ a,Fits n env a→wpList P ops (lift n QE) l a w
def XC (P:Program) (QE:Exit→Env→World→Prop) (n:Nat) (c:Code) (env:Env) (w:World):Prop :=
 ∀ a,Fits n env a→c.wp P (lift n QE) a w
section
variable {P : Program} {ops : Array Oper} {QE : Exit → Env → World → Prop} {n : Nat} {rest : List Oper} {o : Oper} {env : Env} {w w' : World}
theorem XS.nil (h:QE .normal env w):XS P ops QE n [] env w:=fun _ a hf=>wpList_nil ⟨env,hf,h⟩
theorem XS.upon (hw:Ax ops env o.guard=true)
 (h:∀ a,Fits n env a→SJ n o=true→∀ K:Act→World→Prop,(∀ a' w',(∃ env',Fits n env' a'∧XS P ops QE n rest env' w')→K a' w')→o.wp P a w K (lift n QE)) :
 XS P ops QE n (o :: rest) env w:=by
 intro hok a hf;simp only [List.all_cons,aDB] at hok;refine wpList_step fun K hK=>?_;rw [if_pos (by rw [hf.wanted,hw])];exact h a hf hok.1 K (fun a' w' ⟨env',hf',hx⟩=>hK _ _ (hx hok.2 a' hf'))
theorem XS.value {v:Value} (hw:Ax ops env o.guard=true) (hr:(execOp (ev env) o).run P w = .ok (.value v) w')
 (k:XS P ops QE n rest (Bf env o.dst v) w'):XS P ops QE n (o :: rest) env w :=
 XS.upon hw fun a hf hd K hK=>by
  unfold Oper.wp;rw [hf.eval,hr];exact hK _ _ ⟨_,hf.put (OP hd) v,k⟩
theorem XS.P8 (hw:Ax ops env o.guard=true) (hr:(execOp (ev env) o).run P w = .ok .skip w')
 (k:XS P ops QE n rest (Bf env o.dst undef) w'):XS P ops QE n (o :: rest) env w :=
 XS.upon hw fun a hf hd K hK=>by
  unfold Oper.wp;rw [hf.eval,hr];exact hK _ _ ⟨_,hf.put (OP hd) undef,k⟩
theorem XS.pass (hw:Ax ops env o.guard=false) (k:XS P ops QE n rest (Bf env o.dst undef) w):XS P ops QE n (o :: rest) env w:=by
 intro hok a hf;simp only [List.all_cons,aDB] at hok;refine wpList_step fun K hK=>?_;rw [if_neg (by rw [hf.wanted,hw];simp)];exact hK _ _ (k hok.2 _ (hf.put (OP hok.1) undef))
theorem XS.Zc {l:List Oper} {env':Env} (he:∀ i,env' i=env i) (k:XS P ops QE n l env' w):XS P ops QE n l env w:=by
 have:env'=env:=funext he;rwa [this] at k
end
def AO (P:Program) (f:FuncId) (args:Array Value) (w:World) (Q:Value→World→Prop):Prop :=
 ((callFunc f args).run P w = .ok (.enter f args) w∧Calls P f args w fun e w'=>∃ v,e = .returned v∧Q v w') ∨
 ∃ v w',(callFunc f args).run P w = .ok (.value v) w'∧Q v w'
theorem AO.mono {P:Program} {f:FuncId} {args:Array Value} {w:World} {Q Q':Value→World→Prop} (h:AO P f args w Q) (hq:∀ v w',Q v w'→Q' v w'):AO P f args w Q':=by
 rcases h with ⟨h1,h2⟩ | ⟨v,w',h1,h2⟩
 ·exact .inl ⟨h1,h2.mono fun e w' ⟨v,he,hv⟩=>⟨v,he,hq v w' hv⟩⟩
 ·exact .inr ⟨v,w',h1,hq v w' h2⟩
def LD (P:Program) (f:FuncId):Bool:=match P.funcs[f]? with
 | none=>false
 | some fn => !(fn.name == "runtime.NumGoroutine") && fn.body.isSome
theorem Na {P:Program} {f:FuncId} (h:LD P f=true) (args:Array Value) (w:World):(callFunc f args).run P w = .ok (.enter f args) w:=by
 unfold LD at h;cases hf:P.funcs[f]? with
 | none=>simp [hf] at h
 | some fn =>
   simp only [hf,aDB,aDf] at h;have h1 : fn.name ≠ "runtime.NumGoroutine" := by simpa using h.1
   have h2:fn.body≠none:=by intro hb;simp [hb] at h
   simp [callFunc,program,Sem.run,hf,h1,h2,aCz]
def rsem (tmps:Array Value):ResultVar→Sem Value
 | .tmp t=>pure (tmps.getD t undef)
 | .cell a t=>do loadVar t (← asAddr (tmps.getD a undef))
def PW (P:Program) (env:Env) (w:World) (v:Value):ResultVar→Prop
 | .tmp t=>env t=v
 | .cell a T=>∃ ad,env a = .pointer (some ad)∧(loadVar T ad).run P w = .ok v w
theorem FW {P:Program} {n:Nat} {env:Env} {a:Act} {w:World} {v:Value} {r:ResultVar} (hf:Fits n env a) (h:PW P env w v r):(rsem a.tmps r).run P w = .ok v w:=by
 cases r with
 | tmp t=>simp only [rsem,aDW,hf.get];rw [show env t=v from h]
 | cell ad t =>
   obtain ⟨p,h1,h2⟩:=h;simp only [rsem,aCz,hf.get,h1,asAddr,aDW,aDX,h2]
def KD (P:Program) (env:Env) (w:World):List ResultVar→List Value→Prop
 | [],[]=>True
 | r :: rs,v :: vs=>PW P env w v r∧KD P env w rs vs
 | _,_=>False
def packed (vs:List Value):Value:=match vs with
 | [v]=>v
 | vs => .tuple vs.toArray
theorem aF (fn:Func) (tmps:Array Value):results fn tmps=(do
 let vs ← fn.results.mapM (rsem tmps)
 pure (if h:vs.size=1 then vs[0] else .tuple vs)):=by
 unfold results;congr 1
theorem QY {P:Program} {n:Nat} {env:Env} {a:Act} {w:World} (hf:Fits n env a) {fn:Func} {rs:List ResultVar} {vs:List Value} (hr:fn.results=rs.toArray) (hl:rs.length≤4)
 (h:KD P env w rs vs):(results fn a.tmps).run P w = .ok (packed vs) w:=by
 rw [aF,hr]
 match rs,vs,h with
 | [],[],_=>simp [packed]
 | [r],[v],⟨h1,_⟩=>simp [packed,FW hf h1]
 | [r,s],[v,u],⟨h1,h2,_⟩=>simp [packed,FW hf h1,FW hf h2]
 | [r,s,t],[v,u,x],⟨h1,h2,h3,_⟩=>simp [packed,FW hf h1,FW hf h2,FW hf h3]
 | [r,s,t,q],[v,u,x,y],⟨h1,h2,h3,h4,_⟩=>simp [packed,FW hf h1,FW hf h2,FW hf h3,FW hf h4]
 | _ :: _ :: _ :: _ :: _ :: _,_,_=>simp at hl
def A9 (P:Program) (rs:List ResultVar) (Q:Value→World→Prop):Exit→Env→World→Prop
 | .normal,env,w | .ret,env,w=>∃ vs,KD P env w rs vs∧Q (packed vs) w
 | _,_,_=>False
def PZ (args:Array Value):Env:=fun i=>args.toList.getD i undef
theorem fits_enter (args:Array Value) (n:Nat) (h:args.size≤n):Fits n (PZ args) ⟨args ++ Array.replicate (n - args.size) undef,[]⟩:=by
 refine ⟨rfl,by simp;omega,fun i hi=>?_,fun i hi=>?_⟩
 ·by_cases h1:i < args.size
  ·rw [Array.getElem?_append_left h1];simp [PZ,aDI,h1]
  ·rw [Array.getElem?_append_right (by omega)];simp [PZ,aDI,aDq (Nat.le_of_not_lt h1)];rw [Array.getElem?_eq_getElem (by simp;omega)];simp
 ·simp only [PZ,aDI,Array.getElem?_toList];rw [aDq (by omega)];rfl
theorem kO {P:Program} {f:FuncId} {fn:Func} {c:Code} {n:Nat} {args:Array Value} {w:World} {Q:Value→World→Prop} {rs:List ResultVar} (hf:P.funcs[f]?=some fn) (he:LD P f=true)
 (hb:fn.body=some c) (hn:fn.ntmps=n) (hr:fn.results=rs.toArray) (hl:Nat.ble rs.length 4=true) (ha:Nat.ble args.size n=true)
 (h:XC P (A9 P rs Q) n c (PZ args) w):AO P f args w Q:=by
 refine .inl ⟨Na he args w,calls_of_wp hf hb ?_⟩;rw [hn];refine wp_mono (h _ (fits_enter args n (aDu ha))) fun e a w hq=>?_;obtain ⟨env,hfit,hq⟩:=hq;cases e with
 | normal=>obtain ⟨vs,hv,hQ⟩:=hq;exact ⟨hfit.defers,_,QY hfit hr (aDu hl) hv,_,rfl,hQ⟩
 | ret=>obtain ⟨vs,hv,hQ⟩:=hq;exact ⟨hfit.defers,_,QY hfit hr (aDu hl) hv,_,rfl,hQ⟩
 | _=>exact hq.elim
theorem ret_calls {P:Program} {f:FuncId} {args:Array Value} {w:World} {Q:Value→World→Prop} (he:LD P f=true) (h:AO P f args w Q):Calls P f args w fun e w'=>∃ v,e = .returned v∧Q v w':=by
 rcases h with ⟨_,h⟩ | ⟨v,w',h,_⟩
 ·exact h
 ·rw [Na he args w] at h;cases h
section
variable {P : Program} {QE : Exit → Env → World → Prop} {n : Nat} {env : Env} {w : World}
def AY (P:Program) (n:Nat) (y:Code) (QE:Exit→Env→World→Prop):Exit→Env→World→Prop
 | .normal,env,w=>XC P QE n y env w
 | e,env,w=>QE e env w
theorem Ah {x y:Code} (h:XC P (AY P n y QE) n x env w):XC P QE n (.seq x y) env w:=fun a hf =>
 wp_seq (wp_mono (h a hf) fun e a w ⟨env,hf,hq⟩=>by
  cases e with
  | normal=>exact hq a hf
  | _=>exact ⟨env,hf,hq⟩)
theorem Dw {y:Code} (h:XC P QE n y env w):AY P n y QE .normal env w:=h
theorem tK (h:QE .normal env w):XC P QE n .skip env w:=fun a hf=>wp_skip ⟨env,hf,h⟩
theorem vH {id:Nat} (h:QE (.exit id) env w):XC P QE n (.exit id) env w:=fun a hf=>wp_exit ⟨env,hf,h⟩
theorem aAH (h:QE .ret env w):XC P QE n .ret env w:=fun a hf=>wp_ret ⟨env,hf,h⟩
theorem Yv {c:Operand} {x y:Code} (hc:ev env c = .bool true) (h:XC P QE n x env w):XC P QE n (.cond c x y) env w:=fun a hf =>
 wp_cond_true (by rw [hf.eval,hc]) (h a hf)
theorem Xo {c:Operand} {x y:Code} (hc:ev env c = .bool false) (h:XC P QE n y env w):XC P QE n (.cond c x y) env w:=fun a hf =>
 wp_cond_false (by rw [hf.eval,hc]) (h a hf)
theorem xc_cond {c:Operand} {x y:Code} {b:Bool} (hc:ev env c = .bool b) (h1:b=true→XC P QE n x env w) (h2:b=false→XC P QE n y env w):XC P QE n (.cond c x y) env w:=by
 cases b
 ·exact Xo hc (h2 rfl)
 ·exact Yv hc (h1 rfl)
theorem Aw {c:Operand} {x y:Code} {p:Prop} [Decidable p] (hc:ev env c = .bool (decide p)) (h1:p→XC P QE n x env w) (h2:¬p→XC P QE n y env w):XC P QE n (.cond c x y) env w :=
 xc_cond hc (fun h=>h1 (of_decide_eq_true h)) (fun h=>h2 (of_decide_eq_false h))
def AR (id:Nat) (QE:Exit→Env→World→Prop):Exit→Env→World→Prop
 | .exit id',env,w=>if id'=id then QE .normal env w else QE (.exit id') env w
 | e,env,w=>QE e env w
theorem mH {id:Nat} {c:Code} (h:XC P (AR id QE) n c env w):XC P QE n (.block id c) env w:=fun a hf =>
 wp_block (wp_mono (h a hf) fun e a w ⟨env,hf,hq⟩=>by
  cases e with
  | exit id' =>
    simp only [AR] at hq;simp only [Exit.inBlock];split
    ·rw [if_pos ‹_›] at hq;exact ⟨env,hf,hq⟩
    ·rw [if_neg ‹_›] at hq;exact ⟨env,hf,hq⟩
  | _=>exact ⟨env,hf,hq⟩)
theorem bE {id:Nat} (h:QE .normal env w):AR id QE (.exit id) env w:=by simp only [AR,if_true];exact h
theorem WR {id:Nat} (h:QE .normal env w):AR id QE .normal env w:=h
theorem Ya {id id':Nat} (hne:Nat.beq id' id=false) (h:QE (.exit id') env w):AR id QE (.exit id') env w:=by
 have:id'≠id:=Nat.ne_of_beq_eq_false hne;simp only [AR,if_neg this];exact h
theorem kF {id:Nat} (h:QE .ret env w):AR id QE .ret env w:=h
theorem mK {y:Code} (h:QE .ret env w):AY P n y QE .ret env w:=h
theorem jP {y:Code} {id:Nat} (h:QE (.exit id) env w):AY P n y QE (.exit id) env w:=h
def A1 (I:Nat→Env→World→Prop) (m:Nat) (QE:Exit→Env→World→Prop):Exit→Env→World→Prop
 | .normal,env,w=>∃ m',m' < m∧I m' env w
 | e,env,w=>QE e env w
theorem xc_loop {c:Code} (I:Nat→Env→World→Prop) (m0:Nat) (h0:I m0 env w) (round:∀ m env w,I m env w→XC P (A1 I m QE) n c env w):XC P QE n (.loop c) env w:=fun a hf =>
 wp_loop_ghost (fun m a w=>∃ env,Fits n env a∧I m env w) m0 ⟨env,hf,h0⟩ fun m a w ⟨env,hf,hI⟩ =>
  wp_mono (round m env w hI a hf) fun e a w ⟨env,hf,hq⟩=>by
   cases e with
   | normal=>obtain ⟨m',hm,gW⟩:=hq;exact ⟨m',hm,env,hf,gW⟩
   | _=>exact ⟨env,hf,hq⟩
end
abbrev Br:=Nat × Obj × Bool
inductive At:List Br→Nat→Obj→Bool→(Obj→List Br)→Prop
 | head {H:List Br} {b:Nat} {o:Obj} {nw:Bool}:At ((b,o,nw) :: H) b o nw (fun o'=>(b,o',nw) :: H)
 | tail {H:List Br} {b:Nat} {o:Obj} {nw:Bool} {f:Obj→List Br} {e:Br}:At H b o nw f→At (e :: H) b o nw (fun o'=>e :: f o')
theorem At.mem {H:List Br} {b:Nat} {o:Obj} {nw:Bool} {f:Obj→List Br} (h:At H b o nw f):(b,o,nw)∈H:=by
 induction h with
 | head=>exact aCw
 | tail _ ih=>exact aCy _ ih
theorem At.blocks {H:List Br} {b:Nat} {o:Obj} {nw:Bool} {f:Obj→List Br} (h:At H b o nw f) (o':Obj):(f o').map (·.1)=H.map (·.1):=by
 induction h with
 | head=>rfl
 | tail _ ih=>simp [ih]
theorem At.flags {H:List Br} {b:Nat} {o:Obj} {nw:Bool} {f:Obj→List Br} (h:At H b o nw f) (o':Obj):(f o').map (fun e=>(e.1,e.2.2))=H.map (fun e=>(e.1,e.2.2)):=by
 induction h with
 | head=>rfl
 | tail _ ih=>simp [ih]
theorem At.put {H:List Br} {b:Nat} {o:Obj} {nw:Bool} {f:Obj→List Br} (h:At H b o nw f) (hn:(H.map (·.1)).Nodup) (o':Obj):∀ e∈f o',(e=(b,o',nw))∨(e∈H∧e.1≠b):=by
 induction h with
 | head =>
   intro e he;simp only [aC2,aC6] at hn;rcases aCu.1 he with rfl | he
   ·exact .inl rfl
   ·exact .inr ⟨aCy _ he,fun hb=>hn.1 (hb ▸ aDF he)⟩
 | tail h0 ih =>
   intro e he;simp only [aC2,aC6] at hn;rcases aCu.1 he with rfl | he
   ·refine .inr ⟨aCw,fun hb=>hn.1 ?_⟩;rw [hb];exact aDF h0.mem
   ·rcases ih hn.2 e he with h1 | ⟨h1,h2⟩
    ·exact .inl h1
    ·exact .inr ⟨aCy _ h1,h2⟩
structure AB (F:List Nat) (w w':World):Prop where
 os:w'.os=w.os
 tape:w'.tape=w.tape
 output:w'.output=w.output
 size:w.heap.size≤w'.heap.size
 frame:∀ k,k < w.heap.size→k∉F→w'.heap[k]?=w.heap[k]?
theorem AB.refl (F:List Nat) (w:World):AB F w w:=⟨rfl,rfl,rfl,aC5 _,fun _ _ _=>rfl⟩
theorem AB.trans {F G:List Nat} {w w1 w2:World} (h:AB F w w1) (k:AB G w1 w2):AB (F ++ G) w w2 :=
 ⟨k.os.trans h.os,k.tape.trans h.tape,k.output.trans h.output,aC9 h.size k.size,fun i hi hn=>by
  simp only [aC4,not_or] at hn;exact (k.frame i (Nat.lt_of_lt_of_le hi h.size) hn.2).trans (h.frame i hi hn.1)⟩
theorem AB.mono {F G:List Nat} {w w':World} (h:AB F w w') (hs:∀ k,k < w.heap.size→k∈F→k∈G):AB G w w' :=
 ⟨h.os,h.tape,h.output,h.size,fun k hk hn=>h.frame k hk fun hf=>hn (hs k hk hf)⟩
theorem AB.weaken {F G:List Nat} {w w':World} (h:AB F w w') (hs:∀ k∈F,k∈G):AB G w w':=h.mono fun k _ hk=>hs k hk
theorem AB.below {w w':World} (h:AB [] w w'):Below w.heap.size w w':=⟨h.os,h.tape,h.output,h.size,fun k hk=>h.frame k hk (by simp)⟩
theorem AB.RG {w w':World} (h:Below w.heap.size w w'):AB [] w w':=⟨h.os,h.tape,h.output,h.size,fun k hk _=>h.block k hk⟩
theorem AB.same {b:Nat} {F:List Nat} {w w':World} (h:AB (b :: F) w w') (hb:w'.heap[b]?=w.heap[b]?):AB F w w' :=
 ⟨h.os,h.tape,h.output,h.size,fun k hk hn=>by
  by_cases e:k=b
  ·subst e;exact hb
  ·exact h.frame k hk (by simp [e,hn])⟩
theorem AB.block {F:List Nat} {w w':World} (h:AB F w w') {b:Nat} {o:Obj} (hb:w.heap[b]?=some o) (hn:b∉F):w'.heap[b]?=some o:=by
 rw [h.frame b (by rcases aDL b w.heap.size with h' | h';exact h';rw [aDq h'] at hb;cases hb) hn];exact hb
def FC (H:List Br) (w:World):Prop:=∀ e∈H,w.heap[e.1]?=some e.2.1
structure Ctx where
 dirty:List Nat
 ro:List (Nat × Obj)
def D0:Ctx:=⟨[],[]⟩
structure St (wb:World) (D:Ctx) (H:List Br) (w:World):Prop where
 at_:∀ e∈H,w.heap[e.1]?=some e.2.1
 nd:(H.map (·.1)).Nodup
 new:∀ p∈H.map (fun e=>(e.1,e.2.2)),p.2=true→wb.heap.size≤p.1
 os:w.os=wb.os
 tape:w.tape=wb.tape
 output:w.output=wb.output
 size:wb.heap.size≤w.heap.size
 frame:∀ k,k < wb.heap.size→k∉D.dirty→k∉H.map (·.1)→w.heap[k]?=wb.heap[k]?
 ro:∀ e∈D.ro,w.heap[e.1]?=some e.2
 ap:∀ e∈D.ro,e.1∉H.map (·.1)
section
variable {wb w w' : World} {D : Ctx} {H : List Br} {b : Nat} {o : Obj} {nw : Bool} {f : Obj → List Br}
theorem lt_of_block {w:World} {b:Nat} {o:Obj} (hb:w.heap[b]?=some o):b < w.heap.size:=by
 rcases aDL b w.heap.size with h | h
 ·exact h
 ·rw [aDq h] at hb;cases hb
theorem St.nil (w:World):St w D0 [] w:=⟨by simp,by simp,by simp,rfl,rfl,rfl,aC5 _,fun _ _ _ _=>rfl,by simp [D0],by simp⟩
theorem St.AH (h:St wb D H w) (hb:w.heap[b]?=some o) (hn:b∉H.map (·.1)) (hr:b∉D.ro.map (·.1):=by simp [D0]):St wb D ((b,o,false) :: H) w :=
 ⟨fun e he=>by
  rcases aCu.1 he with rfl | he
  ·exact hb
  ·exact h.at_ e he,
  by simpa using ⟨by simpa using hn,h.nd⟩,fun p hp hq=>by
   simp only [aC2,aCu] at hp;rcases hp with rfl | hp
   ·cases hq
   ·exact h.new p hp hq,h.os,h.tape,h.output,h.size,fun k hk hd hm=>h.frame k hk hd (by simp at hm ⊢;exact hm.2),h.ro,fun e he hm=>by
   simp only [aC2,aCu] at hm;rcases hm with hm | hm
   ·exact hr (hm ▸ aDF he)
   ·exact h.ap e he hm⟩
theorem St.read (h:St wb D H w) (hb:w.heap[b]?=some o) (hn:b∉H.map (·.1)):St wb ⟨D.dirty,(b,o) :: D.ro⟩ H w :=
 ⟨h.at_,h.nd,h.new,h.os,h.tape,h.output,h.size,h.frame,fun e he=>by
  rcases aCu.1 he with rfl | he
  ·exact hb
  ·exact h.ro e he,fun e he=>by
  rcases aCu.1 he with rfl | he
  ·exact hn
  ·exact h.ap e he⟩
theorem St.hold (h:St wb D H w):FC H w:=h.at_
theorem St.get (h:St wb D H w) (hA:At H b o nw f):w.heap[b]?=some o:=h.at_ _ hA.mem
theorem St.put (h:St wb D H w) (hA:At H b o nw f) {o':Obj} (h1:w'.os=w.os) (h2:w'.tape=w.tape) (h3:w'.output=w.output) (h4:w'.heap.size=w.heap.size)
 (h5:∀ k,k≠b→w'.heap[k]?=w.heap[k]?) (h6:w'.heap[b]?=some o'):St wb D (f o') w' where
 at_:=fun e he=>by
  rcases hA.put h.nd o' e he with rfl | ⟨hm,hne⟩
  ·exact h6
  ·rw [h5 _ hne];exact h.at_ e hm
 nd:=by rw [hA.blocks];exact h.nd
 new:=by rw [hA.flags];exact h.new
 os:=h1.trans h.os
 tape:=h2.trans h.tape
 output:=h3.trans h.output
 size:=by rw [h4];exact h.size
 frame:=fun k hk hd hm=>by
  rw [hA.blocks] at hm;have hne:k≠b:=fun e=>hm (e ▸ aDF hA.mem);rw [h5 k hne];exact h.frame k hk hd hm
 ro:=fun e he=>by
  have hne:e.1≠b:=fun q=>h.ap e he (q ▸ aDF hA.mem);rw [h5 _ hne];exact h.ro e he
 ap:=by rw [hA.blocks];exact h.ap
theorem St.alloc (h:St wb D H w) (o:Obj):St wb D ((w.heap.size,o,true) :: H) { w with heap:=w.heap.push o } where
 at_:=fun e he=>by
  rcases aCu.1 he with rfl | he
  ·simp
  ·have h1:=h.at_ e he;have h2:=lt_of_block h1;show (w.heap.push o)[e.1]?=_;rw [Array.getElem?_push,if_neg (by omega)];exact h1
 nd:=by
  simp only [aC2,aC6];refine ⟨fun hm=>?_,h.nd⟩;obtain ⟨e,he,heq⟩:=List.mem_map.1 hm;have:=lt_of_block (h.at_ e he);omega
 new:=fun p hp hq=>by
  simp only [aC2,aCu] at hp;rcases hp with rfl | hp
  ·exact h.size
  ·exact h.new p hp hq
 os:=h.os
 tape:=h.tape
 output:=h.output
 size:=by simp;exact Nat.le_succ_of_le h.size
 frame:=fun k hk hd hm=>by
  simp only [aC2,aCu,not_or] at hm;show (w.heap.push o)[k]?=_;have:=h.size;rw [Array.getElem?_push,if_neg (by omega)];exact h.frame k hk hd hm.2
 ro:=fun e he=>by
  have h1:=h.ro e he;have h2:=lt_of_block h1;show (w.heap.push o)[e.1]?=_;rw [Array.getElem?_push,if_neg (by omega)];exact h1
 ap:=fun e he hm=>by
  simp only [aC2,aCu] at hm;rcases hm with hm | hm
  ·have:=lt_of_block (h.ro e he);omega
  ·exact h.ap e he hm
theorem St.drew (h:St wb D H w):St wb D H { w with drawn:=w.drawn+1 }:=⟨h.at_,h.nd,h.new,h.os,h.tape,h.output,h.size,h.frame,h.ro,h.ap⟩
theorem St.VK (h:St wb D H w):St wb D H w.drew:=⟨h.at_,h.nd,h.new,h.os,h.tape,h.output,h.size,h.frame,h.ro,h.ap⟩
theorem St.call {F:List Nat} (h:St wb D H w) (ho:AB F w w') (hF:∀ k∈F,k∉H.map (·.1)) (hR:∀ k∈F,k∉D.ro.map (·.1)):St wb ⟨F ++ D.dirty,D.ro⟩ H w' where
 at_:=fun e he=>ho.block (h.at_ e he) fun hm=>hF _ hm (aDF he)
 nd:=h.nd
 new:=h.new
 os:=ho.os.trans h.os
 tape:=ho.tape.trans h.tape
 output:=ho.output.trans h.output
 size:=aC9 h.size ho.size
 frame:=fun k hk hd hm=>by
  simp only [aC4,not_or] at hd;rw [ho.frame k (Nat.lt_of_lt_of_le hk h.size) hd.1];exact h.frame k hk hd.2 hm
 ro:=fun e he=>ho.block (h.ro e he) fun hm=>hR _ hm (aDF he)
 ap:=h.ap
theorem St.AP (h:St wb D H w) (ho:AB [] w w'):St wb D H w':=by have:=h.call ho (by simp) (by simp);simpa using this
theorem St.Bx {b:Nat} {o:Obj} (h:St wb D ((b,o,true) :: H) w):St wb D H w :=
 ⟨fun x hx=>h.at_ x (aCy _ hx),by have:=h.nd;simp at this;exact by simpa using this.2,fun p hp=>h.new p (by simp only [aC2];exact aCy _ hp),
  h.os,h.tape,h.output,h.size,fun k hk hd hm=>h.frame k hk hd (by
   simp only [aC2,aCu,not_or];refine ⟨fun e=>?_,hm⟩;have:=h.new (b,true) (by simp) rfl;simp at this;omega),h.ro,fun e he hm=>h.ap e he (by simp only [aC2];exact aCy _ hm)⟩
theorem St.swap {x y:Br} (h:St wb D (x :: y :: H) w):St wb D (y :: x :: H) w :=
 ⟨fun e he=>h.at_ e (by simp only [aCu] at he ⊢;rcases he with h | h | h <;> simp [h]),by
  have:=h.nd;simp only [aC2,aC6,aCu,not_or] at this ⊢;exact ⟨⟨fun e=>this.1.1 e.symm,this.2.1⟩,this.1.2,this.2.2⟩,
  fun p hp=>h.new p (by simp only [aC2,aCu] at hp ⊢;rcases hp with h | h | h <;> simp [h]),h.os,h.tape,h.output,h.size,
  fun k hk hd hm=>h.frame k hk hd (by simp only [aC2,aCu,not_or] at hm ⊢;exact ⟨hm.2.1,hm.1,hm.2.2⟩),h.ro,
  fun e he hm=>h.ap e he (by simp only [aC2,aCu] at hm ⊢;rcases hm with h | h | h <;> simp [h])⟩
def olds (H:List Br):List Nat:=(H.filter fun e=>!e.2.2).map (·.1)
theorem St.only (h:St wb D H w):AB (olds H ++ D.dirty) wb w :=
 ⟨h.os,h.tape,h.output,h.size,fun k hk hn=>by
  simp only [aC4,not_or] at hn;refine h.frame k hk hn.2 fun hm=>?_;obtain ⟨e,he,rfl⟩:=List.mem_map.1 hm;by_cases hq:e.2.2=true
  ·have:=h.new (e.1,e.2.2) (aDF he) hq;simp at this;omega
  ·exact hn.1 (aDF (by simp [List.mem_filter,he,hq]))⟩
theorem St.keep {b:Nat} {o:Obj} (h:St wb D ((b,o,false) :: H) w) (hb:wb.heap[b]?=some o):AB (olds H ++ D.dirty) wb w:=by
 have h1:=h.only;have h2:AB (b :: (olds H ++ D.dirty)) wb w:=by simpa [olds] using h1
 exact h2.same ((h.at_ _ aCw).trans hb.symm)
theorem St.AE (h:St wb D H w) (hH:olds H ++ D.dirty=[]):AB [] wb w:=by have:=h.only;rw [hH] at this;exact this
end
def look {α:Type} (k:Nat):List (Nat × α)→Option α
 | []=>none
 | (i,x) :: l=>bif Nat.beq i k then some x else look k l
theorem look_mem {α:Type} {k:Nat} {x:α}:∀ {l:List (Nat × α)},look k l=some x→(k,x)∈l
 | [],h=>by cases h
 | (i,y) :: l,h=>by
   simp only [look] at h;cases hb:Nat.beq i k
   ·rw [hb] at h;exact aCy _ (look_mem h)
   ·rw [hb] at h;have:=aDT hb;simp at h;subst this;subst h;exact aCw
def Qz (P:Program) (s f:Nat):Option Nat:=match P.underlying s with
 | some (.struct fs)=>(fs[f]?).bind fun fd=>match P.info? fd.type with
   | some i=>if i.size=0 then none else some fd.offset
   | none=>none
 | _=>none
def NM (P:Program) (t:Nat):Option (Bool × Nat):=match P.underlying t,P.info? t with
 | some (.struct _),some i | some (.array _ _),some i=>some (true,i.size)
 | some _,some i=>some (false,i.size)
 | _,_=>none
def zeroOf (P:Program) (t:Nat):Option (Array Value):=(P.info? t).bind fun i=>i.zero.map (·.cells)
def zF (P:Program) (t:Nat):Option IntKind:=match P.underlying t with
 | some (.int k)=>some k
 | _=>none
def kindOf (P : Program) (t : Nat) : Nat := match P.underlying t with   -- 1: bool · 2: pointer to something that has cells · 3: func · 4: slice · 5: map · 6: string
 | some .bool=>1
 | some (.pointer e)=>match P.info? e with
   | some i=>if i.size=0 then 0 else 2
   | none=>0
 | some (.func ..)=>3
 | some (.slice _)=>4
 | some (.map ..)=>5
 | some .string=>6
 | _=>0
def XD (P:Program) (t:Nat):Option (Nat × Nat × Nat):=match P.underlying t with
 | some (.slice e)=>(P.info? e).map fun i=>(e,i.size,i.bytes)
 | _=>none
def placesOf (P:Program) (t:Nat):Option (List (Nat × Nat)):=match P.underlying t with
 | some (.struct fs)=>fs.toList.mapM fun f=>(P.info? f.type).map fun i=>(f.offset,i.size)
 | _=>none
def leaves (P:Program):Nat→Nat→Option (List (Nat × Bool))
 | 0,_=>none
 | d+1,t=>match P.underlying t with
   | some (.int _)=>some [(0,false)]
   | some .bool=>some [(0,true)]
   | some (.struct fs)=>if P.stoodInHeld t then none else fs.toList.foldr (fun f acc=>match leaves P d f.type,acc,P.info? f.type with
    | some l, some r, some i => if f.name = "_" ∨ ¬ (l.all fun j => decide (j.1 < i.size)) = true then none else some (l.map (fun j => (f.offset + j.1, j.2)) ++ r)
    | _,_,_=>none) (some [])
   | _=>none
def Ma (P:Program) (t:Nat) (l:List (Nat × Bool)):Bool:=(match leaves P 20 t with | some l'=>l' == l | none=>false) && !P.eqGuardType P.depth t && (match P.underlying t with | some (.struct _)=>true | _=>false)
structure MC where
 flats:List (Nat × List (Nat × Bool))
 pls:List (Nat × List (Nat × Nat))
 offs:List (Nat × List Nat)
 tks:List (Nat × Bool × Nat)
 zs:List (Nat × List Value)
 iks:List (Nat × IntKind)
 kinds:List (Nat × Nat)
 sls:List (Nat × Nat × Nat × Nat)
def ZOk (P:Program):List (Nat × List Value)→Prop
 | []=>True
 | (t,cs) :: l=>zeroOf P t=some cs.toArray∧ZOk P l
structure Be (P:Program) (T:MC):Prop where
 flats:(T.flats.all fun (t,l)=>Ma P t l)=true
 pls:(T.pls.all fun (t,l)=>placesOf P t == some l)=true
 offs:(T.offs.all fun (s,l)=>(List.range l.length).all fun f=>Qz P s f == l[f]?)=true
 tks:(T.tks.all fun (t,x)=>NM P t == some x)=true
 zs:ZOk P T.zs
 iks:(T.iks.all fun (t,k)=>decide (zF P t=some k))=true
 kinds:(T.kinds.all fun (t,k)=>Nat.beq (kindOf P t) k)=true
 sls:(T.sls.all fun (t,x)=>decide (XD P t=some x))=true
 mixed:P.follows .mixedOrders=true
section
variable {P : Program} {T : MC}
theorem Be.off (h:Be P T) {s f k:Nat} (hk:(look s T.offs).bind (·[f]?)=some k):Qz P s f=some k:=by
 cases hl:look s T.offs with
 | none=>rw [hl] at hk;cases hk
 | some l =>
   rw [hl] at hk;have hk:l[f]?=some k:=hk;have h1:=List.all_eq_true.1 h.offs _ (look_mem hl);have hf:f < l.length:=by rcases aDL f l.length with h' | h';exact h';rw [aDY h'] at hk;cases hk
   have h2:=List.all_eq_true.1 h1 f (List.mem_range.2 hf);rw [beq_iff_eq] at h2;rw [h2,hk]
theorem Be.flat (h:Be P T) {t:Nat} {x:List (Nat × Bool)} (hk:look t T.flats=some x):Ma P t x=true:=List.all_eq_true.1 h.flats _ (look_mem hk)
theorem Be.pl (h:Be P T) {t:Nat} {x:List (Nat × Nat)} (hk:look t T.pls=some x):placesOf P t=some x:=by
 have:=List.all_eq_true.1 h.pls _ (look_mem hk);simpa using this
theorem Be.tk (h:Be P T) {t:Nat} {x:Bool × Nat} (hk:look t T.tks=some x):NM P t=some x:=by
 have:=List.all_eq_true.1 h.tks _ (look_mem hk);simpa using this
theorem Be.z (h:Be P T) {t:Nat} {cs:List Value} (hk:look t T.zs=some cs):zeroOf P t=some cs.toArray:=by
 have hm:=look_mem hk;have hz:=h.zs
 revert hz hm
 generalize T.zs=l;intro hm hz
 induction l with
 | nil=>cases hm
 | cons e l ih =>
   obtain ⟨t',cs'⟩:=e;rcases aCu.1 hm with he | hm
   ·cases he;exact hz.1
   ·exact ih hm hz.2
theorem Be.ik (h:Be P T) {t:Nat} {k:IntKind} (hk:look t T.iks=some k):P.underlying t=some (.int k):=by
 have:=List.all_eq_true.1 h.iks _ (look_mem hk);simp only [decide_eq_true_eq] at this;unfold zF at this;split at this
 ·rename_i h1;cases this;exact h1
 ·cases this
theorem Be.kind (h:Be P T) {t k:Nat} (hk:look t T.kinds=some k):kindOf P t=k:=by
 have:=List.all_eq_true.1 h.kinds _ (look_mem hk);exact aDT this
theorem Be.sl (h:Be P T) {t:Nat} {x:Nat × Nat × Nat} (hk:look t T.sls=some x):XD P t=some x:=by
 have:=List.all_eq_true.1 h.sls _ (look_mem hk);simpa using this
end
theorem Em (b o k:Nat):(⟨b,o,none⟩:Addr).add k=⟨b,o+k,none⟩:=by
 unfold Addr.add;split <;> simp_all
theorem BG {P:Program} {t:Nat} {d:TypeDesc} (h:P.underlying t=some d) (w:World):(underlying t).run P w = .ok d w:=by
 simp [underlying,program,aCz,Sem.run,h]
theorem CD {P:Program} {t:Nat} {i:TypeInfo} (h:P.info? t=some i) (w:World):(typeInfo t).run P w = .ok i w:=by
 simp [typeInfo,program,aCz,Sem.run,h]
section
variable {P : Program} {ops : Array Oper} {QE : Exit → Env → World → Prop} {n : Nat} {rest : List Oper} {env : Env} {w wb : World} {D : Ctx} {H : List Br} {T : MC}
 {d:Option Nat} {ty:Nat} {pos:String} {Am:Array Edge} {g:Option (Nat × Bool)}
theorem xs_val {op:Op} {v:Value} (hw:Ax ops env g=true) (hr:(execOp (ev env) (⟨d,op,ty,pos,Am,g⟩:Oper)).run P w = .ok (.value v) w) (k:XS P ops QE n rest (Bf env d v) w) :
 XS P ops QE n (⟨d,op,ty,pos,Am,g⟩ :: rest) env w:=XS.value hw hr k
theorem Vd {x:Operand} {v:Value}  (hv:ev env x=v) :
 (execOp (ev env) (⟨d,.move x,ty,pos,Am,g⟩:Oper)).run P w = .ok (.value v) w :=
 (by rw [← hv];rfl)
theorem RV {x:Operand} {v:Value}  (hv:ev env x=v) :
 (execOp (ev env) (⟨d,.assign x,ty,pos,Am,g⟩:Oper)).run P w = .ok (.value v) w :=
 (by rw [← hv];rfl)
theorem uR {op:Op} (hw:Ax ops env g=false) (k:XS P ops QE n rest (Bf env d undef) w):XS P ops QE n (⟨d,op,ty,pos,Am,g⟩ :: rest) env w :=
 XS.pass hw k
theorem Vw {c x y:Operand} {b:Bool} {v:Value}  (hc:ev env c = .bool b) (hv:(bif b then ev env x else ev env y)=v) :
 (execOp (ev env) (⟨d,.pick c x y,ty,pos,Am,g⟩:Oper)).run P w = .ok (.value v) w :=
 (by subst hv;cases b <;> simp [execOp,hc,asBool])
theorem Np {x:Operand} {a:Addr}  (hx:ev env x = .pointer (some a)) :
 (execOp (ev env) (⟨d,.nilCheck x,ty,pos,Am,g⟩:Oper)).run P w = .ok (.value (.pointer (some a))) w :=
 (by simp [execOp,hx])
theorem MY {x:Operand} {f:Nat} {xs ys:Array Value}  (hx:ev env x = .func (.func f) xs ys) :
 (execOp (ev env) (⟨d,.nilCheck x,ty,pos,Am,g⟩:Oper)).run P w = .ok (.value (.func (.func f) xs ys)) w :=
 (by simp [execOp,hx])
theorem MT (hT:Be P T) {s f k b o q:Nat} {x:Operand} (hk:(look s T.offs).bind (·[f]?)=some k)  (hx:ev env x = .pointer (some ⟨b,o,none⟩)) (hq:o+k=q) :
 (execOp (ev env) (⟨d,.fieldAddr s x f,ty,pos,Am,g⟩:Oper)).run P w = .ok (.value (.pointer (some ⟨b,q,none⟩))) w :=
 (by
  subst hq;have h:=hT.off hk;unfold Qz at h;split at h
  ·rename_i fs hu;obtain ⟨fd,xU,h⟩:=Option.bind_eq_some_iff.1 h;cases hi:P.info? fd.type with
   | none=>simp [hi] at h
   | some i =>
     simp only [hi] at h;by_cases hz:i.size=0
     ·simp [hz] at h
     ·rw [if_neg hz] at h;cases h;simp [execOp,Instr.fieldAt,hx,aCz,BG hu,xU,Instr.sureAddr,fieldPlace,sizeOf,CD hi,hz,Em]
  ·cases h)
theorem PB {x:Operand} {vs:List Value} {i:Nat} {v:Value}  (hx:ev env x = .tuple vs.toArray) (hv:vs[i]?=some v) :
 (execOp (ev env) (⟨d,.extract x i,ty,pos,Am,g⟩:Oper)).run P w = .ok (.value v) w :=
 (by simp [execOp,hx,Instr.extract,hv,aCz])
theorem Nh {fn:Fn} {first caps:Array Operand} :
 (execOp (ev env) (⟨d,.makeFunc fn first caps,ty,pos,Am,g⟩:Oper)).run P w = .ok (.value (.func fn (first.toList.map (ev env)).toArray (caps.toList.map (ev env)).toArray)) w :=
 (by simp [execOp,Instr.makeFunc,aCz,← Array.toList_map])
theorem XU (hT:Be P T) {src dst:Nat} {k k':IntKind} {x:Operand} {a:Int} (hk:look dst T.iks=some k) (hk':look src T.iks=some k')  (hx:ev env x = .int k' a) :
 (execOp (ev env) (⟨d,.convert src dst x,ty,pos,Am,g⟩:Oper)).run P w = .ok (.value (.int k (k.wrap a))) w :=
 (by simp [execOp,hx,convert,aCz,BG (hT.ik hk),BG (hT.ik hk'),Conv.intToInt])
theorem bF {t:Nat} {x:Operand} {b:Bool}  (hx:ev env x = .bool b) :
 (execOp (ev env) (⟨d,.unOp .not t x,ty,pos,Am,g⟩:Oper)).run P w = .ok (.value (.bool !b)) w :=
 (by simp [execOp,hx,Op.unary,aCz])
theorem Zo {t:Nat} {x:Operand} {kk:IntKind} {a:Int}  (hx:ev env x = .int kk a) :
 (execOp (ev env) (⟨d,.unOp .neg t x,ty,pos,Am,g⟩:Oper)).run P w = .ok (.value (.int kk (kk.wrap (0 - a)))) w :=
 (by simp [execOp,hx,Op.unary,Op.intArith,aCz])
def aAD (op:BinOp) (k:IntKind) (a b:Int):Option Value:=match op with
 | .add=>some (.int k (k.wrap (a+b)))
 | .sub=>some (.int k (k.wrap (a - b)))
 | .mul=>some (.int k (k.wrap (a*b)))
 | .eql=>some (.bool (a == b))
 | .neq=>some (.bool (a != b))
 | .lss=>some (.bool (decide (a < b)))
 | .leq=>some (.bool (decide (a≤b)))
 | .gtr=>some (.bool (decide (b < a)))
 | .geq=>some (.bool (decide (b≤a)))
 | _=>none
theorem r_bin {op:BinOp} {t t':Nat} {x y:Operand} {kk:IntKind} {a b:Int} {v:Value}  (hx:ev env x = .int kk a) (hy:ev env y = .int kk b) (hv:aAD op kk a b=some v) :
 (execOp (ev env) (⟨d,.binOp op t x y t',ty,pos,Am,g⟩:Oper)).run P w = .ok (.value v) w :=
 (by
  cases op <;> simp [aAD] at hv <;> subst hv <;>
   simp [execOp,hx,hy,eqGuard,binOp,Op.intArith,Op.intCmp,aCz])
theorem rK {t t':Nat} {x y:Operand} {kk:IntKind} {a b:Int} (hb:b≠0)  (hx:ev env x = .int kk a) (hy:ev env y = .int kk b) :
 (execOp (ev env) (⟨d,.binOp .quo t x y t',ty,pos,Am,g⟩:Oper)).run P w = .ok (.value (.int kk (kk.wrap (a.tdiv b)))) w :=
 (by simp [execOp,hx,hy,eqGuard,binOp,Op.intDiv,hb,aCz])
theorem Lx {t t':Nat} {x y:Operand} {kk:IntKind} {a b:Int} (hb:b≠0)  (hx:ev env x = .int kk a) (hy:ev env y = .int kk b) :
 (execOp (ev env) (⟨d,.binOp .rem t x y t',ty,pos,Am,g⟩:Oper)).run P w = .ok (.value (.int kk (a.tmod b))) w :=
 (by simp [execOp,hx,hy,eqGuard,binOp,Op.intDiv,hb,aCz])
theorem sL {t t':Nat} {x y:Operand} {kk k2:IntKind} {a b:Int} (hb:0≤b)  (hx:ev env x = .int kk a) (hy:ev env y = .int k2 b) :
 (execOp (ev env) (⟨d,.binOp .shl t x y t',ty,pos,Am,g⟩:Oper)).run P w = .ok (.value (.int kk (kk.wrap (a*2 ^ (min b.toNat kk.bits))))) w :=
 (by simp [execOp,hx,hy,eqGuard,binOp,Op.shift,show ¬ b < 0 by omega,aCz])
theorem rU {t t':Nat} {x y:Operand} {kk k2:IntKind} {a b:Int} (hb:0≤b)  (hx:ev env x = .int kk a) (hy:ev env y = .int k2 b) :
 (execOp (ev env) (⟨d,.binOp .shr t x y t',ty,pos,Am,g⟩:Oper)).run P w = .ok (.value (.int kk (a.fdiv (2 ^ (min b.toNat kk.bits))))) w :=
 (by simp [execOp,hx,hy,eqGuard,binOp,Op.shift,show ¬ b < 0 by omega,aCz])
theorem fW {op:BinOp} {t t':Nat} {x y:Operand} {kk:IntKind} {a b:Int} {v:Value} (hv:(Op.intBits op kk a b).run P w = .ok v w) (hop:op = .and∨op = .or∨op = .xor)  (hx:ev env x = .int kk a) (hy:ev env y = .int kk b) :
 (execOp (ev env) (⟨d,.binOp op t x y t',ty,pos,Am,g⟩:Oper)).run P w = .ok (.value v) w :=
 (by rcases hop with rfl | rfl | rfl <;> simp [execOp,hx,hy,eqGuard,binOp,hv,aCz])
def s9:List (Nat × Int):=[(0,1),(1,2),(2,4),(3,8),(4,16),(5,32),(6,64),(7,128),(8,256),(9,512),(10,1024),(11,2048),(12,4096),(13,8192),(14,16384),(15,32768),(16,65536),(17,131072),(18,262144),(19,524288),(20,1048576),(21,2097152),(22,4194304),(23,8388608),(24,16777216),(25,33554432),(26,67108864),(27,134217728),(28,268435456),(29,536870912),(30,1073741824),(31,2147483648),(32,4294967296),(33,8589934592),(34,17179869184),(35,34359738368),(36,68719476736),(37,137438953472),(38,274877906944),(39,549755813888),(40,1099511627776),(41,2199023255552),(42,4398046511104),(43,8796093022208),(44,17592186044416),(45,35184372088832),(46,70368744177664),(47,140737488355328),(48,281474976710656),(49,562949953421312),(50,1125899906842624),(51,2251799813685248),(52,4503599627370496),(53,9007199254740992),(54,18014398509481984),(55,36028797018963968),(56,72057594037927936),(57,144115188075855872),(58,288230376151711744),(59,576460752303423488),(60,1152921504606846976),(61,2305843009213693952),(62,4611686018427387904),(63,9223372036854775808)]
theorem pS:s9=(List.range 64).map fun k=>(k,(2:Int) ^ k):=by rfl
theorem XK {α:Type} {f:Nat→Nat} {h:Nat→α} {k:Nat} {x:α} {l:List Nat} (hk:look k (l.map fun i=>(f i,h i))=some x):∃ i∈l,f i=k∧h i=x:=by
 have:=look_mem hk;obtain ⟨i,hi,he⟩:=List.mem_map.1 this;simp only [Prod.mk.injEq] at he;exact ⟨i,hi,he.1,he.2⟩
def cH (kk:IntKind) (c p:Int):Prop:=0≤c∧(2:Int) ^ (min c.toNat kk.bits)=p
theorem PV {kk:IntKind} {c p:Int} (h0:decide (0≤c)=true) (h1:Nat.ble c.toNat kk.bits=true) (hp:look c.toNat s9=some p):cH kk c p:=by
 rw [pS] at hp;obtain ⟨i,_,h3,h4⟩:=XK (f:=fun k=>k) (h:=fun k=>(2:Int) ^ k) hp;have:=aDu h1;refine ⟨of_decide_eq_true h0,?_⟩;rw [Nat.min_eq_left this,← h4];have h3:i=c.toNat:=h3;rw [h3]
theorem Xh {t t':Nat} {x y:Operand} {kk k2:IntKind} {a c p:Int} (hx:ev env x = .int kk a) (hy:ev env y = .int k2 c) (hp:cH kk c p) :
 (execOp (ev env) (⟨d,.binOp .shr t x y t',ty,pos,Am,g⟩:Oper)).run P w = .ok (.value (.int kk (a / p))) w:=by
 obtain ⟨hc,rfl⟩:=hp;rw [rU hc hx hy,Int.fdiv_eq_ediv_of_nonneg _ (aDb (Int.pow_pos (by decide)))]
theorem XL {t t':Nat} {x y:Operand} {kk k2:IntKind} {a c p:Int} (hx:ev env x = .int kk a) (hy:ev env y = .int k2 c) (hp:cH kk c p) :
 (execOp (ev env) (⟨d,.binOp .shl t x y t',ty,pos,Am,g⟩:Oper)).run P w = .ok (.value (.int kk (kk.wrap (a*p)))) w:=by
 obtain ⟨hc,rfl⟩:=hp;rw [sL hc hx hy]
def Zd:List (Nat × Int):=[(1,2),(3,4),(7,8),(15,16),(31,32),(63,64),(127,128),(255,256),(511,512),(1023,1024),(2047,2048),(4095,4096),(8191,8192),(16383,16384),(32767,32768),(65535,65536),(131071,131072),(262143,262144),(524287,524288),(1048575,1048576),(2097151,2097152),(4194303,4194304),(8388607,8388608),(16777215,16777216),(33554431,33554432),(67108863,67108864),(134217727,134217728),(268435455,268435456),(536870911,536870912),(1073741823,1073741824),(2147483647,2147483648),(4294967295,4294967296),(8589934591,8589934592),(17179869183,17179869184),(34359738367,34359738368),(68719476735,68719476736),(137438953471,137438953472),(274877906943,274877906944),(549755813887,549755813888),(1099511627775,1099511627776),(2199023255551,2199023255552),(4398046511103,4398046511104),(8796093022207,8796093022208),(17592186044415,17592186044416),(35184372088831,35184372088832),(70368744177663,70368744177664),(140737488355327,140737488355328),(281474976710655,281474976710656),(562949953421311,562949953421312),(1125899906842623,1125899906842624),(2251799813685247,2251799813685248),(4503599627370495,4503599627370496),(9007199254740991,9007199254740992),(18014398509481983,18014398509481984),(36028797018963967,36028797018963968),(72057594037927935,72057594037927936),(144115188075855871,144115188075855872),(288230376151711743,288230376151711744),(576460752303423487,576460752303423488),(1152921504606846975,1152921504606846976),(2305843009213693951,2305843009213693952),(4611686018427387903,4611686018427387904),(9223372036854775807,9223372036854775808)]
theorem bN:Zd=(List.range 63).map fun k=>(2 ^ (k+1) - 1,(2:Int) ^ (k+1)):=by rfl
theorem XO {t t':Nat} {x y:Operand} {a m:Int} {p:Int} (hx:ev env x = .int .u64 a) (hy:ev env y = .int .u64 m) (hm0:decide (0≤m)=true) (hk:look m.toNat Zd=some p) (h0:0≤a) (h1:a < 18446744073709551616) :
 (execOp (ev env) (⟨d,.binOp .and t x y t',ty,pos,Am,g⟩:Oper)).run P w = .ok (.value (.int .u64 (a % p))) w:=by
 refine fW ?_ (.inl rfl) hx hy;have hm0:=of_decide_eq_true hm0;rw [bN] at hk;obtain ⟨k',hr,hm,hp⟩:=XK hk;simp only [List.mem_range] at hr;generalize hk':k'+1=k at hm hp
 have hm:(2:Int) ^ k - 1=m:=by
  have:((2 ^ k - 1:Nat):Int)=m:=by rw [hm];omega
  rw [← this];have:1≤2 ^ k:=Nat.one_le_two_pow;simp [Int.natCast_sub this]
 subst hp hm;obtain ⟨n,rfl⟩:=aDy h0
 have h2:((2:Int) ^ k - 1)=((2 ^ k - 1:Nat):Int):=by
  have:1≤2 ^ k:=Nat.one_le_two_pow;simp [Int.natCast_sub this]
 have h3:2 ^ k - 1 < 2 ^ 64:=by
  have:2 ^ k≤2 ^ 64:=Nat.pow_le_pow_right (by decide) (by omega);have:1≤2 ^ k:=Nat.one_le_two_pow;omega
 have hn:n < 2 ^ 64:=by omega
 have he:(BitVec.ofInt 64 (n:Int) &&& BitVec.ofInt 64 (((2 ^ k - 1:Nat)):Int)).toNat=n % 2 ^ k:=by
  rw [BitVec.toNat_and,BitVec.ofInt_natCast,BitVec.ofInt_natCast,BitVec.toNat_ofNat,BitVec.toNat_ofNat,Nat.mod_eq_of_lt hn,Nat.mod_eq_of_lt h3,Nat.and_two_pow_sub_one_eq_mod]
 show (pure (Value.int .u64 (IntKind.u64.wrap ((BitVec.ofInt 64 (n:Int) &&& BitVec.ofInt 64 ((2:Int) ^ k - 1)).toNat:Int))):Sem Value).run P w=_;rw [h2,he,aDW];have hlt:n % 2 ^ k < 2 ^ 64:=Nat.lt_of_le_of_lt (Nat.mod_le _ _) hn
 have:IntKind.u64.wrap ((n % 2 ^ k:Nat):Int)=((n % 2 ^ k:Nat):Int):=by
  simp only [IntKind.wrap,IntKind.signed,IntKind.bits];simp only [Bool.false_and,Bool.false_eq_true,if_false];exact Int.emod_eq_of_lt (by omega) (by simpa using (by exact_mod_cast hlt:((n % 2 ^ k:Nat):Int) < ((2 ^ 64:Nat):Int)))
 rw [this];simp
theorem wrap_small {n:Int} (h0:0≤n) (h1:n < 18446744073709551616):IntKind.u64.wrap n=n:=by
 have:IntKind.u64.wrap n=n % 18446744073709551616:=by simp [IntKind.wrap,IntKind.signed,IntKind.bits]
 rw [this];omega
theorem WE {t t':Nat} {x y:Operand} {kk k2:IntKind} {a c:Int} (s:Nat) (hx:ev env x = .int kk a) (hy:ev env y = .int k2 c) (hc:c=s) (hs:s≤kk.bits) :
 (execOp (ev env) (⟨d,.binOp .shl t x y t',ty,pos,Am,g⟩:Oper)).run P w = .ok (.value (.int kk (kk.wrap (a*2 ^ s)))) w:=by
 subst hc;rw [sL (by omega) hx hy];simp [Nat.min_eq_left hs]
theorem iJ {t t':Nat} {x y:Operand} {kk k2:IntKind} {a c:Int} (s:Nat) (hx:ev env x = .int kk a) (hy:ev env y = .int k2 c) (hc:c=s) (hs:s≤kk.bits) :
 (execOp (ev env) (⟨d,.binOp .shr t x y t',ty,pos,Am,g⟩:Oper)).run P w = .ok (.value (.int kk (a / 2 ^ s))) w:=by
 subst hc;rw [rU (by omega) hx hy,Int.fdiv_eq_ediv_of_nonneg _ (aDb (Int.pow_pos (by decide)))];simp [Nat.min_eq_left hs]
theorem aAu {t t':Nat} {x y:Operand} {a b:Int} (s:Nat) (k:Int) (hx:ev env x = .int .u64 a) (hy:ev env y = .int .u64 b) (ha:a=k*2 ^ s) (hk:0≤k) (hb0:0≤b) (CE:b < 2 ^ s) (hab:a+b < 18446744073709551616) :
 (execOp (ev env) (⟨d,.binOp .or t x y t',ty,pos,Am,g⟩:Oper)).run P w = .ok (.value (.int .u64 (a+b))) w:=by
 refine fW ?_ (.inr (.inl rfl)) hx hy;obtain ⟨m,rfl⟩:=aDy hk;obtain ⟨n,rfl⟩:=aDy hb0;have fU:a=((2 ^ s*m:Nat):Int):=by rw [ha];simp [aDU]
 clear ha hx;subst fU;have hn:n < 2 ^ s:=by exact_mod_cast CE
 have hl:2 ^ s*m+n < 2 ^ 64:=by omega
 have he:(BitVec.ofInt 64 ((2 ^ s*m:Nat):Int) ||| BitVec.ofInt 64 (n:Int)).toNat=2 ^ s*m+n:=by
  rw [BitVec.toNat_or,BitVec.ofInt_natCast,BitVec.ofInt_natCast,BitVec.toNat_ofNat,BitVec.toNat_ofNat,Nat.mod_eq_of_lt (by omega),Nat.mod_eq_of_lt (by omega),Nat.two_pow_add_eq_or_of_lt hn]
 show (pure (Value.int .u64 (IntKind.u64.wrap ((BitVec.ofInt 64 ((2 ^ s*m:Nat):Int) ||| BitVec.ofInt 64 (n:Int)).toNat:Int))):Sem Value).run P w=_;rw [he,aDW,wrap_small (by omega) (by omega)];simp
theorem DZ (n:Int):0≤IntKind.u64.wrap n∧IntKind.u64.wrap n < 18446744073709551616:=by
 have:IntKind.u64.wrap n=n % 18446744073709551616:=by simp [IntKind.wrap,IntKind.signed,IntKind.bits]
 rw [this];omega
theorem V8 {t t':Nat} {x y:Operand} {a b:Int} (hx:ev env x = .int .u64 a) (hy:ev env y = .int .u64 b) (h0:0≤a) (h1:a < 18446744073709551616) (h2:0 < b) :
 (execOp (ev env) (⟨d,.binOp .quo t x y t',ty,pos,Am,g⟩:Oper)).run P w = .ok (.value (.int .u64 (a / b))) w:=by
 rw [rK (by omega) hx hy,Int.tdiv_eq_ediv_of_nonneg h0,wrap_small (aDc h0 (by omega)) (Int.lt_of_le_of_lt (Int.ediv_le_self _ h0) h1)]
theorem XY {t t':Nat} {x y:Operand} {a b:Int} (hx:ev env x = .int .u64 a) (hy:ev env y = .int .u64 b) (h0:0≤a) (h1:a < 18446744073709551616) (h2:0 < b) :
 (execOp (ev env) (⟨d,.binOp .rem t x y t',ty,pos,Am,g⟩:Oper)).run P w = .ok (.value (.int .u64 (a % b))) w:=by
 rw [Lx (by omega) hx hy,aDv h0]
theorem Xu {n:Int} (h0:-9223372036854775808≤n) (h1:n < 9223372036854775808):IntKind.i64.wrap n=n:=by
 simp only [IntKind.wrap,IntKind.signed,IntKind.bits];simp;split <;> omega
theorem XP {t t':Nat} {x y:Operand} {a b:Int} (hx:ev env x = .int .i64 a) (hy:ev env y = .int .i64 b) (h0:0≤a) (h1:a < 9223372036854775808) (h2:0 < b) :
 (execOp (ev env) (⟨d,.binOp .quo t x y t',ty,pos,Am,g⟩:Oper)).run P w = .ok (.value (.int .i64 (a / b))) w:=by
 have:=aDc h0 (aDb h2);have:=Int.ediv_le_self b h0;rw [rK (by omega) hx hy,Int.tdiv_eq_ediv_of_nonneg h0,Xu (by omega) (by omega)]
theorem Wu {t t':Nat} {x y:Operand} {a b:Int} (hx:ev env x = .int .i64 a) (hy:ev env y = .int .i64 b) (h0:0≤a) (h2:0 < b) :
 (execOp (ev env) (⟨d,.binOp .rem t x y t',ty,pos,Am,g⟩:Oper)).run P w = .ok (.value (.int .i64 (a % b))) w:=by
 rw [Lx (by omega) hx hy,aDv h0]
theorem kind_bool {t:Nat} (h:kindOf P t=1):P.underlying t=some .bool:=by
 unfold kindOf at h
 split at h <;> first | assumption | (split at h <;> first | (split at h <;> simp_all) | simp_all) | simp_all
theorem pT {t:Nat} (h:kindOf P t=2):∃ e i,P.underlying t=some (.pointer e)∧P.info? e=some i∧i.size≠0:=by
 unfold kindOf at h
 split at h <;> try (simp at h;done)
 rename_i e hu;split at h
 ·rename_i i hi;split at h
  ·simp at h
  ·exact ⟨e,i,hu,hi,by assumption⟩
 ·simp at h
theorem Zp {t:Nat} (h:kindOf P t=4):∃ a,P.underlying t=some (.slice a):=by
 unfold kindOf at h
 split at h <;> first | exact ⟨_,by assumption⟩ | (split at h <;> first | (split at h <;> simp at h) | simp at h) | simp at h
theorem YM {t:Nat} (h:kindOf P t=6):P.underlying t=some .string:=by
 unfold kindOf at h
 split at h <;> first | assumption | (split at h <;> first | (split at h <;> simp at h) | simp at h) | simp at h
theorem oN (hT:Be P T) {t:Nat} {x y:Operand} {s:ByteArray} {kk:IntKind} {i:Int} (N:Nat) (f:Nat→Nat) (ht:look t T.kinds=some 6) (hx:ev env x = .string s) (hy:ev env y = .int kk i)
 (htab:((List.range N).all fun k=>match s[k]? with | some b=>Nat.beq b.toNat (f k) | none=>false)=true) (h0:0≤i) (h1:i < (N:Int)) :
 (execOp (ev env) (⟨d,.index t x y,ty,pos,Am,g⟩:Oper)).run P w = .ok (.value (.int .u8 (f i.toNat:Nat))) w:=by
 have hu:=YM (hT.kind ht);have h2:=List.all_eq_true.1 htab i.toNat (List.mem_range.2 (by omega));cases hb:s[i.toNat]? with
 | none=>rw [hb] at h2;cases h2
 | some b =>
   rw [hb] at h2;have h2:=aDT h2;simp [execOp,hx,hy,Instr.index,asIntOf,aCz,BG hu,h0,hb,h2]
theorem LQ {op:BinOp} {t t':Nat} {x y:Operand} {v:Value} (hg:(eqGuard op t x y (ev env x) (ev env y)).run P w = .ok () w) (hb:(binOp op t (ev env x) (ev env y)).run P w = .ok v w) :
 (execOp (ev env) (⟨d,.binOp op t x y t',ty,pos,Am,g⟩:Oper)).run P w = .ok (.value v) w :=
 (by simp only [execOp,aCz,hg,aDX,hb,aDW])
theorem cW (hT:Be P T) {t t':Nat} {x y:Operand} {a b:Bool} (ht:look t T.kinds=some 1)  (hx:ev env x = .bool a) (hy:ev env y = .bool b) :
 (execOp (ev env) (⟨d,.binOp .eql t x y t',ty,pos,Am,g⟩:Oper)).run P w = .ok (.value (.bool (a == b))) w :=
 LQ (by rw [hx,hy];simp [eqGuard]) (by rw [hx,hy];exact run_eql_bool w t a b (kind_bool (hT.kind ht)))
theorem cD (hT:Be P T) {t t':Nat} {x y:Operand} {a b:Bool} (ht:look t T.kinds=some 1)  (hx:ev env x = .bool a) (hy:ev env y = .bool b) :
 (execOp (ev env) (⟨d,.binOp .neq t x y t',ty,pos,Am,g⟩:Oper)).run P w = .ok (.value (.bool (a != b))) w :=
 LQ (by rw [hx,hy];simp [eqGuard]) (by rw [hx,hy];exact run_neq_bool w t a b (kind_bool (hT.kind ht)))
theorem kind_pointee {t:Nat} (h:kindOf P t=2):P.underlying t=some (.pointer (P.pointee t)):=by
 obtain ⟨e,i,hu,_,_⟩:=pT h;rw [hu];simp [Program.pointee,hu]
theorem TX (hT:Be P T) {t t':Nat} {x y:Operand} {a:Option Addr} (ht:look t T.kinds=some 2)  (hx:ev env x = .pointer a) (hy:ev env y = .pointer none) :
 (execOp (ev env) (⟨d,.binOp .eql t x y t',ty,pos,Am,g⟩:Oper)).run P w = .ok (.value (.bool a.isNone)) w :=
 LQ (by rw [hx,hy];simp [eqGuard]) (by rw [hx,hy];exact run_eql_pointer_nil w t a (kind_pointee (hT.kind ht)))
theorem T9 (hT:Be P T) {t t':Nat} {x y:Operand} {a:Option Addr} (ht:look t T.kinds=some 2)  (hx:ev env x = .pointer a) (hy:ev env y = .pointer none) :
 (execOp (ev env) (⟨d,.binOp .neq t x y t',ty,pos,Am,g⟩:Oper)).run P w = .ok (.value (.bool (!a.isNone))) w :=
 LQ (by rw [hx,hy];simp [eqGuard]) (by rw [hx,hy];exact run_neq_pointer_nil w t a (kind_pointee (hT.kind ht)))
theorem tk_flat {t:Nat} {k:Nat} (h:NM P t=some (false,k)):(∀ w:World,(isAgg t).run P w = .ok false w)∧∃ i,P.info? t=some i∧i.size=k:=by
 unfold NM at h;split at h
 ·simp at h
 ·simp at h
 ·rename_i d' i hd1 hd2 hu hi;simp at h;refine ⟨fun w=>?_,i,hi,h⟩;simp only [isAgg,aCz,BG hu,aDX];cases d' <;> simp_all
 ·simp at h
theorem tk_agg {t:Nat} {k:Nat} (h:NM P t=some (true,k)):(∀ w:World,(isAgg t).run P w = .ok true w)∧∃ i,P.info? t=some i∧i.size=k:=by
 unfold NM at h;split at h
 ·rename_i fs i hu hi;simp at h;exact ⟨fun w=>by simp [isAgg,aCz,BG hu],i,hi,h⟩
 ·rename_i m e i hu hi;simp at h;exact ⟨fun w=>by simp [isAgg,aCz,BG hu],i,hi,h⟩
 ·simp at h
 ·simp at h
theorem Gx {t b off k:Nat} {cs:List Value} {E:TypeId} {fr:Nat × Nat} (ht:NM P t=some (true,k)) (hb:w.heap[b]?=some (.cells cs.toArray E fr)) (hl:off+k≤cs.length) :
 (loadVar t ⟨b,off,none⟩).run P w = .ok (.agg ((cs.drop off).take k).toArray) w:=by
 obtain ⟨ha,i,hi,rfl⟩:=tk_agg ht;have hlen:((cs.drop off).take i.size).length=i.size:=by simp;omega
 have h:=run_loadCells_list (P:=P) w ⟨b,off,none⟩ ((cs.drop off).take i.size) (fun j v hj=>by
  rw [Em]
  have hj':j < i.size:=by
   rcases aDL j i.size with h' | h'
   ·exact h'
   ·rw [aDY (by omega)] at hj;cases hj
  rw [aDz,if_pos hj',List.getElem?_drop] at hj;simp [World.cell?,hb,hj])
 rw [hlen] at h;simp [loadVar,aCz,ha,sizeOf,CD hi,h]
theorem IW {t b off:Nat} {cs:List Value} {E:TypeId} {fr:Nat × Nat} {v:Value} (ht:NM P t=some (false,1)) (hb:w.heap[b]?=some (.cells cs.toArray E fr)) (hc:cs[off]?=some v) :
 (loadVar t ⟨b,off,none⟩).run P w = .ok v w:=by
 have hcell:w.cell? ⟨b,off,none⟩=some v:=by simp [World.cell?,hb,hc]
 simp [loadVar,aCz,(tk_flat ht).1,load,Sem.run,hcell]
theorem r_load (hT:Be P T) {t b off:Nat} {x:Operand} {cs:List Value} {E:TypeId} {fr:Nat × Nat} {nw:Bool} {f:Obj→List Br} {v:Value} (ht:look t T.tks=some (false,1)) 
 (hp:ev env x = .pointer (some ⟨b,off,none⟩)) (hH:FC H w) (hA:At H b (.cells cs.toArray E fr) nw f) (hc:cs[off]?=some v) :
 (execOp (ev env) (⟨d,.load t x,ty,pos,Am,g⟩:Oper)).run P w = .ok (.value v) w :=
 (by simp [execOp,hp,Instr.loadAt,Instr.sureAddr,aCz,IW (hT.tk ht) (hH _ hA.mem) hc])
inductive Dk (cs:List Value):Nat→Nat→List Value→Prop
 | nil {off:Nat}:Dk cs off 0 []
 | cons {off m:Nat} {v:Value} {vs:List Value}:cs[off]?=some v→Dk cs (off+1) m vs→Dk cs off (m+1) (v :: vs)
theorem Dk.eq {cs:List Value} {off m:Nat} {vs:List Value} (h:Dk cs off m vs):off+m≤cs.length+(if m=0 then off else 0)∧(cs.drop off).take m=vs:=by
 induction h with
 | nil=>simp
 | @cons off m v vs hc _ ih =>
   have hlt:off < cs.length:=by rcases aDL off cs.length with h | h;exact h;rw [aDY h] at hc;cases hc
   obtain ⟨h1,h2⟩:=ih;refine ⟨?_,?_⟩
   ·simp;split at h1 <;> omega
   ·rw [aD0 hlt,List.take_succ_cons,h2];rw [aC3 hlt] at hc;cases hc;rfl
theorem Dk.le {cs:List Value} {off m:Nat} {vs:List Value} (h:Dk cs off (m+1) vs):off+(m+1)≤cs.length:=by have:=h.eq.1;simpa using this
theorem Fm (hT:Be P T) {t b off m:Nat} {x:Operand} {cs vs:List Value} {E:TypeId} {fr:Nat × Nat} {nw:Bool} {f:Obj→List Br} (ht:look t T.tks=some (true,m+1)) 
 (hp:ev env x = .pointer (some ⟨b,off,none⟩)) (hH:FC H w) (hA:At H b (.cells cs.toArray E fr) nw f) (hc:Dk cs off (m+1) vs) :
 (execOp (ev env) (⟨d,.load t x,ty,pos,Am,g⟩:Oper)).run P w = .ok (.value (.agg vs.toArray)) w :=
 (by simp [execOp,hp,Instr.loadAt,Instr.sureAddr,aCz,Gx (hT.tk ht) (hH _ hA.mem) hc.le,hc.eq.2])
def putAt (cs:List Value) (off:Nat) (vs:List Value):List Value:=cs.take off ++ vs ++ cs.drop (off+vs.length)
inductive Ak:List Value→Nat→List Value→List Value→Prop
 | nil {cs:List Value}:Ak cs 0 [] cs
 | skip {c:Value} {cs vs cs':List Value} {off:Nat}:Ak cs off vs cs'→Ak (c :: cs) (off+1) vs (c :: cs')
 | cons {c v:Value} {cs vs cs':List Value}:Ak cs 0 vs cs'→Ak (c :: cs) 0 (v :: vs) (v :: cs')
theorem Ak.eq {cs vs cs':List Value} {off:Nat} (h:Ak cs off vs cs'):putAt cs off vs=cs'∧off+vs.length≤cs.length:=by
 induction h with
 | nil=>simp [putAt]
 | skip _ ih=>obtain ⟨h1,h2⟩:=ih;unfold putAt at *;refine ⟨?_,by simp;omega⟩;rw [← h1];simp [Nat.add_right_comm]
 | cons _ ih=>obtain ⟨h1,h2⟩:=ih;unfold putAt at *;refine ⟨?_,by simp at h2 ⊢;omega⟩;rw [← h1];simp
theorem PS {t b off:Nat} {cs vs:List Value} {E:TypeId} {v:Value} (hsz:∃ i,P.info? t=some i∧i.size=vs.length) (hv:v.cells=vs.toArray) (h1:∀ x∈vs,x.oneCell'=true)
 (hb:w.heap[b]?=some (.cells cs.toArray E (0,0))) (hl:off+vs.length≤cs.length) :
 (storeVar t ⟨b,off,none⟩ v).run P w = .ok () (w.setRow b (putAt cs off vs).toArray):=by
 obtain ⟨i,hi,hs⟩:=hsz;have h:=run_storeCells_at P b off E vs 0 cs.toArray w hb (by simpa using hl) h1;simp only [Nat.add_zero] at h;simp [storeVar,aCz,sizeOf,CD hi,hv,hs,h,putAt]
theorem St.row (hs:St wb D H w) {b:Nat} {cs:Array Value} {E:TypeId} {nw:Bool} {f:Obj→List Br} (hA:At H b (.cells cs E (0,0)) nw f) (cs':Array Value):St wb D (f (.cells cs' E (0,0))) (w.setRow b cs') :=
 hs.put hA rfl rfl rfl (by simp [World.setRow]) (fun k hk=>by simp [World.setRow,Array.getElem?_modify,Ne.symm hk]) (setRow_heap w b cs cs' E (0,0) (hs.get hA))
theorem xs_store (hT:Be P T) {t b off:Nat} {x y:Operand} {cs cs':List Value} {E:TypeId} {nw:Bool} {f:Obj→List Br} {v:Value} (ht:look t T.tks=some (false,1)) (hw:Ax ops env g=true)
 (hp:ev env x = .pointer (some ⟨b,off,none⟩)) (hv:ev env y=v) (h1:v.oneCell'=true) (hs:St wb D H w) (hA:At H b (.cells cs.toArray E (0,0)) nw f) (hc:Ak cs off [v] cs')
 (k:∀ w',St wb D (f (.cells cs'.toArray E (0,0))) w'→XS P ops QE n rest (Bf env d undef) w') :
 XS P ops QE n (⟨d,.store t x y,ty,pos,Am,g⟩ :: rest) env w:=by
 have hcells:v.cells=[v].toArray:=by cases v <;> first | rfl | simp [Value.oneCell'] at h1
 have hrun:=PS (P:=P) (off:=off) (by have:=(tk_flat (hT.tk ht)).2;simpa using this) hcells (by simpa using h1) (hs.get hA) hc.eq.2;rw [hc.eq.1] at hrun;exact XS.P8 hw (by simp [execOp,hp,hv,Instr.storeAt,Instr.sureAddr,aCz,hrun]) (k _ (hs.row hA _))
theorem UR (hT:Be P T) {t b off m:Nat} {x y:Operand} {cs vs cs':List Value} {E:TypeId} {nw:Bool} {f:Obj→List Br} (ht:look t T.tks=some (true,m)) (hw:Ax ops env g=true)
 (hp:ev env x = .pointer (some ⟨b,off,none⟩)) (hv:ev env y = .agg vs.toArray) (hm:Nat.beq vs.length m=true) (h1:vs.all Value.oneCell'=true) (hs:St wb D H w) (hA:At H b (.cells cs.toArray E (0,0)) nw f) (hc:Ak cs off vs cs')
 (k:∀ w',St wb D (f (.cells cs'.toArray E (0,0))) w'→XS P ops QE n rest (Bf env d undef) w') :
 XS P ops QE n (⟨d,.store t x y,ty,pos,Am,g⟩ :: rest) env w:=by
 have hlen:=aDT hm;subst hlen;have hrun:=PS (P:=P) (v := .agg vs.toArray) (off:=off) (by have:=(tk_agg (hT.tk ht)).2;simpa using this) rfl (List.all_eq_true.1 h1) (hs.get hA) hc.eq.2;rw [hc.eq.1] at hrun;exact XS.P8 hw (by simp [execOp,hp,hv,Instr.storeAt,Instr.sureAddr,aCz,hrun]) (k _ (hs.row hA _))
theorem VG {t:Nat} {cs:Array Value} (h:zeroOf P t=some cs):∃ z,z.cells=cs∧∀ w:World,(zeroValue t).run P w = .ok z w:=by
 unfold zeroOf at h;obtain ⟨i,hi,h⟩:=Option.bind_eq_some_iff.1 h;obtain ⟨z,hz,rfl⟩:=Option.map_eq_some_iff.1 h;exact ⟨z,rfl,fun w=>by simp [zeroValue,aCz,CD hi,hz]⟩
theorem xs_alloc (hT:Be P T) {t:Nat} {cs:List Value} (ht:look t T.zs=some cs) (hw:Ax ops env g=true) (hs:St wb D H w)
 (k:∀ b w',w'.heap.size=w.heap.size+1→St wb D ((b,.cells cs.toArray t,true) :: H) w'→XS P ops QE n rest (Bf env d (.pointer (some ⟨b,0,none⟩))) w') :
 XS P ops QE n (⟨d,.alloc t,ty,pos,Am,g⟩ :: rest) env w:=by
 obtain ⟨z,hz,hr⟩:=VG (hT.z ht);refine XS.value hw (w':={ w with heap:=w.heap.push (.cells cs.toArray t) }) (v := .pointer (some ⟨w.heap.size,0,none⟩)) ?_ (k w.heap.size _ (by simp) (hs.alloc _));simp only [execOp,Instr.alloc,aCz,hr,aDX];simp [newVar,newRow,newObj,Sem.run,aCz,hz]
theorem xs_box {t:Nat} {x:Operand} {cs:List Value} (hw:Ax ops env g=true) (hx:(ev env x).cells=cs.toArray) (hs:St wb D H w)
 (k:∀ b w',w'.heap.size=w.heap.size+1→St wb D ((b,.cells cs.toArray t,true) :: H) w'→XS P ops QE n rest (Bf env d (.pointer (some ⟨b,0,none⟩))) w') :
 XS P ops QE n (⟨d,.box t x,ty,pos,Am,g⟩ :: rest) env w:=by
 refine XS.value hw (w':={ w with heap:=w.heap.push (.cells cs.toArray t) }) (v := .pointer (some ⟨w.heap.size,0,none⟩)) ?_ (k w.heap.size _ (by simp) (hs.alloc _));simp [execOp,Instr.box,newVar,newRow,newObj,Sem.run,aCz,hx]
def KG (pl:List (Nat × Nat)):List Value→List (Nat × Value)→Option (List Value)
 | cs,[]=>some cs
 | cs,(i,v) :: rest=>match pl[i]? with
   | none=>none
   | some (off,size)=>bif Nat.beq v.cells.size size && Nat.ble (off+size) cs.length then KG pl (putAt cs off v.cells.toList) rest else none
theorem UF:∀ (vs:List Value) (j off:Nat) (cs:List Value),off+j+vs.length≤cs.length →
 ((vs.zipIdx j).foldl (fun (cs:Array Value) (x:Value × Nat)=>cs.setIfInBounds (off+x.2) x.1) cs.toArray)=(putAt cs (off+j) vs).toArray
 | [],j,off,cs,h=>by simp [putAt]
 | v :: vs,j,off,cs,h=>by
   simp only [List.zipIdx_cons,aDZ,List.setIfInBounds_toArray];rw [UF vs (j+1) off (cs.set (off+j) v) (by simp at h ⊢;omega)];congr 1;unfold putAt;have hlt:off+j < cs.length:=by simp at h;omega
   rw [List.set_eq_take_append_cons_drop,if_pos hlt];have h1:(List.take (off+j) cs).length=off+j:=by simp;omega
   have e1:List.take (off+(j+1)) (List.take (off+j) cs ++ v :: List.drop (off+j+1) cs)=List.take (off+j) cs ++ [v]:=by
    rw [List.take_append,h1,aDM (by omega)];have:off+(j+1) - (off+j)=1:=by omega
    rw [this];simp
   have e2:List.drop (off+(j+1)+vs.length) (List.take (off+j) cs ++ v :: List.drop (off+j+1) cs)=List.drop (off+j+(vs.length+1)) cs:=by
    rw [List.drop_append,h1,List.drop_of_length_le (by omega)];have:off+(j+1)+vs.length - (off+j)=vs.length+1:=by omega
    rw [this];simp only [aDV,List.drop_succ_cons,List.drop_drop];congr 1;omega
   rw [e1,e2];simp
theorem fill_build' (pl:List (Nat × Nat)) (place:Nat→Option (Nat × Nat)) (Tv:∀ i x,pl[i]?=some x→place i=some x):∀ (parts:List (Nat × Value)) (cs cs':List Value),KG pl cs parts=some cs'→Instr.fill place cs.toArray parts=some cs'.toArray
 | [],cs,cs',h=>by simp [KG] at h;subst h;rfl
 | (i,v) :: rest,cs,cs',h=>by
   simp only [KG] at h;cases hp:pl[i]? with
   | none=>simp [hp] at h
   | some os =>
     obtain ⟨off,size⟩:=os;simp only [hp] at h;cases hb:(Nat.beq v.cells.size size && Nat.ble (off+size) cs.length)
     ·rw [hb] at h;cases h
     ·rw [hb] at h;simp only [cond_true] at h;simp only [aDB] at hb;have h1:=aDT hb.1;have h2:=aDu hb.2;subst h1;have hf:=UF v.cells.toList 0 off cs (by simpa using h2);simp only [Nat.add_zero] at hf;have ih:=fill_build' pl place Tv rest _ _ h;simp only [Instr.fill,Tv i _ hp];rw [if_neg (by simp;omega)];rw [← ih];congr 1;rw [← hf,← Array.foldl_toList,Array.toList_zipIdx]
theorem Zv (pl:List (Nat × Nat)) (parts:List (Nat × Value)) (cs cs':List Value) (h:KG pl cs parts=some cs'):Instr.fill (pl.toArray[·]?) cs.toArray parts=some cs'.toArray :=
 fill_build' pl _ (fun i x h=>by simpa using h) parts cs cs' h
inductive CZ (env:Env) (pl:List (Nat × Nat)):List Value→List (Nat × Operand)→List Value→Prop
 | nil {cs:List Value}:CZ env pl cs [] cs
 | one {cs WV cs':List Value} {i off:Nat} {x:Operand} {rest:List (Nat × Operand)} {v:Value}:pl[i]?=some (off,1)→ev env x=v→v.oneCell'=true→Ak cs off [v] WV→CZ env pl WV rest cs'→CZ env pl cs ((i,x) :: rest) cs'
 | agg {cs WV cs' vs:List Value} {i off size:Nat} {x:Operand} {rest:List (Nat × Operand)}:pl[i]?=some (off,size)→ev env x = .agg vs.toArray→Nat.beq vs.length size=true→Ak cs off vs WV→CZ env pl WV rest cs'→CZ env pl cs ((i,x) :: rest) cs'
theorem CZ.eq {env:Env} {pl:List (Nat × Nat)} {cs cs':List Value} {parts:List (Nat × Operand)} (h:CZ env pl cs parts cs'):KG pl cs (parts.map fun x=>(x.1,ev env x.2))=some cs':=by
 induction h with
 | nil=>rfl
 | @one cs WV cs' i off x rest v hp hv h1 hput _ ih =>
   have hc:v.cells=#[v]:=by cases v <;> first | rfl | simp [Value.oneCell'] at h1
   have h2:=hput.eq;simp only [aC2,KG,hp,hv,hc];have:Nat.ble (off+1) cs.length=true:=Nat.ble_eq_true_of_le (by simpa using h2.2);simp [this,h2.1,ih]
 | @agg cs WV cs' vs i off size x rest hp hv hs hput _ ih =>
   have hs:=aDT hs;subst hs;have h2:=hput.eq;simp only [aC2,KG,hp,hv,Value.cells];have:Nat.ble (off+vs.length) cs.length=true:=Nat.ble_eq_true_of_le h2.2;simp [this,h2.1,ih]
theorem Th (hT:Be P T) {t:Nat} {parts:Array (Nat × Operand)} {pl:List (Nat × Nat)} {zs cs:List Value} (hp:look t T.pls=some pl) (ht:look t T.zs=some zs) (hb:CZ env pl zs parts.toList cs) :
 (execOp (ev env) (⟨d,.build t parts,ty,pos,Am,g⟩:Oper)).run P w = .ok (.value (.agg cs.toArray)) w:=by
 have hp:=hT.pl hp
 have aAG:P.built t (parts.map fun (i,x)=>(i,ev env x)).toList=some cs.toArray:=by
  have hz:=hT.z ht;unfold zeroOf at hz;obtain ⟨i,hi,hz⟩:=Option.bind_eq_some_iff.1 hz;obtain ⟨z,hz,JJ⟩:=Option.map_eq_some_iff.1 hz;unfold placesOf at hp;split at hp
  ·rename_i fs hu;unfold Program.built;simp only [hi,hu,hz,hp,JJ,Array.toList_map];exact Zv pl _ _ _ hb.eq
  ·cases hp
 simp only [execOp,aCz,run_build w t _ _ aAG,aDX,aDW]
def Ni (len size:Nat):List (Nat × Nat):=(List.range len).map fun i=>(i*size,size)
def Ra (zs:List Value) (m:Nat):List Value:=(List.range m).map fun i=>zs.getD (i % zs.length) undef
theorem IQ (hT:Be P T) {t e size bytes len:Nat} {parts:Array (Nat × Operand)} {zs cs:List Value} (hw:Ax ops env g=true) (Co:look t T.sls=some (e,size,bytes)) (hz:look e T.zs=some zs) (hzl:Nat.beq zs.length size=true) (PA:Nat.ble (len*size) 16777216=true) (hps:Nat.beq (len*size) 0=false)
 (hb:CZ env (Ni len size) (Ra zs (len*size)) parts.toList cs) (hs:St wb D H w)
 (k:∀ b w',w'.heap.size=w.heap.size+1→St wb D ((b,.cells cs.toArray e,true) :: H) w'→XS P ops QE n rest (Bf env d (.slice (some ⟨b,0,none⟩) len len)) w') :
 XS P ops QE n (⟨d,.buildSlice t len parts,ty,pos,Am,g⟩ :: rest) env w:=by
 have Co:=hT.sl Co;have hz:=hT.z hz;have hzl:=aDT hzl;have PA:=aDu PA;have hps:len*size≠0:=Nat.ne_of_beq_eq_false hps;unfold XD at Co;split at Co
 ·rename_i e' hu;obtain ⟨i,hi,hx⟩:=Option.map_eq_some_iff.1 Co;simp only [Prod.mk.injEq] at hx;obtain ⟨rfl,rfl,rfl⟩:=hx;unfold zeroOf at hz;obtain ⟨i',hi',hz⟩:=Option.bind_eq_some_iff.1 hz;rw [hi] at hi';cases hi';obtain ⟨z,hz,JJ⟩:=Option.map_eq_some_iff.1 hz
  have aAk:Instr.fill (fun j=>some (j*i.size,i.size)) ((Array.range (len*i.size)).map (z.cells[· % z.cells.size]!)) (parts.toList.map fun x=>(x.1,ev env x.2))=some cs.toArray:=by
   have e1:(Array.range (len*i.size)).map (z.cells[· % z.cells.size]!)=(Ra zs (len*i.size)).toArray:=by
    apply Array.toList_inj.1;rw [Array.toList_map,JJ];simp only [Array.toList_range,Ra];apply List.map_congr_left;intro j hj
    have hpos:0 < zs.length:=by
     rw [hzl];rcases aD2 i.size with h | h
     ·rw [h,Nat.mul_zero] at hps;exact absurd rfl hps
     ·exact h
    have hlt:j % zs.length < zs.length:=Nat.mod_lt _ hpos;simp [getElem!_def,aDI,hlt]
   rw [e1]
   exact fill_build' (Ni len i.size) _ (fun j x hj=>by
    simp only [Ni,aC8] at hj;obtain ⟨q,hq,rfl⟩:=Option.map_eq_some_iff.1 hj
    have:q=j:=by
     have:=List.getElem?_range (n:=len) (i:=j) (by rcases aDL j len with h | h;exact h;rw [aDY (by simpa using h)] at hq;cases hq);rw [this] at hq;cases hq;rfl
    rw [this]) _ _ _ hb.eq
  refine XS.value hw (w':={ w with heap:=w.heap.push (.cells cs.toArray e') }) (v := .slice (some ⟨w.heap.size,0,none⟩) len len) ?_ (k w.heap.size _ (by simp) (hs.alloc _));have aBW:¬ (len*i.size > 2 ^ 24):=by omega
  simp only [execOp,aCz,Instr.buildSlice,BG hu,aDX,sizeOf,CD hi,aDW,if_neg aBW,if_neg hps];simp [zeroValue,aCz,CD hi,hz,aAk,newRow,newObj,Sem.run]
 ·cases Co
theorem mX {o:Oper} {a:Act} {f:FuncId} {args:Array Value} {Q:Value→World→Prop} {K:Act→World→Prop} {QA:Exit→Act→World→Prop} (hr:(execOp a.eval o).run P w=(callFunc f args).run P w)
 (hc:AO P f args w Q) (hk:∀ v w',Q v w'→K (a.put o.dst v) w'):o.wp P a w K QA:=by
 unfold Oper.wp;rw [hr];rcases hc with ⟨h1,h2⟩ | ⟨v,w',h1,h2⟩
 ·rw [h1];simp only [Oper.upon];refine h2.mono fun e w' ⟨v,he,hv⟩=>?_;subst he;exact hk v w' hv
 ·rw [h1];exact hk v w' h2
theorem Kz {c:Operand} {args:Array Operand} {ats:Array TypeId} {f:FuncId} {first caps:List Value} {Q:Value→World→Prop} (hw:Ax ops env g=true) (hf:ev env c = .func (.func f) first.toArray caps.toArray)
 (hc:AO P f (first ++ args.toList.map (ev env) ++ caps).toArray w Q) (k:∀ v w',Q v w'→XS P ops QE n rest (Bf env d v) w') :
 XS P ops QE n (⟨d,.call { callee := .value c,args:=args,argTypes:=ats },ty,pos,Am,g⟩ :: rest) env w :=
 XS.upon hw fun a hfit hd K hK=>by
  refine mX (f:=f) (args:=(first ++ args.toList.map (ev env) ++ caps).toArray) ?_ hc fun v w' hv=>hK _ _ ⟨_,hfit.put (OP hd) v,k v w' hv⟩;rw [hfit.eval]
  have e:first.toArray ++ args.map (ev env) ++ caps.toArray=(first ++ args.toList.map (ev env) ++ caps).toArray:=by
   apply Array.toList_inj.1;simp
  simp only [execOp,resolve,hf,Deferred.ofValue,aCz,aDW,aDX,invoke,e]
theorem Wk (hT:Be P T) {x:Operand} {t:Nat} {ats:Array TypeId} {ad:Option Addr} {m c:Nat} (hat:ats[0]?=some t) (ht:look t T.kinds=some 4)  (hx:ev env x = .slice ad m c) :
 (execOp (ev env) (⟨d,.call { callee := .builtin .len,args:=#[x],argTypes:=ats },ty,pos,Am,g⟩:Oper)).run P w = .ok (.value (.int .i64 m)) w :=
 (by
  obtain ⟨e,hu⟩:=Zp (hT.kind ht);simp [execOp,resolve,aCz,invoke,builtin,Builtin.len_,hat,hx,BG hu,goInt])
theorem Wl {x y:Operand} {ats:Array TypeId} {kk:IntKind} {a b:Int} (hx:ev env x = .int kk a) (hy:ev env y = .int kk b) :
 (execOp (ev env) (⟨d,.call { callee := .builtin .max,args:=#[x,y],argTypes:=ats },ty,pos,Am,g⟩:Oper)).run P w = .ok (.value (.int kk (if b > a then b else a))) w :=
 (by simp [execOp,resolve,aCz,invoke,builtin,Builtin.max_,Builtin.max2,hx,hy])
theorem GL {t e size bytes:Nat} (h:XD P t=some (e,size,bytes)):P.underlying t=some (.slice e)∧∃ i,P.info? e=some i∧i.size=size∧i.bytes=bytes:=by
 unfold XD at h;split at h
 ·rename_i e' hu;obtain ⟨i,hi,hx⟩:=Option.map_eq_some_iff.1 h;simp only [Prod.mk.injEq] at hx;obtain ⟨rfl,rfl,rfl⟩:=hx;exact ⟨hu,i,hi,rfl,rfl⟩
 ·cases h
theorem BA (hT:Be P T) {t e size bytes b off m c:Nat} {x y:Operand} {kk:IntKind} {i:Int} (ht:look t T.sls=some (e,size,bytes)) (hx:ev env x = .slice (some ⟨b,off,none⟩) m c) (hy:ev env y = .int kk i) (h0:0≤i) (h1:i < (m:Int)) :
 (execOp (ev env) (⟨d,.indexAddr t x y,ty,pos,Am,g⟩:Oper)).run P w = .ok (.value (.pointer (some ⟨b,off+i.toNat*size,none⟩))) w:=by
 obtain ⟨hu,ii,hi,hs,_⟩:=GL (hT.sl ht);simp [execOp,hx,hy,Instr.indexAt,asIntOf,aCz,BG hu,sizeOf,CD hi,hs,h0,h1,Em]
theorem Iz {v:Value} {l h:Nat} {kk:IntKind} {c:BoundsCode} (hv:v = .int kk l) (h1:l≤h):(Instr.sliceBound v h c).run P w = .ok l w:=by
 subst hv;simp [Instr.sliceBound,asIntOf,aCz,h1]
def Lo (env:Env) (lo:Option Operand) (l:Nat):Prop:=match lo with | none=>l=0 | some o=>∃ kk,ev env o = .int kk l
def Hi (env:Env) (hi:Option Operand) (m h:Nat):Prop:=match hi with | none=>h=m | some o=>∃ kk,ev env o = .int kk h
theorem kH (hT:Be P T) {t e size bytes b off m c:Nat} {x:Operand} {lo hi:Option Operand} {l h:Nat} (ht:look t T.sls=some (e,size,bytes)) (hx:ev env x = .slice (some ⟨b,off,none⟩) m c)
 (hlo:Lo env lo l) (hhi:Hi env hi m h) (h1:l≤h) (h2:h≤c) (h3:l < c) :
 (execOp (ev env) (⟨d,.slice t x lo hi none,ty,pos,Am,g⟩:Oper)).run P w = .ok (.value (.slice (some ⟨b,off+l*size,none⟩) (h - l) (c - l))) w:=by
 obtain ⟨hu,ii,hi',hs,_⟩:=GL (hT.sl ht);have hne:c≠l:=by omega
 have aG:¬ (c - l=0):=by omega
 cases hi with
 | some o2 =>
   obtain ⟨k2,hhi⟩:=hhi;cases lo with
   | some o1 =>
     obtain ⟨k1,hlo⟩:=hlo;simp [execOp,Instr.sliceAt,aCz,BG hu,hx,Instr.slice,Instr.sliceBounds,Iz hhi h2,Iz hlo h1,sizeOf,CD hi',hs,hne,aG,Em]
   | none =>
     have hl:l=0:=hlo;subst hl;simp [execOp,Instr.sliceAt,aCz,BG hu,hx,Instr.slice,Instr.sliceBounds,Iz hhi h2,sizeOf,CD hi',hs,hne,aG,Em]
 | none =>
   have hh:h=m:=hhi;subst hh;cases lo with
   | some o1 =>
     obtain ⟨k1,hlo⟩:=hlo;simp [execOp,Instr.sliceAt,aCz,BG hu,hx,Instr.slice,Instr.sliceBounds,Iz hlo h1,sizeOf,CD hi',hs,hne,aG,Em]
   | none =>
     have hl:l=0:=hlo;subst hl;simp [execOp,Instr.sliceAt,aCz,BG hu,hx,Instr.slice,Instr.sliceBounds,sizeOf,CD hi',hs,hne,aG,Em]
theorem TM {op:Op} {v v':Value} (hw:Ax ops env g=true) (hr:(execOp (ev env) (⟨d,op,ty,pos,Am,g⟩:Oper)).run P w = .ok (.value v) w) (he:v=v') (k:XS P ops QE n rest (Bf env d v') w) :
 XS P ops QE n (⟨d,op,ty,pos,Am,g⟩ :: rest) env w:=XS.value hw hr (he ▸ k)
theorem XC.mono {QE':Exit→Env→World→Prop} {c:Code} (h:XC P QE n c env w) (hq:∀ e env w,QE e env w→QE' e env w):XC P QE' n c env w:=fun a hf =>
 wp_mono (h a hf) fun e a w ⟨env,hf,hQ⟩=>⟨env,hf,hq _ _ _ hQ⟩
def He (env:Env) (l:List (Nat × Value)):Prop:=∀ p∈l,env p.1=p.2
def Ou (l:List (Nat × Value)) (env:Env):Env:=l.foldr (fun p e=>upd e p.1 p.2) env
theorem Ag:He env []:=fun _ h=>by cases h
theorem A8 {t:Nat} {v:Value} {l:List (Nat × Value)} (h:env t=v) (h':He env l):He env ((t,v) :: l):=fun p hp=>by
 rcases aCu.1 hp with rfl | hp
 ·exact h
 ·exact h' p hp
theorem Iq {l:List (Nat × Value)} (h:He env l):Ou l env=env:=by
 induction l with
 | nil=>rfl
 | cons p l ih =>
   have hl:=ih fun q hq=>h q (aCy _ hq);show upd (Ou l env) p.1 p.2=env;rw [hl];funext i;by_cases e:i=p.1
   ·rw [e,Ep,h p aCw]
   ·rw [FN _ _ e]
def A0 {σ:Type} (vals:σ→List (Nat × Value)) (I:σ→World→Prop) (μ:σ→Nat) (s:σ) (QE:Exit→Env→World→Prop):Exit→Env→World→Prop
 | .normal,env,w=>∃ s',μ s' < μ s∧He env (vals s')∧I s' w
 | e,env,w=>QE e env w
theorem BH {σ:Type} (vals:σ→List (Nat × Value)) (I:σ→World→Prop) (μ:σ→Nat) (s0:σ) {c:Code} (h0:He env (vals s0)) (hI:I s0 w)
 (round:∀ s env w,I s w→XC P (A0 vals I μ s QE) n c (Ou (vals s) env) w):XC P QE n (.loop c) env w :=
 xc_loop (fun m env w=>∃ s,μ s=m∧He env (vals s)∧I s w) (μ s0) ⟨s0,rfl,h0,hI⟩ fun m env w ⟨s,hm,ha,hi⟩=>by
  have h:=round s env w hi;rw [Iq ha] at h;intro a hf;refine wp_mono (h a hf) fun e a w ⟨env,hf,hq⟩=>⟨env,hf,?_⟩;cases e with
  | normal=>obtain ⟨s',h1,h2,h3⟩:=hq;exact ⟨μ s',by omega,s',rfl,h2,h3⟩
  | _=>exact hq
theorem A2 {σ:Type} {vals:σ→List (Nat × Value)} {I:σ→World→Prop} {μ:σ→Nat} {s:σ} (s':σ) (h1:μ s' < μ s) (h2:He env (vals s')) (h3:I s' w):A0 vals I μ s QE .normal env w:=⟨s',h1,h2,h3⟩
theorem dB {σ:Type} {vals:σ→List (Nat × Value)} {I:σ→World→Prop} {μ:σ→Nat} {s:σ} {id:Nat} (h:QE (.exit id) env w):A0 vals I μ s QE (.exit id) env w:=h
theorem iO {σ:Type} {vals:σ→List (Nat × Value)} {I:σ→World→Prop} {μ:σ→Nat} {s:σ} (h:QE .ret env w):A0 vals I μ s QE .ret env w:=h
def Aa {σ:Type} (id:Nat) (vals:σ→List (Nat × Value)) (I:σ→World→Prop) (QE:Exit→Env→World→Prop):Exit→Env→World→Prop
 | .exit id',env,w=>if id'=id then ∃ s,He env (vals s)∧I s w else QE (.exit id') env w
 | .normal,env,w=>∃ s,He env (vals s)∧I s w
 | e,env,w=>QE e env w
theorem BM {σ:Type} {id:Nat} (vals:σ→List (Nat × Value)) (I:σ→World→Prop) {c:Code} (h:XC P (Aa id vals I QE) n c env w) (k:∀ s env w,I s w→QE .normal (Ou (vals s) env) w):XC P (AR id QE) n c env w :=
 h.mono fun e env w hq=>by
  cases e with
  | exit id' =>
    simp only [Aa] at hq;simp only [AR];split
    ·rw [if_pos ‹_›] at hq;obtain ⟨s,ha,hi⟩:=hq;have:=k s env w hi;rwa [Iq ha] at this
    ·rw [if_neg ‹_›] at hq;exact hq
  | normal =>
    obtain ⟨s,ha,hi⟩:=hq;have:=k s env w hi;rwa [Iq ha] at this
  | _=>exact hq
theorem Au {σ:Type} {id:Nat} {vals:σ→List (Nat × Value)} {I:σ→World→Prop} (s:σ) (h2:He env (vals s)) (h3:I s w):Aa id vals I QE (.exit id) env w:=by
 simp only [Aa,if_true];exact ⟨s,h2,h3⟩
theorem oE {σ:Type} {id:Nat} {vals:σ→List (Nat × Value)} {I:σ→World→Prop} (h:QE .ret env w):Aa id vals I QE .ret env w:=h
def Ae {σ:Type} (vals:σ→List (Nat × Value)) (I:σ→World→Prop) (QE:Exit→Env→World→Prop):Exit→Env→World→Prop
 | .normal,env,w=>∃ s,He env (vals s)∧I s w
 | e,env,w=>QE e env w
theorem B9 {σ:Type} (vals:σ→List (Nat × Value)) (I:σ→World→Prop) {c y:Code} (h:XC P (Ae vals I QE) n c env w) (k:∀ s env w,I s w→XC P QE n y (Ou (vals s) env) w):XC P (AY P n y QE) n c env w :=
 h.mono fun e env w hq=>by
  cases e with
  | normal =>
    obtain ⟨s,ha,hi⟩:=hq;have:=k s env w hi;rw [Iq ha] at this;exact this
  | _=>exact hq
theorem AQ {σ:Type} {vals:σ→List (Nat × Value)} {I:σ→World→Prop} (s:σ) (h2:He env (vals s)) (h3:I s w):Ae vals I QE .normal env w:=⟨s,h2,h3⟩
theorem K2 (s:Nat) {l:List Oper} {v:Value} (hb:env s=v) (k:XS P ops QE n l (upd env s v) w):XS P ops QE n l env w :=
 XS.Zc (env':=upd env s v) (fun i=>by
  by_cases e:i=s
  ·subst e;rw [Ep,hb]
  ·rw [FN _ _ e]) k
theorem BV {op:Op} {j s:Nat} {want b:Bool} (hj:(ops[j]?).bind (·.dst)=some s) (hb:env s = .bool b) (k:∀ c,b=c→XS P ops QE n (⟨d,op,ty,pos,Am,some (j,want)⟩ :: rest) (upd env s (.bool c)) w) :
 XS P ops QE n (⟨d,op,ty,pos,Am,some (j,want)⟩ :: rest) env w :=
 XS.Zc (env':=upd env s (.bool b)) (fun i=>by
  by_cases e:i=s
  ·subst e;rw [Ep,hb]
  ·rw [FN _ _ e]) (k b rfl)
theorem tC {rs:List ResultVar} {vs:List Value} {Q:Value→World→Prop} (hr:KD P env w rs vs) (hq:Q (packed vs) w):A9 P rs Q .ret env w:=⟨vs,hr,hq⟩
theorem oT {rs:List ResultVar} {vs:List Value} {Q:Value→World→Prop} (hr:KD P env w rs vs) (hq:Q (packed vs) w):A9 P rs Q .normal env w:=⟨vs,hr,hq⟩
theorem MM:KD P env w [] []:=trivial
theorem Sv {r:ResultVar} {rs:List ResultVar} {v:Value} {vs:List Value} (h:PW P env w v r) (h':KD P env w rs vs):KD P env w (r :: rs) (v :: vs):=⟨h,h'⟩
theorem ZE {t:Nat} {v:Value} (h:env t=v):PW P env w v (.tmp t):=h
theorem U9 (hT:Be P T) {a t b off m:Nat} {cs vs:List Value} {E:TypeId} {fr:Nat × Nat} {nw:Bool} {f:Obj→List Br} (ht:look t T.tks=some (true,m+1)) (hp:env a = .pointer (some ⟨b,off,none⟩)) (hH:FC H w)
 (hA:At H b (.cells cs.toArray E fr) nw f) (hc:Dk cs off (m+1) vs):PW P env w (.agg vs.toArray) (.cell a t):=⟨_,hp,by rw [Gx (hT.tk ht) (hH _ hA.mem) hc.le,hc.eq.2]⟩
theorem Wh (hT:Be P T) {a t b off:Nat} {cs:List Value} {v:Value} {E:TypeId} {fr:Nat × Nat} {nw:Bool} {f:Obj→List Br} (ht:look t T.tks=some (false,1)) (hp:env a = .pointer (some ⟨b,off,none⟩)) (hH:FC H w)
 (hA:At H b (.cells cs.toArray E fr) nw f) (hc:cs[off]?=some v):PW P env w v (.cell a t):=⟨_,hp,IW (hT.tk ht) (hH _ hA.mem) hc⟩
theorem kG {id:Nat} {l:List Oper} (hok:l.all (SJ n)=true) (h:XS P l.toArray QE n l env w):XC P QE n (.region id l.toArray false) env w:=fun a hf =>
 wp_region_lit (h hok a hf)
class Nx (A:Prop) (B:outParam Prop):Prop where
 h:B→A
instance nx1:Nx (XS P ops QE n [] env w) (QE .normal env w):=⟨XS.nil⟩
instance nx2 {y:Code}:Nx (AY P n y QE .normal env w) (XC P QE n y env w):=⟨Dw⟩
instance nx3 {x y:Code}:Nx (XC P QE n (.seq x y) env w) (XC P (AY P n y QE) n x env w):=⟨Ah⟩
instance nx4 {id:Nat} {c:Code}:Nx (XC P QE n (.block id c) env w) (XC P (AR id QE) n c env w):=⟨mH⟩
instance nx5 {id:Nat}:Nx (AR id QE .normal env w) (QE .normal env w):=⟨WR⟩
instance nx6:Nx (XC P QE n .ret env w) (QE .ret env w):=⟨aAH⟩
instance nx7 {y:Code}:Nx (AY P n y QE .ret env w) (QE .ret env w):=⟨mK⟩
instance nx8 {id:Nat}:Nx (AR id QE .ret env w) (QE .ret env w):=⟨kF⟩
instance nx9:Nx (XC P QE n .skip env w) (QE .normal env w):=⟨tK⟩
instance aCa {id:Nat}:Nx (XC P QE n (.exit id) env w) (QE (.exit id) env w):=⟨vH⟩
instance aCk {y:Code} {id:Nat}:Nx (AY P n y QE (.exit id) env w) (QE (.exit id) env w):=⟨jP⟩
instance aCf {σ:Type} {vals:σ→List (Nat × Value)} {I:σ→World→Prop} {μ:σ→Nat} {s:σ} {id:Nat}:Nx (A0 vals I μ s QE (.exit id) env w) (QE (.exit id) env w):=⟨dB⟩
instance aCd {σ:Type} {vals:σ→List (Nat × Value)} {I:σ→World→Prop} {μ:σ→Nat} {s:σ}:Nx (A0 vals I μ s QE .ret env w) (QE .ret env w):=⟨iO⟩
instance aCm {σ:Type} {id:Nat} {vals:σ→List (Nat × Value)} {I:σ→World→Prop}:Nx (Aa id vals I QE .ret env w) (QE .ret env w):=⟨oE⟩
instance aCb {id:Nat}:Nx (AR id QE (.exit id) env w) (QE .normal env w):=⟨bE⟩
theorem Aq {id:Nat} {l:List Oper} (h:XS P l.toArray QE n l env w) (hok:l.all (SJ n)=true:=by exact rfl):XC P QE n (.region id l.toArray false) env w:=kG hok h
theorem qY {id id':Nat} (h:QE (.exit id') env w) (hne:Nat.beq id' id=false:=by exact rfl):AR id QE (.exit id') env w:=Ya hne h
theorem FP {c:Operand} {x y:Code} (h:XC P QE n x env w) (hc:ev env c = .bool true:=by exact rfl):XC P QE n (.cond c x y) env w:=Yv hc h
theorem Eb {c:Operand} {x y:Code} (h:XC P QE n y env w) (hc:ev env c = .bool false:=by exact rfl):XC P QE n (.cond c x y) env w:=Xo hc h
end
def IM (o:Oper):Bool:=match o.op with
 | .load .. => true
 | _=>false
def qR (ops:Array Oper) (E:List Nat):Bool :=
 E.all fun e=>match ops[e]? with
  | none=>false
  | some oe=>(List.range ops.size).all fun i=>E.contains i || (match ops[i]? with
   | some oi=>!IM oi || oe.after.any fun x=>Region.binds .any x && x.on == i
   | none=>true)
def SE (E:List Nat) (H:List Br) (listed:Array Bool) (w:World):Prop:=(E.all fun e=>!listed.getD e false)=true→FC H w
def M5 (P:Program) (ops:Array Oper) (Q:Exit→Act→World→Prop) (S:Array Bool→World→Prop):Nat→Array Bool→Act→World→Prop
 | 0,listed,a,w=>Region.ready .any ops listed=[]∧Q .normal a w
 | fuel+1,listed,a,w =>
   (Region.ready .any ops listed=[]→Q .normal a w) ∧
   ∀ i∈Region.ready .any ops listed,wpOp P ops Q i (fun a' w'=>S (listed.setIfInBounds i true) w'∧M5 P ops Q S fuel (listed.setIfInBounds i true) a' w') a w
section
variable {P : Program} {ops : Array Oper} {Q : Exit → Act → World → Prop} {E : List Nat} {H : List Br}
theorem NL {S:Array Bool→World→Prop}:∀ (fuel:Nat) (listed:Array Bool) (a:Act) (w:World),M5 P ops Q S fuel listed a w→wpAny P .any ops Q fuel listed a w
 | 0,_,_,_,h=>h
 | fuel+1,_,_,_,h=>⟨h.1,fun i hi=>wpOp_mono (fun a' w' h'=>NL fuel _ a' w' h'.2) (h.2 i hi)⟩
theorem P6 {listed:Array Bool} {i:Nat} (hi:i∉E):(E.all fun e=>!(listed.setIfInBounds i true).getD e false)=E.all fun e=>!listed.getD e false:=by
 have:∀ e∈E,(!(listed.setIfInBounds i true).getD e false)=!listed.getD e false:=fun e he=>by
  rw [getD_set_ne false (show i≠e from fun h=>hi (by rw [h];exact he))]
 rw [Bool.eq_iff_iff];simp only [List.all_eq_true];exact ⟨fun h e he=>(this e he) ▸ h e he,fun h e he=>(this e he).symm ▸ h e he⟩
def Ze (P:Program) (ops:Array Oper) (H:List Br) (o:Oper) (v:Value) (a:Act):Prop :=
 (Region.wanted o (yielded ops a.tmps)=true∧∀ w,(IM o=true→FC H w)→(execOp a.eval o).run P w = .ok (.value v) w) ∨
 (Region.wanted o (yielded ops a.tmps)=false∧v=undef)
theorem W7 {i:Nat} {oi:Oper} {v:Value} (hi:ops[i]?=some oi) (hE:i∉E) (aB0:qR ops E=true) (hsel:Region.noSelect ops=true)
 (hQ:∀ c a w,Q (.panic c) (a.put oi.dst v) w→Q (.panic c) a w) :
 ∀ (fuel:Nat) (listed:Array Bool) (a:Act) (w:World),listed.size=ops.size →
  (∀ j oj,ops[j]?=some oj→j≠i→listed.getD j true=false→(∀ e∈oj.after,Region.binds .any e=true→e.on≠i)→oi.apart ops oj=true) →
  i∈Region.ready .any ops listed→Ze P ops H oi v a→SE E H listed w→(IM oi=true→(E.all fun e=>!listed.getD e false)=true) →
  M5 P ops Q (SE E H) fuel (listed.setIfInBounds i true) (a.put oi.dst v) w→M5 P ops Q (SE E H) (fuel+1) listed a w:=by
 have hilt:i < ops.size:=(Array.getElem?_eq_some_iff.1 hi).1;intro fuel
 induction fuel with
 | zero =>
   intro listed a w hsz _ hr hy hS UM hH;refine ⟨fun h=>(by rw [h] at hr;cases hr),fun j hj=>?_⟩;by_cases hji:j=i
   ·subst hji;refine (show YieldsIf P ops (fun w=>IM oi=true→FC H w) oi v a from hy).wpOp hi (fun hl=>hS (UM hl)) ⟨?_,hH⟩;intro h;rw [P6 hE] at h;exact hS h
   ·have:=ready_mono hj hji;rw [hH.1] at this;cases this
 | succ fuel ih =>
   intro listed a w hsz hfree hr hy hS UM hH;have hy':YieldsIf P ops (fun w=>IM oi=true→FC H w) oi v a:=hy;refine ⟨fun h=>(by rw [h] at hr;cases hr),fun j hj=>?_⟩;by_cases hji:j=i
   ·subst hji;refine hy'.wpOp hi (fun hl=>hS (UM hl)) ⟨?_,hH⟩;intro h;rw [P6 hE] at h;exact hS h
   ·have h1:=hH.2 j (ready_mono hj hji);obtain ⟨yT,oj,M9,hall⟩:=mem_ready.1 hj
    have aCO:listed.getD i false=false:=by
     have h0:=(mem_ready.1 hr).1;simp [Array.getD,hsz,hilt] at h0 ⊢;exact h0
    have hnot:∀ e∈oj.after,Region.binds .any e=true→e.on≠i:=fun e he hb heq=>by
     have h1:=hall e he hb;rw [heq,aCO] at h1;cases h1
    have wG:IM oi=true→j∉E:=fun hl wG=>by
     have hf:=List.all_eq_true.1 aB0 j wG;simp only [M9,List.all_eq_true,List.mem_range] at hf;have hf:=hf i hilt;simp only [hi,hl,aDk,Bool.false_or,Bool.or_eq_true,List.contains_iff_mem] at hf;rcases hf with hf | hf
     ·exact hE hf
     ·obtain ⟨e,he,hb⟩:=Array.any_eq_true'.1 hf;simp only [aDB,beq_iff_eq] at hb;exact hnot e he hb.1 hb.2
    have h2:=wpOp_putIf M9 (hfree j oj M9 hji yT hnot) (fun cs b=>Region.noSelect_spec hsel i oi cs b hi) (fun cs b=>Region.noSelect_spec hsel j oj cs b M9) hQ hy' h1
    have aAO:∀ k ok,ops[k]?=some ok→k≠i→(listed.setIfInBounds j true).getD k true=false →
     (∀ e∈ok.after,Region.binds .any e=true→e.on≠i)→oi.apart ops ok=true:=fun k ok hk hki hun hno=>by
     refine hfree k ok hk hki ?_ hno;by_cases hjk:j=k
     ·subst hjk;exact yT
     ·rw [getD_set_ne true hjk] at hun;exact hun
    have hset:∀ w',SE E H ((listed.setIfInBounds i true).setIfInBounds j true) w'→SE E H (listed.setIfInBounds j true) w':=fun w' h hp=>by
     refine h ?_;rw [Array.setIfInBounds_comm _ _ (Ne.symm hji),P6 hE];exact hp
    refine wpOp_mono (fun a' w' h3=>⟨hset w' h3.2.1,ih (listed.setIfInBounds j true) a' w' (by simp [hsz]) aAO (ready_mono hr (Ne.symm hji)) h3.1 (hset w' h3.2.1) ?_ ?_⟩) h2
    ·intro hl;rw [P6 (wG hl)];exact UM hl
    ·rw [Array.setIfInBounds_comm _ _ hji];exact h3.2.2
variable {QE : Exit → Env → World → Prop} {n : Nat} {env : Env} {w wb : World} {D : Ctx} {fuel : Nat} {listed : Array Bool} {d : Option Nat} {op : Op} {ty : Nat} {pos : String} {Am : Array Edge} {g : Option (Nat × Bool)} {i : Nat} {v : Value}
def MA (QE:Exit→Env→World→Prop):Prop:=∀ c env w,¬ QE (.panic c) env w
theorem Ph {rs:List ResultVar} {R:Value→World→Prop}:MA (A9 P rs R):=fun _ _ _ h=>h
theorem Nj {y:Code} (h:MA QE):MA (AY P n y QE):=fun c env w hq=>h c env w hq
theorem MQ {id:Nat} (h:MA QE):MA (AR id QE):=fun c env w hq=>h c env w hq
theorem MB {σ:Type} {vals:σ→List (Nat × Value)} {I:σ→World→Prop} {μ:σ→Nat} {s:σ} (h:MA QE):MA (A0 vals I μ s QE):=fun c env w hq=>h c env w hq
theorem N3 {σ:Type} {id:Nat} {vals:σ→List (Nat × Value)} {I:σ→World→Prop} (h:MA QE):MA (Aa id vals I QE):=fun c env w hq=>h c env w hq
theorem N4 {σ:Type} {vals:σ→List (Nat × Value)} {I:σ→World→Prop} (h:MA QE):MA (Ae vals I QE):=fun c env w hq=>h c env w hq
theorem NO {I:Nat→Env→World→Prop} {m:Nat} (h:MA QE):MA (A1 I m QE):=fun c env w hq=>h c env w hq
def XA (P:Program) (ops:Array Oper) (E:List Nat) (H:List Br) (QE:Exit→Env→World→Prop) (n fuel:Nat) (listed:Array Bool) (env:Env) (w:World):Prop :=
 ∀ a,Fits n env a→M5 P ops (lift n QE) (SE E H) fuel listed a w
structure XH (ops:Array Oper) (E:List Nat) (QE:Exit→Env→World→Prop) (n:Nat):Prop where
 fin:qR ops E=true
 sel:Region.noSelect ops=true
 dst:ops.toList.all (SJ n)=true
 nop:MA QE
def LH (ops:Array Oper) (E:List Nat) (listed:Array Bool) (i:Nat):Bool :=
 !E.contains i && Region.free .any ops listed i && (Region.ready .any ops listed).contains i && Nat.beq listed.size ops.size && ((match ops[i]? with | some o=>!IM o | none=>true) || E.all fun e=>!listed.getD e false)
theorem xa_any (hX:XH ops E QE n) {o:Oper} (hi:ops[i]?=some o) (hc:LH ops E listed i=true) (hS:SE E H listed w)
 (hq:∀ a,Fits n env a→Ze P ops H o v a) (k:XA P ops E H QE n fuel (listed.setIfInBounds i true) (Bf env o.dst v) w):XA P ops E H QE n (fuel+1) listed env w:=by
 intro a hf;simp only [LH,hi,aDB,aDf,Bool.or_eq_true] at hc;obtain ⟨⟨⟨⟨h1,h2⟩,h3⟩,h4⟩,h5⟩:=hc;have hd:∀ t,o.dst=some t→t < n:=OP (List.all_eq_true.1 hX.dst o (by have:=Array.mem_of_getElem? hi;simpa using this));refine W7 hi (by simpa using h1) hX.fin hX.sel (fun c a w ⟨env',_,hq⟩=>(hX.nop c env' w hq).elim) fuel listed a w (aDT h4) (Region.free_spec hi h2) (by simpa using h3) (hq a hf) hS ?_ (k _ (hf.put hd v));intro hl;rcases h5 with h5 | h5
 ·rw [hl] at h5;cases h5
 ·exact h5
theorem ZN (hX:XH ops E QE n) (hi:ops[i]?=some ⟨d,op,ty,pos,Am,g⟩) (hc:LH ops E listed i=true) (hS:SE E H listed w) (hw:Ax ops env g=true)
 (hr:∀ w,(IM ⟨d,op,ty,pos,Am,g⟩=true→FC H w)→(execOp (ev env) (⟨d,op,ty,pos,Am,g⟩:Oper)).run P w = .ok (.value v) w)
 (k:XA P ops E H QE n fuel (listed.setIfInBounds i true) (Bf env d v) w):XA P ops E H QE n (fuel+1) listed env w :=
 xa_any hX hi hc hS (fun a hf => .inl ⟨by rw [hf.wanted];exact hw,fun w hh=>by rw [hf.eval];exact hr w hh⟩) k
theorem uN (hX:XH ops E QE n) (hi:ops[i]?=some ⟨d,op,ty,pos,Am,g⟩) (hc:LH ops E listed i=true) (hS:SE E H listed w) (hw:Ax ops env g=false)
 (k:XA P ops E H QE n fuel (listed.setIfInBounds i true) (Bf env d undef) w):XA P ops E H QE n (fuel+1) listed env w :=
 xa_any hX hi hc hS (fun a hf => .inr ⟨by rw [hf.wanted];exact hw,rfl⟩) k
def AW (P:Program) (ops:Array Oper) (E:List Nat) (H:List Br) (QE:Exit→Env→World→Prop) (n fuel:Nat) (listed:Array Bool):Exit→Env→World→Prop
 | .normal,env,w=>SE E H listed w∧XA P ops E H QE n fuel listed env w
 | .outgrown,_,_=>False
 | e,env,w=>QE e env w
theorem u5 (hS:SE E H listed w) (k:XA P ops E H QE n fuel listed env w):AW P ops E H QE n fuel listed .normal env w:=⟨hS,k⟩
theorem upon_weaken {o:Oper} {a:Act} {K:Act→World→Prop} {Q Q':Exit→Act→World→Prop} (hp:∀ c a w,Q (.panic c) a w→Q' (.panic c) a w) (ho:LetsOut Q→LetsOut Q') (h:o.wp P a w K Q):o.wp P a w K Q':=by
 unfold Oper.wp at *;generalize (execOp a.eval o).run P w=r at *;cases r with
 | ok x w' =>
   cases x <;> simp only [Oper.upon] at h ⊢ <;> first
    | exact h
    | exact h.mono fun e w'' he=>by cases e <;> first | exact he | exact hp _ _ _ he | exact ho he
 | halt x w'=>cases x <;> simp only [Oper.upon] at h ⊢ <;> first | exact h | exact hp _ _ _ h
theorem aD (i:Nat) {o:Oper} (hX:XH ops E QE n) (hi:ops[i]?=some o) (hr:Region.ready .any ops listed=[i]) (h:XS P ops (AW P ops E H QE n fuel (listed.setIfInBounds i true)) n [o] env w):XA P ops E H QE n (fuel+1) listed env w:=by
 intro a hf;have hd:SJ n o=true:=List.all_eq_true.1 hX.dst o (by have:=Array.mem_of_getElem? hi;simpa using this);have h:=h (by simp [hd]) a hf;refine ⟨fun h0=>(by rw [h0] at hr;cases hr),fun j hj=>?_⟩;rw [hr] at hj;obtain rfl:j=i:=by simpa using hj
 have hp:∀ c a w,lift n (AW P ops E H QE n fuel (listed.setIfInBounds j true)) (.panic c) a w→lift n QE (.panic c) a w:=fun c a w ⟨env,hf,hq⟩=>⟨env,hf,hq⟩;have ho:LetsOut (lift n (AW P ops E H QE n fuel (listed.setIfInBounds j true)))→LetsOut (lift n QE):=fun ⟨a,w,env,hf,hq⟩=>hq.elim;unfold wpList at h;unfold wpOp;simp only [hi];split
 ·rename_i hw;rw [if_pos hw] at h;rcases h with h | ⟨h1,h2⟩
  ·refine .inl (upon_weaken hp ho (Oper.wp_mono (fun a' w' hn=>?_) h));simp only [wpList] at hn;obtain ⟨env',hf',hS,hx⟩:=hn;exact ⟨hS,hx a' hf'⟩
  ·exact .inr ⟨h1,ho h2⟩
 ·rename_i hw;rw [if_neg hw] at h;simp only [wpList] at h;obtain ⟨env',hf',hS,hx⟩:=h;exact ⟨hS,hx _ hf'⟩
theorem yD (i:Nat) (hX:XH ops E QE n) (hi:ops[i]?=some ⟨d,op,ty,pos,Am,g⟩) (hr:Region.ready .any ops listed=[i]) (h:XS P ops (AW P ops E H QE n fuel (listed.setIfInBounds i true)) n [⟨d,op,ty,pos,Am,g⟩] env w):XA P ops E H QE n (fuel+1) listed env w:=aD i hX hi hr h
theorem E4 (s:Nat) {v:Value} (hb:env s=v) (k:XA P ops E H QE n fuel listed (upd env s v) w):XA P ops E H QE n fuel listed env w:=by
 have:upd env s v=env:=funext fun i=>by
  by_cases e:i=s
  ·subst e;rw [Ep,hb]
  ·rw [FN _ _ e]
 rwa [this] at k
theorem TW (s:Nat) {b:Bool} (hb:env s = .bool b) (k:∀ c,b=c→XA P ops E H QE n fuel listed (upd env s (.bool c)) w):XA P ops E H QE n fuel listed env w:=E4 s hb (k b rfl)
theorem uT (hr:Region.ready .any ops listed=[]) (h:QE .normal env w):XA P ops E H QE n fuel listed env w:=fun a hf=>by
 cases fuel with
 | zero=>exact ⟨hr,env,hf,h⟩
 | succ k=>exact ⟨fun _=>⟨env,hf,h⟩,by rw [hr];simp⟩
theorem uF (E:List Nat) {T:MC} {id:Nat} {ops:Array Oper} (hT:Be P T) (hs:St wb D H w) (hX:XH ops E QE n) (k:XH ops E QE n→∀ w',St wb D H w'→XA P ops E H QE n ops.size (Array.replicate ops.size false) env w'):XC P QE n (.region id ops true) env w:=fun a hf =>
 wp_region_any hT.mixed (NL _ _ _ _ (k hX _ hs.drew a hf))
theorem nN (E:List Nat) (HH:List Br) {T:MC} {id:Nat} {ops:Array Oper} (hT:Be P T) (hs:St wb D H w) (hX:XH ops E QE n) (k:XH ops E QE n→∀ w',St wb D H w'→XA P ops E HH QE n ops.size (Array.replicate ops.size false) env w'):XC P QE n (.region id ops true) env w:=fun a hf =>
 wp_region_any hT.mixed (NL _ _ _ _ (k hX _ hs.drew a hf))
theorem FC.tail {e:Br} (h:FC (e :: H) w):FC H w:=fun x hx=>h x (aCy _ hx)
theorem AI (h:FC H w):SE E H listed w:=fun _=>h
theorem Ab (h:(E.all fun e=>!listed.getD e false)=false):SE E H listed w:=fun h'=>by rw [h] at h';cases h'
theorem hold_sim {H H':List Br} (h:FC H' w) (e:H'.map (fun e=>(e.1,e.2.1))=H.map (fun e=>(e.1,e.2.1))):FC H w:=fun x hx=>by
 have h1:(x.1,x.2.1)∈H'.map (fun e=>(e.1,e.2.1)):=by rw [e];exact aDF hx
 obtain ⟨y,hy,h2⟩:=List.mem_map.1 h1;have h3:=h y hy;simp only [Prod.mk.injEq] at h2;rw [h2.1,h2.2] at h3;exact h3
end
def DQ:Value→Value→Bool
 | .int _ a,.int _ b=>a == b
 | .bool a,.bool b=>a == b
 | _,_=>false
def SF:Bool→Value→Value→Bool
 | false,.int k _,.int k' _=>decide (k=k')
 | true,.bool _,.bool _=>true
 | _,_,_=>false
section
variable {P : Program}
def Ld (P : Program) (d : Nat) (fs : List Field) : Option (List (Nat × Bool)) := fs.foldr (fun f acc => match leaves P d f.type, acc, P.info? f.type with
        | some l, some r, some i => if f.name = "_" ∨ ¬ (l.all fun j => decide (j.1 < i.size)) = true then none else some (l.map (fun j => (f.offset + j.1, j.2)) ++ r)
        | _,_,_=>none) (some [])
def NR (P:Program) (t:Nat) (X:Array Value) (x:Value):Prop:=match P.underlying t with
 | some (.struct _)=>x = .agg X
 | _=>X[0]?=some x
def Rj (l:List (Nat × Bool)) (X Y:Array Value):Prop:=∀ j∈l,∃ u v,X[j.1]?=some u∧Y[j.1]?=some v∧SF j.2 u v=true
def Ht (l:List (Nat × Bool)) (X Y:Array Value):Bool:=l.all fun j=>DQ (X.getD j.1 undef) (Y.getD j.1 undef)
theorem YT (l r:List (Nat × Bool)) (X Y:Array Value):Ht (l ++ r) X Y=(Ht l X Y && Ht r X Y):=by simp [Ht]
theorem Iy {X:Array Value} {o n j:Nat} (hj:j < n) (d:Value):(X.extract o (o+n)).getD j d=X.getD (o+j) d:=by
 simp only [aDx];congr 1;rw [Array.getElem?_extract];split
 ·rfl
 ·rename_i h;rw [aDq (by omega)]
theorem getElem?_extract' {X:Array Value} {o n j:Nat} (hj:j < n):(X.extract o (o+n))[j]?=X[o+j]?:=by
 rw [Array.getElem?_extract];split
 ·rfl
 ·rename_i h;rw [aDq (by omega)]
theorem NJ:∀ (d e t:Nat) (l:List (Nat × Bool)),leaves P d t=some l→∀ (X Y:Array Value) (x y:Value) (w:World),NR P t X x→NR P t Y y→Rj l X Y →
 (Op.equalIn (d+e) t x y).run P w = .ok (Ht l X Y) w
 | 0,_,_,_,h=>by simp [leaves] at h
 | d+1,e,t,l,h=>by
   intro X Y x y w hx hy hp;have hde:d+1+e=(d+e)+1:=by omega
   rw [hde];unfold leaves at h;unfold NR at hx hy;split at h
   ·rename_i k hu;simp at h;subst h;rw [hu] at hx hy;obtain ⟨u,v,h1,h2,h3⟩:=hp _ (List.mem_singleton.2 rfl);simp only [hx] at h1;simp only [hy] at h2;cases h1;cases h2;cases x <;> cases y <;> simp [SF] at h3
    ·subst h3;simp only [Op.equalIn,aCz,BG hu,aDX,aDW];simp [Ht,DQ,aDx,hx,hy]
   ·rename_i hu;simp at h;subst h;rw [hu] at hx hy;obtain ⟨u,v,h1,h2,h3⟩:=hp _ (List.mem_singleton.2 rfl);simp only [hx] at h1;simp only [hy] at h2;cases h1;cases h2;cases x <;> cases y <;> simp [SF] at h3
    ·simp only [Op.equalIn,aCz,BG hu,aDX,aDW];simp [Ht,DQ,aDx,hx,hy]
   ·rename_i fs hu;rw [hu] at hx hy;simp only at hx hy;subst hx;subst hy;split at h
    ·cases h
    ·rename_i hst;have hfo:P.fieldsOf t=fs:=by simp [Program.fieldsOf,hu]
     rw [run_equalIn_struct w (d+e) t X Y (by rw [hfo];exact hu) (by simpa using hst),hfo]
     have key:∀ (fl:List Field) (l:List (Nat × Bool)),Ld P d fl=some l→Rj l X Y→(Op.eqFields (d+e) X Y fl).run P w = .ok (Ht l X Y) w:=by
      intro fl
      induction fl with
      | nil=>intro l hl _;simp [Ld] at hl;subst hl;simp [Op.eqFields,Ht]
      | cons f fl ih =>
        intro l hl hp;unfold Ld at hl;simp only [List.foldr_cons] at hl;split at hl
        ·rename_i lf r i h1 h2 h3;split at hl
         ·cases hl
         ·rename_i hc;simp only [not_or,Decidable.not_not] at hc;obtain ⟨hname,hall⟩:=hc;simp at hl;subst hl;have hlt:∀ j∈lf,j.1 < i.size:=fun j hj=>by have:=List.all_eq_true.1 hall j hj;simpa using this
          have xB:Rj r X Y:=fun j hj=>hp j (aDE _ hj)
          have Tv:Rj lf (X.extract f.offset (f.offset+i.size)) (Y.extract f.offset (f.offset+i.size)):=fun j hj=>by
           rw [getElem?_extract' (hlt j hj),getElem?_extract' (hlt j hj)];exact hp (f.offset+j.1,j.2) (aDC _ (aDF (f:=fun j=>(f.offset+j.1,j.2)) hj))
          have hpart:∀ (Z:Array Value),(∀ j∈lf,∃ u,Z[f.offset+j.1]?=some u)→∃ z,(part f.type Z f.offset).run P w = .ok z w∧NR P f.type (Z.extract f.offset (f.offset+i.size)) z:=by
           intro Z hZ;unfold NR;cases d with
           | zero=>simp [leaves] at h1
           | succ d' =>
             unfold leaves at h1;split at h1
             ·rename_i k J1;simp at h1;subst h1;obtain ⟨u,HN⟩:=hZ _ (List.mem_singleton.2 rfl);have h0:0 < i.size:=hlt _ (List.mem_singleton.2 rfl);refine ⟨u,?_,?_⟩
              ·simp only [part,isAgg,aCz,BG J1,aDX,aDW,Bool.false_eq_true,if_false];rw [Nat.add_zero] at HN;simp [HN]
              ·rw [J1];simp only;rw [getElem?_extract' h0];exact HN
             ·rename_i J1;simp at h1;subst h1;obtain ⟨u,HN⟩:=hZ _ (List.mem_singleton.2 rfl);have h0:0 < i.size:=hlt _ (List.mem_singleton.2 rfl);refine ⟨u,?_,?_⟩
              ·simp only [part,isAgg,aCz,BG J1,aDX,aDW,Bool.false_eq_true,if_false];rw [Nat.add_zero] at HN;simp [HN]
              ·rw [J1];simp only;rw [getElem?_extract' h0];exact HN
             ·rename_i fs' J1;refine ⟨.agg (Z.extract f.offset (f.offset+i.size)),?_,?_⟩
              ·simp [part,isAgg,aCz,BG J1,sizeOf,CD h3]
              ·rw [J1]
             ·cases h1
          obtain ⟨zx,s7,hvx⟩:=hpart X (fun j hj=>by obtain ⟨u,v,a,b,c⟩:=hp (f.offset+j.1,j.2) (aDC _ (aDF (f:=fun j=>(f.offset+j.1,j.2)) hj));exact ⟨u,a⟩);obtain ⟨zy,hzy,hvy⟩:=hpart Y (fun j hj=>by obtain ⟨u,v,a,b,c⟩:=hp (f.offset+j.1,j.2) (aDC _ (aDF (f:=fun j=>(f.offset+j.1,j.2)) hj));exact ⟨v,b⟩);have ihd:=NJ d e f.type lf h1 _ _ zx zy w hvx hvy Tv
          have heq:Ht lf (X.extract f.offset (f.offset+i.size)) (Y.extract f.offset (f.offset+i.size))=Ht (lf.map fun j=>(f.offset+j.1,j.2)) X Y:=by
           unfold Ht;rw [List.all_map,Bool.eq_iff_iff];simp only [List.all_eq_true];constructor
           ·intro hh j hj;have:=hh j hj;rw [Iy (hlt j hj),Iy (hlt j hj)] at this;exact this
           ·intro hh j hj;have:=hh j hj;rw [Iy (hlt j hj),Iy (hlt j hj)];exact this
          rw [heq] at ihd;simp only [Op.eqFields,if_pos hname,aCz,s7,aDX,hzy,ihd,YT];cases hb:Ht (lf.map fun j=>(f.offset+j.1,j.2)) X Y
          ·simp
          ·simp [ih r h2 xB]
        ·cases hl
     exact key fs.toList l h hp
   ·cases h
inductive Zip:List (Nat × Bool)→List Value→List Value→Bool→Prop
 | nil {X Y:List Value}:Zip [] X Y true
 | last {j:Nat} {b r:Bool} {X Y:List Value} {u v:Value}:X[j]?=some u→Y[j]?=some v→SF b u v=true→DQ u v=r→Zip [(j,b)] X Y r
 | cons {j:Nat} {b r r':Bool} {l:List (Nat × Bool)} {X Y:List Value} {u v:Value}:X[j]?=some u→Y[j]?=some v→SF b u v=true→DQ u v=r→Zip l X Y r'→Zip ((j,b) :: l) X Y (r && r')
theorem Zip.eq {l:List (Nat × Bool)} {X Y:List Value} {r:Bool} (h:Zip l X Y r):Rj l X.toArray Y.toArray∧Ht l X.toArray Y.toArray=r:=by
 induction h with
 | nil=>exact ⟨fun j hj=>(by cases hj),rfl⟩
 | last h1 h2 h3 h4 =>
   refine ⟨fun j hj=>?_,?_⟩
   ·rcases List.mem_singleton.1 hj with rfl
    exact ⟨_,_,by simpa using h1,by simpa using h2,h3⟩
   ·simp [Ht,aDx,h1,h2,h4]
 | cons h1 h2 h3 h4 _ ih =>
   refine ⟨fun j hj=>?_,?_⟩
   ·rcases aCu.1 hj with rfl | hj
    ·exact ⟨_,_,by simpa using h1,by simpa using h2,h3⟩
    ·exact ih.1 j hj
   ·have:=ih.2;unfold Ht at this ⊢;simp [aDx,h1,h2,h4] at this ⊢;rw [this]
variable {env : Env} {w : World} {d : Option Nat} {ty : Nat} {pos : String} {Am : Array Edge} {g : Option (Nat × Bool)}
theorem Wg {t:Nat} {l:List (Nat × Bool)} (h:Ma P t l=true) {X Y:List Value} {r:Bool} (hz:Zip l X Y r) (w:World):(Op.equalIn 10000 t (.agg X.toArray) (.agg Y.toArray)).run P w = .ok r w:=by
 simp only [Ma,aDB,aDf] at h;obtain ⟨⟨h1,h2⟩,h3⟩:=h;split at h1
 ·rename_i l' hl;have:l'=l:=by simpa using h1
  subst this;split at h3
  ·rename_i fs hu;have:=NJ (P:=P) 20 9980 t l' hl X.toArray Y.toArray (.agg X.toArray) (.agg Y.toArray) w (by unfold NR;rw [hu]) (by unfold NR;rw [hu]) hz.eq.1;rw [hz.eq.2] at this;exact this
  ·cases h3
 ·cases h1
theorem Rv {t:Nat} {l:List (Nat × Bool)} (h:Ma P t l=true) (op:BinOp) (x y:Operand) (X Y:Array Value) (w:World):(eqGuard op t x y (.agg X) (.agg Y)).run P w = .ok () w:=by
 simp only [Ma,aDB,aDf] at h;exact run_eqGuard_agg w op t x y X Y h.1.2
theorem Zw {T:MC} (hT:Be P T) {t t':Nat} {l:List (Nat × Bool)} {x y:Operand} {X Y:List Value} {r:Bool} (h:look t T.flats=some l) (hx:ev env x = .agg X.toArray) (hy:ev env y = .agg Y.toArray) (hz:Zip l X Y r) :
 (execOp (ev env) (⟨d,.binOp .eql t x y t',ty,pos,Am,g⟩:Oper)).run P w = .ok (.value (.bool r)) w :=
 LQ (by rw [hx,hy];exact Rv (hT.flat h) _ _ _ _ _ _) (by rw [hx,hy,run_eql_struct,Wg (hT.flat h) hz];rfl)
theorem bA {T:MC} (hT:Be P T) {t t':Nat} {l:List (Nat × Bool)} {x y:Operand} {X Y:List Value} {r:Bool} (h:look t T.flats=some l) (hx:ev env x = .agg X.toArray) (hy:ev env y = .agg Y.toArray) (hz:Zip l X Y r) :
 (execOp (ev env) (⟨d,.binOp .neq t x y t',ty,pos,Am,g⟩:Oper)).run P w = .ok (.value (.bool (!r))) w :=
 LQ (by rw [hx,hy];exact Rv (hT.flat h) _ _ _ _ _ _) (by rw [hx,hy,run_neq_struct,Wg (hT.flat h) hz];rfl)
end
end Go.Proofs.Q0
namespace Go.Proofs.Q0
open Go
def GY:MC where
 flats:=[(41,[(0,false),(1,false),(2,false),(3,true),(4,true)]),(51,[(0,false),(1,false),(2,false),(3,false),(4,false),(5,false)]),(62,[(0,false),(1,false),(2,false)]),(64,[(0,false),(1,false),(2,false),(3,false),(4,false),(5,false),(6,false)]),(66,[(0,false),(1,false),(2,false),(3,false),(4,false),(5,false),(6,false),(7,false),(8,false),(9,true)]),(70,[(0,false),(1,false)]),(168,[(0,false),(1,false),(2,true)])]
 pls:=[(24,[(0,1),(1,1),(2,1),(3,1),(4,1)]),(41,[(0,1),(1,1),(2,1),(3,1),(4,1)]),(48,[(0,1),(1,5),(6,1)]),(51,[(0,1),(1,1),(2,1),(3,1),(4,1),(5,1)]),(62,[(0,1),(1,1),(2,1)]),(64,[(0,3),(3,1),(4,3)]),(66,[(0,7),(7,1),(8,1),(9,1)]),(70,[(0,1),(1,1)]),(72,[(0,1),(1,1),(2,2)]),(79,[(0,1),(1,1)]),(97,[(0,1)]),(108,[(0,1),(1,2),(3,1),(4,1)]),(111,[(0,1)]),(114,[(0,5),(5,1),(6,1),(7,1)]),(123,[(0,1),(1,1)]),(131,[(0,1),(1,1)]),(168,[(0,1),(1,1),(2,1)]),(170,[(0,1),(1,2),(3,10)]),(199,[(0,1),(1,1),(2,1),(3,1),(4,1)]),(276,[(0,7),(7,7),(14,1),(15,1),(16,1)]),(323,[(0,1),(1,1),(2,1),(3,1),(4,1)]),(325,[(0,1),(1,1),(2,1),(3,1),(4,1)])]
 offs:=[(24,[0,1,2,3,4]),(33,[0,1,2,3,4]),(41,[0,1,2,3,4]),(48,[0,1,6]),(51,[0,1,2,3,4,5]),(62,[0,1,2]),(64,[0,3,4]),(66,[0,7,8,9]),(70,[0,1]),(72,[0,1,2]),(79,[0,1]),(97,[0]),(108,[0,1,3,4]),(111,[0]),(114,[0,5,6,7]),(123,[0,1]),(131,[0,1]),(168,[0,1,2]),(170,[0,1,3]),(199,[0,1,2,3,4]),(276,[0,7,14,15,16]),(323,[0,1,2,3,4]),(325,[0,1,2,3,4])]
 tks:=[(2,false,1),(3,false,1),(4,false,1),(5,false,1),(22,false,1),(24,true,5),(28,false,1),(29,false,1),(33,true,5),(34,false,1),(36,false,1),(41,true,5),(43,false,1),(45,false,1),(46,false,1),(48,true,7),(49,false,1),(51,true,6),(55,false,1),(60,false,1),(62,true,3),(64,true,7),(66,true,10),(68,false,1),(70,true,2),(72,true,4),(76,false,1),(77,false,1),(79,true,2),(97,true,1),(108,true,5),(109,false,1),(111,true,1),(112,false,1),(114,true,8),(123,true,2),(128,false,1),(129,false,1),(131,true,2),(139,false,1),(168,true,3),(170,true,13),(194,false,1),(195,false,1),(196,false,1),(197,false,1),(199,true,5),(232,false,1),(238,false,1),(263,false,1),(276,true,17),(306,true,24),(315,true,20),(316,true,65),(318,false,1),(319,false,1),(320,false,1),(323,true,5),(325,true,5),(328,true,32),(329,true,64)]
 zs:=[(2,[.int .i64 0]),(3,[.int .i64 0]),(4,[.bool false]),(5,[.int .u8 0]),(22,[.int .u64 0]),(24,[.int .i64 0,.int .i64 0,.int .u64 0,.int .u64 0,.int .u64 0]),(29,[.int .i64 0]),(33,[.int .u8 0,.int .i64 0,.int .i64 0,.int .u64 0,.int .u64 0]),(34,[.slice none 0 0]),(41,[.int .i64 0,.int .i64 0,.int .u64 0,.bool false,.bool false]),(48,[.pointer none,.int .i64 0,.int .i64 0,.int .u64 0,.int .u64 0,.int .u64 0,.slice none 0 0]),(49,[.int .u32 0]),(51,[.int .i64 0,.int .u8 0,.int .i64 0,.int .u32 0,.int .u64 0,.int .i64 0]),(55,[.pointer none]),(62,[.int .u64 0,.int .u32 0,.int .u32 0]),(64,[.int .u64 0,.int .u32 0,.int .u32 0,.int .i64 0,.int .u64 0,.int .u32 0,.int .u32 0]),(66,[.int .u64 0,.int .u32 0,.int .u32 0,.int .i64 0,.int .u64 0,.int .u32 0,.int .u32 0,.int .u64 0,.int .u64 0,.bool false]),(70,[.int .i64 0,.int .u64 0]),(72,[.pointer none,.int .i64 0,.int .i64 0,.int .u64 0]),(76,[.pointer none]),(77,[.map none]),(79,[.pointer none,.map none]),(97,[.slice none 0 0]),(108,[.int .u64 0,.int .i64 0,.int .u64 0,.int .u64 0,.int .i64 0]),(109,[.pointer none]),(111,[.pointer none]),(114,[.int .u64 0,.int .i64 0,.int .u64 0,.int .u64 0,.int .i64 0,.pointer none,.map none,.int .u64 0]),(123,[.pointer none,.slice none 0 0]),(131,[.slice none 0 0,.slice none 0 0]),(139,[.nilFunc]),(168,[.int .i64 0,.int .u64 0,.bool false]),(170,[.int .i64 0,.int .i64 0,.int .u64 0,.int .u64 0,.int .u32 0,.int .u32 0,.int .i64 0,.int .u64 0,.int .u32 0,.int .u32 0,.int .u64 0,.int .u64 0,.bool false]),(199,[.pointer none,.int .i64 0,.nilFunc,.nilFunc,.nilFunc]),(263,[.int .u64 0]),(276,[.int .u64 0,.int .u32 0,.int .u32 0,.int .i64 0,.int .u64 0,.int .u32 0,.int .u32 0,.int .u64 0,.int .u32 0,.int .u32 0,.int .i64 0,.int .u64 0,.int .u32 0,.int .u32 0,.pointer none,.pointer none,.bool false]),(306,[.int .u8 0,.int .u8 0,.int .u8 0,.int .u8 0,.int .u8 0,.int .u8 0,.int .u8 0,.int .u8 0,.int .u8 0,.int .u8 0,.int .u8 0,.int .u8 0,.int .u8 0,.int .u8 0,.int .u8 0,.int .u8 0,.int .u8 0,.int .u8 0,.int .u8 0,.int .u8 0,.int .u8 0,.int .u8 0,.int .u8 0,.int .u8 0]),(315,[.int .u64 0,.int .u64 0,.int .u64 0,.int .u64 0,.int .u64 0,.int .u64 0,.int .u64 0,.int .u64 0,.int .u64 0,.int .u64 0,.int .u64 0,.int .u64 0,.int .u64 0,.int .u64 0,.int .u64 0,.int .u64 0,.int .u64 0,.int .u64 0,.int .u64 0,.int .u64 0]),(316,[.int .u8 0,.int .u8 0,.int .u8 0,.int .u8 0,.int .u8 0,.int .u8 0,.int .u8 0,.int .u8 0,.int .u8 0,.int .u8 0,.int .u8 0,.int .u8 0,.int .u8 0,.int .u8 0,.int .u8 0,.int .u8 0,.int .u8 0,.int .u8 0,.int .u8 0,.int .u8 0,.int .u8 0,.int .u8 0,.int .u8 0,.int .u8 0,.int .u8 0,.int .u8 0,.int .u8 0,.int .u8 0,.int .u8 0,.int .u8 0,.int .u8 0,.int .u8 0,.int .u8 0,.int .u8 0,.int .u8 0,.int .u8 0,.int .u8 0,.int .u8 0,.int .u8 0,.int .u8 0,.int .u8 0,.int .u8 0,.int .u8 0,.int .u8 0,.int .u8 0,.int .u8 0,.int .u8 0,.int .u8 0,.int .u8 0,.int .u8 0,.int .u8 0,.int .u8 0,.int .u8 0,.int .u8 0,.int .u8 0,.int .u8 0,.int .u8 0,.int .u8 0,.int .u8 0,.int .u8 0,.int .u8 0,.int .u8 0,.int .u8 0,.int .u8 0,.int .u8 0]),(323,[.pointer none,.int .i64 0,.nilFunc,.nilFunc,.nilFunc]),(325,[.int .i64 0,.slice none 0 0,.pointer none,.pointer none,.bool false]),(328,[.int .u8 0,.int .u8 0,.int .u8 0,.int .u8 0,.int .u8 0,.int .u8 0,.int .u8 0,.int .u8 0,.int .u8 0,.int .u8 0,.int .u8 0,.int .u8 0,.int .u8 0,.int .u8 0,.int .u8 0,.int .u8 0,.int .u8 0,.int .u8 0,.int .u8 0,.int .u8 0,.int .u8 0,.int .u8 0,.int .u8 0,.int .u8 0,.int .u8 0,.int .u8 0,.int .u8 0,.int .u8 0,.int .u8 0,.int .u8 0,.int .u8 0,.int .u8 0]),(329,[.int .u8 0,.int .u8 0,.int .u8 0,.int .u8 0,.int .u8 0,.int .u8 0,.int .u8 0,.int .u8 0,.int .u8 0,.int .u8 0,.int .u8 0,.int .u8 0,.int .u8 0,.int .u8 0,.int .u8 0,.int .u8 0,.int .u8 0,.int .u8 0,.int .u8 0,.int .u8 0,.int .u8 0,.int .u8 0,.int .u8 0,.int .u8 0,.int .u8 0,.int .u8 0,.int .u8 0,.int .u8 0,.int .u8 0,.int .u8 0,.int .u8 0,.int .u8 0,.int .u8 0,.int .u8 0,.int .u8 0,.int .u8 0,.int .u8 0,.int .u8 0,.int .u8 0,.int .u8 0,.int .u8 0,.int .u8 0,.int .u8 0,.int .u8 0,.int .u8 0,.int .u8 0,.int .u8 0,.int .u8 0,.int .u8 0,.int .u8 0,.int .u8 0,.int .u8 0,.int .u8 0,.int .u8 0,.int .u8 0,.int .u8 0,.int .u8 0,.int .u8 0,.int .u8 0,.int .u8 0,.int .u8 0,.int .u8 0,.int .u8 0,.int .u8 0])]
 iks:=[(2,.i64),(3,.i64),(5,.u8),(22,.u64),(49,.u32),(60,.u64),(193,.u64),(263,.u64)]
 kinds:=[(4,1),(9,6),(25,4),(28,2),(34,4),(36,4),(39,4),(42,5),(43,4),(45,2),(46,4),(55,2),(59,4),(68,2),(76,2),(77,5),(105,3),(109,2),(112,5),(117,3),(120,2),(127,3),(128,4),(129,4),(139,3),(159,4),(163,2),(166,3),(194,2),(195,3),(196,3),(197,3),(223,3),(232,3),(242,4),(244,3),(255,4),(267,2),(278,4),(308,4),(311,2),(318,3),(319,3),(320,2)]
 sls:=[(25,33,5,40),(34,3,1,8),(36,41,5,32),(39,22,1,8),(43,51,6,48),(46,55,1,8),(59,66,10,64),(128,170,13,88),(129,168,3,24),(159,29,1,8),(242,64,7,40),(255,70,2,16),(278,62,3,16),(308,5,1,1)]
theorem AJ:Be Tryz.prog GY where
 flats:=by kernel_rfl
 pls:=by kernel_rfl
 offs:=by kernel_rfl
 tks:=by kernel_rfl
 zs:=⟨by kernel_rfl,by kernel_rfl,by kernel_rfl,by kernel_rfl,by kernel_rfl,by kernel_rfl,by kernel_rfl,by kernel_rfl,by kernel_rfl,by kernel_rfl,by kernel_rfl,by kernel_rfl,by kernel_rfl,by kernel_rfl,by kernel_rfl,by kernel_rfl,by kernel_rfl,by kernel_rfl,by kernel_rfl,by kernel_rfl,by kernel_rfl,by kernel_rfl,by kernel_rfl,by kernel_rfl,by kernel_rfl,by kernel_rfl,by kernel_rfl,by kernel_rfl,by kernel_rfl,by kernel_rfl,by kernel_rfl,by kernel_rfl,by kernel_rfl,by kernel_rfl,by kernel_rfl,by kernel_rfl,by kernel_rfl,by kernel_rfl,by kernel_rfl,by kernel_rfl,by kernel_rfl,by kernel_rfl,trivial⟩
 iks:=by kernel_rfl
 kinds:=by kernel_rfl
 sls:=by kernel_rfl
 mixed:=by kernel_rfl
end Go.Proofs.Q0
namespace Go.Proofs.Q0
open Go Go.RowKit
def OI (wb:World) (D:Ctx) (H:List Br) (e k:Nat) (v:Value) (n:Nat) (xs:List Value) (w:World):Prop :=
 (v = .slice none 0 0∧n=0∧xs=[]∧St wb D H w) ∨
 ∃ (g cap:Nat) (cur:List Value),v = .slice (some ⟨g,0,none⟩) n cap∧n≤cap∧cur.length=cap*k∧xs.length=n*k∧cur.take (n*k)=xs∧St wb D ((g,.cells cur.toArray e (0,0),true) :: H) w
section
variable {P : Program} {ops : Array Oper} {QE : Exit → Env → World → Prop} {n : Nat} {rest : List Oper} {env : Env} {w wb : World} {D : Ctx} {H : List Br} {T : MC}
 {d:Option Nat} {ty:Nat} {pos:String} {Am:Array Edge} {g:Option (Nat × Bool)}
theorem Pc {t:Nat} {zs:List Value} (h:zeroOf P t=some zs.toArray):∃ i z,P.info? t=some i∧i.zero=some z∧z.cells=zs.toArray:=by
 unfold zeroOf at h;obtain ⟨i,hi,h⟩:=Option.bind_eq_some_iff.1 h;obtain ⟨z,hz,hc⟩:=Option.map_eq_some_iff.1 h;exact ⟨i,z,hi,hz,hc⟩
theorem lit_cells {b:Nat} {news:List Value} {e:TypeId} {w:World} (hb:w.heap[b]?=some (.cells news.toArray e (0,0))):∀ j u,news[j]?=some u→w.cell? ((⟨b,0,none⟩:Addr).add j)=some u:=fun j u hj=>by
 rw [Em];simp [World.cell?,hb,hj]
theorem Lt (z:Array Value) (n:Nat):(Builtin.zeroCells z n).toList.length=n*z.size:=by simp [Builtin.zeroCells]
theorem V3:∀ {cs:List Value} {off:Nat} {v:Value},off < cs.length→Ak cs off [v] (cs.set off v)
 | [],_,_,h=>absurd h (Nat.not_lt_zero _)
 | c :: cs,0,v,_=>Ak.cons Ak.nil
 | c :: cs,off+1,v,h=>Ak.skip (V3 (Nat.lt_of_succ_lt_succ h))
theorem nQ (z0:Value) (n:Nat):madeCells #[z0] (n*1)=(List.replicate n z0).toArray:=by
 apply Array.toList_inj.1;simp only [madeCells,Array.toList_map,Array.toList_range,Nat.mul_one];apply List.ext_getElem
 ·simp
 ·intro i h1 h2;simp [Nat.mod_one]
theorem tH (hT:Be P T) {t e bytes m:Nat} {z0:Value} {x y:Operand} {kl kc:IntKind} (hw:Ax ops env g=true) (Co:look t T.sls=some (e,1,bytes)) (hz:look e T.zs=some [z0])
 (hx:ev env x = .int kl (m:Nat)) (hy:ev env y = .int kc (m:Nat)) (hb:bytes*m≤281474976710656) (hm:m≤9223372036854775807) (hs:St wb D H w)
 (k:∀ b w',w'.heap.size=w.heap.size+1→St wb D ((b,.cells (List.replicate m z0).toArray e,true) :: H) w'→XS P ops QE n rest (Bf env d (.slice (some ⟨b,0,none⟩) m m)) w') :
 XS P ops QE n (⟨d,.makeSlice t x y,ty,pos,Am,g⟩ :: rest) env w:=by
 obtain ⟨hu,i,hi,hs1,hs2⟩:=GL (hT.sl Co);obtain ⟨i',z,hi',PT,JJ⟩:=Pc (hT.z hz);rw [hi] at hi';cases hi';have hr:=run_make (P:=P) w t e i z hu hi PT kl kc (m:Nat) (m:Nat) (by omega) (Int.le_refl _) (by rw [hs2,← Int.natCast_mul];omega) (by omega);rw [hs1,JJ,Int.toNat_natCast,nQ] at hr;refine XS.value hw (v := .slice (some ⟨w.heap.size,0,none⟩) m m) (w':=w.alloc (.cells (List.replicate m z0).toArray e)) ?_ (k w.heap.size _ (by simp) (hs.alloc _));simp [execOp,hx,hy,aCz,hr]
end
theorem Va {P:Program} {env:Env} {w:World} {d:Option Nat} {ty:Nat} {pos:String} {Am:Array Edge} {g:Option (Nat × Bool)} {x y:Operand} {ats:Array TypeId} {kk:IntKind} {a b:Int} (hx:ev env x = .int kk a) (hy:ev env y = .int kk b) :
 (execOp (ev env) (⟨d,.call { callee := .builtin .min,args:=#[x,y],argTypes:=ats },ty,pos,Am,g⟩:Oper)).run P w = .ok (.value (.int kk (if b < a then b else a))) w:=by
 simp [execOp,resolve,aCz,invoke,builtin,Builtin.min_,Builtin.min2,hx,hy]
def lU (P:Program) (s f:Nat):Option (Nat × Nat):=match P.underlying s with
 | some (.struct fs)=>(fs[f]?).map fun fd=>(fd.offset,fd.type)
 | _=>none
theorem qE {P:Program} {env:Env} {w:World} {d:Option Nat} {ty:Nat} {pos:String} {Am:Array Edge} {g:Option (Nat × Bool)} {s f k t n:Nat} {x:Operand} {vs:List Value} (h:lU P s f=some (k,t)) (ht:NM P t=some (true,n)) (hx:ev env x = .agg vs.toArray) {v:Value} (hv:Value.agg (vs.toArray.extract k (k+n))=v) :
 (execOp (ev env) (⟨d,.field s x f,ty,pos,Am,g⟩:Oper)).run P w = .ok (.value v) w:=by
 subst hv;unfold lU at h;split at h
 ·rename_i fs hu;obtain ⟨fd,xU,h⟩:=Option.map_eq_some_iff.1 h;simp only [Prod.mk.injEq] at h;obtain ⟨rfl,rfl⟩:=h;obtain ⟨h1,i,hi,rfl⟩:=tk_agg ht;simp [execOp,Instr.field,aCz,BG hu,xU,hx,asAgg,part,h1,sizeOf,CD hi]
 ·cases h
end Go.Proofs.Q0
namespace Go.Proofs.Q0
open Go Go.RowKit Tryz
section
variable {ops : Array Oper} {QE : Exit → Env → World → Prop} {n : Nat} {rest : List Oper} {env : Env} {w wb : World} {D : Ctx} {H : List Br} {E : List Nat} {fuel : Nat} {listed : Array Bool} {d : Option Nat} {op : Op} {ty : Nat} {pos : String} {Am : Array Edge} {g : Option (Nat × Bool)}
theorem vs {v:Value} (k:XS prog ops QE n rest (Bf env d v) w) (hw:Ax ops env g=true:=by exact rfl) (hr:(execOp (ev env) (⟨d,op,ty,pos,Am,g⟩:Oper)).run prog w = .ok (.value v) w:=by first | ((with_reducible apply Vd);(conv=>lhs;whnf)) | ((with_reducible apply RV);(conv=>lhs;whnf)) | ((with_reducible apply Np);exact rfl) | ((with_reducible apply MT);exact AJ;exact rfl;exact rfl;(conv=>lhs;whnf)) | ((with_reducible apply r_load);exact AJ;exact rfl;exact rfl;(first | exact hs.hold | exact hH rfl | assumption);(repeat (first | exact At.head | (with_reducible apply At.tail)));exact rfl) | ((with_reducible apply Fm);exact AJ;exact rfl;exact rfl;(first | exact hs.hold | exact hH rfl | assumption);(repeat (first | exact At.head | (with_reducible apply At.tail)));(repeat (first | exact Dk.nil | (apply Dk.cons;exact rfl)))) | ((with_reducible apply PB);exact rfl;exact rfl) | ((with_reducible apply Vw);exact rfl;(conv=>lhs;whnf)) | ((with_reducible apply r_bin);exact rfl;exact rfl;exact rfl) | ((with_reducible apply Xh);exact rfl;exact rfl;exact PV rfl rfl rfl) | ((with_reducible apply XL);exact rfl;exact rfl;exact PV rfl rfl rfl) | ((with_reducible apply XO);exact rfl;exact rfl;exact rfl;exact rfl;(first | omega | exact (DZ _).1);(first | omega | exact (DZ _).2)) | ((with_reducible apply V8);exact rfl;exact rfl;(first | omega | exact (DZ _).1);(first | omega | exact (DZ _).2);omega) | ((with_reducible apply XP);exact rfl;exact rfl;omega;omega;omega) | ((with_reducible apply Wu);exact rfl;exact rfl;omega;omega) | ((with_reducible apply XY);exact rfl;exact rfl;(first | omega | exact (DZ _).1);(first | omega | exact (DZ _).2);omega) | ((with_reducible apply XU);exact AJ;exact rfl;exact rfl;exact rfl) | ((with_reducible apply bF);exact rfl) | ((with_reducible apply cW);exact AJ;exact rfl;exact rfl;exact rfl) | ((with_reducible apply cD);exact AJ;exact rfl;exact rfl;exact rfl) | ((with_reducible apply TX);exact AJ;exact rfl;exact rfl;exact rfl) | ((with_reducible apply T9);exact AJ;exact rfl;exact rfl;exact rfl) | ((with_reducible apply Wk);exact AJ;exact rfl;exact rfl;exact rfl) | ((with_reducible apply Wl);exact rfl;exact rfl) | ((with_reducible apply Va);exact rfl;exact rfl) | (with_reducible apply Nh) | ((with_reducible apply Zo);exact rfl) | ((with_reducible apply MY);exact rfl) | ((with_reducible apply Zw);exact AJ;exact rfl;exact rfl;exact rfl;(repeat (first | exact Zip.nil | ((with_reducible apply Zip.last);exact rfl;exact rfl;exact rfl;exact rfl) | ((with_reducible apply Zip.cons);exact rfl;exact rfl;exact rfl;exact rfl)))) | ((with_reducible apply bA);exact AJ;exact rfl;exact rfl;exact rfl;(repeat (first | exact Zip.nil | ((with_reducible apply Zip.last);exact rfl;exact rfl;exact rfl;exact rfl) | ((with_reducible apply Zip.cons);exact rfl;exact rfl;exact rfl;exact rfl)))) | ((with_reducible apply Th);exact AJ;exact rfl;exact rfl;(repeat (first | exact CZ.nil | (apply CZ.one;exact rfl;(conv=>lhs;whnf);exact rfl;(repeat (first | exact Ak.nil | apply Ak.skip | apply Ak.cons))) | (apply CZ.agg;exact rfl;exact rfl;exact rfl;(repeat (first | exact Ak.nil | apply Ak.skip | apply Ak.cons))))))):XS prog ops QE n (⟨d,op,ty,pos,Am,g⟩ :: rest) env w:=xs_val hw hr k
theorem ps (k:XS prog ops QE n rest (Bf env d undef) w) (hw:Ax ops env g=false:=by exact rfl):XS prog ops QE n (⟨d,op,ty,pos,Am,g⟩ :: rest) env w:=uR hw k
theorem st {t b off:Nat} {x y:Operand} {cs cs':List Value} {E:TypeId} {nw:Bool} {f:Obj→List Br} {v:Value} (hs:St wb D H w) (k:∀ w',St wb D (f (.cells cs'.toArray E (0,0))) w'→XS prog ops QE n rest (Bf env d undef) w') (ht:look t GY.tks=some (false,1):=by exact rfl) (hw:Ax ops env g=true:=by exact rfl) (hp:ev env x = .pointer (some ⟨b,off,none⟩):=by exact rfl) (hv:ev env y=v:=by (conv=>lhs;whnf)) (h1:v.oneCell'=true:=by exact rfl) (hA:At H b (.cells cs.toArray E (0,0)) nw f:=by (repeat (first | exact At.head | (with_reducible apply At.tail)))) (hc:Ak cs off [v] cs':=by (repeat (first | exact Ak.nil | apply Ak.skip | apply Ak.cons))):XS prog ops QE n (⟨d,.store t x y,ty,pos,Am,g⟩ :: rest) env w:=xs_store AJ ht hw hp hv h1 hs hA hc k
theorem AV {t b off m:Nat} {x y:Operand} {cs vs cs':List Value} {E:TypeId} {nw:Bool} {f:Obj→List Br} (hs:St wb D H w) (k:∀ w',St wb D (f (.cells cs'.toArray E (0,0))) w'→XS prog ops QE n rest (Bf env d undef) w') (ht:look t GY.tks=some (true,m):=by exact rfl) (hw:Ax ops env g=true:=by exact rfl) (hp:ev env x = .pointer (some ⟨b,off,none⟩):=by exact rfl) (hv:ev env y = .agg vs.toArray:=by exact rfl) (hm:Nat.beq vs.length m=true:=by exact rfl) (h1:vs.all Value.oneCell'=true:=by exact rfl) (hA:At H b (.cells cs.toArray E (0,0)) nw f:=by (repeat (first | exact At.head | (with_reducible apply At.tail)))) (hc:Ak cs off vs cs':=by (repeat (first | exact Ak.nil | apply Ak.skip | apply Ak.cons))):XS prog ops QE n (⟨d,.store t x y,ty,pos,Am,g⟩ :: rest) env w:=UR AJ ht hw hp hv hm h1 hs hA hc k
theorem al {t:Nat} {cs:List Value} (hs:St wb D H w) (k:∀ b w',w'.heap.size=w.heap.size+1→St wb D ((b,.cells cs.toArray t,true) :: H) w'→XS prog ops QE n rest (Bf env d (.pointer (some ⟨b,0,none⟩))) w') (ht:look t GY.zs=some cs:=by exact rfl) (hw:Ax ops env g=true:=by exact rfl):XS prog ops QE n (⟨d,.alloc t,ty,pos,Am,g⟩ :: rest) env w:=xs_alloc AJ ht hw hs k
theorem bx {t:Nat} {x:Operand} {cs:List Value} (hs:St wb D H w) (k:∀ b w',w'.heap.size=w.heap.size+1→St wb D ((b,.cells cs.toArray t,true) :: H) w'→XS prog ops QE n rest (Bf env d (.pointer (some ⟨b,0,none⟩))) w') (hw:Ax ops env g=true:=by exact rfl) (hx:(ev env x).cells=cs.toArray:=by exact rfl):XS prog ops QE n (⟨d,.box t x,ty,pos,Am,g⟩ :: rest) env w:=xs_box hw hx hs k
theorem bs {t e size bytes len:Nat} {parts:Array (Nat × Operand)} {zs cs:List Value} (hs:St wb D H w) (k:∀ b w',w'.heap.size=w.heap.size+1→St wb D ((b,.cells cs.toArray e,true) :: H) w'→XS prog ops QE n rest (Bf env d (.slice (some ⟨b,0,none⟩) len len)) w') (hw:Ax ops env g=true:=by exact rfl) (Co:look t GY.sls=some (e,size,bytes):=by exact rfl) (hz:look e GY.zs=some zs:=by exact rfl) (hzl:Nat.beq zs.length size=true:=by exact rfl) (PA:Nat.ble (len*size) 16777216=true:=by exact rfl) (hps:Nat.beq (len*size) 0=false:=by exact rfl) (hb:CZ env (Ni len size) (Ra zs (len*size)) parts.toList cs:=by (repeat (first | exact CZ.nil | (apply CZ.one;exact rfl;(conv=>lhs;whnf);exact rfl;(repeat (first | exact Ak.nil | apply Ak.skip | apply Ak.cons))) | (apply CZ.agg;exact rfl;exact rfl;exact rfl;(repeat (first | exact Ak.nil | apply Ak.skip | apply Ak.cons)))))):XS prog ops QE n (⟨d,.buildSlice t len parts,ty,pos,Am,g⟩ :: rest) env w:=IQ AJ hw Co hz hzl PA hps hb hs k
theorem ix {t e size bytes b off m c:Nat} {x y:Operand} {kk:IntKind} {i:Int} (k:XS prog ops QE n rest (Bf env d (.pointer (some ⟨b,off+i.toNat*size,none⟩))) w) (hw:Ax ops env g=true:=by exact rfl) (ht:look t GY.sls=some (e,size,bytes):=by exact rfl) (hx:ev env x = .slice (some ⟨b,off,none⟩) m c:=by exact rfl) (hy:ev env y = .int kk i:=by exact rfl) (h0:0≤i) (h1:i < (m:Int)):XS prog ops QE n (⟨d,.indexAddr t x y,ty,pos,Am,g⟩ :: rest) env w:=xs_val hw (BA AJ ht hx hy h0 h1) k
theorem lb {t b off:Nat} {x:Operand} {cs:List Value} {E:TypeId} {fr:Nat × Nat} {nw:Bool} {f:Obj→List Br} {v:Value} (k:XS prog ops QE n rest (Bf env d v) w) (hw:Ax ops env g=true:=by exact rfl) (ht:look t GY.tks=some (false,1):=by exact rfl) (hp:ev env x = .pointer (some ⟨b,off,none⟩):=by exact rfl) (hH:FC H w:=by first | exact hs.hold | exact hH rfl | assumption) (hA:At H b (.cells cs.toArray E fr) nw f:=by (repeat (first | exact At.head | (with_reducible apply At.tail)))) (hc:cs[off]?=some v):XS prog ops QE n (⟨d,.load t x,ty,pos,Am,g⟩ :: rest) env w:=xs_val hw (r_load AJ ht hp hH hA hc) k
theorem lh {t b off:Nat} {x:Operand} {cs:List Value} {E:TypeId} {fr:Nat × Nat} {v:Value} (hb:w.heap[b]?=some (.cells cs.toArray E fr)) (hc:cs[off]?=some v) (k:XS prog ops QE n rest (Bf env d v) w) (hw:Ax ops env g=true:=by exact rfl) (ht:look t GY.tks=some (false,1):=by exact rfl) (hp:ev env x = .pointer (some ⟨b,off,none⟩):=by exact rfl):XS prog ops QE n (⟨d,.load t x,ty,pos,Am,g⟩ :: rest) env w :=
 xs_val hw (by simp [execOp,hp,Instr.loadAt,Instr.sureAddr,aCz,IW (AJ.tk ht) hb hc]) k
theorem sl {t e size bytes b off m c:Nat} {x:Operand} {lo hi:Option Operand} {l h:Nat} (k:XS prog ops QE n rest (Bf env d (.slice (some ⟨b,off+l*size,none⟩) (h - l) (c - l))) w) (ht:look t GY.sls=some (e,size,bytes):=by exact rfl) (hw:Ax ops env g=true:=by exact rfl) (hx:ev env x = .slice (some ⟨b,off,none⟩) m c:=by exact rfl) (hlo:Lo env lo l) (hhi:Hi env hi m h) (h1:l≤h) (h2:h≤c) (h3:l < c):XS prog ops QE n (⟨d,.slice t x lo hi none,ty,pos,Am,g⟩ :: rest) env w :=
 xs_val hw (kH AJ ht hx hlo hhi h1 h2 h3) k
theorem mkS {t e bytes m:Nat} {z0:Value} {x y:Operand} {kl kc:IntKind} (hs:St wb D H w) (k:∀ b w',w'.heap.size=w.heap.size+1→St wb D ((b,.cells (List.replicate m z0).toArray e,true) :: H) w'→XS prog ops QE n rest (Bf env d (.slice (some ⟨b,0,none⟩) m m)) w') (hw:Ax ops env g=true:=by exact rfl) (Co:look t GY.sls=some (e,1,bytes):=by exact rfl) (hz:look e GY.zs=some [z0]:=by exact rfl) (hx:ev env x = .int kl (m:Nat):=by exact rfl) (hy:ev env y = .int kc (m:Nat):=by exact rfl) (hb:bytes*m≤281474976710656) (hm:m≤9223372036854775807) :
 XS prog ops QE n (⟨d,.makeSlice t x y,ty,pos,Am,g⟩ :: rest) env w:=tH AJ hw Co hz hx hy hb hm hs k
theorem dr (E:List Nat) {id:Nat} {ops:Array Oper} (hs:St wb D H w) (k:XH ops E QE n→∀ w',St wb D H w'→XA prog ops E H QE n ops.size (Array.replicate ops.size false) env w') (hX:XH ops E QE n:=by exact ⟨by kernel_rfl,by kernel_rfl,by kernel_rfl,by (repeat (first | (with_reducible exact Ph) | (with_reducible apply Nj) | (with_reducible apply MQ) | (with_reducible apply NO) | (with_reducible apply MB) | (with_reducible apply N3) | (with_reducible apply N4)))⟩):XC prog QE n (.region id ops true) env w:=uF E AJ hs hX k
theorem sW (E:List Nat) (HH:List Br) {id:Nat} {ops:Array Oper} (hs:St wb D H w) (k:XH ops E QE n→∀ w',St wb D H w'→XA prog ops E HH QE n ops.size (Array.replicate ops.size false) env w') (hX:XH ops E QE n:=by exact ⟨by kernel_rfl,by kernel_rfl,by kernel_rfl,by (repeat (first | (with_reducible exact Ph) | (with_reducible apply Nj) | (with_reducible apply MQ) | (with_reducible apply NO) | (with_reducible apply MB) | (with_reducible apply N3) | (with_reducible apply N4)))⟩):XC prog QE n (.region id ops true) env w:=nN E HH AJ hs hX k
theorem tk (i:Nat) {v:Value} (hX:XH ops E QE n) (k:XA prog ops E H QE n fuel (listed.setIfInBounds i true) (Bf env d v) w) (hi:ops[i]?=some ⟨d,op,ty,pos,Am,g⟩:=by exact rfl) (hc:LH ops E listed i=true:=by kernel_rfl) (hS:SE E H listed w:=by (first | exact AI hs.hold | exact AI (hold_sim hs.hold rfl) | exact AI (hold_sim hs.hold.tail rfl) | exact AI (hR hs rfl) | exact AI hs.hold.tail | exact AI hs.hold.tail.tail | exact AI hs.hold.tail.tail.tail | exact Ab rfl)) (hw:Ax ops env g=true:=by exact rfl) (hr:∀ w,(IM ⟨d,op,ty,pos,Am,g⟩=true→FC H w)→(execOp (ev env) (⟨d,op,ty,pos,Am,g⟩:Oper)).run prog w = .ok (.value v) w:=by intro w' hH;(first | ((with_reducible apply Vd);(conv=>lhs;whnf)) | ((with_reducible apply RV);(conv=>lhs;whnf)) | ((with_reducible apply Np);exact rfl) | ((with_reducible apply MT);exact AJ;exact rfl;exact rfl;(conv=>lhs;whnf)) | ((with_reducible apply r_load);exact AJ;exact rfl;exact rfl;(first | exact hs.hold | exact hH rfl | assumption);(repeat (first | exact At.head | (with_reducible apply At.tail)));exact rfl) | ((with_reducible apply Fm);exact AJ;exact rfl;exact rfl;(first | exact hs.hold | exact hH rfl | assumption);(repeat (first | exact At.head | (with_reducible apply At.tail)));(repeat (first | exact Dk.nil | (apply Dk.cons;exact rfl)))) | ((with_reducible apply PB);exact rfl;exact rfl) | ((with_reducible apply Vw);exact rfl;(conv=>lhs;whnf)) | ((with_reducible apply r_bin);exact rfl;exact rfl;exact rfl) | ((with_reducible apply Xh);exact rfl;exact rfl;exact PV rfl rfl rfl) | ((with_reducible apply XL);exact rfl;exact rfl;exact PV rfl rfl rfl) | ((with_reducible apply XO);exact rfl;exact rfl;exact rfl;exact rfl;(first | omega | exact (DZ _).1);(first | omega | exact (DZ _).2)) | ((with_reducible apply V8);exact rfl;exact rfl;(first | omega | exact (DZ _).1);(first | omega | exact (DZ _).2);omega) | ((with_reducible apply XP);exact rfl;exact rfl;omega;omega;omega) | ((with_reducible apply Wu);exact rfl;exact rfl;omega;omega) | ((with_reducible apply XY);exact rfl;exact rfl;(first | omega | exact (DZ _).1);(first | omega | exact (DZ _).2);omega) | ((with_reducible apply XU);exact AJ;exact rfl;exact rfl;exact rfl) | ((with_reducible apply bF);exact rfl) | ((with_reducible apply cW);exact AJ;exact rfl;exact rfl;exact rfl) | ((with_reducible apply cD);exact AJ;exact rfl;exact rfl;exact rfl) | ((with_reducible apply TX);exact AJ;exact rfl;exact rfl;exact rfl) | ((with_reducible apply T9);exact AJ;exact rfl;exact rfl;exact rfl) | ((with_reducible apply Wk);exact AJ;exact rfl;exact rfl;exact rfl) | ((with_reducible apply Wl);exact rfl;exact rfl) | ((with_reducible apply Va);exact rfl;exact rfl) | (with_reducible apply Nh) | ((with_reducible apply Zo);exact rfl) | ((with_reducible apply MY);exact rfl) | ((with_reducible apply Zw);exact AJ;exact rfl;exact rfl;exact rfl;(repeat (first | exact Zip.nil | ((with_reducible apply Zip.last);exact rfl;exact rfl;exact rfl;exact rfl) | ((with_reducible apply Zip.cons);exact rfl;exact rfl;exact rfl;exact rfl)))) | ((with_reducible apply bA);exact AJ;exact rfl;exact rfl;exact rfl;(repeat (first | exact Zip.nil | ((with_reducible apply Zip.last);exact rfl;exact rfl;exact rfl;exact rfl) | ((with_reducible apply Zip.cons);exact rfl;exact rfl;exact rfl;exact rfl)))) | ((with_reducible apply Th);exact AJ;exact rfl;exact rfl;(repeat (first | exact CZ.nil | (apply CZ.one;exact rfl;(conv=>lhs;whnf);exact rfl;(repeat (first | exact Ak.nil | apply Ak.skip | apply Ak.cons))) | (apply CZ.agg;exact rfl;exact rfl;exact rfl;(repeat (first | exact Ak.nil | apply Ak.skip | apply Ak.cons)))))))):XA prog ops E H QE n (fuel+1) listed env w:=ZN hX hi hc hS hw hr k
theorem pt (i:Nat) (hX:XH ops E QE n) (k:XA prog ops E H QE n fuel (listed.setIfInBounds i true) (Bf env d undef) w) (hi:ops[i]?=some ⟨d,op,ty,pos,Am,g⟩:=by exact rfl) (hc:LH ops E listed i=true:=by kernel_rfl) (hS:SE E H listed w:=by (first | exact AI hs.hold | exact AI (hold_sim hs.hold rfl) | exact AI (hold_sim hs.hold.tail rfl) | exact AI (hR hs rfl) | exact AI hs.hold.tail | exact AI hs.hold.tail.tail | exact AI hs.hold.tail.tail.tail | exact Ab rfl)) (hw:Ax ops env g=false:=by exact rfl):XA prog ops E H QE n (fuel+1) listed env w:=uN hX hi hc hS hw k
theorem dt (i:Nat) (hX:XH ops E QE n) (k:XS prog ops (AW prog ops E H QE n fuel (listed.setIfInBounds i true)) n [⟨d,op,ty,pos,Am,g⟩] env w) (hi:ops[i]?=some ⟨d,op,ty,pos,Am,g⟩:=by exact rfl) (hr:Region.ready .any ops listed=[i]:=by kernel_rfl):XA prog ops E H QE n (fuel+1) listed env w:=yD i hX hi hr k
theorem dn (k:XA prog ops E H QE n fuel listed env w) (hS:SE E H listed w:=by (first | exact AI hs.hold | exact AI (hold_sim hs.hold rfl) | exact AI (hold_sim hs.hold.tail rfl) | exact AI (hR hs rfl) | exact AI hs.hold.tail | exact AI hs.hold.tail.tail | exact AI hs.hold.tail.tail.tail | exact Ab rfl)):AW prog ops E H QE n fuel listed .normal env w:=u5 hS k
theorem en (k:QE .normal env w) (hr:Region.ready .any ops listed=[]:=by kernel_rfl):XA prog ops E H QE n fuel listed env w:=uT hr k
theorem rt {rs:List ResultVar} {vs:List Value} {Q:Value→World→Prop} (hr:KD prog env w rs vs:=by (repeat' (first | exact MM | apply Sv | ((with_reducible apply ZE);(conv=>lhs;whnf)) | ((with_reducible apply U9);exact AJ;exact rfl;exact rfl;exact hs.hold;(repeat (first | exact At.head | (with_reducible apply At.tail)));(repeat (first | exact Dk.nil | (apply Dk.cons;exact rfl)))) | ((with_reducible apply Wh);exact AJ;exact rfl;exact rfl;exact hs.hold;(repeat (first | exact At.head | (with_reducible apply At.tail)));exact rfl)))) (hq:Q (packed vs) w):A9 prog rs Q .ret env w:=tC hr hq
theorem rt' {rs:List ResultVar} {vs:List Value} {Q:Value→World→Prop} (hr:KD prog env w rs vs:=by (repeat' (first | exact MM | apply Sv | ((with_reducible apply ZE);(conv=>lhs;whnf)) | ((with_reducible apply U9);exact AJ;exact rfl;exact rfl;exact hs.hold;(repeat (first | exact At.head | (with_reducible apply At.tail)));(repeat (first | exact Dk.nil | (apply Dk.cons;exact rfl)))) | ((with_reducible apply Wh);exact AJ;exact rfl;exact rfl;exact hs.hold;(repeat (first | exact At.head | (with_reducible apply At.tail)));exact rfl)))) (hq:Q (packed vs) w):A9 prog rs Q .normal env w:=oT hr hq
end
structure Tn (p:Prop):Prop where
 h:p
section
variable {G G' : Prop}
theorem Ja (k:G') (t:Tn G'→G:=by intro zz;(repeat' (first|refine vs ?_|refine Aq ?_|refine Nx.h ?_|fail));exact zz.1):G:=t ⟨k⟩
theorem Jb (k:G') (t:Tn G'→G:=by intro zz;(repeat' (first|refine Nx.h ?_|fail));exact zz.1):G:=t ⟨k⟩
theorem Jc (k:G') (t:Tn G'→G:=by intro zz;(repeat' (first|refine vs ?_|refine Nx.h ?_|fail));exact zz.1):G:=t ⟨k⟩
theorem Jd (k:G') (t:Tn G'→G:=by intro zz;(repeat' (first|refine vs ?_|refine Aq ?_|refine Nx.h ?_|refine Eb ?_|fail));exact zz.1):G:=t ⟨k⟩
theorem Je (k:G') (t:Tn G'→G:=by intro zz;(repeat' (first|refine vs ?_|refine Aq ?_|refine Nx.h ?_|refine FP ?_|fail));exact zz.1):G:=t ⟨k⟩
theorem Jf (k:G') (t:Tn G'→G:=by intro zz;(repeat' (first|refine vs ?_|fail));exact zz.1):G:=t ⟨k⟩
theorem Jg (k:G') (t:Tn G'→G:=by intro zz;(repeat' (first|refine Nx.h ?_|refine Eb ?_|fail));exact zz.1):G:=t ⟨k⟩
theorem Jh (k:G') (t:Tn G'→G:=by intro zz;(repeat' (first|refine vs ?_|refine ps ?_|refine Aq ?_|refine Nx.h ?_|refine FP ?_|fail));exact zz.1):G:=t ⟨k⟩
theorem Ji (k:G') (t:Tn G'→G:=by intro zz;(repeat' (first|refine vs ?_|refine Aq ?_|refine FP ?_|fail));exact zz.1):G:=t ⟨k⟩
theorem Jj (k:G') (t:Tn G'→G:=by intro zz;(repeat' (first|refine vs ?_|refine ps ?_|refine Nx.h ?_|fail));exact zz.1):G:=t ⟨k⟩
theorem Jk (k:G') (t:Tn G'→G:=by intro zz;(repeat' (first|refine vs ?_|refine Aq ?_|fail));exact zz.1):G:=t ⟨k⟩
theorem Jl (k:G') (t:Tn G'→G:=by intro zz;(repeat' (first|refine vs ?_|refine Nx.h ?_|refine Eb ?_|fail));exact zz.1):G:=t ⟨k⟩
theorem Jm (k:G') (t:Tn G'→G:=by intro zz;(repeat' (first|refine vs ?_|refine ps ?_|refine Aq ?_|refine Nx.h ?_|refine qY ?_|refine FP ?_|refine Eb ?_|fail));exact zz.1):G:=t ⟨k⟩
theorem Jn (k:G') (t:Tn G'→G:=by intro zz;(repeat' (first|refine Nx.h ?_|fail));exact dn (k:=zz.1)):G:=t ⟨k⟩
theorem Sa (k:G') (t:Tn G'→G:=by intro zz;(first|exact vs (k:=zz.1)|exact Aq zz.1|exact Nx.h zz.1)):G:=t ⟨k⟩
theorem Sb (k:G') (t:Tn G'→G:=by intro zz;(first|exact vs (k:=zz.1)|exact Nx.h zz.1)):G:=t ⟨k⟩
theorem Sc (k:G') (t:Tn G'→G:=by intro zz;(first|exact vs (k:=zz.1)|exact Aq zz.1|exact Nx.h zz.1|exact FP zz.1)):G:=t ⟨k⟩
theorem Sd (k:G') (t:Tn G'→G:=by intro zz;(first|exact vs (k:=zz.1)|exact Aq zz.1|exact Nx.h zz.1|exact Eb zz.1)):G:=t ⟨k⟩
theorem Se (k:G') (t:Tn G'→G:=by intro zz;(first|exact vs (k:=zz.1)|exact ps (k:=zz.1)|exact Aq zz.1|exact Nx.h zz.1|exact FP zz.1)):G:=t ⟨k⟩
theorem Sf (k:G') (t:Tn G'→G:=by intro zz;(first|exact vs (k:=zz.1)|exact ps (k:=zz.1)|exact Aq zz.1|exact Nx.h zz.1)):G:=t ⟨k⟩
theorem Sg (k:G') (t:Tn G'→G:=by intro zz;(first|exact vs (k:=zz.1)|exact ps (k:=zz.1)|exact Aq zz.1|exact Nx.h zz.1|exact qY zz.1|exact FP zz.1|exact Eb zz.1)):G:=t ⟨k⟩
theorem AG (k:G') (t:Tn G'→G:=by intro zz;(first | exact rt (hq:=zz.1) | exact rt' (hq:=zz.1))):G:=t ⟨k⟩
theorem JO (k:G') (t:Tn G'→G:=by intro zz;(first | exact rt' (vs:=[]) (hr:=MM) (hq:=zz.1) | exact rt (vs:=[]) (hr:=MM) (hq:=zz.1))):G:=t ⟨k⟩
end
theorem Ad {p:Prop} (h:p:=by (repeat (first | exact Ag | (apply A8;exact rfl)))):p:=h
theorem om {p:Prop} (h:p:=by omega):p:=h
theorem AA {p:Prop} (h:p:=by simp):p:=h
theorem AX {p:Prop} (h:p:=by repeat (first | exact At.head | (with_reducible apply At.tail))):p:=h
theorem sD {p:Prop} (h:p:=by simp [D0]):p:=h
theorem krf {p:Prop} (h:p:=by kernel_rfl):p:=h
section
variable {ops : Array Oper} {QE : Exit → Env → World → Prop} {n : Nat} {rest : List Oper} {env : Env} {w wb : World} {D : Ctx} {H : List Br} {E : List Nat} {fuel : Nat} {listed : Array Bool} {d : Option Nat} {op : Op} {ty : Nat} {pos : String} {Am : Array Edge} {g : Option (Nat × Bool)}
theorem AS {f:FuncId} {fn:Func} {c:Code} {n:Nat} {args:Array Value} {Q:Value→World→Prop} {rs:List ResultVar} (hf:prog.funcs[f]?=some fn) (hn:fn.ntmps=n) (k:XC prog (A9 prog rs Q) n c (PZ args) w) (he:LD prog f=true:=by kernel_rfl) (hb:fn.body=some c:=by exact rfl) (hr:fn.results=rs.toArray:=by exact rfl) (hl:Nat.ble rs.length 4=true:=by exact rfl) (ha:Nat.ble args.size n=true:=by exact rfl):AO prog f args w Q:=kO hf he hb hn hr hl ha k
theorem cl {c:Operand} {args:Array Operand} {ats:Array TypeId} {f:FuncId} {first caps:List Value} {Q:Value→World→Prop} (k:∀ v w',Q v w'→XS prog ops QE n rest (Bf env d v) w') (hw:Ax ops env g=true:=by exact rfl) (hf:ev env c = .func (.func f) first.toArray caps.toArray:=by exact rfl) (h:AO prog f (first ++ args.toList.map (ev env) ++ caps).toArray w Q) :
 XS prog ops QE n (⟨d,.call { callee := .value c,args:=args,argTypes:=ats },ty,pos,Am,g⟩ :: rest) env w:=Kz hw hf h k
theorem AZ {c:Operand} {args:Array Operand} {ats:Array TypeId} {f:FuncId} {first caps:List Value} {X:Value} (hs:St wb D H w) (k:∀ w',AB [] w w'→St wb D H w'→XS prog ops QE n rest (Bf env d X) w') (hw:Ax ops env g=true:=by exact rfl) (hf:ev env c = .func (.func f) first.toArray caps.toArray:=by exact rfl) (h:AO prog f (first ++ args.toList.map (ev env) ++ caps).toArray w fun v w'=>v=X∧AB [] w w') :
 XS prog ops QE n (⟨d,.call { callee := .value c,args:=args,argTypes:=ats },ty,pos,Am,g⟩ :: rest) env w:=Kz hw hf h fun v w' h=>by obtain ⟨rfl,ho⟩:=h;exact k w' ho (hs.AP ho)
def ZX (a n:Nat) (G:Prop):Prop:=G
theorem ZX.done {a:Nat} {G:Prop} (h:G):ZX a 0 G:=h
theorem tkA {a m:Nat} {v:Value} (k:ZX (a+1) m (XA prog ops E H QE n fuel (listed.setIfInBounds a true) (Bf env d v) w)) (hX:XH ops E QE n:=by exact hX) (hi:ops[a]?=some ⟨d,op,ty,pos,Am,g⟩:=by exact rfl) (hc:LH ops E listed a=true:=by kernel_rfl) (hS:SE E H listed w:=by (first | exact AI hs.hold | exact AI (hold_sim hs.hold rfl) | exact AI (hold_sim hs.hold.tail rfl) | exact AI (hR hs rfl) | exact AI hs.hold.tail | exact AI hs.hold.tail.tail | exact AI hs.hold.tail.tail.tail | exact Ab rfl)) (hw:Ax ops env g=true:=by exact rfl) (hr:∀ w,(IM ⟨d,op,ty,pos,Am,g⟩=true→FC H w)→(execOp (ev env) (⟨d,op,ty,pos,Am,g⟩:Oper)).run prog w = .ok (.value v) w:=by intro w' hH;(first | ((with_reducible apply Vd);(conv=>lhs;whnf)) | ((with_reducible apply RV);(conv=>lhs;whnf)) | ((with_reducible apply Np);exact rfl) | ((with_reducible apply MT);exact AJ;exact rfl;exact rfl;(conv=>lhs;whnf)) | ((with_reducible apply r_load);exact AJ;exact rfl;exact rfl;(first | exact hs.hold | exact hH rfl | assumption);(repeat (first | exact At.head | (with_reducible apply At.tail)));exact rfl) | ((with_reducible apply Fm);exact AJ;exact rfl;exact rfl;(first | exact hs.hold | exact hH rfl | assumption);(repeat (first | exact At.head | (with_reducible apply At.tail)));(repeat (first | exact Dk.nil | (apply Dk.cons;exact rfl)))) | ((with_reducible apply PB);exact rfl;exact rfl) | ((with_reducible apply Vw);exact rfl;(conv=>lhs;whnf)) | ((with_reducible apply r_bin);exact rfl;exact rfl;exact rfl) | ((with_reducible apply Xh);exact rfl;exact rfl;exact PV rfl rfl rfl) | ((with_reducible apply XL);exact rfl;exact rfl;exact PV rfl rfl rfl) | ((with_reducible apply XO);exact rfl;exact rfl;exact rfl;exact rfl;(first | omega | exact (DZ _).1);(first | omega | exact (DZ _).2)) | ((with_reducible apply V8);exact rfl;exact rfl;(first | omega | exact (DZ _).1);(first | omega | exact (DZ _).2);omega) | ((with_reducible apply XP);exact rfl;exact rfl;omega;omega;omega) | ((with_reducible apply Wu);exact rfl;exact rfl;omega;omega) | ((with_reducible apply XY);exact rfl;exact rfl;(first | omega | exact (DZ _).1);(first | omega | exact (DZ _).2);omega) | ((with_reducible apply XU);exact AJ;exact rfl;exact rfl;exact rfl) | ((with_reducible apply bF);exact rfl) | ((with_reducible apply cW);exact AJ;exact rfl;exact rfl;exact rfl) | ((with_reducible apply cD);exact AJ;exact rfl;exact rfl;exact rfl) | ((with_reducible apply TX);exact AJ;exact rfl;exact rfl;exact rfl) | ((with_reducible apply T9);exact AJ;exact rfl;exact rfl;exact rfl) | ((with_reducible apply Wk);exact AJ;exact rfl;exact rfl;exact rfl) | ((with_reducible apply Wl);exact rfl;exact rfl) | ((with_reducible apply Va);exact rfl;exact rfl) | (with_reducible apply Nh) | ((with_reducible apply Zo);exact rfl) | ((with_reducible apply MY);exact rfl) | ((with_reducible apply Zw);exact AJ;exact rfl;exact rfl;exact rfl;(repeat (first | exact Zip.nil | ((with_reducible apply Zip.last);exact rfl;exact rfl;exact rfl;exact rfl) | ((with_reducible apply Zip.cons);exact rfl;exact rfl;exact rfl;exact rfl)))) | ((with_reducible apply bA);exact AJ;exact rfl;exact rfl;exact rfl;(repeat (first | exact Zip.nil | ((with_reducible apply Zip.last);exact rfl;exact rfl;exact rfl;exact rfl) | ((with_reducible apply Zip.cons);exact rfl;exact rfl;exact rfl;exact rfl)))) | ((with_reducible apply Th);exact AJ;exact rfl;exact rfl;(repeat (first | exact CZ.nil | (apply CZ.one;exact rfl;(conv=>lhs;whnf);exact rfl;(repeat (first | exact Ak.nil | apply Ak.skip | apply Ak.cons))) | (apply CZ.agg;exact rfl;exact rfl;exact rfl;(repeat (first | exact Ak.nil | apply Ak.skip | apply Ak.cons)))))))):ZX a (m+1) (XA prog ops E H QE n (fuel+1) listed env w):=ZN hX hi hc hS hw hr k
theorem tks (a m:Nat) {G G':Prop} (k:G') (t:Tn G'→ZX a m G:=by intro zz;(repeat' (refine tkA ?_));exact ZX.done zz.1):G:=t ⟨k⟩
end
end Go.Proofs.Q0
