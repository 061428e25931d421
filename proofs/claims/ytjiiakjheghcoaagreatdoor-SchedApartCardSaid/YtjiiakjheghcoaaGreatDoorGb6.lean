/- A part of the proof: what its functions compute. -/
import Derived.Test.YtjiiakjheghcoaaGreatDoorGb5
import Derived.Ground.NamesProg
import Derived.Shelf.LaysM
import Derived.Shelf.Strconv.Itoa1
import Derived.Shelf.Strconv.Itoa2
import Derived.Shelf.SlIterI.Nil
import Derived.Shelf.SortM.Plain
import Derived.Shelf.SortM.SortNone
import Derived.Ground.GgzProg
import Derived.Ground.SlgmProg
import Derived.Shelf.SlMaps.Clone
import Derived.Ground.SlmcProg
import Derived.Test.YtjiiakjheghcoaaGreatDoorProg
import Derived.Lib.Walk
import Derived.Lib.ItoaMem
import Derived.WalkKit
import Derived.BigCall
import Derived.BigGuard
set_option linter.unusedVariables false
set_option linter.unusedSimpArgs false
set_option maxRecDepth 100000
set_option maxHeartbeats 64000000
set_option linter.unusedSectionVars false
namespace Go.Proofs.Q0
open Go Go.RowKit
attribute [local irreducible] XS XC XA AX AO A7 A0 AZ A8 Aa AV SE
def K9:Int:=170141183460469231731687303715884105727
theorem QO:A9 K9:=by decide
def KT (s t:Int):Option Int:=if 1≤s∧s≤1099511627776∧1≤t∧t≤1099511627776 then some ((2*s+t)*1048576) else none
theorem SS (s t:Int) (hs':BV s) (ht:BV t) (w0:World):AM Tryz.prog 107 #[.int .u64 s,.int .u64 t] w0 fun v w'=>v = .tuple #[.int .i64 ((KT s t).getD 0),.bool (KT s t).isSome]∧AA [] w0 w':=by
 obtain ⟨hs0,hs1⟩:=hs'
 obtain ⟨ht0,ht1⟩:=ht
 have hs:=St.nil w0
 refine AQ Tryz.func107 Tryz.ntmps107 (k:=?_)
 repeat' (first|refine Se ?_|((with_reducible apply BM);exact rfl;exact rfl;intro c hc;(fail_if_success have:true=c:=hc);(fail_if_success have:false=c:=hc);cases c)|refine Au rfl (fun hc=>?_) fun hc=>?_|fail)
 all_goals (refine AF ?_)
 all_goals refine ⟨?_,hs.AD rfl⟩
 all_goals clear hs
 ·have:KT s t=none:=if_neg om
  rw [this];rfl
 ·simp only [decide_eq_false_iff_not] at *
  have:KT s t=some ((2*s+t)*1048576):=if_pos om
  rw [this]
  show Value.tuple _=Value.tuple _
  have e:IntKind.i64.wrap (IntKind.u64.wrap (IntKind.u64.wrap (IntKind.u64.wrap (2*s)+t)*1048576))=(2*s+t)*1048576:=by simp only [wrap_u64,wrap_i64];omega
  rw [e];rfl
 ·simp only [decide_eq_true_eq,decide_eq_false_iff_not] at *
  have:KT s t=none:=if_neg om
  rw [this];rfl
 ·simp only [decide_eq_true_eq,decide_eq_false_iff_not] at *
  have:KT s t=none:=if_neg om
  rw [this];rfl
 ·simp only [decide_eq_true_eq] at *
  have:KT s t=none:=if_neg om
  rw [this];rfl
theorem O2 (w0:World):AM Tryz.prog 194 #[] w0 fun v w'=>v=wv K9∧AA [] w0 w':=by
 have hs:=St.nil w0
 refine AQ Tryz.func194 Tryz.ntmps194 (k:=?_)
 repeat' (first|refine Sa ?_|(refine AU hs (k:=?_);intro w hs)|(refine al hs (k:=?_);intro b w hz hs)|fail)
 refine AF ?_
 exact ⟨by kernel_rfl,hs.AD rfl⟩
def Dg (x:Int):Int:=if 0≤x then x else if A9 (-x) then -x else K9
theorem nQ {x:Int} (h:A9 x):A9 (Dg x)∧0≤Dg x:=by
 unfold Dg
 split
 ·exact ⟨h,by assumption⟩
 ·split
  ·exact ⟨by assumption,by omega⟩
  ·exact ⟨QO,by decide⟩
theorem Tm (x:Int) (hx:A9 x) (w0:World):AM Tryz.prog 149 #[wv x] w0 fun v w'=>v=wv (Dg x)∧AA [] w0 w':=by
 have hs:=St.nil w0
 refine AQ Tryz.func149 Tryz.ntmps149 (k:=?_)
 repeat' (first|refine Sa ?_|(refine al hs (k:=?_);intro b w hz hs)|(refine bx hs (k:=?_);intro b w hz hs)|fail)
 refine AY hs (h:=by exact QG x hx _) (k:=?_);intro w' ho hs;repeat' (first|refine Sa ?_|(refine AU hs (k:=?_);intro w hs)|refine Au rfl (fun hc=>?_) fun hc=>?_|fail)
 ·have h0:0≤x:=by unfold CX at hc;split at hc <;> omega
  refine AF ?_
  refine ⟨?_,hs.AD rfl⟩
  unfold Dg;rw [if_pos h0];rfl
 ·have h0:¬ 0≤x:=by unfold CX at hc;split at hc <;> (try split at hc) <;> omega
  refine AY hs (h:=by exact zG x hx _) (k:=?_);intro w' ho hs;repeat' (first|refine Sa ?_|(refine AU hs (k:=?_);intro w hs)|(refine al hs (k:=?_);intro b w hz hs)|refine Au rfl (fun hc=>?_) fun hc=>?_|fail)
  ·have h1:A9 (-x):=by simpa using hc
   refine AF ?_
   refine ⟨?_,hs.AD rfl⟩
   unfold Dg;rw [if_neg h0,if_pos h1]
   have e:tot (-x)=-x:=if_pos h1
   rw [e];rfl
  ·have h1:¬ A9 (-x):=by simpa using hc
   refine AY hs (h:=by exact O2 _) (k:=?_);intro w' ho hs;repeat' (first|refine Nx.h ?_|(refine AU hs (k:=?_);intro w hs)|fail)
   refine AF ?_
   refine ⟨?_,hs.AD rfl⟩
   unfold Dg;rw [if_neg h0,if_neg h1];rfl
def Iv:Int→List Int→Int
 | out,[]=>out
 | out,x :: l=>if A9 (out+Dg x+2) then Iv (out+Dg x+2) l else K9
theorem wat_three {w:World} {b:Nat} {x y z:Int} (hb:w.heap[b]?=some (.cells #[.int .i64 (x / 18446744073709551616),.int .u64 (x % 18446744073709551616),.int .i64 (y / 18446744073709551616),.int .u64 (y % 18446744073709551616),.int .i64 (z / 18446744073709551616),.int .u64 (z % 18446744073709551616)] 70 (0,0))):eV w (.slice (some ⟨b,0,none⟩) 3 3) [x,y,z] :=
 ⟨_,3,rfl,fun _=>⟨b,0,_,_,(0,0),rfl,hb,fun i x h=>by
  have:i=0∨i=1∨i=2:=by
   rcases Nat.lt_or_ge i 3 with h' | h'
   ·omega
   ·rw [List.getElem?_eq_none (by simp;omega)] at h;cases h
  rcases this with rfl | rfl | rfl <;> (cases h;exact ⟨rfl,rfl⟩)⟩⟩
theorem PY (xs:List Int) (sl:Value) (hin:∀ (i:Nat) (x:Int),xs[i]?=some x→A9 x) (hm:xs.length≤9223372036854775807) (w0:World) (hW:eV w0 sl xs):AM Tryz.prog 148 #[sl] w0 fun v w'=>v=wv (Iv 0 xs)∧AA [] w0 w':=by
 obtain ⟨ad,cap,rfl,hD⟩:=hW
 have hs:=St.nil w0
 refine AQ Tryz.func148 Tryz.ntmps148 (k:=?_)
 refine Jb ?_
 refine Al ?_
 refine al hs (k:=?_);intro b2 w hz hs
 refine Jb ?_
 refine Al ?_
 refine al hs (k:=?_);intro b3 w hz hs
 refine Ja ?_
 refine BN (fun (_:Unit)=>[(2,.pointer (some ⟨b2,0,none⟩)),(3,.pointer (some ⟨b3,0,none⟩))])
  (fun _ w=>St w0 D0 [(b3,.cells #[.int .i64 (Iv 0 xs / 18446744073709551616),.int .u64 (Iv 0 xs % 18446744073709551616)] 70,true),(b2,.cells #[.int .i64 0,.int .u64 0] 70,true)] w) ?_ ?_
 ·refine BD (fun (s:Nat × Int)=>[(2,.pointer (some ⟨b2,0,none⟩)),(3,.pointer (some ⟨b3,0,none⟩)),(8,.slice ad xs.length cap),(9,.int .i64 (xs.length:Nat)),(10,.int .i64 (s.1:Nat))])
   (fun s w=>s.1≤xs.length∧Iv 0 xs=Iv s.2 (xs.drop s.1)∧A9 s.2∧0≤s.2∧St w0 D0 [(b3,.cells #[.int .i64 (s.2 / 18446744073709551616),.int .u64 (s.2 % 18446744073709551616)] 70,true),(b2,.cells #[.int .i64 0,.int .u64 0] 70,true)] w)
   (fun s=>xs.length - s.1) (0,0) Ab ⟨Nat.zero_le _,rfl,Qn,Int.le_refl _,hs⟩ fun s env w ⟨hi,hca,AJ,AN,hs⟩=>?_
  obtain ⟨i,out⟩:=s
  simp only at hi hca AJ AN
  repeat' (first|refine Sa ?_|refine Au rfl (fun hc=>?_) fun hc=>?_|fail)
  ·have hlt:i < xs.length:=by omega
   obtain ⟨b,off,cs,E,fz,rfl,hb,hcs⟩:=hD (fun h=>by subst h;cases hlt)
   obtain ⟨h0,h1⟩:=hcs i _ (List.getElem?_eq_getElem hlt)
   have hx:=hin i _ (List.getElem?_eq_getElem hlt)
   have ei:=D2 hlt hm
   rw [List.drop_eq_getElem_cons hlt] at hca
   generalize xs[i]=x at *
   have hsz:=nQ hx
   refine ix (h0:=(by omega)) (h1:=(by omega)) (k:=?_)
   refine lh2 ((hs.AD rfl).block hb (by simp)) h0 h1 (k:=?_)
   refine al hs (k:=?_);intro b5 w hz hs
   repeat' (first|refine Nx.h ?_|(refine AU hs (k:=?_);intro w hs)|fail)
   refine dr [] hs (k:=?_);intro hX w hs
   refine tks 0 2 ?_
   refine GS 9 6 hs (k:=?_);intro f X w hp;have hs:=hp.st
   apply BH 2 9 (f:=f) (X:=X) hX hp;exact rfl;exact rfl;(apply AR AI;exact rfl);kernel_rfl;kernel_rfl;kernel_rfl;kernel_rfl;(intro X Y;(repeat (first | exact A4 | refine A3 ?_ (by exact rfl))));(intro w' hs;first|exact AH hs.hold|exact AH hs.hold.tail|exact A6 rfl);intro f X w hp;have hs:=hp.st
   refine cl (h:=by exact Tm x hx _) (k:=?_)
   rintro v w' ⟨rfl,ho⟩;replace hp:=hp.only ho;replace hs:=hp.st;refine Jb ?_
   refine dn (k:=?_)
   apply BH 3 9 (f:=f) (X:=X) hX hp;exact rfl;exact rfl;(apply AR AI;exact rfl);kernel_rfl;kernel_rfl;kernel_rfl;kernel_rfl;(intro X Y;(repeat (first | exact A4 | refine A3 ?_ (by exact rfl))));(intro w' hs;first|exact AH hs.hold|exact AH hs.hold.tail|exact A6 rfl);intro f X w hp;have hs:=hp.st
   refine cl (h:=by exact Fp 2 (by decide) (by decide) _) (k:=?_)
   rintro v w' ⟨rfl,ho⟩;replace hp:=hp.only ho;replace hs:=hp.st;refine Jb ?_
   refine dn (k:=?_)
   apply BH 4 9 (f:=f) (X:=X) hX hp;exact rfl;exact rfl;(apply AR AI;exact rfl);kernel_rfl;kernel_rfl;kernel_rfl;kernel_rfl;(intro X Y;(repeat (first | exact A4 | refine A3 ?_ (by exact rfl))));(intro w' hs;first|exact AH hs.hold|exact AH hs.hold.tail|exact A6 rfl);intro f X w hp;have hs:=hp.st
   refine vI hp (k:=?_);intro b4 w4 _ hp;replace hs:=hp.st
   refine Jb ?_
   refine dn (k:=?_)
   apply BH 5 9 (f:=f) (X:=X) hX hp;exact rfl;exact rfl;(apply AR AI;exact rfl);kernel_rfl;kernel_rfl;kernel_rfl;kernel_rfl;(intro X Y;(repeat (first | exact A4 | refine A3 ?_ (by exact rfl))));(intro w' hs;first|exact AH hs.hold|exact AH hs.hold.tail|exact A6 rfl);intro f X w hp;have hs:=hp.st
   have aBK:∀ (i:Nat) (y:Int),[out,Dg x,2][i]?=some y→A9 y:=fun i y h=>by
    have hy:=List.mem_of_getElem? h
    simp only [List.mem_cons,List.not_mem_nil,or_false] at hy
    rcases hy with rfl | rfl | rfl
    ·exact AJ
    ·exact hsz.1
    ·decide
   have p0:psum [out,Dg x,2] 0=0:=by simp [psum]
   have p1:psum [out,Dg x,2] 1=out:=by simp [psum]
   have p2:psum [out,Dg x,2] 2=out+Dg x:=by simp [psum]
   have p3:psum [out,Dg x,2] 3=out+Dg x+2:=by simp [psum];omega
   refine cl (h:=by exact rN [out,Dg x,2] _ aBK (by simp) _ (wat_three (hs.get At.head))) (k:=?_)
   rintro v w' ⟨hq,ho⟩;replace hp:=hp.only ho;replace hs:=hp.st
   rcases hq with ⟨hA,rfl⟩ | ⟨⟨j,hj,hn⟩,rfl⟩
   ·have Wm:=hA 3 (Nat.le_refl _)
    rw [p3] at Wm
    rw [show [out,Dg x,2].length=3 from rfl,p3]
    rw [show Iv out (x :: xs.drop (i+1))=Iv (out+Dg x+2) (xs.drop (i+1)) from if_pos Wm] at hca
    refine Jb ?_
    refine dn (k:=?_)
    refine tk 6 hX (hc:=by cases f <;> kernel_rfl) (k:=?_)
    refine tk 7 hX (hc:=by cases f <;> kernel_rfl) (k:=?_)
    refine tk 8 hX (hc:=by cases f <;> kernel_rfl) (k:=?_)
    apply B9 9 (f:=f) (X:=X) hX hp;exact rfl;(apply AR AI;exact rfl);kernel_rfl;kernel_rfl;(intro X Y;(repeat (first | exact A4 | refine A3 ?_ (by exact rfl))));(intro w' hs;first|exact AH hs.hold|exact AH hs.hold.tail|exact A6 rfl);intro b w hI hs
    refine dt 10 hX (k:=?_)
    repeat' (first|refine Nx.h ?_|(refine AU hs (k:=?_);intro w hs)|fail)
    refine dn (k:=?_)
    refine tk 11 hX (k:=?_)
    refine en (k:=?_)
    repeat' (first|refine Sd ?_|(refine AU hs (k:=?_);intro w hs)|fail)
    exact A2 (i+1,out+Dg x+2) (by show xs.length - (i+1) < xs.length - i;omega) (by (repeat (first | exact Ac | (apply A5;first | exact rfl | exact congrArg (Value.int .i64) ei)))) ⟨by show i+1≤xs.length;omega,hca,Wm,by show 0≤out+Dg x+2;omega,hs.Bt.Bt.Bt⟩
   ·have Wm:¬ A9 (out+Dg x+2):=fun h=>by
     have:j=0∨j=1∨j=2∨j=3:=by simp at hj;omega
     rcases this with rfl | rfl | rfl | rfl
     ·rw [p0] at hn;exact hn Qn
     ·rw [p1] at hn;exact hn AJ
     ·rw [p2] at hn;apply hn;unfold A9 at *;omega
     ·rw [p3] at hn;exact hn h
    rw [show Iv out (x :: xs.drop (i+1))=K9 from if_neg Wm] at hca
    refine Jb ?_
    refine dn (k:=?_)
    refine tk 6 hX (hc:=by cases f <;> kernel_rfl) (k:=?_)
    refine tk 7 hX (hc:=by cases f <;> kernel_rfl) (k:=?_)
    refine tk 8 hX (hc:=by cases f <;> kernel_rfl) (k:=?_)
    apply B9 9 (f:=f) (X:=X) hX hp;exact rfl;(apply AR AI;exact rfl);kernel_rfl;kernel_rfl;(intro X Y;(repeat (first | exact A4 | refine A3 ?_ (by exact rfl))));(intro w' hs;first|exact AH hs.hold|exact AH hs.hold.tail|exact A6 rfl);intro b w hI hs
    refine dt 10 hX (k:=?_)
    repeat' (first|refine Nx.h ?_|(refine AU hs (k:=?_);intro w hs)|fail)
    refine dn (k:=?_)
    refine tk 11 hX (k:=?_)
    refine en (k:=?_)
    refine Je ?_
    refine AY hs (h:=by exact O2 _) (k:=?_);intro w' ho hs;repeat' (first|refine Nx.h ?_|(refine AU hs (k:=?_);intro w hs)|fail)
    refine AF ?_
    refine ⟨?_,hs.AD rfl⟩
    rw [hca];rfl
  ·have M0:¬ ((i:Int) < xs.length):=hc
   have e:i=xs.length:=by omega
   rw [e,List.drop_length] at hca
   have e2:Iv 0 xs=out:=hca
   exact Ar () Ab (by rw [e2];exact hs)
 ·rintro _ env w hs
  repeat' (first|refine Sa ?_|(refine AU hs (k:=?_);intro w hs)|fail)
  refine AF ?_
  exact ⟨rfl,hs.AD rfl⟩
end Go.Proofs.Q0
namespace Go.Proofs.Q0
open Go Go.RowKit
abbrev Fm (l:List UInt8):Value := .string ⟨l.toArray⟩
section
variable {P : Program} {env : Env} {w : World} {d : Option Nat} {ty : Nat} {pos : String} {Am : Array Edge} {g : Option (Nat × Bool)}
theorem Oo {t t':Nat} {x y:Operand} {a b:List UInt8} (hx:ev env x=Fm a) (hy:ev env y=Fm b) (hl:a.length+b.length≤9223372036854775807) :
 (execOp (ev env) (⟨d,.binOp .add t x y t',ty,pos,Am,g⟩:Oper)).run P w = .ok (.value (Fm (a ++ b))) w:=by
 have e:(⟨a.toArray⟩:ByteArray) ++ ⟨b.toArray⟩=⟨(a ++ b).toArray⟩:=ByteArray.ext (by rw [ByteArray.data_append];simp)
 simp [execOp,hx,hy,eqGuard,binOp,Sem.run_bind,Op.stringOp,e]
 have h1:ByteArray.size ⟨a.toArray⟩=a.length:=rfl
 have h2:ByteArray.size ⟨b.toArray⟩=b.length:=rfl
 rw [h1,h2]
 omega
theorem QK {x:Operand} {t:Nat} {ats:Array TypeId} {a:List UInt8} (hat:ats[0]?=some t) (hu:P.underlying t=some .string) (hx:ev env x=Fm a) :
 (execOp (ev env) (⟨d,.call { callee := .builtin .len,args:=#[x],argTypes:=ats },ty,pos,Am,g⟩:Oper)).run P w = .ok (.value (.int .i64 a.length)) w:=by
 simp [execOp,resolve,Sem.run_bind,invoke,builtin,Builtin.len_,hat,hx,BB hu,goInt]
 rfl
theorem qS {t t':Nat} {x y:Operand} {a b:List UInt8} (hu:P.underlying t=some .string) (hx:ev env x=Fm a) (hy:ev env y=Fm b) :
 (execOp (ev env) (⟨d,.binOp .eql t x y t',ty,pos,Am,g⟩:Oper)).run P w = .ok (.value (.bool (decide (a=b)))) w:=by
 have e:((⟨a.toArray⟩:ByteArray).toList == (⟨b.toArray⟩:ByteArray).toList)=decide (a=b):=by
  rw [ByteArray.toList_eq,ByteArray.toList_eq]
  show (a == b)=decide (a=b)
  by_cases h:a=b
  ·subst h;simp
  ·rw [decide_eq_false h];simp [h]
 have e0:(a == b)=decide (a=b):=by
  by_cases h:a=b
  ·subst h;simp
  ·rw [decide_eq_false h];simp [h]
 simp [execOp,hx,hy,eqGuard,binOp,Sem.run_bind,Op.stringOp,e]
 exact e0
theorem mF {t:Nat} {x y:Operand} {a:List UInt8} {kk:IntKind} {i:Nat} {b:UInt8} (hu:P.underlying t=some .string) (hx:ev env x=Fm a) (hy:ev env y = .int kk (i:Nat)) (hb:a[i]?=some b) :
 (execOp (ev env) (⟨d,.index t x y,ty,pos,Am,g⟩:Oper)).run P w = .ok (.value (.int .u8 (b.toNat:Nat))) w:=by
 have h:(⟨a.toArray⟩:ByteArray)[i]?=some b:=by
  have hlt:i < a.length:=(List.getElem?_eq_some_iff.1 hb).1
  have he:=(List.getElem?_eq_some_iff.1 hb).2
  rw [getElem?_pos (⟨a.toArray⟩:ByteArray) i (show i < a.toArray.size by simpa using hlt)]
  exact congrArg some he
 simp [execOp,hx,hy,Instr.index,asIntOf,Sem.run_bind,BB hu,h]
theorem gI {t l:Nat} {x lo:Operand} {a:List UInt8} {kk:IntKind} (hu:P.underlying t=some .string) (hx:ev env x=Fm a) (hlo:ev env lo = .int kk (l:Nat)) (hl:l≤a.length) :
 (execOp (ev env) (⟨d,.slice t x (some lo) none none,ty,pos,Am,g⟩:Oper)).run P w = .ok (.value (Fm (a.drop l))) w:=by
 have h1:ByteArray.size ⟨a.toArray⟩=a.length:=rfl
 have h2:(⟨a.toArray⟩:ByteArray).extract l a.length=⟨(a.drop l).toArray⟩:=ByteArray.ext (by
  rw [ByteArray.data_extract]
  simp
  exact List.take_of_length_le (by simp))
 simp [execOp,Instr.sliceAt,Sem.run_bind,BB hu,hx,Instr.slice,Instr.sliceBounds,h1,JH hlo hl,h2]
end
end Go.Proofs.Q0
namespace Go.Proofs.Q0
open Go Go.RowKit
attribute [local irreducible] XS XC XA AX AO A7 A0 AZ A8 Aa AV SE
theorem AA.on {w0 w w':World} (h:AA [] w0 w) (k:AA [] w w'):AA [] w0 w':=h.trans k
theorem I3:Tryz.prog.underlying 9=some .string:=by kernel_rfl
def G4:List UInt8→List UInt8
 | a :: b :: l=>if a=48 then G4 (b :: l) else a :: b :: l
 | l=>l
theorem Pz {l:List UInt8} (h:l.length≤1):G4 l=l:=by
 match l,h with
 | [],_=>rfl
 | [a],_=>rfl
theorem Wk (l:List UInt8) (w0:World):AM Tryz.prog 276 #[Fm l] w0 fun v w'=>v=Fm (G4 l)∧AA [] w0 w':=by
 have hs:=St.nil w0
 refine AQ Tryz.func276 Tryz.ntmps276 (k:=?_)
 refine Ja ?_
 refine BN (fun s:List UInt8=>[(0,Fm s)]) (fun s w=>s=G4 l∧AA [] w0 w) ?_ ?_
 ·refine BD (fun (s:List UInt8)=>[(0,Fm s)]) (fun s w=>G4 s=G4 l∧AA [] w0 w) (fun s=>s.length) l Ab ⟨rfl,hs.AD rfl⟩ fun s env w ⟨h1,ho⟩=>?_
  clear hs
  have hs:=St.nil w
  refine Jb ?_
  refine Al ?_
  refine vs (k:=?_)
  refine xs_val rfl (QK rfl I3 rfl) ?_
  refine vs (k:=?_)
  match s,h1 with
  | [],h1 =>
    refine V2 5 (v := .bool false) (congrArg Value.bool rfl) ?_
    repeat' (first|refine vs (k:=?_)|refine ps (k:=?_)|refine Nx.h ?_|refine ES ?_|fail)
    exact Ar [] Ab ⟨h1,ho.on (hs.AD rfl)⟩
  | [a],h1 =>
    refine V2 5 (v := .bool false) (congrArg Value.bool rfl) ?_
    repeat' (first|refine vs (k:=?_)|refine ps (k:=?_)|refine Nx.h ?_|refine ES ?_|fail)
    exact Ar [a] Ab ⟨h1,ho.on (hs.AD rfl)⟩
  | a :: b :: s,h1 =>
    refine V2 5 (v := .bool true) (congrArg Value.bool (decide_eq_true (by simp only [List.length_cons];omega))) ?_
    refine vs (k:=?_)
    refine vs (k:=?_)
    refine xs_val rfl (mF (i:=0) (b:=a) I3 rfl rfl rfl) ?_
    repeat' (first|refine Sa ?_|refine Au rfl (fun hc=>?_) fun hc=>?_|fail)
    ·have e:a=48:=by
      have h:(a.toNat:Int)=48:=by simpa using hc
      exact UInt8.toNat_inj.1 (by have : a.toNat = 48 := by omega
                                  rw [this];rfl)
     refine xs_val rfl (gI (l:=1) I3 rfl rfl (by simp)) ?_
     refine Jc ?_
     refine A2 (b :: s) (by simp) Ab ⟨?_,ho.on (hs.AD rfl)⟩
     rw [← h1,e]
     rfl
    ·have e:a≠48:=fun e=>by subst e;simp at hc
     refine Ar (a :: b :: s) Ab ⟨?_,ho.on (hs.AD rfl)⟩
     rw [← h1]
     simp [G4,e]
 ·clear hs
  rintro s env w ⟨rfl,ho⟩
  have hs:=St.nil w
  refine Ja ?_
  refine AF ?_
  exact ⟨rfl,ho.on (hs.AD rfl)⟩
end Go.Proofs.Q0
namespace Go.Proofs
open Go.Shelf
def Tryz.U8:Go.Shelf.Ren:=⟨fun | 283=>284 | n=>n,fun | 3=>3 | 9=>9 | 4=>4 | n=>n,fun | n=>n⟩
theorem Tryz.dW:Go.Proofs.Lays.n283 Tryz.prog Tryz.U8:={
 mixed:=by kernel_rfl
 f283:=Tryz.func284.trans (congrArg some (by kernel_rfl))
 t3:=Tryz.underlying3
 a3:=Tryz.isAgg3
 z3:=Tryz.sizeOf3
 v3:=Tryz.zeroValue3
 t4:=Tryz.underlying4
 a4:=Tryz.isAgg4
 z4:=Tryz.sizeOf4
 v4:=Tryz.zeroValue4
 t9:=Tryz.underlying9
 a9:=Tryz.isAgg9
 z9:=Tryz.sizeOf9
 v9:=Tryz.zeroValue9 }
def Tryz.Sp:Go.Shelf.Ren:=⟨fun | 284=>285 | 129=>166 | 317=>293 | 318=>294 | n=>n,fun | 53=>22 | 3=>3 | 212=>315 | 0=>0 | 4=>4 | 46=>193 | 5=>5 | 9=>9 | n=>n,fun | 17=>2 | n=>n⟩
theorem Tryz.bS:Go.Proofs.LaysM.n284 Tryz.prog Tryz.Sp:={
 mixed:=by kernel_rfl
 f129:=Tryz.func166.trans (congrArg some (by kernel_rfl))
 f284:=Tryz.func285.trans (congrArg some (by kernel_rfl))
 f317:=Tryz.func293.trans (congrArg some (by kernel_rfl))
 f318:=Tryz.func294.trans (congrArg some (by kernel_rfl))
 t0:=Tryz.underlying0
 a0:=Tryz.isAgg0
 z0:=Tryz.sizeOf0
 v0:=Tryz.zeroValue0
 t3:=Tryz.underlying3
 a3:=Tryz.isAgg3
 z3:=Tryz.sizeOf3
 v3:=Tryz.zeroValue3
 t4:=Tryz.underlying4
 a4:=Tryz.isAgg4
 z4:=Tryz.sizeOf4
 v4:=Tryz.zeroValue4
 t5:=Tryz.underlying5
 a5:=Tryz.isAgg5
 z5:=Tryz.sizeOf5
 v5:=Tryz.zeroValue5
 t9:=Tryz.underlying9
 a9:=Tryz.isAgg9
 z9:=Tryz.sizeOf9
 v9:=Tryz.zeroValue9
 t46:=Tryz.underlying193
 a46:=Tryz.isAgg193
 z46:=Tryz.sizeOf193
 v46:=Tryz.zeroValue193
 t53:=Tryz.underlying22
 a53:=Tryz.isAgg22
 z53:=Tryz.sizeOf22
 v53:=Tryz.zeroValue22
 t212:=Tryz.underlying315
 a212:=Tryz.isAgg315
 z212:=Tryz.sizeOf315
 v212:=Tryz.zeroValue315
 g17:=by kernel_rfl
 i0:=by kernel_rfl
 i3:=by kernel_rfl
 i4:=by kernel_rfl
 i5:=by kernel_rfl
 i9:=by kernel_rfl
 i46:=by kernel_rfl
 i53:=by kernel_rfl
 i212:=by kernel_rfl
 m17:=by kernel_rfl }
def Tryz.V6:Go.Shelf.Ren:=⟨fun | 285=>286 | n=>n,fun | 37=>308 | 53=>22 | 3=>3 | 4=>4 | 51=>49 | 9=>9 | 5=>5 | 0=>0 | n=>n,fun | n=>n⟩
theorem Tryz.lS:Go.Proofs.Lays.n285 Tryz.prog Tryz.V6:={
 mixed:=by kernel_rfl
 f285:=Tryz.func286.trans (congrArg some (by kernel_rfl))
 t0:=Tryz.underlying0
 a0:=Tryz.isAgg0
 z0:=Tryz.sizeOf0
 v0:=Tryz.zeroValue0
 t3:=Tryz.underlying3
 a3:=Tryz.isAgg3
 z3:=Tryz.sizeOf3
 v3:=Tryz.zeroValue3
 t4:=Tryz.underlying4
 a4:=Tryz.isAgg4
 z4:=Tryz.sizeOf4
 v4:=Tryz.zeroValue4
 t5:=Tryz.underlying5
 a5:=Tryz.isAgg5
 z5:=Tryz.sizeOf5
 v5:=Tryz.zeroValue5
 t9:=Tryz.underlying9
 a9:=Tryz.isAgg9
 z9:=Tryz.sizeOf9
 v9:=Tryz.zeroValue9
 t37:=Tryz.underlying308
 a37:=Tryz.isAgg308
 z37:=Tryz.sizeOf308
 v37:=Tryz.zeroValue308
 t51:=Tryz.underlying49
 a51:=Tryz.isAgg49
 z51:=Tryz.sizeOf49
 v51:=Tryz.zeroValue49
 t53:=Tryz.underlying22
 a53:=Tryz.isAgg22
 z53:=Tryz.sizeOf22
 v53:=Tryz.zeroValue22 }
def Tryz.T9:Go.Shelf.Ren:=⟨fun | 7=>43 | 10=>83 | n=>n,fun | 23=>77 | 26=>3 | 3=>66 | 28=>105 | 0=>0 | 27=>104 | 33=>150 | 4=>4 | n=>n,fun | n=>n⟩
theorem Tryz.oZ:Go.Proofs.SlLaysZI.n7 Tryz.prog Tryz.T9:={
 mixed:=by kernel_rfl
 f7:=⟨Tryz.f43.name,by decide,Tryz.func43.trans (congrArg some (by kernel_rfl))⟩
 f10:=⟨Tryz.f83.name,by decide,Tryz.func83.trans (congrArg some (by kernel_rfl))⟩
 t0:=Tryz.underlying0
 a0:=Tryz.isAgg0
 z0:=Tryz.sizeOf0
 v0:=Tryz.zeroValue0
 t4:=Tryz.underlying4
 a4:=Tryz.isAgg4
 z4:=Tryz.sizeOf4
 v4:=Tryz.zeroValue4
 t23:=Tryz.underlying77
 a23:=Tryz.isAgg77
 z23:=Tryz.sizeOf77
 v23:=Tryz.zeroValue77
 t26:=Tryz.underlying3
 a26:=Tryz.isAgg3
 z26:=Tryz.sizeOf3
 v26:=Tryz.zeroValue3
 t27:=Tryz.underlying104
 a27:=Tryz.isAgg104
 z27:=Tryz.sizeOf104
 v27:=Tryz.zeroValue104
 t28:=Tryz.underlying105
 a28:=Tryz.isAgg105
 z28:=Tryz.sizeOf105
 v28:=Tryz.zeroValue105
 t33:=Tryz.underlying150
 a33:=Tryz.isAgg150
 z33:=Tryz.sizeOf150
 v33:=Tryz.zeroValue150 }
def Tryz.Py:Go.Shelf.Ren:=⟨fun | 6=>42 | 8=>81 | 9=>82 | 11=>121 | 13=>123 | 12=>122 | 23=>165 | 24=>166 | 14=>156 | 15=>157 | 16=>158 | 17=>159 | 18=>160 | 19=>161 | 20=>162 | 21=>163 | 22=>164 | 25=>202 | 26=>203 | 27=>204 | 28=>205 | 29=>206 | 30=>207 | 31=>225 | n=>n,fun | 26=>3 | 28=>105 | 24=>34 | 0=>0 | 3=>3 | 37=>193 | 48=>49 | 50=>22 | 4=>4 | 40=>229 | 39=>228 | 45=>209 | 5=>5 | 9=>9 | 51=>263 | 55=>267 | 57=>284 | 58=>285 | 33=>150 | n=>n,fun | n=>n⟩
theorem Tryz.rB:Go.Proofs.SlLaysZI.n6 Tryz.prog Tryz.Py:={
 mixed:=by kernel_rfl
 f6:=⟨Tryz.f42.name,by decide,Tryz.func42.trans (congrArg some (by kernel_rfl))⟩
 f8:=⟨Tryz.f81.name,by decide,Tryz.func81.trans (congrArg some (by kernel_rfl))⟩
 f11:=⟨Tryz.f121.name,by decide,Tryz.func121.trans (congrArg some (by kernel_rfl))⟩
 t0:=Tryz.underlying0
 a0:=Tryz.isAgg0
 z0:=Tryz.sizeOf0
 v0:=Tryz.zeroValue0
 t24:=Tryz.underlying34
 a24:=Tryz.isAgg34
 z24:=Tryz.sizeOf34
 v24:=Tryz.zeroValue34
 t26:=Tryz.underlying3
 a26:=Tryz.isAgg3
 z26:=Tryz.sizeOf3
 v26:=Tryz.zeroValue3
 t28:=Tryz.underlying105
 a28:=Tryz.isAgg105
 z28:=Tryz.sizeOf105
 v28:=Tryz.zeroValue105
 i26:=by kernel_rfl }
def Tryz.cW:Go.Shelf.Ren:=⟨fun | 5=>82 | 8=>123 | 7=>122 | 19=>165 | 20=>166 | 10=>156 | 11=>157 | 12=>158 | 13=>159 | 14=>160 | 15=>161 | 16=>162 | 17=>163 | 18=>164 | 30=>202 | 31=>203 | 32=>204 | 33=>205 | 34=>206 | 35=>207 | 40=>225 | n=>n,fun | 23=>34 | 25=>3 | 3=>3 | 32=>193 | 22=>34 | 0=>0 | 44=>49 | 46=>22 | 4=>4 | 36=>229 | 35=>228 | 41=>209 | 5=>5 | 9=>9 | 53=>263 | 57=>267 | 63=>284 | 64=>285 | n=>n,fun | n=>n⟩
theorem Tryz.oK:Go.Proofs.SlLaysM.n5 Tryz.prog Tryz.cW:={
 mixed:=by kernel_rfl
 f5:=⟨Tryz.f82.name,by decide,Tryz.func82.trans (congrArg some (by kernel_rfl))⟩
 f7:=⟨Tryz.f122.name,by decide,Tryz.func122.trans (congrArg some (by kernel_rfl))⟩
 f8:=Tryz.func123.trans (congrArg some (by kernel_rfl))
 f10:=⟨Tryz.f156.name,by decide,Tryz.func156.trans (congrArg some (by kernel_rfl))⟩
 f11:=⟨Tryz.f157.name,by decide,Tryz.func157.trans (congrArg some (by kernel_rfl))⟩
 f12:=⟨Tryz.f158.name,by decide,Tryz.func158.trans (congrArg some (by kernel_rfl))⟩
 f13:=⟨Tryz.f159.name,by decide,Tryz.func159.trans (congrArg some (by kernel_rfl))⟩
 f14:=⟨Tryz.f160.name,by decide,Tryz.func160.trans (congrArg some (by kernel_rfl))⟩
 f15:=⟨Tryz.f161.name,by decide,Tryz.func161.trans (congrArg some (by kernel_rfl))⟩
 f16:=⟨Tryz.f162.name,by decide,Tryz.func162.trans (congrArg some (by kernel_rfl))⟩
 f17:=⟨Tryz.f163.name,by decide,Tryz.func163.trans (congrArg some (by kernel_rfl))⟩
 f18:=⟨Tryz.f164.name,by decide,Tryz.func164.trans (congrArg some (by kernel_rfl))⟩
 f19:=Tryz.func165.trans (congrArg some (by kernel_rfl))
 f20:=Tryz.func166.trans (congrArg some (by kernel_rfl))
 f30:=⟨Tryz.f202.name,by decide,Tryz.func202.trans (congrArg some (by kernel_rfl))⟩
 f31:=Tryz.func203.trans (congrArg some (by kernel_rfl))
 f32:=Tryz.func204.trans (congrArg some (by kernel_rfl))
 f33:=⟨Tryz.f205.name,by decide,Tryz.func205.trans (congrArg some (by kernel_rfl))⟩
 f34:=⟨Tryz.f206.name,by decide,Tryz.func206.trans (congrArg some (by kernel_rfl))⟩
 f35:=⟨Tryz.f207.name,by decide,Tryz.func207.trans (congrArg some (by kernel_rfl))⟩
 f40:=⟨Tryz.f225.name,by decide,Tryz.func225.trans (congrArg some (by kernel_rfl))⟩
 t0:=Tryz.underlying0
 a0:=Tryz.isAgg0
 z0:=Tryz.sizeOf0
 v0:=Tryz.zeroValue0
 t3:=Tryz.underlying3
 a3:=Tryz.isAgg3
 z3:=Tryz.sizeOf3
 v3:=Tryz.zeroValue3
 t4:=Tryz.underlying4
 a4:=Tryz.isAgg4
 z4:=Tryz.sizeOf4
 v4:=Tryz.zeroValue4
 t5:=Tryz.underlying5
 a5:=Tryz.isAgg5
 z5:=Tryz.sizeOf5
 v5:=Tryz.zeroValue5
 t9:=Tryz.underlying9
 a9:=Tryz.isAgg9
 z9:=Tryz.sizeOf9
 v9:=Tryz.zeroValue9
 t22:=Tryz.underlying34
 a22:=Tryz.isAgg34
 z22:=Tryz.sizeOf34
 v22:=Tryz.zeroValue34
 t23:=Tryz.underlying34
 a23:=Tryz.isAgg34
 z23:=Tryz.sizeOf34
 v23:=Tryz.zeroValue34
 t25:=Tryz.underlying3
 a25:=Tryz.isAgg3
 z25:=Tryz.sizeOf3
 v25:=Tryz.zeroValue3
 t32:=Tryz.underlying193
 a32:=Tryz.isAgg193
 z32:=Tryz.sizeOf193
 v32:=Tryz.zeroValue193
 t35:=Tryz.underlying228
 a35:=Tryz.isAgg228
 z35:=Tryz.sizeOf228
 v35:=Tryz.zeroValue228
 t36:=Tryz.underlying229
 a36:=Tryz.isAgg229
 z36:=Tryz.sizeOf229
 v36:=Tryz.zeroValue229
 t41:=Tryz.underlying209
 a41:=Tryz.isAgg209
 z41:=Tryz.sizeOf209
 v41:=Tryz.zeroValue209
 t44:=Tryz.underlying49
 a44:=Tryz.isAgg49
 z44:=Tryz.sizeOf49
 v44:=Tryz.zeroValue49
 t46:=Tryz.underlying22
 a46:=Tryz.isAgg22
 z46:=Tryz.sizeOf22
 v46:=Tryz.zeroValue22
 t53:=Tryz.underlying263
 a53:=Tryz.isAgg263
 z53:=Tryz.sizeOf263
 v53:=Tryz.zeroValue263
 t57:=Tryz.underlying267
 a57:=Tryz.isAgg267
 z57:=Tryz.sizeOf267
 v57:=Tryz.zeroValue267
 t63:=Tryz.underlying284
 a63:=Tryz.isAgg284
 z63:=Tryz.sizeOf284
 v63:=Tryz.zeroValue284
 t64:=Tryz.underlying285
 a64:=Tryz.isAgg285
 z64:=Tryz.sizeOf285
 v64:=Tryz.zeroValue285 }
def Tryz.ZU:Go.Shelf.Ren:=⟨fun | 5=>120 | 7=>155 | n=>n,fun | 23=>77 | 25=>3 | 3=>66 | 4=>4 | 20=>20 | n=>n,fun | n=>n⟩
theorem Tryz.xQ:Go.Proofs.SlLaysW.n5 Tryz.prog Tryz.ZU:={
 mixed:=by kernel_rfl
 f5:=⟨Tryz.f120.name,by decide,Tryz.func120.trans (congrArg some (by kernel_rfl))⟩
 f7:=Tryz.func155.trans (congrArg some (by kernel_rfl))
 t4:=Tryz.underlying4
 a4:=Tryz.isAgg4
 z4:=Tryz.sizeOf4
 v4:=Tryz.zeroValue4
 t20:=Tryz.underlying20
 a20:=Tryz.isAgg20
 z20:=Tryz.sizeOf20
 v20:=Tryz.zeroValue20
 t23:=Tryz.underlying77
 a23:=Tryz.isAgg77
 z23:=Tryz.sizeOf77
 v23:=Tryz.zeroValue77 }
def Tryz.aM:Go.Shelf.Ren:=⟨fun | 5=>154 | 7=>155 | n=>n,fun | 23=>112 | 25=>3 | 3=>64 | 4=>4 | 20=>20 | n=>n,fun | n=>n⟩
theorem Tryz.xH:Go.Proofs.SlLaysW.n5 Tryz.prog Tryz.aM:={
 mixed:=by kernel_rfl
 f5:=⟨Tryz.f154.name,by decide,Tryz.func154.trans (congrArg some (by kernel_rfl))⟩
 f7:=Tryz.func155.trans (congrArg some (by kernel_rfl))
 t4:=Tryz.underlying4
 a4:=Tryz.isAgg4
 z4:=Tryz.sizeOf4
 v4:=Tryz.zeroValue4
 t20:=Tryz.underlying20
 a20:=Tryz.isAgg20
 z20:=Tryz.sizeOf20
 v20:=Tryz.zeroValue20
 t23:=Tryz.underlying112
 a23:=Tryz.isAgg112
 z23:=Tryz.sizeOf112
 v23:=Tryz.zeroValue112 }
end Go.Proofs
namespace Go.Proofs.Q0
open Go Go.Shelf Go.RowKit Go.Sort Go.Lib
theorem YK (w:World) (T:TypeId) (nd:Nat) (hs:nd≤24):Holds (fun (b:UInt8)=>Value.int .u8 (b.toNat:Int)) (w.alloc (.cells zeros24 T)) w.heap.size 0 (Array.replicate nd (0:UInt8)):=by
 intro j hj
 have hj':j < nd:=by simpa using hj
 refine ⟨?_,World.frozen?_alloc_new _ _ _ _⟩
 rw [World.cell?_alloc_new,Nat.zero_add,zeros24_at j om]
 simp [hj']
theorem aAC (w:World) (o:Obj) (dk:Array UInt8) (k:Nat):∃ os,(putRow (fun (b:UInt8)=>Value.int .u8 (b.toNat:Int)) (w.alloc o) w.heap.size 0 dk).drewN k=grow (w.drewN k) os:=by
 rw [alloc_eq_grow]
 obtain ⟨os',_,e⟩:=putRow_grow_new (fun (b:UInt8)=>Value.int .u8 (b.toNat:Int)) w #[o] w.heap.size 0 dk (Nat.le_refl _)
 exact ⟨os',by rw [e];rfl⟩
theorem fmt_small (u:Nat) (hu:u < 100) (w:World):Calls Tryz.prog 281 #[.int .u64 (u:Int),.int .i64 10] w fun e w'=>e = .returned (.string ⟨(Lib.decDigits u).toArray⟩)∧∃ k os,w'=grow (w.drewN k) os:=by
 go_enter Tryz.func281,Tryz.ntmps281
 go_wp2_with (go_at_call 284;refine (Any.internal_strconv_small Tryz.dW u hu _).mono ?_;rintro e w' ⟨rfl,rfl⟩)
 go_ret
 exact ⟨rfl,0,#[],by simp [World.drewN_zero]⟩
theorem fmt_big (u : Nat) (aBQ : 100 ≤ u) (hu64 : u < 18446744073709551616) (w : World) (htab : Lib.TabIs Tryz.prog w "internal/strconv.uint64pow10" .u64 Lib.pow10Tab) : Calls Tryz.prog 281 #[.int .u64 (u : Int), .int .i64 10] w fun e w' => e = .returned (.string ⟨(Lib.decDigits u).toArray⟩) ∧ ∃ k os, w' = grow (w.drewN k) os := by
 have hu1:1≤u:=by omega
 have aBP:Lib.nDigits u≤20:=by have:=Lib.numDigits_eq u hu1 hu64;split at this <;> omega
 have hb4:Lib.nDigits u≤24:=by omega
 have hal:Tryz.prog.arrayLen 306=24:=by kernel_rfl
 have Cx:∀ W,(Instr.sliceAt 306 (.pointer (some ⟨w.heap.size,0,none⟩)) none (some (.int .i64 (Lib.nDigits u:Int))) none).run Tryz.prog W = .ok (.slice (some ⟨w.heap.size,0,none⟩) (Lib.nDigits u) 24) W:=fun W=>by
  rw [run_sliceAt_array_h W 306 ⟨w.heap.size,0,none⟩ (by kernel_rfl) .i64 (Lib.nDigits u:Int) om (by rw [hal];omega)]
  rw [hal]
  have e5:Tryz.prog.elem 306=5:=by kernel_rfl
  rw [e5]
  go_simp
  try omega
 have Yt:=YK w 306 (Lib.nDigits u) hb4
 have hfmt:=Any.internal_strconv_formatBase10 Tryz.lS w.heap.size 0 24 u (Array.replicate (Lib.nDigits u) 0) (w.alloc (.cells Lib.zeros24 306)) Yt (by rw [Array.size_replicate];exact Lib.lt_pow_nDigits u) hu64 (by rw [Array.size_replicate];omega)
 rw [Array.size_replicate] at hfmt
 have HH0:=Lib.hid Yt
 clear Yt hal
 go_enter Tryz.func281,Tryz.ntmps281
 go_wp2_with (first
  | (go_at_call 285;refine (Any.internal_strconv_numDigits Tryz.bS u hu1 hu64 _ (Lib.tabIs_alloc htab _)).mono ?_;rintro e w' ⟨rfl,rfl⟩))
 refine hfmt.mono ?_
 rintro e w' ⟨rfl,k,v',dk,rfl,hF⟩
 have hcv:(convert 308 9 (.slice (some ⟨w.heap.size,0,none⟩) (Lib.nDigits u) 24)).run Tryz.prog ((putRow (fun (b:UInt8)=>Value.int .u8 (b.toNat:Int)) (w.alloc (.cells Lib.zeros24 306)) w.heap.size 0 dk).drewN k) = .ok (.string ⟨(Lib.decDigits u).toArray⟩) ((putRow (fun (b:UInt8)=>Value.int .u8 (b.toNat:Int)) (w.alloc (.cells Lib.zeros24 306)) w.heap.size 0 dk).drewN k):=by
  have h:=run_convert_bytes_back (P:=Tryz.prog) ((putRow (fun (b:UInt8)=>Value.int .u8 (b.toNat:Int)) (w.alloc (.cells Lib.zeros24 306)) w.heap.size 0 dk).drewN k) 308 9 5 ⟨w.heap.size,0,none⟩ 24 (Lib.decDigits u) (by kernel_rfl) (by kernel_rfl) (by kernel_rfl) (fun j hj=>by
   rw [Lib.row_is_numeral hF j hj,Lib.add_plain,World.cell?_drewN]
   exact cell?_putRow (fun (b:UInt8)=>Value.int .u8 (b.toNat:Int)) _ w.heap.size 0 _ dk HH0.out (by rw [hF.size,Array.size_replicate]) j (by rw [hF.size];rw [Lib.decDigits_length] at hj;exact hj))
  rw [Lib.decDigits_length] at h
  exact h
 go_wp2
 go_ret
 obtain ⟨os,eo⟩:=aAC w (.cells Lib.zeros24 306) dk k
 exact ⟨rfl,k,os,eo⟩
end Go.Proofs.Q0
namespace Go.Proofs.Q0
open Go Go.RowKit Go.Sort Go.Lib
attribute [local irreducible] XS XC XA AX AO A7 A0 AZ A8 Aa AV SE
theorem ret_of_calls {P:Program} {f:FuncId} {args:Array Value} {w:World} {Q:Value→World→Prop} (he:Kl P f=true) (h:Calls P f args w fun e w'=>∃ v,e = .returned v∧Q v w'):AM P f args w Q := .inl ⟨Ml he args w,h⟩
abbrev DF (w : World) : Prop := Lib.TabIs Tryz.prog w "internal/strconv.uint64pow10" .u64 Lib.pow10Tab
theorem tab_only {w w':World} (h:DF w) (ho:AA [] w w'):DF w':=by
 unfold DF TabIs World.var? at *
 cases hg : Tryz.prog.globalNamed "internal/strconv.uint64pow10" with
 | none=>simp [hg] at h
 | some g =>
   simp only [hg,Option.bind_some] at h ⊢
   have hlt:g < w.heap.size:=by
    rcases Nat.lt_or_ge g w.heap.size with h' | h'
    ·exact h'
    ·rw [Array.getElem?_eq_none h'] at h;simp at h
   rw [ho.frame g hlt (by simp)]
   exact h
theorem UD (w:World) (k:Nat) (os:Array Obj):AA [] w (grow (w.drewN k) os) :=
 ⟨rfl,rfl,rfl,by show w.heap.size≤(w.heap ++ os).size;rw [Array.size_append];exact Nat.le_add_right _ _,fun i hi _=>by show (w.heap ++ os)[i]?=_;rw [Array.getElem?_append_left hi]⟩
theorem iH (u:Nat) (hu:u < 18446744073709551616) (w0:World) (ht:DF w0):AM Tryz.prog 281 #[.int .u64 (u:Int),.int .i64 10] w0 fun v w'=>v = .string ⟨(Lib.decDigits u).toArray⟩∧AA [] w0 w':=by
 refine ret_of_calls (by kernel_rfl) ?_
 by_cases h:u < 100
 ·exact (fmt_small u h w0).mono fun e w' ⟨he,k,os,hw⟩=>⟨_,he,rfl,hw ▸ UD w0 k os⟩
 ·exact (fmt_big u om hu w0 ht).mono fun e w' ⟨he,k,os,hw⟩=>⟨_,he,rfl,hw ▸ UD w0 k os⟩
theorem Yj (u:Nat) (hu:u < 18446744073709551616) (w0:World) (ht:DF w0):AM Tryz.prog 275 #[.int .u64 (u:Int),.int .i64 10] w0 fun v w'=>v = .string ⟨(Lib.decDigits u).toArray⟩∧AA [] w0 w':=by
 have hs:=St.nil w0
 refine AQ Tryz.func275 Tryz.ntmps275 (k:=?_)
 refine Ja ?_
 refine AY hs (h:=by exact iH u hu _ (tab_only ht (hs.AD rfl))) (k:=?_);intro w' ho hs;refine Jc ?_
 refine AF ?_
 exact ⟨rfl,hs.AD rfl⟩
end Go.Proofs.Q0
namespace Go.Proofs.Q0
open Go Go.Lib
def IL (l:List UInt8):Prop:=∀ b∈l,48≤b.toNat∧b.toNat≤57
def DM (l:List UInt8):Nat:=l.foldl (fun n b=>10*n+(b.toNat - 48)) 0
theorem US (l:List UInt8) (b:UInt8):DM (l ++ [b])=10*DM l+(b.toNat - 48):=by simp [DM,List.foldl_append]
theorem fF (l:List UInt8):∀ n:Nat,l.foldl (fun n b=>10*n+(b.toNat - 48)) n=10 ^ l.length*n+DM l:=by
 induction l with
 | nil=>intro n;simp [DM]
 | cons a l ih =>
   intro n
   simp only [List.foldl_cons,DM]
   rw [ih,ih (10*0+(a.toNat - 48))]
   simp only [List.length_cons,Nat.pow_succ]
   rw [Nat.mul_add,Nat.mul_zero,Nat.zero_add,Nat.add_assoc,← Nat.mul_assoc,Nat.mul_assoc (10 ^ l.length)]
theorem MH (a b:List UInt8):DM (a ++ b)=10 ^ b.length*DM a+DM b:=by
 unfold DM
 rw [List.foldl_append,fF b]
 rfl
theorem O1 (a:UInt8) (l:List UInt8):DM (a :: l)=10 ^ l.length*(a.toNat - 48)+DM l:=by
 have:=MH [a] l
 simpa [DM] using this
theorem QD {a b:UInt8} (h:a.toNat=b.toNat):a=b:=UInt8.toNat_inj.1 h
theorem S3:∀ (n:Nat) (l:List UInt8),l.length=n+1→IL l→(l.length=1∨l.head?≠some 48)→l=decDigits (DM l)
 | 0,l,hl,hd,_=>by
   obtain ⟨a,rfl⟩:=List.length_eq_one_iff.1 hl
   have h:=hd a (by simp)
   have hv:DM [a]=a.toNat - 48:=by simp [DM]
   rw [hv,decDigits_one om]
   congr 1
   apply QD
   rw [show 48+(a.toNat - 48)=a.toNat by omega]
   simp
 | n+1,l,hl,hd,hc=>by
   obtain ⟨m,d,rfl⟩:∃ m d,l=m ++ [d]:=by
    refine ⟨l.dropLast,l.getLast (by intro h;rw [h] at hl;cases hl),(List.dropLast_concat_getLast _).symm⟩
   have hml:m.length=n+1:=by simpa using hl
   have hmd:IL m:=fun b hb=>hd b (List.mem_append_left _ hb)
   have pM:=hd d (by simp)
   have hh:m.head?≠some 48:=by
    rcases hc with hc | hc
    ·simp at hc;rw [hc] at hml;cases hml
    ·rw [List.head?_append] at hc
     cases m with
     | nil=>cases hml
     | cons a m=>simpa using hc
   have ih:=S3 n m hml hmd (.inr hh)
   have hpos:1≤DM m:=by
    cases m with
    | nil=>cases hml
    | cons a m =>
      have ha:=hmd a (by simp)
      have hne:a.toNat≠48:=fun e=>hh (by simp;exact QD e)
      rw [O1]
      have:1≤10 ^ m.length*(a.toNat - 48):=Nat.mul_pos (Nat.pow_pos (by decide)) om
      omega
   rw [US,decDigits,dif_neg om]
   have e1:(10*DM m+(d.toNat - 48)) / 10=DM m:=by omega
   have e2:(10*DM m+(d.toNat - 48)) % 10=d.toNat - 48:=by omega
   rw [e1,e2,← ih]
   congr 2
   apply QD
   rw [show 48+(d.toNat - 48)=d.toNat by omega]
   simp
theorem HW:∀ (l:List UInt8),l≠[]→IL l→G4 l=decDigits (DM l)
 | [],h,_=>absurd rfl h
 | [a],_,hd=>S3 0 [a] rfl hd (.inl rfl)
 | a :: b :: l,_,hd=>by
   by_cases e:a=48
   ·subst e
    rw [show G4 (48 :: b :: l)=G4 (b :: l) by simp [G4],O1]
    rw [HW (b :: l) (by simp) (fun x hx=>hd x (List.mem_cons_of_mem _ hx))]
    simp
   ·rw [show G4 (a :: b :: l)=a :: b :: l by simp [G4,e]]
    exact S3 (l.length+1) _ (by simp) hd (.inr (by simpa using e))
end Go.Proofs.Q0
namespace Go.Proofs.Q0
open Go Go.RowKit Go.Lib
attribute [local irreducible] XS XC XA AX AO A7 A0 AZ A8 Aa AV SE
theorem Uq:∀ u:Nat,IL (decDigits u):=by
 intro u
 induction u using Nat.strongRecOn with
 | _ u ih =>
   intro b hb
   rw [decDigits] at hb
   split at hb
   ·obtain rfl:=List.mem_singleton.1 hb
    have:(UInt8.ofNat (48+u)).toNat=48+u:=by simp;omega
    omega
   ·rcases List.mem_append.1 hb with hb | hb
    ·exact ih (u / 10) om b hb
    ·obtain rfl:=List.mem_singleton.1 hb
     have:(UInt8.ofNat (48+u % 10)).toNat=48+u % 10:=by simp;omega
     omega
theorem Wb:∀ u:Nat,DM (decDigits u)=u:=by
 intro u
 induction u using Nat.strongRecOn with
 | _ u ih =>
   rw [decDigits]
   split
   ·have:(UInt8.ofNat (48+u)).toNat=48+u:=by simp;omega
    simp only [DM,List.foldl_cons,List.foldl_nil]
    omega
   ·have:(UInt8.ofNat (48+u % 10)).toNat=48+u % 10:=by simp;omega
    rw [US,ih (u / 10) om]
    omega
theorem tY (u:Nat):decDigits u≠[]:=fun h=>by have:=decDigits_length u;rw [h] at this;have:=nDigits_pos u;simp at *;omega
theorem Xx (l:List UInt8):DM (48 :: l)=DM l:=by rw [O1];simp
theorem jJ {a:UInt8} {l:List UInt8} (h1:48≤a.toNat∧a.toNat≤57) (h:IL l):IL (a :: l):=fun b hb=>by
 rcases List.mem_cons.1 hb with rfl | hb
 ·exact h1
 ·exact h b hb
theorem P8 {a b:List UInt8} (h:IL a) (k:IL b):IL (a ++ b):=fun x hx=>by
 rcases List.mem_append.1 hx with hx | hx
 ·exact h x hx
 ·exact k x hx
theorem iZ {u:Nat} (h:u < 1000000000000000000):(decDigits u).length≤18:=by
 rw [decDigits_length]
 rcases Nat.lt_or_ge 18 (nDigits u) with h1 | h1
 ·rcases Nat.eq_zero_or_pos u with rfl | hu
  ·rw [nDigits_small (by decide)] at h1;omega
  ·exfalso
   have key:∀ (n u:Nat),nDigits u=n+1→0 < u→10 ^ n≤u:=by
    intro n
    induction n with
    | zero=>intro u _ h;rw [Nat.pow_zero];exact h
    | succ n ih =>
      intro u h1 h2
      have hb:¬ u < 10:=fun h=>by rw [nDigits_small h] at h1;omega
      rw [nDigits_big hb] at h1
      have:=ih (u / 10) om om
      rw [Nat.pow_succ]
      omega
   obtain ⟨n,hn⟩:∃ n,nDigits u=n+1:=⟨nDigits u - 1,by omega⟩
   have h2:=key n u hn hu
   have h3:10 ^ 18≤10 ^ n:=Nat.pow_le_pow_right (by decide) om
   have h4:(10:Nat) ^ 18=1000000000000000000:=by decide
   omega
 ·exact h1
def MX (x:Int):List UInt8:=(if x < 0 then [45] else []) ++ decDigits x.natAbs
structure Yu (n m:Nat) (s:List UInt8):Prop where
 dig:IL s
 val:10 ^ s.length*m+DM s=n
 len:s.length≤60
 le:m≤n
theorem sH {n m:Nat} {s:List UInt8} (h:Yu n m s) (hm:0 < m) (hn:n < 340282366920938463463374607431768211456):s.length≤38:=by
 rcases Nat.lt_or_ge 38 s.length with h1 | h1
 ·exfalso
  have h2:10 ^ 39≤10 ^ s.length:=Nat.pow_le_pow_right (by decide) h1
  have h3:10 ^ s.length≤10 ^ s.length*m:=Nat.le_mul_of_pos_right _ hm
  have h4:=h.val
  have h5:(10:Nat) ^ 39=1000000000000000000000000000000000000000:=by decide
  omega
 ·exact h1
theorem lI {n m:Nat} {s p:List UInt8} (h:Yu n m s) (hm:0 < m) (hn:n < 340282366920938463463374607431768211456) (hp:IL p) (hl:p.length=18) (hv:DM p=m % 1000000000000000000):Yu n (m / 1000000000000000000) (p ++ s):=by
 refine ⟨P8 hp h.dig,?_,?_,Nat.le_trans (Nat.div_le_self _ _) h.le⟩
 ·rw [MH,List.length_append,hl,hv,Nat.pow_add]
  have h1:=h.val
  have h2:m=1000000000000000000*(m / 1000000000000000000)+m % 1000000000000000000:=(Nat.div_add_mod m _).symm
  rw [← h1]
  have e:(10:Nat) ^ 18=1000000000000000000:=by decide
  rw [e]
  generalize 10 ^ s.length=T at *
  generalize DM s=v at *
  generalize hq:m / 1000000000000000000=q at *
  generalize hr:m % 1000000000000000000=r at *
  rw [h2]
  rw [Nat.mul_add,← Nat.add_assoc]
  congr 2
  rw [Nat.mul_comm T,Nat.mul_assoc,Nat.mul_assoc,Nat.mul_comm T q,Nat.mul_comm q T]
 ·have:=sH h hm hn
  rw [List.length_append,hl]
  omega
theorem r8 {n m:Nat} {s:List UInt8} (h:Yu n m s):IL (decDigits m ++ s)∧DM (decDigits m ++ s)=n∧decDigits m ++ s≠[] :=
 ⟨P8 (Uq m) h.dig,by rw [MH,Wb];exact h.val,fun e=>tY m (List.append_eq_nil_iff.1 e).1⟩
theorem rT (hi lo:Nat) (h1:hi < 1000000000000000000) (h4:lo < 18446744073709551616) (w0:World) :
 AM Tryz.prog 125 #[.int .u64 (hi:Nat),.int .u64 (lo:Nat),.int .u64 1000000000000000000] w0 fun v w'=>v = .tuple #[.int .u64 ((hi*18446744073709551616+lo) / 1000000000000000000:Nat),.int .u64 ((hi*18446744073709551616+lo) % 1000000000000000000:Nat)]∧AA [] w0 w':=by
 have h:=OR (hi:Nat) (lo:Nat) 1000000000000000000 om om om om om w0
 exact h
theorem u5 {x:Int} {n:Nat} (hx:A9 x) (h:nY x (n:Nat)) (w0:World):AM Tryz.prog 124 #[wv x] w0 fun v w'=>v = .tuple #[.int .u64 (n / 18446744073709551616:Nat),.int .u64 (n % 18446744073709551616:Nat)]∧AA [] w0 w':=Ot hx h w0
theorem Oh {u:Nat} (h:u < 340282366920938463463374607431768211456):nDigits u≤40:=by
 have h1:=decDigits_length u
 rcases Nat.lt_or_ge 40 (nDigits u) with h2 | h2
 ·obtain ⟨n,hn⟩:∃ n,nDigits u=n+1:=⟨nDigits u - 1,by omega⟩
  have key:∀ (n u:Nat),nDigits u=n+1→10 ^ n≤u∨n=0:=by
   intro n
   induction n with
   | zero=>intro u _;exact .inr rfl
   | succ n ih =>
     intro u h1
     have hb:¬ u < 10:=fun h=>by rw [nDigits_small h] at h1;omega
     rw [nDigits_big hb] at h1
     rcases ih (u / 10) om with h | rfl
     ·left;rw [Nat.pow_succ];omega
     ·left;omega
  rcases key n u hn with h3 | h3
  ·exfalso
   have h4:10 ^ 40≤10 ^ n:=Nat.pow_le_pow_right (by decide) om
   have h5:(10:Nat) ^ 40=10000000000000000000000000000000000000000:=by decide
   omega
  ·omega
 ·exact h2
theorem cQ {u:Nat} (h:u < 18446744073709551616):(decDigits u).length≤40:=by rw [decDigits_length];exact Oh om
theorem rE (m:Nat) (hm:m < 340282366920938463463374607431768211456):(m:Nat) / 18446744073709551616 / 1000000000000000000=m / 1000000000000000000 / 18446744073709551616 ∧
 (m / 18446744073709551616 % 1000000000000000000*18446744073709551616+m % 18446744073709551616) / 1000000000000000000=m / 1000000000000000000 % 18446744073709551616:=by
 constructor <;> omega
theorem vV (m:Nat):(m:Nat) / 18446744073709551616 / 1000000000000000000*18446744073709551616+(m / 18446744073709551616 % 1000000000000000000*18446744073709551616+m % 18446744073709551616) / 1000000000000000000=m / 1000000000000000000 ∧
 (m / 18446744073709551616 % 1000000000000000000*18446744073709551616+m % 18446744073709551616) % 1000000000000000000=m % 1000000000000000000:=by
 constructor <;> omega
theorem bT (x:Int) (hx:A9 x) (w0:World) (ht:DF w0):AM Tryz.prog 273 #[wv x] w0 fun v w'=>v=Fm (MX x)∧AA [] w0 w':=by
 have hs:=St.nil w0
 have hn:nY x (x.natAbs:Nat):=⟨by omega,by omega⟩
 have hnl:x.natAbs < 340282366920938463463374607431768211456:=by obtain ⟨h1,h2⟩:=hx;omega
 refine AQ Tryz.func273 Tryz.ntmps273 (k:=?_)
 repeat' (first|refine Sa ?_|(refine bx hs (k:=?_);intro b w hz hs)|fail)
 refine AY hs (h:=by exact u5 hx hn _) (k:=?_);intro w' ho hs;refine Ja ?_
 refine BN (fun s:Nat × List UInt8=>[(1,.pointer (some ⟨b,0,none⟩)),(4,.int .u64 (s.1:Nat)),(5,Fm s.2)]) (fun s w=>Yu x.natAbs s.1 s.2∧s.1 < 18446744073709551616∧St w0 D0 [(b,.cells [Value.int .i64 (x / 18446744073709551616),.int .u64 (x % 18446744073709551616)].toArray 70,true)] w) ?_ ?_
 ·refine BD (fun s:Nat × List UInt8=>[(1,.pointer (some ⟨b,0,none⟩)),(3,.int .u64 (s.1 / 18446744073709551616:Nat)),(4,.int .u64 (s.1 % 18446744073709551616:Nat)),(5,Fm s.2)]) (fun s w=>Yu x.natAbs s.1 s.2∧St w0 D0 [(b,.cells [Value.int .i64 (x / 18446744073709551616),.int .u64 (x % 18446744073709551616)].toArray 70,true)] w) (fun s=>s.1) (x.natAbs,[]) Ab ⟨⟨by simp [IL],by simp [DM],by simp,Nat.le_refl _⟩,hs⟩ fun s env w ⟨h1,hs⟩=>?_
  obtain ⟨m,s⟩:=s
  have hm:=h1.le
  simp only at h1 hm hs ⊢
  repeat' (first|refine Sa ?_|refine Au rfl (fun hc=>?_) fun hc=>?_|fail)
  ·refine AY hs (h:=by exact rT (m / 18446744073709551616 % 1000000000000000000) (m % 18446744073709551616) om om _) (k:=?_);intro w' ho hs;refine Ja ?_
   refine AY hs (h:=by exact Yj _ om _ (tab_only ht (hs.AD rfl))) (k:=?_);intro w' ho hs;refine Jc ?_
   obtain ⟨q1,q2⟩:=vV m
   obtain ⟨a1,a2⟩:=rE m om
   refine BN (fun p:List UInt8=>[(1,.pointer (some ⟨b,0,none⟩)),(5,Fm s),(6,.int .u64 (m / 18446744073709551616 / 1000000000000000000:Nat)),(8,.int .u64 ((m / 18446744073709551616 % 1000000000000000000*18446744073709551616+m % 18446744073709551616) / 1000000000000000000:Nat)),(9,Fm p)]) (fun p w=>(IL p∧p.length=18∧DM p=m % 1000000000000000000)∧St w0 D0 [(b,.cells [Value.int .i64 (x / 18446744073709551616),.int .u64 (x % 18446744073709551616)].toArray 70,true)] w) ?_ ?_
   ·refine BD (fun p:List UInt8=>[(1,.pointer (some ⟨b,0,none⟩)),(5,Fm s),(6,.int .u64 (m / 18446744073709551616 / 1000000000000000000:Nat)),(8,.int .u64 ((m / 18446744073709551616 % 1000000000000000000*18446744073709551616+m % 18446744073709551616) / 1000000000000000000:Nat)),(9,Fm p)]) (fun p w=>(IL p∧p.length≤18∧DM p=m % 1000000000000000000)∧St w0 D0 [(b,.cells [Value.int .i64 (x / 18446744073709551616),.int .u64 (x % 18446744073709551616)].toArray 70,true)] w) (fun p=>18 - p.length) (decDigits ((m / 18446744073709551616 % 1000000000000000000*18446744073709551616+m % 18446744073709551616) % 1000000000000000000)) Ab ⟨⟨Uq _,iZ om,by rw [Wb];exact q2⟩,hs⟩ fun p env w ⟨⟨p1,p2,p3⟩,hs⟩=>?_
    refine Ja ?_
    refine xs_val rfl (QK rfl I3 rfl) ?_
    repeat' (first|refine Sa ?_|refine Au rfl (fun hc=>?_) fun hc=>?_|fail)
    ·refine xs_val rfl (Oo (a:=[48]) (b:=p) rfl rfl (by simp only [List.length_cons,List.length_nil];omega)) ?_
     refine Jc ?_
     refine A2 (48 :: p) (by simp only [List.length_cons];omega) Ab ⟨⟨jJ (by decide) p1,by simp only [List.length_cons];omega,by rw [Xx];exact p3⟩,hs⟩
    ·refine Ar p Ab ⟨⟨p1,by omega,p3⟩,hs⟩
   ·clear hs
    rintro p env w ⟨⟨p1,p2,p3⟩,hs⟩
    have t2:=lI h1 om hnl p1 p2 p3
    have Cx:=t2.len
    rw [List.length_append] at Cx
    refine Ja ?_
    refine xs_val rfl (Oo (a:=p) (b:=s) rfl rfl om) ?_
    refine Ja ?_
    refine A2 (m / 1000000000000000000,p ++ s) (by show _ < m;omega) (by (repeat (first | exact Ac | (apply A5;first | exact rfl | exact congrArg (fun n:Nat=>Value.int .u64 (n:Int)) a1 | exact congrArg (fun n:Nat=>Value.int .u64 (n:Int)) a2)))) ⟨t2,hs⟩
  ·have am:m % 18446744073709551616=m:=by omega
   refine Ar (m,s) (by (repeat (first | exact Ac | (apply A5;first | exact rfl | exact congrArg (fun n:Nat=>Value.int .u64 (n:Int)) am | exact congrArg (fun n:Nat=>Value.int .u64 (n:Int)) am)))) ⟨h1,by omega,hs⟩
 ·clear hs
  rintro ⟨m,s⟩ env w ⟨h1,hm,hs⟩
  simp only at h1 hm ⊢
  refine Ja ?_
  refine AY hs (h:=by exact Yj m hm _ (tab_only ht (hs.AD rfl))) (k:=?_);intro w' ho hs;refine Jf ?_
  obtain ⟨e1,e2,e3⟩:=r8 h1
  have Cx:=h1.len
  have hdl:=cQ hm
  refine xs_val rfl (Oo (a:=decDigits m) (b:=s) rfl rfl om) ?_
  refine Ja ?_
  refine xs_val rfl (QK rfl I3 rfl) ?_
  repeat' (first|refine Sa ?_|refine Au rfl (fun hc=>?_) fun hc=>?_|fail)
  ·refine AY hs (h:=by exact Wk _ _) (k:=?_);intro w' ho hs;repeat' (first|refine Sa ?_|refine Au rfl (fun hc=>?_) fun hc=>?_|fail)
   ·refine xs_val rfl (Oo (a:=[45]) (b:=G4 (decDigits m ++ s)) rfl rfl ?_) ?_
    ·rw [HW _ e3 e1,e2,decDigits_length,List.length_singleton]
     have:=Oh hnl
     omega
    refine Ja ?_
    refine AF ?_
    refine ⟨?_,hs.AD rfl⟩
    unfold MX
    rw [HW _ e3 e1,e2,if_pos om]
    rfl
   ·refine AF ?_
    refine ⟨?_,hs.AD rfl⟩
    unfold MX
    rw [HW _ e3 e1,e2,if_neg om]
    rfl
  ·have et:decDigits m ++ s=decDigits x.natAbs:=by
    rw [← e2,← HW _ e3 e1,Pz om]
   refine xs_val rfl (Oo (a:=[45]) (b:=decDigits m ++ s) rfl rfl ?_) ?_
   ·simp only [List.length_append,List.length_cons,List.length_nil]
    omega
   refine Ja ?_
   refine AF ?_
   refine ⟨?_,hs.AD rfl⟩
   unfold MX
   rw [et,if_pos om]
   rfl
  ·have et:decDigits m ++ s=decDigits x.natAbs:=by
    rw [← e2,← HW _ e3 e1,Pz om]
   refine AF ?_
   refine ⟨?_,hs.AD rfl⟩
   unfold MX
   rw [et,if_neg om]
   rfl
end Go.Proofs.Q0
namespace Go.Proofs.Q0
open Go Go.RowKit
attribute [local irreducible] XS XC XA AX AO A7 A0 AZ A8 Aa AV SE
theorem ps_one {w:World} {b:Nat} {p:Pt} (hb:w.heap[b]?=some (.cells p.cells.toArray 62 (0,0))):WJ w (.slice (some ⟨b,0,none⟩) 1 1) [p] :=
 ⟨_,1,rfl,fun _=>⟨b,0,_,(0,0),rfl,Nat.le_refl _,hb,fun i x h=>by
  cases i with
  | zero=>cases h;exact pick_of rfl rfl
  | succ i=>simp at h⟩⟩
theorem ps_two {w:World} {b:Nat} {p q:Pt} (hb:w.heap[b]?=some (.cells (p.cells ++ q.cells).toArray 62 (0,0))):WJ w (.slice (some ⟨b,0,none⟩) 2 2) [p,q] :=
 ⟨_,2,rfl,fun _=>⟨b,0,_,(0,0),rfl,Nat.le_refl _,hb,fun i x h=>by
  rcases i with _ | _ | i
  ·cases h;exact pick_of rfl rfl
  ·cases h;exact pick_of rfl rfl
  ·simp at h⟩⟩
theorem Zp (w0:World) (ht:DF w0):AM Tryz.prog 271 #[] w0 fun v w'=>v = .bool true∧AA [] w0 w':=by
 have hs:=St.nil w0
 refine AQ Tryz.func271 Tryz.ntmps271 (k:=?_)
 repeat' (first|refine Sa ?_|(refine bs hs (k:=?_);intro b w hz hs)|fail)
 refine cl (h:=by exact Hh 5 [⟨5,0,1⟩,⟨8,0,1⟩] _ (by decide) (by decide) (by simp) _ (ps_two (hs.get At.head))) (k:=?_)
 rw [show ofM 5 [⟨5,0,1⟩,⟨8,0,1⟩]=some ⟨5,3,2,2⟩ from by decide]
 rintro v w' ⟨rfl,ho⟩;replace hs:=hs.AK ho;repeat' (first|refine Sa ?_|(refine AU hs (k:=?_);intro w hs)|(refine al hs (k:=?_);intro b w hz hs)|fail)
 refine cl (h:=by exact Ng ⟨5,3,2,2⟩ (by decide) _) (k:=?_)
 rw [show IW ⟨5,3,2,2⟩=some 6 from by decide]
 rintro v w' ⟨rfl,ho⟩;replace hs:=hs.AK ho;refine Ja ?_
 refine AY hs (h:=by exact IB.aB _) (k:=?_);intro w' ho hs;refine Jf ?_
 refine cl (h:=by exact bT 3 (by decide) _ (tab_only ht (hs.AD rfl))) (k:=?_)
 rw [show MX 3=[51] from by kernel_rfl]
 rintro v w' ⟨rfl,ho⟩;replace hs:=hs.AK ho
 refine xs_val rfl (qS I3 rfl rfl) ?_
 refine Jc ?_
 refine AF ?_
 exact ⟨rfl,hs.AD rfl⟩
theorem bC (w0:World) (ht:DF w0):AM Tryz.prog 270 #[] w0 fun v w'=>v = .bool true∧AA [] w0 w':=by
 have hs:=St.nil w0
 refine AQ Tryz.func270 Tryz.ntmps270 (k:=?_)
 refine Ja ?_
 refine AY hs (h:=by exact Zp _ ht) (k:=?_);intro w' ho hs;refine Jc ?_
 refine AF ?_
 exact ⟨rfl,hs.AD rfl⟩
theorem Zs (w0:World) (ht:DF w0):AM Tryz.prog 269 #[] w0 fun v w'=>v = .bool true∧AA [] w0 w':=by
 have hs:=St.nil w0
 refine AQ Tryz.func269 Tryz.ntmps269 (k:=?_)
 repeat' (first|refine Sa ?_|(refine AU hs (k:=?_);intro w hs)|(refine al hs (k:=?_);intro b w hz hs)|(refine bs hs (k:=?_);intro b w hz hs)|fail)
 refine cl (h:=by exact Hh 5 [⟨5,0,1⟩,⟨8,0,1⟩] _ (by decide) (by decide) (by simp) _ (ps_two (hs.get At.head))) (k:=?_)
 rw [show ofM 5 [⟨5,0,1⟩,⟨8,0,1⟩]=some ⟨5,3,2,2⟩ from by decide]
 rintro v w' ⟨rfl,ho⟩;replace hs:=hs.AK ho;repeat' (first|refine Sa ?_|(refine AU hs (k:=?_);intro w hs)|(refine al hs (k:=?_);intro b w hz hs)|fail)
 refine cl (h:=by exact Q2 ⟨5,3,2,2⟩ ⟨5,0,1⟩ (by decide) (by decide) _) (k:=?_)
 rw [show W9 ⟨5,3,2,2⟩ ⟨5,0,1⟩=some 1 from by decide]
 rintro v w' ⟨rfl,ho⟩;replace hs:=hs.AK ho;repeat' (first|refine Sa ?_|(refine AU hs (k:=?_);intro w hs)|(refine al hs (k:=?_);intro b w hz hs)|fail)
 refine cl (h:=by exact Q2 ⟨5,3,2,2⟩ ⟨8,0,1⟩ (by decide) (by decide) _) (k:=?_)
 rw [show W9 ⟨5,3,2,2⟩ ⟨8,0,1⟩=some (-2) from by decide]
 rintro v w' ⟨rfl,ho⟩;replace hs:=hs.AK ho;repeat' (first|refine Sb ?_|(refine AU hs (k:=?_);intro w hs)|(refine al hs (k:=?_);intro b w hz hs)|fail)
 refine dr [] hs (k:=?_);intro hX w hs
 refine dt 0 hX (k:=?_)
 refine AY hs (h:=by exact bC _ (tab_only ht (hs.AD rfl))) (k:=?_);intro w' ho hs;refine Jb ?_
 refine dn (k:=?_)
 refine tks 1 11 ?_
 refine dt 12 hX (k:=?_)
 refine AY hs (h:=by exact Fp 1 (by decide) (by decide) _) (k:=?_);intro w' ho hs;refine Jb ?_
 refine dn (k:=?_)
 refine tks 13 4 ?_
 refine dt 17 hX (k:=?_)
 refine AY hs (h:=by exact Fp (-2) (by decide) (by decide) _) (k:=?_);intro w' ho hs;refine Jb ?_
 refine dn (k:=?_)
 refine tks 18 5 ?_
 refine dt 23 hX (k:=?_)
 refine cl (h:=by exact Qq ⟨5,3,2,2⟩ ⟨5,0,1⟩ (by decide) (by decide) _) (k:=?_)
 rw [show elig ⟨5,3,2,2⟩ ⟨5,0,1⟩=true from by decide]
 rintro v w' ⟨rfl,ho⟩;replace hs:=hs.AK ho;refine Jb ?_
 refine dn (k:=?_)
 refine tks 24 4 ?_
 refine dt 28 hX (k:=?_)
 refine cl (h:=by exact Qq ⟨5,3,2,2⟩ ⟨8,0,1⟩ (by decide) (by decide) _) (k:=?_)
 rw [show elig ⟨5,3,2,2⟩ ⟨8,0,1⟩=false from by decide]
 rintro v w' ⟨rfl,ho⟩;replace hs:=hs.AK ho;refine Jb ?_
 refine dn (k:=?_)
 refine tks 29 3 ?_
 refine en (k:=?_)
 refine Jb ?_
 refine AF ?_
 exact ⟨rfl,hs.AD rfl⟩
theorem aK (w0:World) (ht:DF w0):AM Tryz.prog 268 #[] w0 fun v w'=>v = .bool true∧AA [] w0 w':=by
 have hs:=St.nil w0
 refine AQ Tryz.func268 Tryz.ntmps268 (k:=?_)
 refine Ja ?_
 refine AY hs (h:=by exact Zs _ ht) (k:=?_);intro w' ho hs;refine Jc ?_
 refine AF ?_
 exact ⟨rfl,hs.AD rfl⟩
theorem Xq (w0:World) (ht:DF w0):AM Tryz.prog 267 #[] w0 fun v w'=>v = .bool true∧AA [] w0 w':=by
 have hs:=St.nil w0
 refine AQ Tryz.func267 Tryz.ntmps267 (k:=?_)
 repeat' (first|refine Sa ?_|(refine bs hs (k:=?_);intro b w hz hs)|fail)
 refine cl (h:=by exact Hh 0 [⟨10,0,1⟩] _ (by decide) (by decide) (by simp) _ (ps_one (hs.get At.head))) (k:=?_)
 rw [show ofM 0 [⟨10,0,1⟩]=some ⟨0,10,1,1⟩ from by decide]
 rintro v w' ⟨rfl,ho⟩;replace hs:=hs.AK ho;repeat' (first|refine Sa ?_|(refine AU hs (k:=?_);intro w hs)|(refine al hs (k:=?_);intro b w hz hs)|fail)
 refine cl (h:=by exact Tz ⟨0,10,1,1⟩ 0 1 2 (by decide) (by decide) (by decide) _) (k:=?_)
 rw [show Gl ⟨0,10,1,1⟩ 0 1 2=some ⟨6,0,1⟩ from by decide]
 rintro v w' ⟨rfl,ho⟩;replace hs:=hs.AK ho;repeat' (first|refine Sa ?_|(refine AU hs (k:=?_);intro w hs)|(refine al hs (k:=?_);intro b w hz hs)|fail)
 refine AY hs (h:=by exact aK _ (tab_only ht (hs.AD rfl))) (k:=?_);intro w' ho hs;refine Jc ?_
 refine AF ?_
 exact ⟨rfl,hs.AD rfl⟩
theorem Xc (w0:World) (ht:DF w0):AM Tryz.prog 266 #[] w0 fun v w'=>v = .bool true∧AA [] w0 w':=by
 have hs:=St.nil w0
 refine AQ Tryz.func266 Tryz.ntmps266 (k:=?_)
 refine Ja ?_
 refine AY hs (h:=by exact Xq _ ht) (k:=?_);intro w' ho hs;refine Jc ?_
 refine AF ?_
 exact ⟨rfl,hs.AD rfl⟩
theorem Xw (w0:World) (ht:DF w0):AM Tryz.prog 265 #[] w0 fun v w'=>v = .bool true∧AA [] w0 w':=by
 have hs:=St.nil w0
 refine AQ Tryz.func265 Tryz.ntmps265 (k:=?_)
 repeat' (first|refine Sa ?_|(refine AU hs (k:=?_);intro w hs)|(refine al hs (k:=?_);intro b w hz hs)|(refine bs hs (k:=?_);intro b w hz hs)|fail)
 refine cl (h:=by exact Hh 5 [⟨5,0,1⟩,⟨8,0,1⟩] _ (by decide) (by decide) (by simp) _ (ps_two (hs.get At.head))) (k:=?_)
 rw [show ofM 5 [⟨5,0,1⟩,⟨8,0,1⟩]=some ⟨5,3,2,2⟩ from by decide]
 rintro v w' ⟨rfl,ho⟩;replace hs:=hs.AK ho;repeat' (first|refine Sa ?_|(refine AU hs (k:=?_);intro w hs)|(refine al hs (k:=?_);intro b w hz hs)|fail)
 refine cl (h:=by exact T7 ⟨5,3,2,2⟩ ⟨8,0,1⟩ 2 (by decide) (by decide) (by decide) _) (k:=?_)
 rw [show GL ⟨5,3,2,2⟩ ⟨8,0,1⟩ 2=some ⟨7,0,2⟩ from by decide]
 rintro v w' ⟨rfl,ho⟩;replace hs:=hs.AK ho;repeat' (first|refine Sa ?_|(refine AU hs (k:=?_);intro w hs)|(refine al hs (k:=?_);intro b w hz hs)|fail)
 refine AY hs (h:=by exact Xc _ (tab_only ht (hs.AD rfl))) (k:=?_);intro w' ho hs;refine Jc ?_
 refine AF ?_
 exact ⟨rfl,hs.AD rfl⟩
theorem Xp (w0:World) (ht:DF w0):AM Tryz.prog 264 #[] w0 fun v w'=>v = .bool true∧AA [] w0 w':=by
 have hs:=St.nil w0
 refine AQ Tryz.func264 Tryz.ntmps264 (k:=?_)
 refine Ja ?_
 refine AY hs (h:=by exact Xw _ ht) (k:=?_);intro w' ho hs;refine Jc ?_
 refine AF ?_
 exact ⟨rfl,hs.AD rfl⟩
theorem wat_two {w:World} {b:Nat} {x y:Int} (hb:w.heap[b]?=some (.cells #[.int .i64 (x / 18446744073709551616),.int .u64 (x % 18446744073709551616),.int .i64 (y / 18446744073709551616),.int .u64 (y % 18446744073709551616)] 70 (0,0))):eV w (.slice (some ⟨b,0,none⟩) 2 2) [x,y] :=
 ⟨_,2,rfl,fun _=>⟨b,0,_,_,(0,0),rfl,hb,fun i x h=>by
  rcases i with _ | _ | i
  ·cases h;exact ⟨rfl,rfl⟩
  ·cases h;exact ⟨rfl,rfl⟩
  ·simp at h⟩⟩
theorem XY (w0:World) (ht:DF w0):AM Tryz.prog 263 #[] w0 fun v w'=>v = .bool true∧AA [] w0 w':=by
 have hs:=St.nil w0
 refine AQ Tryz.func263 Tryz.ntmps263 (k:=?_)
 refine Ja ?_
 refine cl (h:=by exact SS 1 1 (by decide) (by decide) _) (k:=?_)
 rw [show KT 1 1=some 3145728 from by decide]
 rintro v w' ⟨rfl,ho⟩;replace hs:=hs.AK ho;refine Ja ?_
 refine AY hs (h:=by exact Xp _ (tab_only ht (hs.AD rfl))) (k:=?_);intro w' ho hs;refine Jf ?_
 refine AY hs (h:=by exact Fp (-5) (by decide) (by decide) _) (k:=?_);intro w' ho hs;skip
 refine AY hs (h:=by exact Fp 0 (by decide) (by decide) _) (k:=?_);intro w' ho hs;repeat' (first|(refine bs hs (k:=?_);intro b w hz hs)|fail)
 (with_reducible apply Kj);exact rfl;exact rfl;exact PY [-5,0] _ (fun i x h=>(by
  have hy:=List.mem_of_getElem? h
  simp only [List.mem_cons,List.not_mem_nil,or_false] at hy
  rcases hy with rfl | rfl <;> decide)) (by simp) _ (wat_two (hs.get At.head))
 rw [show Iv 0 [-5,0]=9 from by decide]
 rintro v w' ⟨rfl,ho⟩;replace hs:=hs.AK ho;skip
 refine AY hs (h:=by exact Fp 9 (by decide) (by decide) _) (k:=?_);intro w' ho hs;refine Jc ?_
 refine AF ?_
 exact ⟨rfl,hs.AD rfl⟩
theorem XX (w0:World) (ht:DF w0):AM Tryz.prog 261 #[] w0 fun v w'=>v = .bool true∧AA [] w0 w':=by
 have hs:=St.nil w0
 refine AQ Tryz.func261 Tryz.ntmps261 (k:=?_)
 refine Ja ?_
 refine AY hs (h:=by exact XY _ ht) (k:=?_);intro w' ho hs;refine Jc ?_
 refine AF ?_
 exact ⟨rfl,hs.AD rfl⟩
theorem its_one {w:World} {b:Nat} {a:It} (hb:w.heap[b]?=some (.cells a.cells.toArray 64 (0,0))):Iw w (.slice (some ⟨b,0,none⟩) 1 1) [a]:=IB.its_one hb
theorem YA (w0:World) (ht:DF w0):AM Tryz.prog 259 #[] w0 fun v w'=>v = .bool true∧AA [] w0 w':=by
 have hs:=St.nil w0
 refine AQ Tryz.func259 Tryz.ntmps259 (k:=?_)
 refine Ja ?_
 refine xs_val (v:=pv ⟨0,0,0⟩) rfl (mV (k:=0) (t:=62) (n:=3) (by kernel_rfl) (by kernel_rfl) rfl rfl) ?_
 refine cl (h:=by exact bD ⟨0,0,0⟩ 4611686018427387905 _) (k:=?_)
 rw [show Pt.shift ⟨0,0,0⟩ 4611686018427387905=⟨4611686018427387905,0,0⟩ from by decide]
 rintro v w' ⟨rfl,ho⟩;replace hs:=hs.AK ho;repeat' (first|refine Sa ?_|(refine AU hs (k:=?_);intro w hs)|(refine al hs (k:=?_);intro b w hz hs)|fail)
 refine AY hs (h:=by exact XX _ (tab_only ht (hs.AD rfl))) (k:=?_);intro w' ho hs;refine Jf ?_
 refine AY hs (h:=by exact jQ _) (k:=?_);intro w' ho hs;repeat' (first|refine vs (k:=?_)|(refine bs hs (k:=?_);intro b w hz hs)|fail)
 refine cl (h:=by exact K6 0 [⟨⟨0,0,0⟩,0,⟨4611686018427387905,0,0⟩⟩] _ (by simp) _ (its_one (hs.get At.head))) (k:=?_)
 rw [show within 0 [⟨⟨0,0,0⟩,0,⟨4611686018427387905,0,0⟩⟩]=false from by decide]
 rintro v w' ⟨rfl,ho⟩;replace hs:=hs.AK ho;refine Jc ?_
 refine AF ?_
 exact ⟨rfl,hs.AD rfl⟩
theorem XW (w0:World) (ht:DF w0):AM Tryz.prog 258 #[] w0 fun v w'=>v = .bool true∧AA [] w0 w':=by
 have hs:=St.nil w0
 refine AQ Tryz.func258 Tryz.ntmps258 (k:=?_)
 refine Ja ?_
 refine AY hs (h:=by exact YA _ ht) (k:=?_);intro w' ho hs;refine Jc ?_
 refine AF ?_
 exact ⟨rfl,hs.AD rfl⟩
end Go.Proofs.Q0
namespace Go.Proofs.Q0
open Go Go.RowKit
open IB (IT DB Bh)
attribute [local irreducible] XS XC XA AX AO A7 A0 AZ A8 Aa AV SE
def okQ:Obj→Bool
 | .cells _ ty _=>!(Nat.beq ty 276) && !(Nat.beq ty 199) && !(Nat.beq ty 114)
 | _=>false
theorem Cw.apart {wb w:World} {D:Ctx} {H:List Bn} {qb:Nat} {s:Qs} {F:List Nat} (h:Cw w qb s F) (hs:St wb D H w) (hH:(H.all fun e=>okQ e.2.1)=true):∀ k∈F,k∉H.map (·.1):=fun k hk hm=>by
 obtain ⟨e,he,rfl⟩:=List.mem_map.1 hm
 have h1:=List.all_eq_true.1 hH e he
 have h2:=hs.at_ e he
 cases ho:e.2.1 with
 | cells cs ty fz =>
   rw [ho] at h1 h2
   simp only [okQ,Bool.and_eq_true,Bool.not_eq_true'] at h1
   exact h.not h2 (fun e=>by rw [e] at h1;exact absurd h1.1.1 (by decide)) (fun e=>by rw [e] at h1;exact absurd h1.1.2 (by decide)) (fun e=>by rw [e] at h1;exact absurd h1.2 (by decide)) hk
 | _=>rw [ho] at h1;cases h1
def ia:IT:=⟨⟨⟨5,0,1⟩,1,⟨9,0,1⟩⟩,by decide⟩
def ib:IT:=⟨⟨⟨8,0,1⟩,2,⟨8,0,1⟩⟩,by decide⟩
theorem j1:Dq (He 0) ia=0:=by kernel_rfl
theorem j2:Dq (DG (He 0) ia) ib=0:=by kernel_rfl
theorem j3:(DG (DG (He 0) ia) ib).t.list.length=2:=by kernel_rfl
theorem j4:L7 (DG (DG (He 0) ia) ib) 1=1:=by kernel_rfl
theorem j5:L7 (DG (DG (He 0) ia) ib) 2=-1:=by kernel_rfl
theorem j8:((DG (DG (He 0) ia) ib).f 1).isSome=true:=by kernel_rfl
theorem j9:((DG (DG (He 0) ia) ib).f 2).isSome=true:=by kernel_rfl
theorem j6:Ll (DG (DG (He 0) ia) ib)=some ia:=by kernel_rfl
theorem X7 (w0:World) (ht:DF w0):AM Tryz.prog 257 #[] w0 fun v w'=>v = .bool true∧AA [] w0 w':=by
 have hs:=St.nil w0
 refine AQ Tryz.func257 Tryz.ntmps257 (k:=?_)
 refine Ja ?_
 refine cl (h:=by exact WQ 0 (by decide) _) (k:=?_)
 rintro v w1 ⟨⟨qb,F0,rfl,hQ,Dm⟩,AJ⟩
 have Dm:∀ k∈F0,w0.heap.size≤k:=fun k hk=>by have:=Dm k hk;have:=hs.size;omega
 have JK:=AJ.size
 have hq:=hs.AK AJ
 have TC:=hq.AD rfl
 clear hs hq
 have hs:=St.nil w1
 refine vs (k:=?_)
 repeat' (first|refine Sd ?_|(refine AU hs (k:=?_);intro w hs)|(refine al hs (k:=?_);intro b w hz hs)|fail)
 refine dr [] hs (k:=?_);intro hX w hs
 refine tks 0 2 ?_
 refine tks 3 2 ?_
 refine dt 2 hX (k:=?_)
 have N1:=hQ.only (hs.AD rfl)
 refine cl (h:=by exact Nz qb (He 0) F0 ia _ N1 (by decide) (by decide)) (k:=?_)
 rintro v w2 ⟨rfl,F1,K1,Ck,AN⟩
 rw [j1]
 have hzw:=hs.size
 replace hs:=hs.call AN (N1.apart hs rfl) (by simp [D0])
 have QN:∀ k∈F1,w0.heap.size≤k:=fun k hk=>by
  rcases Ck k hk with h | h
  ·exact Dm k h
  ·omega
 refine Jb ?_
 refine dn (k:=?_)
 refine dt 5 hX (k:=?_)
 refine cl (h:=by exact Nz qb (DG (He 0) ia) F1 ib _ K1 (by decide) (by decide)) (k:=?_)
 rintro v w3 ⟨rfl,F2,FY,DQ,AT⟩
 rw [j2]
 replace hs:=hs.call AT (K1.apart hs rfl) (by simp [D0])
 have hm:∀ w',AA (F1 ++ (F0 ++ [])) w1 w'→AA [] w0 w':=fun w' ho=>TC.step ho (fun k hk=>by
  rw [List.append_nil,List.mem_append] at hk
  rcases hk with hk | hk
  ·exact .inr (QN k hk)
  ·exact .inr (Dm k hk))
 have hlen:=j3
 have e1:=j4
 have e2:=j5
 have e3:=j6
 have dP:=j8
 have o9:=j9
 generalize DG (DG (He 0) ia) ib=s at *
 have kQ:∀ w',AA [] w3 w'→Cw w' qb s F2:=fun w' ho=>FY.only ho
 clear hQ N1 K1
 refine Jb ?_
 refine dn (k:=?_)
 refine tks 6 2 ?_
 refine en (k:=?_)
 refine Ja ?_
 refine cl (h:=by exact L9 qb s F2 1 _ FY (by decide)) (k:=?_)
 rw [e1,dP]
 rintro v w4 ⟨rfl,Ao⟩;replace FY:=FY.only Ao;replace hs:=hs.AK Ao
 refine Ja ?_
 refine cl (h:=by exact L9 qb s F2 2 _ FY (by decide)) (k:=?_)
 rw [e2,o9]
 rintro v w5 ⟨rfl,BK⟩;replace FY:=FY.only BK;replace hs:=hs.AK BK
 refine Ja ?_
 refine cl (h:=by exact OZ qb s F2 _ FY) (k:=?_)
 rw [e3]
 rintro v w' ⟨rfl,ho⟩;replace hs:=hs.AK ho;repeat' (first|refine Sa ?_|(refine AU hs (k:=?_);intro w hs)|(refine al hs (k:=?_);intro b w hz hs)|fail)
 refine AY hs (h:=by exact XW _ (tab_only ht (hm _ hs.only))) (k:=?_);intro w' ho hs;refine Jc ?_
 refine AF ?_
 exact ⟨rfl,hm _ hs.only⟩
theorem YD (w0:World) (ht:DF w0):AM Tryz.prog 256 #[] w0 fun v w'=>v = .bool true∧AA [] w0 w':=by
 have hs:=St.nil w0
 refine AQ Tryz.func256 Tryz.ntmps256 (k:=?_)
 refine Ja ?_
 refine AY hs (h:=by exact X7 _ ht) (k:=?_);intro w' ho hs;refine Jc ?_
 refine AF ?_
 exact ⟨rfl,hs.AD rfl⟩
theorem n1:newR ⟨1,0,1⟩ 1 3=some ⟨⟨⟨1,0,1⟩,1,⟨3145729,0,1⟩⟩,3,3,false⟩:=by kernel_rfl
theorem n2:IZ ⟨⟨⟨1,0,1⟩,1,⟨3145729,0,1⟩⟩,3,3,false⟩ 0 [1,2]=some (⟨⟨⟨3145729,0,1⟩,1,⟨6291457,0,1⟩⟩,3,3,false⟩,1):=by kernel_rfl
theorem sA {w:World} {b:Nat} {x y:Int} (hb:w.heap[b]?=some (.cells #[.int .u64 x,.int .u64 y] 22 (0,0))):Cn w 22 1 (.slice (some ⟨b,0,none⟩) 2 2) ([x,y].map fun n=>[.int .u64 n]) :=
 ⟨_,2,rfl,fun _=>⟨b,0,_,(0,0),rfl,Nat.le_refl _,hb,fun i x h=>by
  rcases i with _ | _ | i
  ·cases h;exact pick_of rfl rfl
  ·cases h;exact pick_of rfl rfl
  ·simp at h⟩⟩
theorem YN (w0:World) (ht:DF w0):AM Tryz.prog 254 #[] w0 fun v w'=>v = .bool true∧AA [] w0 w':=by
 have hs:=St.nil w0
 refine AQ Tryz.func254 Tryz.ntmps254 (k:=?_)
 refine Ja ?_
 refine cl (h:=by exact Kr ⟨1,0,1⟩ 1 3 (by decide) (by decide) (by decide) _) (k:=?_)
 rw [n1]
 rintro v w' ⟨rfl,ho⟩;replace hs:=hs.AK ho;repeat' (first|refine Sa ?_|(refine AU hs (k:=?_);intro w hs)|(refine al hs (k:=?_);intro b w hz hs)|(refine bs hs (k:=?_);intro b w hz hs)|fail)
 refine cl (h:=by exact Xf ⟨⟨⟨1,0,1⟩,1,⟨3145729,0,1⟩⟩,3,3,false⟩ [1,2] _ (by decide) (by decide) (by decide) _ (sA (hs.get At.head))) (k:=?_)
 rw [n2]
 rintro v w' ⟨rfl,ho⟩;replace hs:=hs.AK ho;repeat' (first|refine Sa ?_|(refine AU hs (k:=?_);intro w hs)|(refine al hs (k:=?_);intro b w hz hs)|fail)
 refine AY hs (h:=by exact YD _ (tab_only ht (hs.AD rfl))) (k:=?_);intro w' ho hs;refine Jc ?_
 refine AF ?_
 exact ⟨rfl,hs.AD rfl⟩
theorem YG (w0:World) (ht:DF w0):AM Tryz.prog 253 #[] w0 fun v w'=>v = .bool true∧AA [] w0 w':=by
 have hs:=St.nil w0
 refine AQ Tryz.func253 Tryz.ntmps253 (k:=?_)
 refine Ja ?_
 refine AY hs (h:=by exact YN _ ht) (k:=?_);intro w' ho hs;refine Jc ?_
 refine AF ?_
 exact ⟨rfl,hs.AD rfl⟩
end Go.Proofs.Q0
namespace Go.Proofs
open Go.RowKit Go.Maps Go.Sort Go.Shelf
theorem Tryz.vS (m:Nat):AnyZI.SortsIn Tryz.prog Tryz.Py Fence.wide m :=
 ⟨fun blk off cap ss W hH hblk hsz=>callsIn_wide.2 (AnyM.slices_Sort_int Tryz.oK blk off cap ss W hH hblk hsz),
  fun p cap W=>callsIn_wide.2 (AnyM.slices_Sort_int_none Tryz.oK p cap W)⟩
end Go.Proofs
namespace Go.Proofs.Q0
open Go Go.RowKit Go.Maps Go.Sort Go.Shelf
theorem keys_calls (b:Nat) (w:World):Calls Tryz.prog 43 #[.map (some b)] w fun e w'=>e = .returned (.func (.func 83) #[] #[.pointer (some ⟨w.heap.size,0,none⟩)])∧w'=w.alloc (.cells #[.map (some b)] 77) :=
 (callsIn_wide (n:=5)).1 (AnyZI.keys_in Tryz.oZ Fence.wide 5 trivial rfl (some b) w)
theorem sorted_calls {H:Type} (b nn:Nat) (D0:DataW H) (R:Value→Option (DataW H × List MemPlace)) (w:World) (hown:w.ownsMap Tryz.prog 3 R b nn D0) (aAR:Maps.size D0≤maxLen) (hbytes:Maps.size D0*8≤140737488355328) :
 Calls Tryz.prog 42 #[.func (.func 83) #[] #[.pointer (some ⟨w.heap.size,0,none⟩)]] (w.alloc (.cells #[.map (some b)] 77)) fun e w'=>∃ (v:Value) (ss:List Int),e = .returned v∧ss.Perm (intKeys D0) ∧
  w'.ownsRow (w.heap.size+1) 3 1 v ss.length ((ss.mergeSort (fun x y=>decide (x≤y))).map encZ)∧(v = .slice none 0 0↔ss=[])∧Below (w.heap.size+1) (w.alloc (.cells #[.map (some b)] 77)) w':=by
 refine (callsIn_wide (n:=5)).1 ?_
 have JN:=hown.lt
 have hseq:SeqGives Fence.wide 2 Tryz.prog 83 #[.pointer (some ⟨w.heap.size,0,none⟩)] encZ (fun ss=>ss.Perm (intKeys D0)) (Maps.size D0) (w.alloc (.cells #[.map (some b)] 77)) :=
  AnyZI.keys_gives (ρ:=Tryz.T9) { Tryz.oZ with } Fence.wide _ trivial rfl om w.heap.size b nn D0 _ (by simp) (by simp) (by
   obtain ⟨es,clock,hb,Ft,hs,hD⟩:=hown
   exact ⟨es,clock,(Below.heap_alloc _ _ b JN).trans hb,Ft,hs,hD⟩)
 have cS:=AnyZI.sorted_in Tryz.rB Fence.wide 5 trivial trivial trivial trivial rfl om (Tryz.vS _) (enters_of Tryz.func82 (by kernel_rfl) rfl) 83 #[.pointer (some ⟨w.heap.size,0,none⟩)] trivial (enters_of Tryz.func83 (by kernel_rfl) rfl) _ _ aAR hbytes _ hseq
 change CallsIn _ _ Tryz.prog 42 _ _ _ at cS
 refine cS.mono ?_
 rintro e w' ⟨v,ss,rfl,hS,hrow,aBH,hb⟩
 rw [show (w.alloc (.cells #[.map (some b)] 77)).heap.size=w.heap.size+1 by simp] at hrow hb
 exact ⟨v,ss,rfl,hS,hrow,aBH,hb⟩
end Go.Proofs.Q0
namespace Go.Proofs.Q0
open Go Go.RowKit Go.Maps Go.Sort Go.Shelf
attribute [local irreducible] XS XC XA AX AO A7 A0 AZ A8 Aa AV SE
theorem Bw.perm {w:World} {b c:Nat} {f:Int→Option Value} (h:Bw w b f c):∃ D:DataW Value,w.ownsMap Tryz.prog 3 Rf b c D∧Maps.size D=c∧∀ ss:List Int,ss.Nodup→(∀ x,x∈ss↔In64 x∧(f x).isSome=true)→ss.Perm (intKeys D):=by
 obtain ⟨D,h1,h2,h3⟩:=h
 refine ⟨D,h1,h2,fun ss hnd hm=>?_⟩
 obtain ⟨es,rfl,hp,_⟩:=h1.entries NR
 obtain ⟨es',he,hk⟩:=h1.keysOf
 cases he
 have hkk:∀ p∈es,∃ x,p.1 = .int .i64 x∧In64 x:=fun p gE=>by
  obtain ⟨v,hv⟩:=hk p gE
  obtain ⟨x,_,e,hw⟩:=Maps.keyOf_i64 (by kernel_rfl) hv
  refine ⟨x,e,?_⟩
  have e1:IntKind.i64.min=-9223372036854775808:=rfl
  have e2:IntKind.i64.max=9223372036854775807:=rfl
  have hw':(decide (IntKind.i64.min≤x) && decide (x≤IntKind.i64.max))=true:=hw
  simp only [Bool.and_eq_true,decide_eq_true_eq,e1,e2] at hw'
  exact ⟨hw'.1,by omega⟩
 refine perm_intKeys hp (fun p gE=>by obtain ⟨x,e,_⟩:=hkk p gE;exact ⟨x,e⟩) hnd fun x=>?_
 rw [hm x]
 constructor
 ·rintro ⟨hi,hs⟩
  exact ((h3 x hi).1).trans hs
 ·intro hh
  have hi:In64 x:=by
   rw [has_eq,List.any_eq_true] at hh
   obtain ⟨p,gE,hs⟩:=hh
   obtain ⟨y,e,hy⟩:=hkk p gE
   rw [e] at hs
   have:y=x:=by simpa [Lit.sameKey] using hs
   exact this ▸ hy
  exact ⟨hi,((h3 x hi).1).symm.trans hh⟩
theorem s8 {l ss:List Int} (hl:l.Pairwise (· < ·)) (hp:ss.Perm l):ss.mergeSort (fun x y=>decide (x≤y))=l:=by
 have h:=mergeSort_of_perm_i hp
 unfold leI at h
 rw [h]
 exact List.mergeSort_of_pairwise (hl.imp fun {a b} h=>by simpa using Int.le_of_lt h)
def O7 (i:Int):List Value:=[.int .i64 i]
theorem flat_int (l:List Int):(l.map O7).flatten=l.map encZ:=by
 induction l with
 | nil=>rfl
 | cons a l ih=>rw [List.map_cons,List.flatten_cons,ih];rfl
theorem ZO {w:World} {base e size n:Nat} {v:Value} {xs:List Value} (h:w.ownsRow base e size v n xs):∃ G,Ba w e size v n xs G∧∀ k∈G,base≤k:=by
 obtain ⟨h1,h2⟩:=h
 rcases h2 with ⟨rfl,rfl⟩ | ⟨g,cap,cur,rfl,hb,hg,hc,_,hz,ht⟩
 ·exact ⟨[],.inl ⟨rfl,rfl,by rw [Nat.zero_mul] at h1;exact List.eq_nil_of_length_eq_zero h1,rfl⟩,by simp⟩
 ·exact ⟨[g],.inr ⟨g,cap,cur.toList,rfl,rfl,hc,by simpa using hz,h1,ht,by simpa using hg⟩,by simpa using hb⟩
theorem lE (b:Nat) (w0:World):AM Tryz.prog 43 #[.map (some b)] w0 fun v w'=>v = .func (.func 83) #[] #[.pointer (some ⟨w0.heap.size,0,none⟩)]∧w'=w0.alloc (.cells #[.map (some b)] 77) :=
 ret_of_calls (by kernel_rfl) ((keys_calls b w0).mono fun e w' ⟨h1,h2⟩=>⟨_,h1,rfl,h2⟩)
theorem bL (b c:Nat) (f:Int→Option Value) (l:List Int) (w0:World) (h:Bw w0 b f c) (hc:c≤1000000) (hl:l.Pairwise (· < ·)) (hm:∀ x,x∈l↔In64 x∧(f x).isSome=true) :
 AM Tryz.prog 42 #[.func (.func 83) #[] #[.pointer (some ⟨w0.heap.size,0,none⟩)]] (w0.alloc (.cells #[.map (some b)] 77)) fun v w'=>Cn w' 3 1 v (l.map O7)∧l.length=c∧AA [] (w0.alloc (.cells #[.map (some b)] 77)) w':=by
 obtain ⟨D,h1,h2,h3⟩:=h.perm
 have hp:=h3 l (hl.imp fun {a b} h e=>by subst e;exact Int.lt_irrefl _ h) hm
 have hml:maxLen=9223372036854775807:=rfl
 refine ret_of_calls (by kernel_rfl) ((sorted_calls b c D Rf w0 h1 om om).mono fun e w' ⟨v,ss,he,hS,hrow,_,hb⟩=>⟨v,he,?_,?_,?_⟩)
 ·have e1:=s8 hl (hS.trans hp.symm)
  have e2:ss.length=l.length:=(hS.trans hp.symm).length_eq
  rw [e1,e2] at hrow
  obtain ⟨G,hG,_⟩:=ZO hrow
  exact hG.ls (flat_int l).symm (by simp) (fun x hx=>by obtain ⟨i,_,rfl⟩:=List.mem_map.1 hx;rfl)
 ·rw [hp.length_eq,← h2]
  obtain ⟨es,rfl,_⟩:=h1.entries NR
  simp [intKeys,Maps.size_eq]
 ·refine AA.Qb (by simpa using hb)
end Go.Proofs.Q0
namespace Go.Proofs.Q0
open Go Go.RowKit
open IB (IT DB Bh)
attribute [local irreducible] XS XC XA AX AO A7 A0 AZ A8 Aa AV SE
structure Ss where
 q:Qs
 l:List RT
abbrev Vf (qb mb:Nat):Obj := .cells #[.pointer (some ⟨qb,0,none⟩),.map (some mb)] 79 (0,0)
def Cz (w:World) (sb:Nat) (s:Ss) (F:List Nat):Prop :=
 ∃ qb mb Fq,F=sb :: mb :: Fq∧w.heap[sb]?=some (Vf qb mb)∧Bw w mb (rvals s.l) s.l.length∧Cw w qb s.q Fq∧mb∉Fq∧Cl s.l
theorem Cz.Ae {w w':World} {sb:Nat} {s:Ss} {F G:List Nat} (h:Cz w sb s F) (ho:AA G w w') (hd:∀ k∈F,k∉G):Cz w' sb s F:=by
 obtain ⟨qb,mb,Fq,rfl,h1,h2,h3,h4⟩:=h
 exact ⟨qb,mb,Fq,rfl,ho.block h1 (hd sb (by simp)),h2.keep ho (hd mb (by simp)),h3.Ae ho (fun k hk=>hd k (by simp [hk])),h4⟩
theorem Cz.only {w w':World} {sb:Nat} {s:Ss} {F:List Nat} (h:Cz w sb s F) (ho:AA [] w w'):Cz w' sb s F:=h.Ae ho (by simp)
theorem Cz.lt {w:World} {sb:Nat} {s:Ss} {F:List Nat} (h:Cz w sb s F):∀ k∈F,k < w.heap.size:=by
 obtain ⟨qb,mb,Fq,rfl,h1,h2,h3,h4⟩:=h
 intro k hk
 simp only [List.mem_cons] at hk
 rcases hk with rfl | rfl | hk
 ·exact lt_of_block h1
 ·exact h2.lt
 ·exact h3.lt k hk
def Wj:Obj→Bool
 | .cells _ ty _=>!(Nat.beq ty 276) && !(Nat.beq ty 199) && !(Nat.beq ty 114) && !(Nat.beq ty 79)
 | _=>false
theorem Cz.not {w:World} {sb:Nat} {s:Ss} {F:List Nat} (h:Cz w sb s F) {b:Nat} {cs:Array Value} {ty:Nat} {fz:Nat × Nat} (hb:w.heap[b]?=some (.cells cs ty fz)) (ho:Wj (.cells cs ty fz)=true):b∉F:=fun hm=>by
 obtain ⟨qb,mb,Fq,rfl,k1,k2,k3,k4⟩:=h
 simp only [Wj,Bool.and_eq_true,Bool.not_eq_true'] at ho
 simp only [List.mem_cons] at hm
 rcases hm with rfl | rfl | hm
 ·exact AW hb k1 (fun e=>by rw [e] at ho;exact absurd ho.2 (by decide)) rfl
 ·exact k2.ne hb rfl
 ·exact k3.not hb (fun e=>by rw [e] at ho;exact absurd ho.1.1.1 (by decide)) (fun e=>by rw [e] at ho;exact absurd ho.1.1.2 (by decide)) (fun e=>by rw [e] at ho;exact absurd ho.1.2 (by decide)) hm
theorem Cz.apart {wb w:World} {D:Ctx} {H:List Bn} {sb:Nat} {s:Ss} {F:List Nat} (h:Cz w sb s F) (hs:St wb D H w) (hH:(H.all fun e=>Wj e.2.1)=true):∀ k∈F,k∉H.map (·.1):=fun k hk hm=>by
 obtain ⟨e,he,rfl⟩:=List.mem_map.1 hm
 have h1:=List.all_eq_true.1 hH e he
 have h2:=hs.at_ e he
 cases ho:e.2.1 with
 | cells cs ty fz=>rw [ho] at h1 h2;exact h.not h2 h1 hk
 | _=>rw [ho] at h1;cases h1
def IE (c:Int):Ss:=⟨He c,[]⟩
theorem snew_ret (c:Int) (hc:BV c) (w0:World):AM Tryz.prog 63 #[.int .u64 c] w0 fun v w'=>(∃ sb F,v = .pointer (some ⟨sb,0,none⟩)∧Cz w' sb (IE c) F∧∀ k∈F,w0.heap.size≤k)∧AA [] w0 w':=by
 have hs:=St.nil w0
 refine AQ Tryz.func63 Tryz.ntmps63 (k:=?_)
 refine Ja ?_
 refine cl (h:=by exact WQ c hc _) (k:=?_)
 rintro v w1 ⟨⟨qb,Fq,rfl,hQ,hFq⟩,ho⟩;replace hs:=hs.AK ho
 have AJ:=hs.AD rfl
 have JK:=AJ.size
 refine Tb (k:=?_)
 intro mb w2 AN hM hmb
 clear hs
 have hs:=St.nil w2
 refine vs (k:=?_)
 refine bx hs (k:=?_);intro sb w3 hz hs
 have vB:=hs.new (sb,true) (by simp) rfl
 simp only at vB
 have MK:=AN.size
 have N9:=hM.keep (hs.AD rfl) (by simp)
 have hlQ:=hQ.lt
 have FY:=(hQ.only AN).only (hs.AD rfl)
 have cF:=hs.get At.head
 have AT:=(AJ.trans AN).trans (hs.AD rfl)
 have hA:Cz w3 sb (IE c) (sb :: mb :: Fq):=⟨qb,mb,Fq,rfl,cF,N9,FY,fun hm=>by have:=hlQ mb hm;omega,List.Pairwise.nil⟩
 have hnew:∀ k∈sb :: mb :: Fq,w0.heap.size≤k:=fun k hk=>by
  simp only [List.mem_cons] at hk
  rcases hk with rfl | rfl | hk
  ·omega
  ·omega
  ·have:=hFq k hk;omega
 refine Jc ?_
 refine AF ?_
 exact ⟨⟨sb,_,rfl,hA,hnew⟩,AT⟩
def Fz (r:Rq) (E:Int):Int:=bif r.right then E else 2
def KX (s:Ss) (r:RT) (E:Int) (q':Qs):Ss:=bif r.1.right then ⟨q',bif decide (E=0) then CF r s.l else s.l⟩ else s
theorem Vi (g sb:Nat) (s:Ss) (F:List Nat) (r:RT) (E:Int) (q':Qs) (w0:World) (h:Cz w0 sb s F) (hn:s.l.length < 1000000)
 (hg:∀ qb Fq w,Cw w qb s.q Fq→r.1.right=true→AM Tryz.prog g #[.pointer (some ⟨qb,0,none⟩),rv r.1] w fun v w'=>v = .int .i64 E∧∃ F',Cw w' qb q' F'∧(∀ k∈F',k∈Fq∨w.heap.size≤k)∧AA Fq w w') :
 AM Tryz.prog 150 #[.pointer (some ⟨sb,0,none⟩),rv r.1,.func (.func g) #[] #[]] w0 fun v w'=>v = .int .i64 (Fz r.1 E)∧∃ F',Cz w' sb (KX s r E q') F'∧(∀ k∈F',k∈F∨w0.heap.size≤k)∧AA F w0 w':=by
 have hS:=h
 obtain ⟨qb,mb,Fq,rfl,h1,h2,h3,h4,h5⟩:=h
 have hs:=(St.nil w0).AG h1 (by simp)
 have hlt:=hS.lt
 have same:∀ w',AA [] w0 w'→∃ F',Cz w' sb s F'∧(∀ k∈F',k∈sb :: mb :: Fq∨w0.heap.size≤k)∧AA (sb :: mb :: Fq) w0 w':=fun w' ho=>⟨_,hS.only ho,fun k hk => .inl hk,ho.weaken (by simp)⟩
 refine AQ Tryz.func150 Tryz.ntmps150 (k:=?_)
 refine Ag ?_
 refine Al ?_
 refine bx hs (k:=?_);intro bq wq Lm hs
 have JB:=hs.new (bq,true) (by simp) rfl
 simp only at JB
 refine Jd ?_
 refine cl (h:=by exact Il r.1 r.2 _) (k:=?_)
 generalize hr:r.1.right=rr
 cases rr
 ·rintro v w' ⟨rfl,ho⟩;replace hs:=hs.AK ho;refine Je ?_
  refine AF ?_
  refine ⟨by unfold Fz;rw [hr];rfl,?_⟩
  unfold KX;rw [hr]
  exact same _ (hs.AB [] (by simp [h1]) (by simp [D0]))
 ·rintro v w' ⟨rfl,ho⟩;replace hs:=hs.AK ho;refine Jl ?_
  have hno:∀ k∈Fq,k∉[bq,sb]:=fun k hk hm=>by
   have hl:=hlt k (by simp [hk])
   simp only [List.mem_cons,List.not_mem_nil,or_false] at hm
   rcases hm with rfl | rfl
   ·omega
   ·exact h3.not h1 (by decide) (by decide) (by decide) hk
  refine dr [] hs (k:=?_);intro hX w hs
  refine tks 0 6 ?_
  refine dt 6 hX (k:=?_)
  have AJ:=hs.AB [] (by simp [h1]) (by simp [D0])
  have hsz:=hs.size
  refine cl (h:=by exact hg qb Fq _ (h3.only AJ) hr) (k:=?_)
  rintro v w2 ⟨rfl,F',hQ,CV,AN⟩
  replace hs:=hs.call AN hno (by simp [D0])
  have hM:=(h2.keep AJ (by simp)).keep AN h4
  have UQ:mb∉F':=fun hm=>by
   have:=hlt mb (by simp)
   rcases CV mb hm with h | h
   ·exact h4 h
   ·omega
  have DQ:∀ k∈sb :: mb :: F',k∈sb :: mb :: Fq∨w0.heap.size≤k:=fun k hk=>by
   simp only [List.mem_cons] at hk ⊢
   rcases hk with rfl | rfl | hk
   ·simp
   ·simp
   ·rcases CV k hk with h | h
    ·simp [h]
    ·exact .inr om
  refine Jb ?_
  refine dn (k:=?_)
  refine tk 7 hX (k:=?_)
  refine en (k:=?_)
  have Aw:AA (sb :: mb :: Fq) w0 w2:=hs.only.weaken (by simp [olds,D0];exact fun a h => .inr (.inr h))
  have MA:=hs.get (At.tail At.head)
  have wC:=hs.get At.head
  have nbs:bq≠sb:=by have:=hlt sb (by simp);omega
  clear hs
  have hs:=((St.nil w2).AG MA (by simp)).AG wC (by simpa using nbs)
  repeat' (first|refine Sa ?_|refine Au rfl (fun hc=>?_) fun hc=>?_|fail)
  ·have hE:E=0:=by assumption
   have nb:mb≠bq:=by have:=hlt mb (by simp);omega
   have ns:mb≠sb:=fun e=>(hM.ne (hs.get (At.tail At.head))) e.symm
   refine dr [] hs (k:=?_);intro hX w hs
   refine tks 0 8 ?_
   refine dt 8 hX (k:=?_)
   have AT:=hs.AB [] (by simp [MA,wC]) (by simp [D0])
   refine OF (e:=66) (i:=Az r) (v:=rv r.1) (hM.keep AT (by simp)) r.2.1.2.1 (by have:maxLen=9223372036854775807:=rfl;omega) (by kernel_rfl) (k:=?_)
   intro w3 N9 Ao
   replace hs:=hs.call Ao (fun k hk hm=>by
    obtain rfl:=List.mem_singleton.1 hk
    simp only [List.map_cons,List.map_nil,List.mem_cons,List.not_mem_nil,or_false] at hm
    rcases hm with hm | hm
    ·exact nb hm
    ·exact ns hm) (by simp [D0])
   rw [Tx,HX,← TD h5] at N9
   have FY:=(hQ.only AT).Ae Ao (fun k hk hm=>by obtain rfl:=List.mem_singleton.1 hm;exact UQ hk)
   refine Jb ?_
   refine dn (k:=?_)
   refine en (k:=?_)
   refine Ja ?_
   refine AF ?_
   have ee:KX s r E q'=⟨q',CF r s.l⟩:=by unfold KX;rw [hr,decide_eq_true hE];rfl
   refine ⟨by unfold Fz;rw [hr];rfl,?_⟩
   rw [ee]
   exact ⟨_,⟨qb,mb,F',rfl,hs.get (At.tail At.head),N9,FY,UQ,ord_put h5⟩,DQ,(Aw.step AT (by simp)).step Ao (by simp)⟩
  ·have hE:¬ E=0:=by assumption
   refine AF ?_
   have ee:KX s r E q'=⟨q',s.l⟩:=by unfold KX;rw [hr,decide_eq_false hE];rfl
   refine ⟨by unfold Fz;rw [hr];rfl,?_⟩
   rw [ee]
   exact ⟨_,⟨qb,mb,F',rfl,hs.get (At.tail At.head),hM,hQ,UQ,h5⟩,DQ,Aw⟩
def BW (r:RT):IT:=⟨r.1.i,r.2.1⟩
theorem aF (qb:Nat) (s:Qs) (F:List Nat) (r:RT) (w0:World) (h:Cw w0 qb s F) (hlen:s.t.list.length+1≤1000000) (hn:s.n < 1000000) :
 AM Tryz.prog 170 #[.pointer (some ⟨qb,0,none⟩),rv r.1] w0 fun v w'=>v = .int .i64 (Dq s (BW r))∧∃ F',Cw w' qb (DG s (BW r)) F'∧(∀ k∈F',k∈F∨w0.heap.size≤k)∧AA F w0 w':=by
 have hs:=St.nil w0
 refine AQ Tryz.func170 Tryz.ntmps170 (k:=?_)
 repeat' (first|refine Sa ?_|(refine bx hs (k:=?_);intro b w hz hs)|fail)
 have ho:=hs.AD rfl
 refine cl (h:=by exact Nz qb s F (BW r) _ (h.only ho) hlen hn) (k:=?_)
 rintro v w1 ⟨rfl,F',hA,CV,AJ⟩
 have hz:=ho.size
 clear hs
 have hs:=St.nil w1
 refine Jc ?_
 refine AF ?_
 exact ⟨rfl,F',hA.only (hs.AD rfl),fun k hk=>by rcases CV k hk with h | h;exact .inl h;exact .inr om,((ho.weaken (by simp)).step AJ (fun k hk => .inl hk)).step (hs.AD rfl) (by simp)⟩
def Kt (s:Ss) (r:RT):Int:=Fz r.1 (Dq s.q (BW r))
def GM (s:Ss) (r:RT):Ss:=KX s r (Dq s.q (BW r)) (DG s.q (BW r))
theorem enter_ret (sb:Nat) (s:Ss) (F:List Nat) (r:RT) (w0:World) (h:Cz w0 sb s F) (hl:s.l.length < 1000000) (hlen:s.q.t.list.length+1≤1000000) (hn:s.q.n < 1000000) :
 AM Tryz.prog 132 #[.pointer (some ⟨sb,0,none⟩),rv r.1] w0 fun v w'=>v = .int .i64 (Kt s r)∧∃ F',Cz w' sb (GM s r) F'∧(∀ k∈F',k∈F∨w0.heap.size≤k)∧AA F w0 w':=by
 have hs:=St.nil w0
 refine AQ Tryz.func132 Tryz.ntmps132 (k:=?_)
 repeat' (first|refine Sa ?_|(refine bx hs (k:=?_);intro b w hz hs)|fail)
 have ho:=hs.AD rfl
 refine cl (h:=by exact Vi 170 sb s F r (Dq s.q (BW r)) (DG s.q (BW r)) _ (h.only ho) hl (fun qb Fq w hq _=>aF qb s.q Fq r w hq hlen hn)) (k:=?_)
 rintro v w1 ⟨rfl,F',hA,CV,AJ⟩
 have hz:=ho.size
 clear hs
 have hs:=St.nil w1
 refine Jc ?_
 refine AF ?_
 exact ⟨rfl,F',hA.only (hs.AD rfl),fun k hk=>by rcases CV k hk with h | h;exact .inl h;exact .inr om,((ho.weaken (by simp)).step AJ (fun k hk => .inl hk)).step (hs.AD rfl) (by simp)⟩
theorem sE (sb:Nat) (s:Ss) (F:List Nat) (id:Int) (w0:World) (h:Cz w0 sb s F) (hid:In64 id) :
 AM Tryz.prog 102 #[.pointer (some ⟨sb,0,none⟩),.int .i64 id] w0 fun v w'=>v = .tuple #[rv (DH s.l id),.bool (Ah s.l id).isSome]∧AA [] w0 w':=by
 obtain ⟨qb,mb,Fq,rfl,h1,h2,h3,h4,h5⟩:=h
 have hs:=(St.nil w0).AG h1 (by simp)
 refine AQ Tryz.func102 Tryz.ntmps102 (k:=?_)
 repeat' (first|refine Sd ?_|(refine al hs (k:=?_);intro b w hz hs)|fail)
 have ho:=hs.AB [] (by simp [h1]) (by simp [D0])
 refine JQ (e:=66) (z:=rv .zero) (h2.keep ho (by simp)) hid (by kernel_rfl) (by kernel_rfl) (k:=?_)
 rw [L4,HX]
 generalize DH s.l id=x
 repeat' (first|refine Sa ?_|(refine AU hs (k:=?_);intro w hs)|(refine al hs (k:=?_);intro b w hz hs)|fail)
 refine AF ?_
 exact ⟨rfl,hs.AB [] (by simp [h1]) (by simp [D0])⟩
def Gh (s:Ss) (id:Int):Ss:=⟨Jz s.q id,Dh id s.l⟩
theorem Ur (sb:Nat) (s:Ss) (F:List Nat) (id:Int) (w0:World) (h:Cz w0 sb s F) (hid:In64 id) (hlen:s.q.t.list.length≤1000000) (a:IT) (hf:s.q.f id=some a) (hd:Fx a s.q.t) :
 AM Tryz.prog 139 #[.pointer (some ⟨sb,0,none⟩),.int .i64 id] w0 fun v w'=>v = .tuple #[rv (DH s.l id),.int .i64 0]∧∃ F',Cz w' sb (Gh s id) F'∧(∀ k∈F',k∈F∨w0.heap.size≤k)∧AA F w0 w':=by
 have hS:=h
 obtain ⟨qb,mb,Fq,rfl,h1,h2,h3,h4,h5⟩:=h
 have hs:=(St.nil w0).AG h1 (by simp)
 have hlt:=hS.lt
 refine AQ Tryz.func139 Tryz.ntmps139 (k:=?_)
 refine Ag ?_
 refine Al ?_
 refine al hs (k:=?_);intro b4 w hz hs
 have g4:=hs.new (b4,true) (by simp) rfl
 simp only at g4
 refine Jd ?_
 have ho:=hs.AB [] (by simp [h1]) (by simp [D0])
 have hsz:=ho.size
 have l4:=lt_of_block (hs.get At.head)
 refine cl (h:=by exact RP qb s.q Fq id _ (h3.only ho) hid hlen (fun a' e=>by rw [hf] at e;cases e;exact hd)) (k:=?_)
 rw [hf]
 rintro v w1 ⟨rfl,F',hQ,CV,AJ⟩
 have hno:∀ k∈Fq,k∉[b4,sb]:=fun k hk hm=>by
  have hl:=hlt k (by simp [hk])
  simp only [List.mem_cons,List.not_mem_nil,or_false] at hm
  rcases hm with rfl | rfl
  ·omega
  ·exact h3.not h1 (by decide) (by decide) (by decide) hk
 have UQ:mb∉F':=fun hm=>by
  have:=hlt mb (by simp)
  rcases CV mb hm with h | h
  ·exact h4 h
  ·omega
 have DQ:∀ k∈sb :: mb :: F',k∈sb :: mb :: Fq∨w0.heap.size≤k:=fun k hk=>by
  simp only [List.mem_cons] at hk ⊢
  rcases hk with rfl | rfl | hk
  ·simp
  ·simp
  ·rcases CV k hk with h | h
   ·simp [h]
   ·exact .inr om
 have hM1:=(h2.keep ho (by simp)).keep AJ h4
 have k4:=AJ.block (hs.get At.head) (fun hm=>hno _ hm (by simp))
 have k6:=AJ.block (hs.get (At.tail At.head)) (fun hm=>hno _ hm (by simp))
 have N5:b4≠sb:=by have:=hlt sb (by simp);omega
 have Aw:AA (sb :: mb :: Fq) w0 w1:=(ho.weaken (by simp)).step AJ (fun k hk => .inl (by simp [hk]))
 have aBU:=hQ.lt
 clear hs
 have hs:=((St.nil w1).AG k6 (by simp)).AG k4 (by simpa using N5)
 repeat' (first|refine Sd ?_|(refine AU hs (k:=?_);intro w hs)|(refine al hs (k:=?_);intro b w hz hs)|fail)
 replace hs:=hs.Bt
 have AN:=hs.AB [] (by simp [k4,k6]) (by simp [D0])
 refine XK (e:=66) (z:=rv .zero) (hM1.keep AN (by simp)) hid (by kernel_rfl) (by kernel_rfl) (k:=?_)
 rw [L4]
 generalize DH s.l id=x at *
 refine al hs (k:=?_);intro b8 w8 hz8 hs
 have g8:=hs.new (b8,true) (by simp) rfl
 simp only at g8
 have JK:=AJ.size
 repeat' (first|refine Sa ?_|(refine AU hs (k:=?_);intro w hs)|fail)
 have AT:=hs.AB [] (by simp [k4,k6]) (by simp [D0])
 have lm:=hlt mb (by simp)
 refine UU (e:=66) (hM1.keep AT (by simp)) hid (by kernel_rfl) (k:=?_)
 intro w3 N9 Ao
 rw [cP,HX,← TV h5] at N9
 have e1:=hs.get (At.tail (At.tail At.head))
 replace hs:=hs.call Ao (fun k hk hm=>by
  obtain rfl:=List.mem_singleton.1 hk
  simp only [List.map_cons,List.map_nil,List.mem_cons,List.not_mem_nil,or_false] at hm
  rcases hm with hm | hm | hm
  ·omega
  ·omega
  ·exact (hM1.ne k6) hm.symm) (by simp [D0])
 have FY:=(hQ.only AT).Ae Ao (fun k hk hm=>by obtain rfl:=List.mem_singleton.1 hm;exact UQ hk)
 have B8:=(Aw.step AT (by simp)).step Ao (by simp)
 have c1:=hs.get At.head
 have c2:=hs.get (At.tail At.head)
 have c3:=hs.get (At.tail (At.tail At.head))
 have yR:b8≠b4:=by have:=hs.nd;simp only [List.map_cons,List.nodup_cons,List.mem_cons,not_or] at this;exact this.1.1
 have n86:b8≠sb:=by have:=hs.nd;simp only [List.map_cons,List.nodup_cons,List.mem_cons,not_or] at this;exact this.1.2.1
 clear hs
 have hs:=(((St.nil w3).AG c3 (by simp)).AG c2 (by simpa using N5)).AG c1 (by simp [yR,n86])
 repeat' (first|refine Sa ?_|(refine AU hs (k:=?_);intro w hs)|fail)
 refine AF ?_
 have EH:=hs.AB [b4] (by simp [c1,c3]) (by simp [D0])
 have hs4:b4∉F':=fun hm=>by
  have:=CV b4 hm
  rcases this with h | h
  ·exact hno b4 h (by simp)
  ·omega
 refine ⟨rfl,_,⟨qb,mb,F',rfl,hs.get (At.tail (At.tail At.head)),N9.keep EH (by simp;omega),FY.Ae EH (fun k hk hm=>by obtain rfl:=List.mem_singleton.1 hm;exact hs4 hk),UQ,YQ h5⟩,DQ,B8.step EH (fun k hk => .inr (by obtain rfl:=List.mem_singleton.1 hk;exact g4))⟩
def HZ (a:RT) (b:Bool):RT:=⟨⟨a.1.i,a.1.left,a.1.slice,b⟩,a.2⟩
def RJ (s:Ss) (id:Int):Int:=Na (Ah s.l id).isSome
def MU (s:Ss) (id:Int) (b:Bool):Ss:=match Ah s.l id with | some a=>⟨s.q,CF (HZ a b) s.l⟩ | none=>s
theorem UH (sb:Nat) (s:Ss) (F:List Nat) (id:Int) (yb:Bool) (w0:World) (h:Cz w0 sb s F) (hid:In64 id) (hn:s.l.length < 1000000) :
 AM Tryz.prog 105 #[.pointer (some ⟨sb,0,none⟩),.int .i64 id,.bool yb] w0 fun v w'=>v = .int .i64 (RJ s id)∧Cz w' sb (MU s id yb) F∧AA F w0 w':=by
 have hS:=h
 obtain ⟨qb,mb,Fq,rfl,h1,h2,h3,h4,h5⟩:=h
 have hs:=(St.nil w0).AG h1 (by simp)
 have hlt:=hS.lt
 refine AQ Tryz.func105 Tryz.ntmps105 (k:=?_)
 refine Jd ?_
 have ho:=hs.AB [] (by simp [h1]) (by simp [D0])
 refine JQ (e:=66) (z:=rv .zero) (h2.keep ho (by simp)) hid (by kernel_rfl) (by kernel_rfl) (k:=?_)
 rw [L4,HX]
 unfold RJ MU
 cases hf:Ah s.l id with
 | none =>
   repeat' (first|refine Sc ?_|(refine AU hs (k:=?_);intro w hs)|(refine al hs (k:=?_);intro b w hz hs)|fail)
   refine AF ?_
   have ho:=hs.AB [] (by simp [h1]) (by simp [D0])
   exact ⟨rfl,hS.only ho,ho.weaken (by simp)⟩
 | some a =>
   have ei:Az a=id:=(CA hf).2
   rw [show DH s.l id=a.1 by unfold DH;rw [hf]]
   repeat' (first|refine Sd ?_|(refine st hs (k:=?_);intro w hs)|(refine AU hs (k:=?_);intro w hs)|(refine al hs (k:=?_);intro b w hz hs)|fail)
   refine dr [] hs (k:=?_);intro hX w hs
   refine tks 0 6 ?_
   refine dt 6 hX (k:=?_)
   have AJ:=hs.AB [] (by simp [h1]) (by simp [D0])
   have hM:=h2.keep AJ (by simp)
   have hmb:=hlt mb (by simp)
   have hnb:=hs.new (_,true) (List.mem_map_of_mem (List.mem_cons_self)) rfl
   simp only at hnb
   refine OF (e:=66) (i:=id) (v:=rv (HZ a yb).1) hM hid (by have:maxLen=9223372036854775807:=rfl;omega) (by kernel_rfl) (k:=?_)
   intro w3 N9 Ao
   rw [← ei,show Az a=Az (HZ a yb) from rfl,Tx,HX,← TD h5] at N9
   have FY:=(h3.only AJ).Ae Ao (fun k hk hm=>by obtain rfl:=List.mem_singleton.1 hm;exact h4 hk)
   have ns:mb≠sb:=fun e=>(hM.ne (hs.get (At.tail At.head))) e.symm
   replace hs:=hs.call Ao (fun k hk hm=>by
    obtain rfl:=List.mem_singleton.1 hk
    simp only [List.map_cons,List.map_nil,List.mem_cons,List.not_mem_nil,or_false] at hm
    rcases hm with hm | hm
    ·omega
    ·exact ns hm) (by simp [D0])
   refine Jb ?_
   refine dn (k:=?_)
   refine en (k:=?_)
   refine Ja ?_
   refine AF ?_
   exact ⟨rfl,⟨qb,mb,Fq,rfl,hs.get (At.tail At.head),N9,FY,h4,ord_put h5⟩,(AJ.weaken (by simp)).step Ao (by simp)⟩
end Go.Proofs.Q0
namespace Go.Proofs.Q0
open IB (IT)
theorem OJ:∀ {l:List Int},l≠[]→IC l∈l∧∀ x∈l,IC l≤x
 | [],h=>absurd rfl h
 | d :: l,_=>by
   suffices H:∀ (l:List Int) (d:Int),(l.foldl (fun a b=>if b < a then b else a) d=d∨l.foldl (fun a b=>if b < a then b else a) d∈l)∧l.foldl (fun a b=>if b < a then b else a) d≤d∧∀ x∈l,l.foldl (fun a b=>if b < a then b else a) d≤x by
    obtain ⟨h1,h2,h3⟩:=H l d
    refine ⟨List.mem_cons.2 h1,fun x hx=>?_⟩
    rcases List.mem_cons.1 hx with rfl | hx
    ·exact h2
    ·exact h3 x hx
   intro l
   induction l with
   | nil=>intro d;exact ⟨.inl rfl,Int.le_refl _,by simp⟩
   | cons e l ih =>
     intro d
     rw [List.foldl_cons]
     obtain ⟨m,hm,k1,k2,k3⟩:∃ m,m=(if e < d then e else d)∧m≤d∧m≤e∧(m=d∨m=e):=⟨_,rfl,by split <;> omega,by split <;> omega,by split <;> simp⟩
     rw [← hm]
     obtain ⟨h1,h2,h3⟩:=ih m
     refine ⟨?_,by omega,fun x hx=>?_⟩
     ·rcases h1 with h1 | h1
      ·rcases k3 with k3 | k3
       ·exact .inl (h1.trans k3)
       ·exact .inr (by rw [h1,k3];exact List.mem_cons_self)
      ·exact .inr (List.mem_cons_of_mem _ h1)
     ·rcases List.mem_cons.1 hx with rfl | hx
      ·omega
      ·exact h3 x hx
theorem OA:∀ {l:List Int},l≠[]→IP l∈l∧∀ x∈l,x≤IP l
 | [],h=>absurd rfl h
 | d :: l,_=>by
   suffices H:∀ (l:List Int) (d:Int),(l.foldl (fun a b=>if b > a then b else a) d=d∨l.foldl (fun a b=>if b > a then b else a) d∈l)∧d≤l.foldl (fun a b=>if b > a then b else a) d∧∀ x∈l,x≤l.foldl (fun a b=>if b > a then b else a) d by
    obtain ⟨h1,h2,h3⟩:=H l d
    refine ⟨List.mem_cons.2 h1,fun x hx=>?_⟩
    rcases List.mem_cons.1 hx with rfl | hx
    ·exact h2
    ·exact h3 x hx
   intro l
   induction l with
   | nil=>intro d;exact ⟨.inl rfl,Int.le_refl _,by simp⟩
   | cons e l ih =>
     intro d
     rw [List.foldl_cons]
     obtain ⟨m,hm,k1,k2,k3⟩:∃ m,m=(if e > d then e else d)∧m≥d∧m≥e∧(m=d∨m=e):=⟨_,rfl,by split <;> omega,by split <;> omega,by split <;> simp⟩
     rw [← hm]
     obtain ⟨h1,h2,h3⟩:=ih m
     refine ⟨?_,by omega,fun x hx=>?_⟩
     ·rcases h1 with h1 | h1
      ·rcases k3 with k3 | k3
       ·exact .inl (h1.trans k3)
       ·exact .inr (by rw [h1,k3];exact List.mem_cons_self)
      ·exact .inr (List.mem_cons_of_mem _ h1)
     ·rcases List.mem_cons.1 hx with rfl | hx
      ·omega
      ·exact h3 x hx
theorem Xi {l l':List Int} (h:∀ x,x∈l↔x∈l'):IC l=IC l':=by
 by_cases e:l=[]
 ·subst e
  have:l'=[]:=List.eq_nil_iff_forall_not_mem.2 fun x hx=>by have:=(h x).2 hx;cases this
  rw [this]
 ·have e':l'≠[]:=fun k=>e (List.eq_nil_iff_forall_not_mem.2 fun x hx=>by have:=(h x).1 hx;rw [k] at this;cases this)
  obtain ⟨h1,h2⟩:=OJ e
  obtain ⟨k1,k2⟩:=OJ e'
  have:=h2 _ ((h _).2 k1)
  have:=k2 _ ((h _).1 h1)
  omega
theorem YB {l l':List Int} (h:∀ x,x∈l↔x∈l'):IP l=IP l':=by
 by_cases e:l=[]
 ·subst e
  have:l'=[]:=List.eq_nil_iff_forall_not_mem.2 fun x hx=>by have:=(h x).2 hx;cases this
  rw [this]
 ·have e':l'≠[]:=fun k=>e (List.eq_nil_iff_forall_not_mem.2 fun x hx=>by have:=(h x).1 hx;rw [k] at this;cases this)
  obtain ⟨h1,h2⟩:=OA e
  obtain ⟨k1,k2⟩:=OA e'
  have:=h2 _ ((h _).2 k1)
  have:=k2 _ ((h _).1 h1)
  omega
theorem mem_places {b d:Int} {l:List It}:d∈sinces b (places l)↔∃ x∈l,d=sn x.p.t b:=by
 unfold sinces places
 simp only [List.map_map,List.mem_map,Function.comp]
 exact ⟨fun ⟨x,h,e⟩=>⟨x,h,e.symm⟩,fun ⟨x,h,e⟩=>⟨x,h,e.symm⟩⟩
theorem mem_boths {b d:Int} {l:List It}:d∈sinces b (D8 l)↔∃ x∈l,d=sn x.p.t b∨d=sn x.d.t b:=by
 unfold sinces D8
 simp only [List.mem_map,List.mem_flatMap,List.mem_cons,List.not_mem_nil,or_false]
 constructor
 ·rintro ⟨p,⟨x,h,rfl | rfl⟩,rfl⟩
  ·exact ⟨x,h,.inl rfl⟩
  ·exact ⟨x,h,.inr rfl⟩
 ·rintro ⟨x,h,rfl | rfl⟩
  ·exact ⟨_,⟨x,h,.inl rfl⟩,rfl⟩
  ·exact ⟨_,⟨x,h,.inr rfl⟩,rfl⟩
theorem sQ {b:Int} {l l':List It} (h:∀ x,x∈l↔x∈l'):spr b l=spr b l':=by
 unfold spr
 rw [YB (l:=sinces b (D8 l)) (l':=sinces b (D8 l')) (fun x=>by rw [mem_boths,mem_boths];simp only [h]),Xi (l:=sinces b (places l)) (l':=sinces b (places l')) (fun x=>by rw [mem_places,mem_places];simp only [h])]
theorem NM {b:Int} {l l':List It} (h:∀ x,x∈l↔x∈l'):within b l=within b l':=by unfold within;rw [sQ h]
theorem jG {b:Int} {l:List It} (h1:∀ x∈l,x.In∧x.right=true) (h2:within b l=true) (h3:∃ x∈l,sn x.p.t b≤0) (h4:∃ x∈l,0≤sn x.p.t b) (hl:l.length≤32):∃ lo,C7 b lo l:=by
 unfold within at h2
 rw [decide_eq_true_eq] at h2
 obtain ⟨x0,hx0,k0⟩:=h3
 obtain ⟨x1,hx1,k1⟩:=h4
 have e1:sinces b (places l)≠[]:=fun e=>by have:=(mem_places (b:=b)).2 ⟨x0,hx0,rfl⟩;rw [e] at this;cases this
 have e2:sinces b (D8 l)≠[]:=fun e=>by have:=(mem_boths (b:=b)).2 ⟨x0,hx0,.inl rfl⟩;rw [e] at this;cases this
 obtain ⟨m1,m2⟩:=OJ e1
 obtain ⟨n1,n2⟩:=OA e2
 have a0:=m2 _ (mem_places.2 ⟨x0,hx0,rfl⟩)
 have a1:=n2 _ (mem_boths.2 ⟨x1,hx1,.inl rfl⟩)
 unfold spr at h2
 have r1:IC (sinces b (places l))≥-9223372036854775808:=by obtain ⟨x,_,e⟩:=mem_places.1 m1;rw [e];exact (sn_rng _ _).1
 have r2:IP (sinces b (D8 l)) < 9223372036854775808:=by
  obtain ⟨x,_,e | e⟩:=mem_boths.1 n1
  ·rw [e];exact (sn_rng _ _).2
  ·rw [e];exact (sn_rng _ _).2
 generalize IC (sinces b (places l))=lo at *
 generalize IP (sinces b (D8 l))=hi at *
 refine ⟨lo,by unfold I2;omega,hl,fun x hx=>?_⟩
 obtain ⟨i1,i2⟩:=h1 x hx
 have b1:=m2 _ (mem_places.2 ⟨x,hx,rfl⟩)
 have b2:=n2 _ (mem_boths.2 ⟨x,hx,.inl rfl⟩)
 have b3:=n2 _ (mem_boths.2 ⟨x,hx,.inr rfl⟩)
 obtain ⟨_,_,_,_,d1,d2,_⟩:=iright_all i1 i2
 have ed:sn x.d.t b=sn x.p.t b+sn x.d.t x.p.t:=by unfold sn at *;omega
 exact ⟨i1,i2,b1,by omega⟩
structure As where
 l:List RT
 c:Int
def its (l:List RT):List It:=l.map fun r=>r.1.i
def HA (A:As):Int:=if A.l=[] then A.c else (Ix (its A.l)).b
def Ik (A:As) (a:It):Int:=if A.l=[] then a.p.t else HA A
def Rl (A:As) (a:It):Int :=
 bif !a.right then 2 else bif (Ah A.l a.id).isSome then 13 else bif decide (A.l.length=32) then 7 else bif !within (Ik A a) (its A.l ++ [a]) then 8 else 0
def FO (A:As) (r:RT):Int:=Fz r.1 (Rl A r.1.i)
def G0 (A:As) (r:RT):As:=if FO A r=0 then ⟨CF r A.l,A.c⟩ else A
def Fk (A:As) (id:Int):As:=if (Ah A.l id).isSome then ⟨Dh id A.l,HA A⟩ else A
structure BJ (s:Ss) (A:As):Prop where
 q:QI s.q
 l:s.l=A.l
 p:s.q.t.list.Perm (A.l.map BW)
 c:s.q.c=A.c
 r:∀ r∈A.l,r.1.right=true
 o:Cl A.l
theorem Y1 (l:List RT):plain (l.map BW)=its l:=by unfold plain its;rw [List.map_map];rfl
theorem BJ.len {s:Ss} {A:As} (h:BJ s A):s.q.t.list.length=A.l.length:=by rw [h.p.length_eq,List.length_map]
theorem BJ.le {s:Ss} {A:As} (h:BJ s A):A.l.length≤32:=by rw [← h.len];exact h.q.len
theorem BJ.nil {s:Ss} {A:As} (h:BJ s A):s.q.t.list=[]↔A.l=[]:=by
 rw [← List.length_eq_zero_iff,h.len,List.length_eq_zero_iff]
theorem BJ.kL {s:Ss} {A:As} (h:BJ s A):(plain s.q.t.list).Perm (its A.l):=by rw [← Y1];exact plain_perm h.p
theorem its_ne {l:List RT} (h:l≠[]):its l≠[]:=fun e=>h (List.map_eq_nil_iff.1 e)
theorem BJ.cen {s:Ss} {A:As} (h:BJ s A) (e:A.l≠[]):LO s.q.m (its A.l):=(h.q.cen (fun k=>e (h.nil.1 k))).perm h.kL
theorem BJ.GY {s:Ss} {A:As} (h:BJ s A) (e:A.l≠[]):s.q.m=Ix (its A.l):=(h.cen e).eq (its_ne e)
theorem BJ.now {s:Ss} {A:As} (h:BJ s A):FT s.q=HA A:=by
 unfold HA
 by_cases e:A.l=[]
 ·rw [XM (h.nil.2 e),h.c,if_pos e]
 ·rw [h.q.now (fun k=>e (h.nil.1 k)),h.GY e,if_neg e]
theorem BJ.f {s:Ss} {A:As} (h:BJ s A) (i:Int):s.q.f i=(Ah A.l i).map BW:=by
 cases e:Ah A.l i with
 | some a =>
   obtain ⟨h1,h2⟩:=CA e
   exact (h.q.f i (BW a)).2 ⟨h.p.mem_iff.2 (List.mem_map_of_mem h1),h2⟩
 | none =>
   cases e':s.q.f i with
   | none=>rfl
   | some b =>
     obtain ⟨h1,h2⟩:=(h.q.f i b).1 e'
     obtain ⟨r,h3,rfl⟩:=List.mem_map.1 (h.p.mem_iff.1 h1)
     have:=U1 h3
     rw [show Az r=i from h2,e] at this;cases this
theorem BJ.fs {s:Ss} {A:As} (h:BJ s A) (i:Int):(s.q.f i).isSome=(Ah A.l i).isSome:=by rw [h.f];cases Ah A.l i <;> rfl
theorem BJ.join {s:Ss} {A:As} (h:BJ s A) (a:IT):Dq s.q a=Rl A a.1:=by
 unfold Dq Rl
 rw [h.fs,h.len]
 have e1:Jp s.q a=Ik A a.1:=by
  unfold Jp Ik
  rw [h.len,h.now]
  by_cases e:A.l=[]
  ·rw [if_pos e,e];rfl
  ·rw [if_neg e,decide_eq_false (fun k=>e (List.eq_nil_of_length_eq_zero k)),cond_false]
 rw [e1,NM (l:=plain (s.q.t.list ++ [a])) (l':=its A.l ++ [a.1]) (fun x=>by rw [show plain (s.q.t.list ++ [a])=plain s.q.t.list ++ [a.1] from List.map_append ..,List.mem_append,List.mem_append,h.kL.mem_iff])]
theorem BJ.base {s:Ss} {A:As} (h:BJ s A) (a:IT):(FP s.q a).b=Ik A a.1:=by
 unfold Ik
 by_cases e:A.l=[]
 ·rw [if_pos e,LS (h.nil.2 e)]
 ·rw [if_neg e,Km (fun k=>e (h.nil.1 k)),← h.now,h.q.now (fun k=>e (h.nil.1 k))]
theorem rright_i {r:Rq} (h:r.right=true):r.i.right=true:=by
 unfold Rq.right at h
 simp only [Bool.and_eq_true] at h
 exact h.1.1.1
theorem TJ {m:Mn} {l:List It} (h:LO m l) (hl:l≠[]):(∃ x∈l,sn x.p.t m.b≤0)∧∃ x∈l,0≤sn x.p.t m.b:=by
 obtain ⟨lo,k⟩:=h.all
 have hw:=(k.mid hl).1
 have a0:=h.a0
 have a1:=h.a1
 rw [h.is.a] at a0 a1
 rw [h.is.w] at a1
 constructor
 ·refine Classical.byContradiction fun hn=>?_
  have:=(sum_rng (b:=m.b) (lo:=1) (hi:=lo+4611686018427387904) (l:=l) fun x hx=>by
   obtain ⟨r1,r2,r3,r4⟩:=(k.2.2 x hx).wT k.1
   exact ⟨r1,r2,by have:=Int.not_le.1 (fun e=>hn ⟨x,hx,e⟩);omega,r4⟩).1
  omega
 ·refine Classical.byContradiction fun hn=>?_
  have:=(sum_rng (b:=m.b) (lo:=lo) (hi:=-1) (l:=l) fun x hx=>by
   obtain ⟨r1,r2,r3,r4⟩:=(k.2.2 x hx).wT k.1
   exact ⟨r1,r2,r3,by have:=Int.not_le.1 (fun e=>hn ⟨x,hx,e⟩);omega⟩).2.1
  have:=List.length_pos_iff.2 hl
  omega
theorem BJ.win {s:Ss} {A:As} (h:BJ s A) {a:IT} (hr:a.1.right=true) (hn:A.l.length≠32) (hw:within (Ik A a.1) (its A.l ++ [a.1])=true):∃ lo,C7 (FP s.q a).b lo (a.1 :: plain s.q.t.list):=by
 have hle:=h.le
 rw [h.base]
 have hall:∀ x∈its A.l ++ [a.1],x.In∧x.right=true:=fun x hx=>by
  rcases List.mem_append.1 hx with hx | hx
  ·obtain ⟨r,hr',rfl⟩:=List.mem_map.1 hx
   exact ⟨r.2.1,rright_i (h.r r hr')⟩
  ·obtain rfl:=List.mem_singleton.1 hx;exact ⟨a.2,hr⟩
 have hlen:(its A.l ++ [a.1]).length≤32:=by simp [its];omega
 have hx:(∃ x∈its A.l ++ [a.1],sn x.p.t (Ik A a.1)≤0)∧∃ x∈its A.l ++ [a.1],0≤sn x.p.t (Ik A a.1):=by
  by_cases e:A.l=[]
  ·have:Ik A a.1=a.1.p.t:=if_pos e
   rw [this]
   exact ⟨⟨a.1,by simp,by rw [PL];omega⟩,⟨a.1,by simp,by rw [PL];omega⟩⟩
  ·obtain ⟨⟨x,k1,k2⟩,⟨y,k3,k4⟩⟩:=TJ (h.cen e) (its_ne e)
   have:s.q.m.b=Ik A a.1:=by rw [← h.base a,Km (fun k=>e (h.nil.1 k))]
   rw [this] at k2 k4
   exact ⟨⟨x,by simp [k1],k2⟩,⟨y,by simp [k3],k4⟩⟩
 obtain ⟨lo,k⟩:=jG hall hw hx.1 hx.2 hlen
 exact ⟨lo,k.perm (List.perm_append_comm.trans (h.kL.symm.cons _))⟩
theorem put_perm {r:RT}:∀ {l:List RT},Ah l (Az r)=none→(CF r l).Perm (r :: l)
 | [],_ => .refl _
 | a :: l,h=>by
   rw [Cv] at h
   unfold CF
   split
   ·exact .refl _
   ·split at h
    ·cases h
    ·split
     ·rename_i k1 k2 k3;exact absurd k3.symm k2
     ·exact ((put_perm h).cons a).trans (.swap _ _ _)
theorem BJ.enter {s:Ss} {A:As} (h:BJ s A) (r:RT):Kt s r=FO A r∧BJ (GM s r) (G0 A r):=by
 have he:Kt s r=FO A r:=by unfold Kt FO;rw [h.join];rfl
 refine ⟨he,?_⟩
 unfold G0
 by_cases e0:FO A r=0
 ·rw [if_pos e0]
  have hr:r.1.right=true:=by
   unfold FO Fz at e0
   cases k:r.1.right
   ·rw [k] at e0;cases e0
   ·rfl
  have hj:Rl A r.1.i=0:=by unfold FO Fz at e0;rw [hr] at e0;exact e0
  have hjq:Dq s.q (BW r)=0:=by rw [h.join];exact hj
  unfold Rl at hj
  cases k1:r.1.i.right with
  | false=>rw [k1] at hj;cases hj
  | true =>
  cases k2:(Ah A.l r.1.i.id) with
  | some x=>rw [k1,k2] at hj;cases hj
  | none =>
  by_cases k3:A.l.length=32
  ·rw [k1,k2,decide_eq_true k3] at hj;cases hj
  ·cases k4:within (Ik A r.1.i) (its A.l ++ [r.1.i]) with
   | false=>rw [k1,k2,decide_eq_false k3,k4] at hj;cases hj
   | true =>
     obtain ⟨lo,hw⟩:=h.win (a:=BW r) k1 k3 k4
     obtain ⟨p1,p2,p3⟩:=h.q.put (a:=BW r) (by rw [h.f];show Option.map BW (Ah A.l r.1.i.id)=none;rw [k2];rfl) hw
     have hE:GM s r=⟨Kv s.q (BW r),CF r s.l⟩:=by
      unfold GM KX DG;rw [hr,hjq];rfl
     rw [hE]
     refine ⟨p1,by rw [h.l],?_,p3.trans h.c,fun x hx=>?_,ord_put h.o⟩
     ·refine p2.trans ?_
      have:=(put_perm (r:=r) (l:=A.l) k2).map BW
      exact ((h.p.cons _).trans this.symm)
     ·rcases MP hx with rfl | hx
      ·exact hr
      ·exact h.r x hx
 ·rw [if_neg e0]
  have:GM s r=s:=by
   unfold GM KX
   cases k:r.1.right
   ·rfl
   ·have:Dq s.q (BW r)≠0:=fun e=>e0 (by rw [← he];unfold Kt Fz;rw [k];exact e)
    unfold DG
    rw [decide_eq_false this];rfl
  rw [this];exact h
theorem kV {l:List RT} {a:RT} (ho:Cl l) (ha:a∈l):(Dh (Az a) l).map BW=RB.sans (BW a) (l.map BW):=by
 unfold Dh RB.sans
 rw [List.filter_map]
 congr 1
 refine List.filter_congr fun x hx=>?_
 simp only [Function.comp]
 by_cases e:Az x=Az a
 ·have h1:=Ct ho hx
  have h2:=Ct ho ha
  rw [e,h2] at h1
  obtain rfl:=Option.some.inj h1
  simp
 ·have:BW x≠BW a:=fun k=>e (by unfold Az;exact congrArg (fun z:IT=>z.1.id) k)
  simp [e,this]
theorem BJ.exit {s:Ss} {A:As} (h:BJ s A) {id:Int} {a:RT} (hf:Ah A.l id=some a):s.q.f id=some (BW a)∧Fx (BW a) s.q.t∧BJ (Gh s id) (Fk A id):=by
 obtain ⟨h1,h2⟩:=CA hf
 have hfq:s.q.f id=some (BW a):=by rw [h.f,hf];rfl
 have hm:BW a∈s.q.t.list:=h.p.mem_iff.2 (List.mem_map_of_mem h1)
 obtain ⟨p1,p2,p3,p4,p5⟩:=h.q.cut hm
 have hE:Gh s id=⟨Ey s.q (BW a),Dh id s.l⟩:=by unfold Gh Jz;rw [hfq]
 refine ⟨hfq,p5,?_⟩
 unfold Fk
 rw [hE,hf,h.l]
 refine ⟨p1,rfl,?_,?_,fun x hx=>h.r x (List.mem_filter.1 hx).1,YQ h.o⟩
 ·show (Ey s.q (BW a)).t.list.Perm ((Dh id A.l).map BW)
  rw [p2,← h2,kV h.o h1]
  unfold RB.sans
  exact h.p.filter _
 ·show (Ey s.q (BW a)).c=HA A
  rw [p4,h.now]
theorem BJ.new (c:Int):BJ (IE c) ⟨[],c⟩:=⟨QI.new c,rfl,.refl _,rfl,by simp,List.Pairwise.nil⟩
end Go.Proofs.Q0
namespace Go.Proofs.Q0
open Go Go.RowKit
open IB (IT DB Bh)
attribute [local irreducible] XS XC XA AX AO A7 A0 AZ A8 Aa AV SE
def DJ (id:Int) (l:List IT):List IT:=l.filter fun a=>decide (a.1.id≠id)
theorem cV (id:Int) (l:List IT) (a:IT):DJ id (l ++ [a])=if a.1.id=id then DJ id l else DJ id l ++ [a]:=by
 unfold DJ
 rw [List.filter_append]
 by_cases h:a.1.id=id
 ·rw [if_pos h];simp [h]
 ·rw [if_neg h];simp [h]
theorem TB (id:Int) (l:List IT):(DJ id l).length≤l.length:=List.length_filter_le _ _
theorem YL (qb:Nat) (s:Qs) (F:List Nat) (id:Int) (w0:World) (h:Cw w0 qb s F) (hm:s.t.list.length≤1000000) :
 AM Tryz.prog 196 #[.pointer (some ⟨qb,0,none⟩),.int .i64 id] w0 fun v w'=>(∃ G,Ba w' 64 7 v (DJ id s.t.list).length (Bh (DJ id s.t.list)) G∧∀ k∈G,w0.heap.size≤k)∧AA [] w0 w':=by
 have hs:=St.nil w0
 refine AQ Tryz.func196 Tryz.ntmps196 (k:=?_)
 refine Ja ?_
 have CP:=hs.AD rfl
 refine cl (h:=by exact SB qb s F _ (h.only CP) hm) (k:=?_)
 rintro v w1 ⟨⟨Gi,hGi,aBd⟩,AJ⟩
 generalize hl:s.t.list=l at *
 have hD:=IB.Nk hGi
 obtain ⟨ad,cap,rfl,hD⟩:=hD
 rw [List.length_map,List.length_map] at hD ⊢
 have JK:=(CP.trans AJ).size
 have Aw:AA [] w0 w1:=CP.trans AJ
 clear hs
 have hs:=St.nil w1
 refine Jc ?_
 refine BN (fun (v3:Value)=>[(5,v3)]) (fun v3 w=>AA [] w1 w∧∃ G,Ba w 64 7 v3 (DJ id l).length (Bh (DJ id l)) G∧∀ k∈G,w1.heap.size≤k) ?_ ?_
 ·refine BD (fun (x:Nat × Value)=>[(1,.int .i64 id),(5,x.2),(9,.slice ad l.length cap),(10,.int .i64 (l.length:Nat)),(11,.int .i64 (x.1:Nat))])
   (fun x w=>x.1≤l.length∧AA [] w1 w∧∃ G,Ba w 64 7 x.2 (DJ id (l.take x.1)).length (Bh (DJ id (l.take x.1))) G∧∀ k∈G,w1.heap.size≤k) (fun x=>l.length - x.1) (0,.slice none 0 0) Ab ⟨Nat.zero_le _,hs.AD rfl,[],.inl ⟨rfl,rfl,rfl,rfl⟩,by simp⟩ fun x env wl ⟨hi,BS,hT⟩=>?_
  obtain ⟨i,v5⟩:=x
  simp only at hi hT
  obtain ⟨G,hG,Ds⟩:=hT
  clear hs
  have hs:=St.nil wl
  repeat' (first|refine Sa ?_|refine Au rfl (fun hc=>?_) fun hc=>?_|fail)
  ·have hlt:i < l.length:=by omega
   obtain ⟨b,off,cs,fz,rfl,_,hb,hcs⟩:=hD (fun h=>by have:=congrArg List.length h;rw [List.length_map,List.length_map,List.length_nil] at this;omega)
   have hpk:=hcs i (It.cells l[i].1) (by rw [List.getElem?_map,List.getElem?_map,List.getElem?_eq_getElem hlt];rfl)
   have ei:=D2 (m:=l.length) hlt om
   have et:DJ id (l.take (i+1))=if l[i].1.id=id then DJ id (l.take i) else DJ id (l.take i) ++ [l[i]]:=by rw [C4 hlt,cV]
   have zV:=hG.lt
   have hle:=TB id (l.take i)
   rw [List.length_take] at hle
   generalize l[i]=q at *
   generalize DJ id (l.take i)=A at *
   refine ix (h0:=(by omega)) (h1:=(by omega)) (k:=?_)
   refine KH (BS.block hb (by simp)) hpk (k:=?_)
   repeat' (first|refine Sa ?_|(refine AU hs (k:=?_);intro w hs)|(refine al hs (k:=?_);intro b w hz hs)|(refine bs hs (k:=?_);intro b w hz hs)|refine xc_cond rfl (fun hc=>?_) fun hc=>?_|fail)
   ·rename_i hne
    have Dv:=hs.get At.head
    have AN:=hs.AD rfl
    refine CM AI rfl rfl rfl rfl rfl rfl rfl (by decide) (lit_cells (news:=q.1.cells) Dv) (by simp [Value.oneCell']) (hG.keep AN (by simp)) om om ?_
    intro Og w4 ⟨G',JF,J7⟩ Ao
    have PT:=AN.size
    have Pj:=BS.size
    clear hs
    have hs:=St.nil w4
    refine Ja ?_
    refine A2 (i+1,Og) (by show l.length - (i+1) < l.length - i;omega) (by (repeat (first | exact Ac | (apply A5;first | exact rfl | exact congrArg (Value.int .i64) ei)))) ⟨by show i+1≤_;omega,((BS.trans AN).news Ds Ao).trans (hs.AD rfl),G',?_,?_⟩
    ·simp only [et]
     rw [if_neg (by simpa using hc),List.length_append,IB.LX,show Bh [q]=q.1.cells by simp [Bh]]
     exact JF.keep (hs.AD rfl) (by simp)
    ·intro k hk
     rcases J7 k hk with h | h
     ·exact Ds k h
     ·omega
   ·refine A2 (i+1,v5) (by show l.length - (i+1) < l.length - i;omega) (by (repeat (first | exact Ac | (apply A5;first | exact rfl | exact congrArg (Value.int .i64) ei)))) ⟨by show i+1≤_;omega,BS.trans (hs.AD rfl),G,?_,Ds⟩
    simp only [et]
    rw [if_pos (by simpa using hc)]
    exact hG.keep (hs.AD rfl) (by simp)
  ·have e:i=l.length:=by omega
   subst e
   rw [List.take_length] at hG
   exact Ar v5 Ab ⟨BS,G,hG,Ds⟩
 ·rintro v5 env w ⟨BS,G,hG,Ds⟩
  clear hs
  have hs:=St.nil w
  refine Ja ?_
  refine AF ?_
  have AT:=hs.AD rfl
  exact ⟨⟨G,hG.keep AT (by simp),fun k hk=>by have:=Ds k hk;omega⟩,(Aw.trans BS).trans AT⟩
def Oz:List It→Option Int
 | []=>none
 | x :: l=>(ofM x.p.t (places (x :: l))).bind IW
theorem cG:∀ {l:List Pt} {m o:Mn},m.In→(∀ p∈l,p.In)→LL m l=some o→o.In
 | [],m,o,h,_,e=>by cases e;exact h
 | p :: l,m,o,h,hp,e=>by
   simp only [LL] at e
   cases e1:EJ m p with
   | none=>rw [e1] at e;cases e
   | some m'=>rw [e1] at e;exact cG (Sh h e1) (fun q hq=>hp q (List.mem_cons_of_mem _ hq)) e
theorem uY {b:Int} {l:List Pt} {o:Mn} (hb:BV b) (hp:∀ p∈l,p.In) (e:ofM b l=some o):o.In:=cG ⟨hb,Nv,nS,SA⟩ hp e
theorem ZG (l:List It) (sl:Value) (hin:∀ x∈l,x.In) (hm:l.length≤1000000) (w0:World) (hP:Iw w0 sl l) :
 AM Tryz.prog 197 #[sl] w0 fun v w'=>v=tmV (Oz l)∧AA [] w0 w':=by
 obtain ⟨ad,cap,rfl,hD⟩:=hP
 rw [List.length_map] at *
 have hs:=St.nil w0
 refine AQ Tryz.func197 Tryz.ntmps197 (k:=?_)
 repeat' (first|refine Sa ?_|refine Au rfl (fun hc=>?_) fun hc=>?_|fail)
 ·obtain rfl:l=[]:=List.eq_nil_of_length_eq_zero om
  refine AF ?_
  exact ⟨rfl,hs.AD rfl⟩
 ·have hl:l≠[]:=fun e=>hc (by rw [e];rfl)
  refine BN (fun (v3:Value)=>[(0,.slice ad l.length cap),(4,v3)]) (fun v3 w=>AA [] w0 w∧∃ G,Ba w 62 3 v3 l.length (Iu (places l)) G) ?_ ?_
  ·refine BD (fun (x:Nat × Value)=>[(0,.slice ad l.length cap),(4,x.2),(12,.slice ad l.length cap),(13,.int .i64 (l.length:Nat)),(14,.int .i64 (x.1:Nat))])
    (fun x w=>x.1≤l.length∧AA [] w0 w∧∃ G,Ba w 62 3 x.2 x.1 (Iu (places (l.take x.1))) G∧∀ k∈G,w0.heap.size≤k) (fun x=>l.length - x.1) (0,.slice none 0 0) Ab ⟨Nat.zero_le _,hs.AD rfl,[],.inl ⟨rfl,rfl,rfl,rfl⟩,by simp⟩ fun x env wl ⟨hi,BS,hT⟩=>?_
   obtain ⟨i,v5⟩:=x
   simp only at hi hT
   obtain ⟨G,hG,Ds⟩:=hT
   clear hs
   have hs:=St.nil wl
   repeat' (first|refine Sa ?_|refine Au rfl (fun hc=>?_) fun hc=>?_|fail)
   ·have hlt:i < l.length:=by omega
    obtain ⟨b,off,cs,fz,rfl,_,hb,hcs⟩:=hD (fun h=>by have:=congrArg List.length h;rw [List.length_map,List.length_nil] at this;omega)
    have hpk:=hcs i (It.cells l[i]) (by rw [List.getElem?_map,List.getElem?_eq_getElem hlt];rfl)
    have ei:=D2 (m:=l.length) hlt om
    have et:places (l.take (i+1))=places (l.take i) ++ [l[i].p]:=by rw [C4 hlt];unfold places;rw [List.map_append];rfl
    have zV:=hG.lt
    generalize l[i]=q at *
    generalize places (l.take i)=A at *
    refine ix (h0:=(by omega)) (h1:=(by omega)) (k:=?_)
    refine KH (BS.block hb (by simp)) hpk (k:=?_)
    repeat' (first|refine Sa ?_|(refine AU hs (k:=?_);intro w hs)|(refine al hs (k:=?_);intro b w hz hs)|(refine bs hs (k:=?_);intro b w hz hs)|fail)
    have Dv:=hs.get At.head
    have AN:=hs.AD rfl
    refine CM AI rfl rfl rfl rfl rfl rfl rfl (by decide) (lit_cells (news:=q.p.cells) Dv) (by simp [Value.oneCell']) (hG.keep AN (by simp)) om om ?_
    intro Og w4 ⟨G',JF,J7⟩ Ao
    have PT:=AN.size
    have Pj:=BS.size
    clear hs
    have hs:=St.nil w4
    refine Ja ?_
    refine A2 (i+1,Og) (by show l.length - (i+1) < l.length - i;omega) (by (repeat (first | exact Ac | (apply A5;first | exact rfl | exact congrArg (Value.int .i64) ei)))) ⟨by show i+1≤_;omega,((BS.trans AN).news Ds Ao).trans (hs.AD rfl),G',?_,?_⟩
    ·simp only [et]
     rw [OH,show Iu [q.p]=q.p.cells by simp [Iu]]
     exact JF.keep (hs.AD rfl) (by simp)
    ·intro k hk
     rcases J7 k hk with h | h
     ·exact Ds k h
     ·omega
   ·have e:i=l.length:=by omega
    subst e
    rw [List.take_length] at hG
    exact Ar v5 Ab ⟨BS,G,hG⟩
  ·rintro v5 env w ⟨BS,G,hG⟩
   clear hs
   obtain ⟨x,r,rfl⟩:=List.exists_cons_of_ne_nil hl
   obtain ⟨b,off,cs,fz,rfl,_,hb,hcs⟩:=hD (fun h=>by simp at h)
   have hpk:=hcs 0 (It.cells x) rfl
   have hx:=hin x List.mem_cons_self
   have hP:WJ w v5 (places (x :: r)):=hG.ls rfl (by simp [places]) (fun y hy=>Ni _ y hy)
   have hs:=St.nil w
   refine Ja ?_
   refine ix (i:=0) (h0:=by decide) (h1:=by simp) (k:=?_)
   refine Jf ?_
   refine lh (v := .int .u64 x.p.t) (BS.block hb (by simp)) (by cases hpk;assumption) (k:=?_)
   refine Jf ?_
   refine cl (h:=by exact Hh x.p.t (places (x :: r)) v5 hx.1.1 (fun p hp=>by obtain ⟨y,hy,rfl⟩:=List.mem_map.1 hp;exact (hin y hy).1) (by simp [places] at hm ⊢;omega) _ (hP.only (hs.AD rfl))) (k:=?_)
   have eA:Oz (x :: r)=(ofM x.p.t (places (x :: r))).bind IW:=rfl
   rw [eA]
   cases hM:ofM x.p.t (places (x :: r)) with
   | none =>
     rintro v w' ⟨rfl,ho⟩;replace hs:=hs.AK ho;repeat' (first|refine Sc ?_|(refine AU hs (k:=?_);intro w hs)|(refine al hs (k:=?_);intro b w hz hs)|fail)
     refine AF ?_
     exact ⟨rfl,BS.trans (hs.AD rfl)⟩
   | some m =>
     have hmi:m.In:=uY hx.1.1 (fun p hp=>by obtain ⟨y,hy,rfl⟩:=List.mem_map.1 hp;exact (hin y hy).1) hM
     rintro v w' ⟨rfl,ho⟩;replace hs:=hs.AK ho;repeat' (first|refine Sd ?_|(refine AU hs (k:=?_);intro w hs)|(refine al hs (k:=?_);intro b w hz hs)|fail)
     refine AY hs (h:=by exact Ng m hmi _) (k:=?_);intro w' ho hs;refine Jc ?_
     refine AF ?_
     exact ⟨rfl,BS.trans (hs.AD rfl)⟩
def HP (l:List RT):List Value:=(l.map fun a=>a.1.cells).flatten
theorem fP (a b:List RT):HP (a ++ b)=HP a ++ HP b:=by simp [HP]
theorem Qh (sb:Nat) (s:Ss) (F:List Nat) (w0:World) (h:Cz w0 sb s F) (hn:s.l.length≤1000000) :
 AM Tryz.prog 17 #[.pointer (some ⟨sb,0,none⟩)] w0 fun v w'=>(∃ G,Ba w' 66 10 v s.l.length (HP s.l) G∧∀ k∈G,w0.heap.size≤k)∧AA [] w0 w':=by
 obtain ⟨qb,mb,Fq,rfl,h1,h2,h3,h4,h5⟩:=h
 have hs:=(St.nil w0).AG h1 (by simp)
 refine AQ Tryz.func17 Tryz.ntmps17 (k:=?_)
 refine Jd ?_
 have ho:=hs.AB [] (by simp [h1]) (by simp [D0])
 refine cl (h:=by exact lE mb _) (k:=?_)
 rintro v w1 ⟨rfl,rfl⟩
 refine cl (h:=by exact bL mb s.l.length (rvals s.l) (s.l.map Az) w0 h2 hn h5 (ids_iff s.l)) (k:=?_)
 rintro v2 w2 ⟨⟨ad,cap,rfl,hD⟩,_,AN⟩
 have Aw:AA [] w0 w2:=(((St.nil w0).alloc _).AD rfl).trans AN
 clear hs ho AN
 rw [List.length_map,List.length_map]
 have MA:=Aw.block h1 (by simp)
 have hM2:=h2.keep Aw (by simp)
 have MK:=Aw.size
 rw [List.length_map,List.length_map] at hD
 have hs:=(St.nil w2).AG MA (by simp)
 refine Jc ?_
 refine BN (fun (v3:Value)=>[(3,v3)]) (fun v3 w=>AA [] w2 w∧∃ G,Ba w 66 10 v3 s.l.length (HP s.l) G∧∀ k∈G,w2.heap.size≤k) ?_ ?_
 ·refine BD (fun (x:Nat × Value)=>[(0,.pointer (some ⟨sb,0,none⟩)),(3,x.2),(13,.slice ad s.l.length cap),(14,.int .i64 (s.l.length:Nat)),(15,.int .i64 (x.1:Nat))])
   (fun x w=>x.1≤s.l.length∧AA [] w2 w∧∃ G,Ba w 66 10 x.2 x.1 (HP (s.l.take x.1)) G∧∀ k∈G,w2.heap.size≤k) (fun x=>s.l.length - x.1) (0,.slice none 0 0) Ab ⟨Nat.zero_le _,hs.AB [] (by simp [MA]) (by simp [D0]),[],.inl ⟨rfl,rfl,rfl,rfl⟩,by simp⟩ fun x env wl ⟨hi,BS,hT⟩=>?_
  obtain ⟨i,v5⟩:=x
  simp only at hi hT
  obtain ⟨G,hG,Ds⟩:=hT
  clear hs
  have Cx:=BS.block MA (by simp)
  have hs:=(St.nil wl).AG Cx (by simp)
  repeat' (first|refine Sa ?_|refine Au rfl (fun hc=>?_) fun hc=>?_|fail)
  ·have hlt:i < s.l.length:=by omega
   obtain ⟨b,off,cs,fz,rfl,_,hb,hcs⟩:=hD (fun h=>by simp at h;rw [h] at hlt;cases hlt)
   have hpk:=hcs i (O7 (Az s.l[i])) (by rw [List.getElem?_map,List.getElem?_map,List.getElem?_eq_getElem hlt];rfl)
   have ei:=D2 (m:=s.l.length) hlt om
   have et:HP (s.l.take (i+1))=HP (s.l.take i) ++ s.l[i].1.cells:=by rw [C4 hlt,fP];simp [HP]
   have xV:=Ct h5 (List.getElem_mem hlt)
   have hlk:DH s.l (Az s.l[i])=s.l[i].1:=by unfold DH;rw [xV]
   have hin:=s.l[i].2.1.2.1
   generalize s.l[i]=q at *
   refine ix (h0:=(by omega)) (h1:=(by omega)) (k:=?_)
   refine lh (BS.block hb (by simp)) (by cases hpk;assumption) (k:=?_)
   refine Ja ?_
   refine XK (e:=66) (z:=rv .zero) (i:=Az q) (hM2.keep BS (by simp)) hin (by kernel_rfl) (by kernel_rfl) (k:=?_)
   rw [L4,hlk]
   refine bs hs (k:=?_);intro b26 w26 aBc hs
   have aBG:=hs.get At.head
   have zV:=hG.lt
   have Cj:=hs.AB [] (by simp [Cx]) (by simp [D0])
   refine CM AI rfl rfl rfl rfl rfl rfl rfl (by decide) (lit_cells (news:=q.1.cells) aBG) (by simp [Value.oneCell']) (hG.keep Cj (by simp)) om om ?_
   intro Og w4 ⟨G',JF,J7⟩ Ao
   have PT:=Cj.size
   have Pj:=BS.size
   clear hs
   have hs:=St.nil w4
   refine Ja ?_
   refine A2 (i+1,Og) (by show s.l.length - (i+1) < s.l.length - i;omega) (by (repeat (first | exact Ac | (apply A5;first | exact rfl | exact congrArg (Value.int .i64) ei)))) ⟨by show i+1≤_;omega,((BS.trans Cj).news Ds Ao).trans (hs.AD rfl),G',?_,?_⟩
   ·simp only [et]
    exact JF.keep (hs.AD rfl) (by simp)
   ·intro k hk
    rcases J7 k hk with h | h
    ·exact Ds k h
    ·omega
  ·have e:i=s.l.length:=by omega
   subst e
   rw [List.take_length] at hG
   exact Ar v5 Ab ⟨BS,G,hG,Ds⟩
 ·rintro v5 env w ⟨BS,G,hG,Ds⟩
  clear hs
  have hs:=St.nil w
  refine Ja ?_
  refine AF ?_
  exact ⟨⟨G,hG.keep (hs.AD rfl) (by simp),fun k hk=>by have:=Ds k hk;omega⟩,(Aw.trans BS).trans (hs.AD rfl)⟩
abbrev aBC (w:World) (v:Value) (l:List RT):Prop:=Cn w 66 10 v (l.map fun a=>a.1.cells)
theorem aL {w:World} {v:Value} {l:List RT} {G:List Nat} (h:Ba w 66 10 v l.length (HP l) G):aBC w v l :=
 h.ls rfl (by simp) (fun x hx=>by obtain ⟨a,_,rfl⟩:=List.mem_map.1 hx;rfl)
def runN (l:List RT):Nat:=(l.filter fun a=>!a.1.asleep).length
theorem l9 (a b:List RT):runN (a ++ b)=runN a+runN b:=by simp [runN,List.filter_append]
theorem qZ (l:List RT):runN l≤l.length:=List.length_filter_le _ _
theorem LU (sb:Nat) (s:Ss) (F:List Nat) (w0:World) (h:Cz w0 sb s F) (hn:s.l.length≤1000000) :
 AM Tryz.prog 252 #[.pointer (some ⟨sb,0,none⟩)] w0 fun v w'=>v = .int .i64 (runN s.l:Nat)∧AA [] w0 w':=by
 have hs:=St.nil w0
 refine AQ Tryz.func252 Tryz.ntmps252 (k:=?_)
 refine Ja ?_
 have ho:=hs.AD rfl
 refine cl (h:=by exact Qh sb s F _ (h.only ho) hn) (k:=?_)
 rintro v2 w2 ⟨⟨G,hG,_⟩,AN⟩
 obtain ⟨ad,cap,rfl,hD⟩:=aL hG
 rw [List.length_map]
 rw [List.length_map] at hD
 have Aw:=ho.trans AN
 clear hs
 have hs:=St.nil w2
 refine Jc ?_
 refine BN (fun (_:Unit)=>[(3,.int .i64 (runN s.l:Nat))]) (fun _ w=>AA [] w2 w) ?_ ?_
 ·refine BD (fun (x:Nat)=>[(3,.int .i64 (runN (s.l.take x):Nat)),(7,.slice ad s.l.length cap),(8,.int .i64 (s.l.length:Nat)),(9,.int .i64 (x:Nat))])
   (fun x w=>x≤s.l.length∧AA [] w2 w) (fun x=>s.l.length - x) 0 Ab ⟨Nat.zero_le _,hs.AD rfl⟩ fun i env wl ⟨hi,BS⟩=>?_
  clear hs
  have hs:=St.nil wl
  repeat' (first|refine Sa ?_|refine Au rfl (fun hc=>?_) fun hc=>?_|fail)
  ·have hlt:i < s.l.length:=by omega
   obtain ⟨b,off,cs,fz,rfl,_,hb,hcs⟩:=hD (fun h=>by rw [List.map_eq_nil_iff.1 h] at hlt;cases hlt)
   have hpk:=hcs i (Rq.cells s.l[i].1) (by rw [List.getElem?_map,List.getElem?_eq_getElem hlt];rfl)
   have ei:=D2 (m:=s.l.length) hlt om
   have et:runN (s.l.take (i+1))=runN (s.l.take i)+bif s.l[i].1.asleep then 0 else 1:=by rw [C4 hlt,l9];congr 1;unfold runN;rw [List.filter_cons,List.filter_nil];cases s.l[i].1.asleep <;> rfl
   have hle:=qZ (s.l.take i)
   rw [List.length_take] at hle
   have ec:=D2 (i:=runN (s.l.take i)) (m:=s.l.length+1) om om
   generalize s.l[i]=q at *
   refine ix (h0:=(by omega)) (h1:=(by omega)) (k:=?_)
   refine KH (BS.block hb (by simp)) hpk (k:=?_)
   refine al hs (k:=?_);intro b8 w8 hz hs
   repeat' (first|refine Sa ?_|(refine AU hs (k:=?_);intro w hs)|refine xc_cond rfl (fun hc=>?_) fun hc=>?_|fail)
   ·have eq:q.1.asleep=false:=by simpa using ‹(!q.1.asleep)=true›
    rw [eq] at et
    refine A2 (i+1) (by show s.l.length - (i+1) < s.l.length - i;omega) ?_ ⟨by show i+1≤_;omega,BS.trans (hs.AD rfl)⟩
    rw [et]
    (repeat (first | exact Ac | (apply A5;first | exact rfl | exact congrArg (Value.int .i64) ei | exact congrArg (Value.int .i64) ec)))
   ·have eq:q.1.asleep=true:=by simpa using ‹(!q.1.asleep)=false›
    rw [eq] at et
    refine A2 (i+1) (by show s.l.length - (i+1) < s.l.length - i;omega) ?_ ⟨by show i+1≤_;omega,BS.trans (hs.AD rfl)⟩
    rw [et]
    (repeat (first | exact Ac | (apply A5;first | exact rfl | exact congrArg (Value.int .i64) ei)))
  ·have e:i=s.l.length:=by omega
   subst e
   rw [List.take_length]
   exact Ar () Ab BS
 ·rintro _ env w BS
  clear hs
  have hs:=St.nil w
  refine Ja ?_
  refine AF ?_
  exact ⟨rfl,(Aw.trans BS).trans (hs.AD rfl)⟩
structure Gn where
 id:Int
 lag:Int
 r:Rq
abbrev Gn.cells (g:Gn):List Value := .int .i64 g.id :: .int .i64 (g.lag / 18446744073709551616) :: .int .u64 (g.lag % 18446744073709551616) :: g.r.cells
def gv (g:Gn):Value := .agg g.cells.toArray
def Gn.zero:Gn:=⟨0,0,.zero⟩
def goes (q:Qs) (a:RT):Bool:=a.1.asleep && decide (L7 q (Az a)≥0)
def ZJ (q:Qs) (a:RT):Gn:=⟨Az a,Vd q (Az a),a.1⟩
def Hy (s:Ss):Option Gn:=(s.l.find? (goes s.q)).map (ZJ s.q)
def gnV (o:Option Gn):Value := .tuple #[gv (o.getD .zero),.bool o.isSome]
theorem cN {l:List RT} {p:RT→Bool} {i:Nat} (h:i < l.length) (hn:(l.take i).find? p=none) (hp:p l[i]=false):(l.take (i+1)).find? p=none:=by
 rw [C4 h,List.find?_append,hn,List.find?_singleton,hp];rfl
theorem jN {l:List RT} {p:RT→Bool} {i:Nat} (h:i < l.length) (hn:(l.take i).find? p=none) (hp:p l[i]=true):l.find? p=some l[i]:=by
 conv=>lhs;rw [← List.take_append_drop i l]
 rw [List.find?_append,hn,List.drop_eq_getElem_cons h,List.find?_cons,hp];rfl
theorem kK (sb:Nat) (s:Ss) (F:List Nat) (w0:World) (h:Cz w0 sb s F) (hn:s.l.length≤1000000) :
 AM Tryz.prog 227 #[.pointer (some ⟨sb,0,none⟩)] w0 fun v w'=>v=gnV (Hy s)∧AA [] w0 w':=by
 have hS:=h
 obtain ⟨qb,mb,Fq,rfl,h1,h2,h3,h4,h5⟩:=h
 have hs:=(St.nil w0).AG h1 (by simp)
 refine AQ Tryz.func227 Tryz.ntmps227 (k:=?_)
 refine Ag ?_
 refine Al ?_
 refine al hs (k:=?_);intro b2 w hz hs
 have g2:=hs.new (b2,true) (by simp) rfl
 simp only at g2
 refine Ja ?_
 have ho:=hs.AB [] (by simp [h1]) (by simp [D0])
 refine cl (h:=by exact Qh sb s _ _ (hS.only ho) hn) (k:=?_)
 rintro v2 w2 ⟨⟨G,hG,_⟩,AN⟩;replace hs:=hs.AK AN
 have hD:=aL hG
 obtain ⟨ad,cap,rfl,hD⟩:=hD
 rw [List.length_map]
 rw [List.length_map] at hD
 have hk2:=hs.get At.head
 have MA:=hs.get (At.tail At.head)
 have n2s:b2≠sb:=by have:=lt_of_block h1;omega
 have Aw:AA [] w0 w2:=hs.AB [] (by simp [h1]) (by simp [D0])
 have MK:=Aw.size
 clear hs
 have hs:=((St.nil w2).AG MA (by simp)).AG hk2 (by simpa using n2s)
 refine Jc ?_
 refine BN (fun (_:Unit)=>[(0,.pointer (some ⟨sb,0,none⟩)),(2,.pointer (some ⟨b2,0,none⟩))]) (fun _ w=>AA [] w2 w∧Hy s=none) ?_ ?_
 ·refine BD (fun (x:Nat)=>[(0,.pointer (some ⟨sb,0,none⟩)),(2,.pointer (some ⟨b2,0,none⟩)),(11,.slice ad s.l.length cap),(12,.int .i64 (s.l.length:Nat)),(13,.int .i64 (x:Nat))])
   (fun x w=>x≤s.l.length∧AA [] w2 w∧(s.l.take x).find? (goes s.q)=none) (fun x=>s.l.length - x) 0 Ab ⟨Nat.zero_le _,hs.AB [] (by simp [MA,hk2]) (by simp [D0]),rfl⟩ fun i env wl ⟨hi,BS,hnone⟩=>?_
  clear hs
  have JN:=BS.block hk2 (by simp)
  have Cx:=BS.block MA (by simp)
  have hs:=((St.nil wl).AG Cx (by simp)).AG JN (by simpa using n2s)
  have hSl:=hS.only (Aw.trans BS)
  repeat' (first|refine Sa ?_|refine Au rfl (fun hc=>?_) fun hc=>?_|fail)
  ·have hlt:i < s.l.length:=by omega
   obtain ⟨b,off,cs,fz,rfl,_,hb,hcs⟩:=hD (fun h=>by rw [List.map_eq_nil_iff.1 h] at hlt;cases hlt)
   have hpk:=hcs i (Rq.cells s.l[i].1) (by rw [List.getElem?_map,List.getElem?_eq_getElem hlt];rfl)
   have ei:=D2 (m:=s.l.length) hlt om
   have eNo:=cN hlt hnone
   have eHe:=jN hlt hnone
   have hin:=s.l[i].2.1.2.1
   generalize s.l[i]=q at *
   refine ix (h0:=(by omega)) (h1:=(by omega)) (k:=?_)
   refine KH (BS.block hb (by simp)) hpk (k:=?_)
   refine al hs (k:=?_);intro b8 w8 hz hs
   repeat' (first|refine Nx.h ?_|(refine AU hs (k:=?_);intro w hs)|fail)
   refine dr [] hs (k:=?_);intro hX w hs
   refine tks 0 7 ?_
   refine dt 7 hX (k:=?_)
   have B8:=(Aw.trans BS).trans (hs.AB [] (by simp [Cx,JN]) (by simp [D0]))
   refine cl (h:=by exact L9 qb s.q Fq (Az q) _ (h3.only B8) hin) (k:=?_)
   generalize hg:L7 s.q (Az q)=ow
   generalize Na (s.q.f (Az q)).isSome=er
   rintro v w' ⟨rfl,ho⟩;replace hs:=hs.AK ho;refine Jb ?_
   refine dn (k:=?_)
   refine tks 8 5 ?_
   refine en (k:=?_)
   repeat' (first|refine vs (k:=?_)|refine ps (k:=?_)|refine Al ?_|refine Nx.h ?_|refine ES ?_|((with_reducible apply BM);exact rfl;exact rfl;intro c hc;(fail_if_success have:true=c:=hc);(fail_if_success have:false=c:=hc);cases c)|refine Au rfl (fun hc=>?_) fun hc=>?_|fail)
   ·have ef:goes s.q q=false:=by unfold goes;rw [show q.1.asleep=false by assumption];rfl
    exact A2 (i+1) (by show s.l.length - (i+1) < s.l.length - i;omega) (by (repeat (first | exact Ac | (apply A5;first | exact rfl | exact congrArg (Value.int .i64) ei)))) ⟨by show i+1≤_;omega,BS.trans (hs.AB [] (by simp [Cx,JN]) (by simp [D0])),eNo ef⟩
   ·have ef:goes s.q q=true:=by unfold goes;rw [show q.1.asleep=true by assumption,hg,decide_eq_true (show ow≥0 by assumption)];rfl
    have ev:Hy s=some (ZJ s.q q):=by unfold Hy;rw [eHe ef];rfl
    refine dr [] hs (k:=?_);intro hX w hs
    refine tks 0 7 ?_
    refine GS 11 8 hs (k:=?_);intro f X w hp;have hs:=hp.st
    apply BH 7 11 (f:=f) (X:=X) hX hp;exact rfl;exact rfl;(apply AR AI;exact rfl);kernel_rfl;kernel_rfl;kernel_rfl;kernel_rfl;(intro X Y;(repeat (first | exact A4 | refine A3 ?_ (by exact rfl))));(intro w' hs;first|exact AH hs.hold|exact AH hs.hold.tail|exact A6 rfl);intro f X w hp;have hs:=hp.st
    have EH:=(Aw.trans BS).trans (hs.AB [] (by simp [Cx,JN]) (by simp [D0]))
    refine cl (h:=by exact WK qb s.q Fq (Az q) _ (h3.only EH) hin) (k:=?_)
    rintro v w' ⟨rfl,ho⟩;replace hp:=hp.only ho;replace hs:=hp.st;refine Jb ?_
    refine dn (k:=?_)
    refine tk 8 hX (hc:=by cases f <;> kernel_rfl) (k:=?_)
    refine tk 9 hX (hc:=by cases f <;> kernel_rfl) (k:=?_)
    refine tk 10 hX (hc:=by cases f <;> kernel_rfl) (k:=?_)
    apply B9 11 (f:=f) (X:=X) hX hp;exact rfl;(apply AR AI;exact rfl);kernel_rfl;kernel_rfl;(intro X Y;(repeat (first | exact A4 | refine A3 ?_ (by exact rfl))));(intro w' hs;first|exact AH hs.hold|exact AH hs.hold.tail|exact A6 rfl);intro b w hI hs
    refine dt 12 hX (k:=?_)
    repeat' (first|refine Nx.h ?_|(refine AU hs (k:=?_);intro w hs)|fail)
    refine dn (k:=?_)
    refine tk 13 hX (k:=?_)
    refine en (k:=?_)
    repeat' (first|refine Sa ?_|(refine AU hs (k:=?_);intro w hs)|fail)
    refine AF ?_
    rw [ev]
    exact ⟨rfl,(Aw.trans BS).step (hs.AB [b2] (by simp [Cx]) (by simp [D0])) (fun k hk => .inr (by obtain rfl:=List.mem_singleton.1 hk;exact g2))⟩
   ·have ef:goes s.q q=false:=by unfold goes;rw [hg,decide_eq_false (show ¬ ow≥0 by assumption),Bool.and_false]
    exact A2 (i+1) (by show s.l.length - (i+1) < s.l.length - i;omega) (by (repeat (first | exact Ac | (apply A5;first | exact rfl | exact congrArg (Value.int .i64) ei)))) ⟨by show i+1≤_;omega,BS.trans (hs.AB [] (by simp [Cx,JN]) (by simp [D0])),eNo ef⟩
  ·have e:i=s.l.length:=by omega
   subst e
   rw [List.take_length] at hnone
   exact Ar () Ab ⟨BS,by unfold Hy;rw [hnone];rfl⟩
 ·rintro _ env w ⟨BS,hnone⟩
  clear hs
  have JN:=BS.block hk2 (by simp)
  have hs:=(St.nil w).AG JN (by simp)
  repeat' (first|refine Sa ?_|(refine AU hs (k:=?_);intro w hs)|fail)
  refine AF ?_
  rw [hnone]
  exact ⟨rfl,(Aw.trans BS).step (hs.AB [b2] (by simp) (by simp [D0])) (fun k hk => .inr (by obtain rfl:=List.mem_singleton.1 hk;exact g2))⟩
inductive HR:Ss→List Gn→Ss→Prop
 | done {s:Ss}:Hy s=none→HR s [] s
 | step {s s':Ss} {g:Gn} {l:List Gn} {a:IT}:Hy s=some g→s.q.f g.id=some a→Fx a s.q.t→HR (Gh s g.id) l s'→HR s (g :: l) s'
def HT (l:List Gn):List Value:=(l.map Gn.cells).flatten
theorem bQ (l:List Gn) (g:Gn):HT (l ++ [g])=HT l ++ g.cells:=by simp [HT]
theorem r9 {s:Ss} {g:Gn} (h:Hy s=some g):In64 g.id:=by
 obtain ⟨a,_,rfl⟩:=Option.map_eq_some_iff.1 h
 exact a.2.1.2.1
theorem Vy {a:IT} {t:RB IT} (h:Fx a t):(VJ a t).list.length≤t.list.length:=by
 unfold VJ
 cases e:RB.has IB.Cq a t
 ·exact Nat.le_refl _
 ·have:=(h e).2
  rw [cond_true,RB.Ii]
  omega
theorem ZY {s:Ss} {id:Int} {a:IT} (hf:s.q.f id=some a) (hc:Fx a s.q.t) (ho:Cl s.l):(Gh s id).l.length≤s.l.length∧(Gh s id).q.t.list.length≤s.q.t.list.length:=by
 constructor
 ·show (Dh id s.l).length≤_
  rw [TV ho]
  split <;> omega
 ·show (Jz s.q id).t.list.length≤_
  unfold Jz
  rw [hf]
  exact Vy hc
theorem Cz.ord {w:World} {sb:Nat} {s:Ss} {F:List Nat} (h:Cz w sb s F):Cl s.l:=by obtain ⟨qb,mb,Fq,rfl,h1,h2,h3,h4,h5⟩:=h;exact h5
theorem slv_set {w:World} {e k n:Nat} {v:Value} {xs:List Value} {G F:List Nat} {sb:Nat} {s:Ss} (h:Ba w e k v n xs G) (hS:Cz w sb s F) (ho:Wj (.cells #[] e (0,0))=true):∀ b∈G,b∉F:=fun b hb=>by
 rcases h with ⟨_,_,_,rfl⟩ | ⟨g,cap,cur,_,rfl,_,_,_,_,hg⟩
 ·cases hb
 ·obtain rfl:=List.mem_singleton.1 hb
  exact hS.not hg ho
theorem fT (sb:Nat) (s s':Ss) (l:List Gn) (F:List Nat) (w0:World) (h:Cz w0 sb s F) (hn:s.l.length≤1000000) (hq:s.q.t.list.length≤1000000) (hl:l.length≤1000000) (hF:HR s l s') :
 AM Tryz.prog 209 #[.pointer (some ⟨sb,0,none⟩)] w0 fun v w'=>(∃ G,Ba w' 170 13 v l.length (HT l) G∧∀ k∈G,w0.heap.size≤k)∧∃ F',Cz w' sb s' F'∧(∀ k∈F',k∈F∨w0.heap.size≤k)∧AA F w0 w':=by
 have hs:=St.nil w0
 refine AQ Tryz.func209 Tryz.ntmps209 (k:=?_)
 refine Ja ?_
 refine BN (fun (_:Unit)=>[]) (fun _ _=>False) ?_ ?_
 ·refine BD (fun (x:List Gn × List Gn × Value × Ss × List Nat)=>[(0,.pointer (some ⟨sb,0,none⟩)),(3,x.2.2.1)])
   (fun x w=>x.2.1 ++ x.1=l∧HR x.2.2.2.1 x.1 s'∧x.2.2.2.1.l.length≤1000000∧x.2.2.2.1.q.t.list.length≤1000000∧(∃ G,Ba w 170 13 x.2.2.1 x.2.1.length (HT x.2.1) G∧∀ k∈G,w0.heap.size≤k)∧Cz w sb x.2.2.2.1 x.2.2.2.2∧(∀ k∈x.2.2.2.2,k∈F∨w0.heap.size≤k)∧AA F w0 w)
   (fun x=>x.1.length) (l,[],.slice none 0 0,s,F) Ab ⟨rfl,hF,hn,hq,⟨[],.inl ⟨rfl,rfl,rfl,rfl⟩,by simp⟩,h,fun k hk => .inl hk,(hs.AD rfl).weaken (by simp)⟩ fun x env wl hI=>?_
  obtain ⟨r,acc,v3,s1,F1⟩:=x
  simp only at hI
  obtain ⟨hacc,hFl,Le,hq1,⟨G,hG,Ds⟩,EK,Ck,BS⟩:=hI
  clear hs
  have hs:=St.nil wl
  have hsz:=BS.size
  have hal:acc.length≤1000000:=by rw [← hacc,List.length_append] at hl;omega
  refine Ja ?_
  refine cl (h:=by exact kK sb s1 F1 _ EK Le) (k:=?_)
  cases hFl with
  | done T6 =>
    rw [T6]
    rintro v w' ⟨rfl,ho⟩;replace hs:=hs.AK ho;repeat' (first|refine Sc ?_|(refine AU hs (k:=?_);intro w hs)|(refine al hs (k:=?_);intro b w hz hs)|fail)
    refine AF ?_
    rw [List.append_nil] at hacc
    subst hacc
    exact ⟨⟨G,hG.keep (hs.AD rfl) (by simp),Ds⟩,F1,EK.only (hs.AD rfl),Ck,BS.step (hs.AD rfl) (by simp)⟩
  | step T6 hf hc hFl' =>
    rename_i g r' a
    rw [T6]
    have hid:=r9 T6
    have Oa:=ZY hf hc EK.ord
    rintro v w' ⟨rfl,ho⟩;replace hs:=hs.AK ho;repeat' (first|refine Sd ?_|(refine AU hs (k:=?_);intro w hs)|(refine al hs (k:=?_);intro b w hz hs)|fail)
    have pW:=hs.AD rfl
    have vF:=EK.only pW
    have uL:=vF.apart hs rfl
    refine cl (h:=by exact Ur sb s1 F1 g.id _ vF hid hq1 a hf hc) (k:=?_)
    rintro v wE ⟨rfl,F2,Di,DQ,Ed⟩
    replace hs:=hs.call Ed uL (by simp [D0])
    have k4:=hs.get At.head
    have MW:=hG.keep pW (by simp)
    have Ju:=MW.keep Ed (slv_set MW vF rfl)
    have hzN:=pW.size
    have hzE:=Ed.size
    have Aw:AA F w0 wE:=(BS.step pW (by simp)).step Ed Ck
    have KR:∀ k∈F2,k∈F∨w0.heap.size≤k:=fun k hk=>by
     rcases DQ k hk with h | h
     ·exact Ck k h
     ·exact .inr om
    clear hs
    have hs:=(St.nil wE).AG k4 (by simp)
    refine XS.nil ?_
    refine Dw ?_
    repeat' (first|refine vs (k:=?_)|refine Al ?_|(refine bs hs (k:=?_);intro b w hz hs)|fail)
    have aBD:=hs.get At.head
    have B8:=hs.AB [] (by simp [k4]) (by simp [D0])
    have pO:=B8.size
    have hGB:=Ju.keep B8 (by simp)
    have hSB:=Di.only B8
    refine CM AI rfl rfl rfl rfl rfl rfl rfl (by decide) (lit_cells (news:=g.cells) aBD) (by simp [Value.oneCell']) hGB om om ?_
    intro v5 w5 ⟨G',JF,J7⟩ BK
    have pU:=hSB.Ae BK (fun k hk hm=>slv_set hGB hSB rfl k hm hk)
    clear hs
    have hs:=St.nil w5
    refine Jc ?_
    refine A2 (r',acc ++ [g],v5,Gh s1 g.id,F2) (by show r'.length < (g :: r').length;simp) Ab ⟨by show (acc ++ [g]) ++ r'=l;rw [List.append_assoc];exact hacc,hFl',by show (Gh s1 g.id).l.length≤_;omega,by show (Gh s1 g.id).q.t.list.length≤_;omega,⟨G',?_,?_⟩,pU.only (hs.AD rfl),KR,((Aw.step B8 (by simp)).step BK (fun k hk => .inr (Ds k hk))).step (hs.AD rfl) (by simp)⟩
    ·simp only [List.length_append,List.length_cons,List.length_nil,bQ]
     exact JF.keep (hs.AD rfl) (by simp)
    ·intro k hk
     rcases J7 k hk with h | h
     ·exact Ds k h
     ·omega
 ·rintro _ _ _ hI
  exact hI.elim
end Go.Proofs.Q0
