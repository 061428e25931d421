/- A part of the proof: what its functions compute. -/
import Derived.Test.YtjiiakjheghcoaaGreatDoorFd5
import Derived.Test.YtjiiakjheghcoaaGreatDoorProg
import Derived.Shelf.SlIterI.Nil
import Derived.Shelf.SortM.Plain
import Derived.Shelf.SortM.SortNone
import Derived.Ground.GgzProg
import Derived.Ground.SlgmProg
import Derived.Shelf.SlMaps.Clone
import Derived.Ground.SlmcProg
import Derived.Laws.OwnMore
set_option linter.unusedVariables false
set_option linter.unusedSimpArgs false
set_option maxRecDepth 100000
set_option maxHeartbeats 64000000
set_option linter.unusedSectionVars false
namespace Go.Proofs.Q0
open Go Go.RowKit Tryz
attribute [local irreducible] XS XC XA AY AR A9 A1 A0 Aa Ae AW SE
theorem ps_one {w:World} {b:Nat} {p:Pt} (hb:w.heap[b]?=some (.cells p.cells.toArray 62 (0,0))):Xm w (.slice (some ⟨b,0,none⟩) 1 1) [p] :=
 ⟨_,1,rfl,fun _=>⟨b,0,_,(0,0),rfl,aC5 _,hb,fun i x h=>by
  cases i with
  | zero=>cases h;exact pick_of rfl rfl
  | succ i=>simp at h⟩⟩
theorem ps_two {w:World} {b:Nat} {p q:Pt} (hb:w.heap[b]?=some (.cells (p.cells ++ q.cells).toArray 62 (0,0))):Xm w (.slice (some ⟨b,0,none⟩) 2 2) [p,q] :=
 ⟨_,2,rfl,fun _=>⟨b,0,_,(0,0),rfl,aC5 _,hb,fun i x h=>by
  rcases i with _ | _ | i
  ·cases h;exact pick_of rfl rfl
  ·cases h;exact pick_of rfl rfl
  ·simp at h⟩⟩
theorem dD (w0:World) (ht:DJ w0):AO prog 271 #[] w0 fun v w'=>v = .bool true∧AB [] w0 w':=by
 have hs:=St.nil w0;refine AS func271 ntmps271 ?_
 repeat' (first|refine Sa ?_|(refine bs hs ?_;intro b w hz hs)|fail)
 refine cl (h:=by exact II 5 [⟨5,0,1⟩,⟨8,0,1⟩] _ (by decide) (by decide) AA _ (ps_two (hs.get At.head))) ?_;rw [show ofM 5 [⟨5,0,1⟩,⟨8,0,1⟩]=some ⟨5,3,2,2⟩ from by decide]
 rintro v w' ⟨rfl,ho⟩;replace hs:=hs.AP ho;repeat' (first|refine Sa ?_|(refine AV hs ?_;intro w hs)|(refine al hs ?_;intro b w hz hs)|fail)
 refine cl (h:=by exact O7 ⟨5,3,2,2⟩ (by decide) _) ?_;rw [show I9 ⟨5,3,2,2⟩=some 6 from by decide];rintro v w' ⟨rfl,ho⟩;replace hs:=hs.AP ho;refine Ja ?_;refine AZ hs (h:=by exact IB.aJ _) ?_;intro w' ho hs;refine Jf ?_;refine cl (h:=by exact aX 3 (by decide) _ (tab_only ht (hs.AE rfl))) ?_;rw [show NB 3=[51] from by kernel_rfl];rintro v w' ⟨rfl,ho⟩;replace hs:=hs.AP ho;refine xs_val rfl (tQ Im rfl rfl) ?_;refine Jc ?_;refine AG ?_;exact ⟨rfl,hs.AE rfl⟩
theorem dL (w0:World) (ht:DJ w0):AO prog 270 #[] w0 fun v w'=>v = .bool true∧AB [] w0 w':=by
 have hs:=St.nil w0;refine AS func270 ntmps270 ?_;refine Ja ?_;refine AZ hs (h:=by exact dD _ ht) ?_;intro w' ho hs;refine Jc ?_;refine AG ?_;exact ⟨rfl,hs.AE rfl⟩
theorem aE (w0:World) (ht:DJ w0):AO prog 269 #[] w0 fun v w'=>v = .bool true∧AB [] w0 w':=by
 have hs:=St.nil w0;refine AS func269 ntmps269 ?_
 repeat' (first|refine Sa ?_|(refine AV hs ?_;intro w hs)|(refine al hs ?_;intro b w hz hs)|(refine bs hs ?_;intro b w hz hs)|fail)
 refine cl (h:=by exact II 5 [⟨5,0,1⟩,⟨8,0,1⟩] _ (by decide) (by decide) AA _ (ps_two (hs.get At.head))) ?_;rw [show ofM 5 [⟨5,0,1⟩,⟨8,0,1⟩]=some ⟨5,3,2,2⟩ from by decide]
 rintro v w' ⟨rfl,ho⟩;replace hs:=hs.AP ho;repeat' (first|refine Sa ?_|(refine AV hs ?_;intro w hs)|(refine al hs ?_;intro b w hz hs)|fail)
 refine cl (h:=by exact Qn ⟨5,3,2,2⟩ ⟨5,0,1⟩ (by decide) (by decide) _) ?_;rw [show Wr ⟨5,3,2,2⟩ ⟨5,0,1⟩=some 1 from by decide]
 rintro v w' ⟨rfl,ho⟩;replace hs:=hs.AP ho;repeat' (first|refine Sa ?_|(refine AV hs ?_;intro w hs)|(refine al hs ?_;intro b w hz hs)|fail)
 refine cl (h:=by exact Qn ⟨5,3,2,2⟩ ⟨8,0,1⟩ (by decide) (by decide) _) ?_;rw [show Wr ⟨5,3,2,2⟩ ⟨8,0,1⟩=some (-2) from by decide]
 rintro v w' ⟨rfl,ho⟩;replace hs:=hs.AP ho;repeat' (first|refine Sb ?_|(refine AV hs ?_;intro w hs)|(refine al hs ?_;intro b w hz hs)|fail)
 refine dr [] hs ?_;intro hX w hs;refine dt 0 hX ?_;refine AZ hs (h:=by exact dL _ (tab_only ht (hs.AE rfl))) ?_;intro w' ho hs;refine Jn ?_;refine tks 1 11 ?_;refine dt 12 hX ?_;refine AZ hs (h:=by exact Fp 1 (by decide) (by decide) _) ?_;intro w' ho hs;refine Jn ?_;refine tks 13 4 ?_;refine dt 17 hX ?_;refine AZ hs (h:=by exact Fp (-2) (by decide) (by decide) _) ?_;intro w' ho hs;refine Jn ?_;refine tks 18 5 ?_;refine dt 23 hX ?_;refine cl (h:=by exact RX ⟨5,3,2,2⟩ ⟨5,0,1⟩ (by decide) (by decide) _) ?_;rw [show elig ⟨5,3,2,2⟩ ⟨5,0,1⟩=true from by decide];rintro v w' ⟨rfl,ho⟩;replace hs:=hs.AP ho;refine Jn ?_;refine tks 24 4 ?_;refine dt 28 hX ?_;refine cl (h:=by exact RX ⟨5,3,2,2⟩ ⟨8,0,1⟩ (by decide) (by decide) _) ?_;rw [show elig ⟨5,3,2,2⟩ ⟨8,0,1⟩=false from by decide];rintro v w' ⟨rfl,ho⟩;replace hs:=hs.AP ho;refine Jn ?_;refine tks 29 3 ?_;refine en ?_;refine Jb ?_;refine AG ?_;exact ⟨rfl,hs.AE rfl⟩
theorem aI (w0:World) (ht:DJ w0):AO prog 268 #[] w0 fun v w'=>v = .bool true∧AB [] w0 w':=by
 have hs:=St.nil w0;refine AS func268 ntmps268 ?_;refine Ja ?_;refine AZ hs (h:=by exact aE _ ht) ?_;intro w' ho hs;refine Jc ?_;refine AG ?_;exact ⟨rfl,hs.AE rfl⟩
theorem Xw (w0:World) (ht:DJ w0):AO prog 267 #[] w0 fun v w'=>v = .bool true∧AB [] w0 w':=by
 have hs:=St.nil w0;refine AS func267 ntmps267 ?_
 repeat' (first|refine Sa ?_|(refine bs hs ?_;intro b w hz hs)|fail)
 refine cl (h:=by exact II 0 [⟨10,0,1⟩] _ (by decide) (by decide) AA _ (ps_one (hs.get At.head))) ?_;rw [show ofM 0 [⟨10,0,1⟩]=some ⟨0,10,1,1⟩ from by decide]
 rintro v w' ⟨rfl,ho⟩;replace hs:=hs.AP ho;repeat' (first|refine Sa ?_|(refine AV hs ?_;intro w hs)|(refine al hs ?_;intro b w hz hs)|fail)
 refine cl (h:=by exact Ur ⟨0,10,1,1⟩ 0 1 2 (by decide) (by decide) (by decide) _) ?_;rw [show HL ⟨0,10,1,1⟩ 0 1 2=some ⟨6,0,1⟩ from by decide]
 rintro v w' ⟨rfl,ho⟩;replace hs:=hs.AP ho;repeat' (first|refine Sa ?_|(refine AV hs ?_;intro w hs)|(refine al hs ?_;intro b w hz hs)|fail)
 refine AZ hs (h:=by exact aI _ (tab_only ht (hs.AE rfl))) ?_;intro w' ho hs;refine Jc ?_;refine AG ?_;exact ⟨rfl,hs.AE rfl⟩
theorem Y3 (w0:World) (ht:DJ w0):AO prog 266 #[] w0 fun v w'=>v = .bool true∧AB [] w0 w':=by
 have hs:=St.nil w0;refine AS func266 ntmps266 ?_;refine Ja ?_;refine AZ hs (h:=by exact Xw _ ht) ?_;intro w' ho hs;refine Jc ?_;refine AG ?_;exact ⟨rfl,hs.AE rfl⟩
theorem Y5 (w0:World) (ht:DJ w0):AO prog 265 #[] w0 fun v w'=>v = .bool true∧AB [] w0 w':=by
 have hs:=St.nil w0;refine AS func265 ntmps265 ?_
 repeat' (first|refine Sa ?_|(refine AV hs ?_;intro w hs)|(refine al hs ?_;intro b w hz hs)|(refine bs hs ?_;intro b w hz hs)|fail)
 refine cl (h:=by exact II 5 [⟨5,0,1⟩,⟨8,0,1⟩] _ (by decide) (by decide) AA _ (ps_two (hs.get At.head))) ?_;rw [show ofM 5 [⟨5,0,1⟩,⟨8,0,1⟩]=some ⟨5,3,2,2⟩ from by decide]
 rintro v w' ⟨rfl,ho⟩;replace hs:=hs.AP ho;repeat' (first|refine Sa ?_|(refine AV hs ?_;intro w hs)|(refine al hs ?_;intro b w hz hs)|fail)
 refine cl (h:=by exact UD ⟨5,3,2,2⟩ ⟨8,0,1⟩ 2 (by decide) (by decide) (by decide) _) ?_;rw [show Ga ⟨5,3,2,2⟩ ⟨8,0,1⟩ 2=some ⟨7,0,2⟩ from by decide]
 rintro v w' ⟨rfl,ho⟩;replace hs:=hs.AP ho;repeat' (first|refine Sa ?_|(refine AV hs ?_;intro w hs)|(refine al hs ?_;intro b w hz hs)|fail)
 refine AZ hs (h:=by exact Y3 _ (tab_only ht (hs.AE rfl))) ?_;intro w' ho hs;refine Jc ?_;refine AG ?_;exact ⟨rfl,hs.AE rfl⟩
theorem YF (w0:World) (ht:DJ w0):AO prog 264 #[] w0 fun v w'=>v = .bool true∧AB [] w0 w':=by
 have hs:=St.nil w0;refine AS func264 ntmps264 ?_;refine Ja ?_;refine AZ hs (h:=by exact Y5 _ ht) ?_;intro w' ho hs;refine Jc ?_;refine AG ?_;exact ⟨rfl,hs.AE rfl⟩
theorem wat_two {w:World} {b:Nat} {x y:Int} (hb:w.heap[b]?=some (.cells #[.int .i64 (x / 18446744073709551616),.int .u64 (x % 18446744073709551616),.int .i64 (y / 18446744073709551616),.int .u64 (y % 18446744073709551616)] 70 (0,0))):fN w (.slice (some ⟨b,0,none⟩) 2 2) [x,y] :=
 ⟨_,2,rfl,fun _=>⟨b,0,_,_,(0,0),rfl,hb,fun i x h=>by
  rcases i with _ | _ | i
  ·cases h;exact ⟨rfl,rfl⟩
  ·cases h;exact ⟨rfl,rfl⟩
  ·simp at h⟩⟩
theorem YG (w0:World) (ht:DJ w0):AO prog 263 #[] w0 fun v w'=>v = .bool true∧AB [] w0 w':=by
 have hs:=St.nil w0;refine AS func263 ntmps263 ?_;refine Ja ?_;refine cl (h:=by exact SM 1 1 (by decide) (by decide) _) ?_;rw [show K3 1 1=some 3145728 from by decide];rintro v w' ⟨rfl,ho⟩;replace hs:=hs.AP ho;refine Ja ?_;refine AZ hs (h:=by exact YF _ (tab_only ht (hs.AE rfl))) ?_;intro w' ho hs;refine Jf ?_;refine AZ hs (h:=by exact Fp (-5) (by decide) (by decide) _) ?_;intro w' ho hs;skip;refine AZ hs (h:=by exact Fp 0 (by decide) (by decide) _) ?_;intro w' ho hs;repeat' (first|(refine bs hs ?_;intro b w hz hs)|fail)
 (with_reducible apply Kz);exact rfl;exact rfl;exact QW [-5,0] _ (fun i x h=>(by
  have hy:=aDJ h;simp only [aCu,aC1,or_false] at hy;rcases hy with rfl | rfl <;> decide)) AA _ (wat_two (hs.get At.head))
 rw [show JK 0 [-5,0]=9 from by decide];rintro v w' ⟨rfl,ho⟩;replace hs:=hs.AP ho;skip;refine AZ hs (h:=by exact Fp 9 (by decide) (by decide) _) ?_;intro w' ho hs;refine Jc ?_;refine AG ?_;exact ⟨rfl,hs.AE rfl⟩
theorem YB (w0:World) (ht:DJ w0):AO prog 261 #[] w0 fun v w'=>v = .bool true∧AB [] w0 w':=by
 have hs:=St.nil w0;refine AS func261 ntmps261 ?_;refine Ja ?_;refine AZ hs (h:=by exact YG _ ht) ?_;intro w' ho hs;refine Jc ?_;refine AG ?_;exact ⟨rfl,hs.AE rfl⟩
theorem its_one {w:World} {b:Nat} {a:It} (hb:w.heap[b]?=some (.cells a.cells.toArray 64 (0,0))):JU w (.slice (some ⟨b,0,none⟩) 1 1) [a]:=IB.its_one hb
theorem YK (w0:World) (ht:DJ w0):AO prog 259 #[] w0 fun v w'=>v = .bool true∧AB [] w0 w':=by
 have hs:=St.nil w0;refine AS func259 ntmps259 ?_;refine Ja ?_;refine xs_val (v:=pv ⟨0,0,0⟩) rfl (qE (k:=0) (t:=62) (n:=3) (by kernel_rfl) (by kernel_rfl) rfl rfl) ?_;refine cl (h:=by exact cM ⟨0,0,0⟩ 4611686018427387905 _) ?_;rw [show Pt.shift ⟨0,0,0⟩ 4611686018427387905=⟨4611686018427387905,0,0⟩ from by decide]
 rintro v w' ⟨rfl,ho⟩;replace hs:=hs.AP ho;repeat' (first|refine Sa ?_|(refine AV hs ?_;intro w hs)|(refine al hs ?_;intro b w hz hs)|fail)
 refine AZ hs (h:=by exact YB _ (tab_only ht (hs.AE rfl))) ?_;intro w' ho hs;refine Jf ?_;refine AZ hs (h:=by exact fQ _) ?_;intro w' ho hs;repeat' (first|refine vs ?_|(refine bs hs ?_;intro b w hz hs)|fail)
 refine cl (h:=by exact Kt 0 [⟨⟨0,0,0⟩,0,⟨4611686018427387905,0,0⟩⟩] _ AA _ (its_one (hs.get At.head))) ?_;rw [show within 0 [⟨⟨0,0,0⟩,0,⟨4611686018427387905,0,0⟩⟩]=false from by decide];rintro v w' ⟨rfl,ho⟩;replace hs:=hs.AP ho;refine Jc ?_;refine AG ?_;exact ⟨rfl,hs.AE rfl⟩
theorem YO (w0:World) (ht:DJ w0):AO prog 258 #[] w0 fun v w'=>v = .bool true∧AB [] w0 w':=by
 have hs:=St.nil w0;refine AS func258 ntmps258 ?_;refine Ja ?_;refine AZ hs (h:=by exact YK _ ht) ?_;intro w' ho hs;refine Jc ?_;refine AG ?_;exact ⟨rfl,hs.AE rfl⟩
end Go.Proofs.Q0
namespace Go.Proofs.Q0
open Go Go.RowKit Tryz
open IB (IT DF Bi)
attribute [local irreducible] XS XC XA AY AR A9 A1 A0 Aa Ae AW SE
def okQ:Obj→Bool
 | .cells _ ty _=>!(Nat.beq ty 276) && !(Nat.beq ty 199) && !(Nat.beq ty 114)
 | _=>false
theorem DE.apart {wb w:World} {D:Ctx} {H:List Br} {qb:Nat} {s:Qs} {F:List Nat} (h:DE w qb s F) (hs:St wb D H w) (hH:(H.all fun e=>okQ e.2.1)=true):∀ k∈F,k∉H.map (·.1):=fun k hk hm=>by
 obtain ⟨e,he,rfl⟩:=List.mem_map.1 hm;have h1:=List.all_eq_true.1 hH e he;have h2:=hs.at_ e he;cases ho:e.2.1 with
 | cells cs ty fz =>
   rw [ho] at h1 h2;simp only [okQ,aDB,aDf] at h1;exact h.not h2 (fun e=>by rw [e] at h1;exact absurd h1.1.1 (by decide)) (fun e=>by rw [e] at h1;exact absurd h1.1.2 (by decide)) (fun e=>by rw [e] at h1;exact absurd h1.2 (by decide)) hk
 | _=>rw [ho] at h1;cases h1
def ia:IT:=⟨⟨⟨5,0,1⟩,1,⟨9,0,1⟩⟩,by decide⟩
def ib:IT:=⟨⟨⟨8,0,1⟩,2,⟨8,0,1⟩⟩,by decide⟩
theorem j1:EA (Ho 0) ia=0:=by kernel_rfl
theorem j2:EA (DO (Ho 0) ia) ib=0:=by kernel_rfl
theorem j3:(DO (DO (Ho 0) ia) ib).t.list.length=2:=by kernel_rfl
theorem j4:Ls (DO (DO (Ho 0) ia) ib) 1=1:=by kernel_rfl
theorem j5:Ls (DO (DO (Ho 0) ia) ib) 2=-1:=by kernel_rfl
theorem j8:((DO (DO (Ho 0) ia) ib).f 1).isSome=true:=by kernel_rfl
theorem j9:((DO (DO (Ho 0) ia) ib).f 2).isSome=true:=by kernel_rfl
theorem j6:Lv (DO (DO (Ho 0) ia) ib)=some ia:=by kernel_rfl
theorem YH (w0:World) (ht:DJ w0):AO prog 257 #[] w0 fun v w'=>v = .bool true∧AB [] w0 w':=by
 have hs:=St.nil w0;refine AS func257 ntmps257 ?_;refine Ja ?_;refine cl (h:=by exact Vq 0 (by decide) _) ?_;rintro v w1 ⟨⟨qb,F0,rfl,hQ,Dx⟩,AL⟩;have Dx:∀ k∈F0,w0.heap.size≤k:=fun k hk=>by have:=Dx k hk;have:=hs.size;omega
 have J0:=AL.size;have hq:=hs.AP AL;have TU:=hq.AE rfl;clear hs hq;have hs:=St.nil w1;refine vs ?_
 repeat' (first|refine Sd ?_|(refine AV hs ?_;intro w hs)|(refine al hs ?_;intro b w hz hs)|fail)
 refine dr [] hs ?_;intro hX w hs;refine tks 0 2 ?_;refine tks 3 2 ?_;refine dt 2 hX ?_;have ZA:=hQ.only (hs.AE rfl);refine cl (h:=by exact Oy qb (Ho 0) F0 ia _ ZA (by decide) (by decide)) ?_;rintro v w2 ⟨rfl,F1,QM,Cq,AN⟩;rw [j1];have hzw:=hs.size;replace hs:=hs.call AN (ZA.apart hs rfl) sD
 have Qf:∀ k∈F1,w0.heap.size≤k:=fun k hk=>by
  rcases Cq k hk with h | h
  ·exact Dx k h
  ·omega
 refine Jn ?_;refine dt 5 hX ?_;refine cl (h:=by exact Oy qb (DO (Ho 0) ia) F1 ib _ QM (by decide) (by decide)) ?_;rintro v w3 ⟨rfl,F2,Ff,D6,AU⟩;rw [j2];replace hs:=hs.call AU (QM.apart hs rfl) sD
 have hm:∀ w',AB (F1 ++ (F0 ++ [])) w1 w'→AB [] w0 w':=fun w' ho=>TU.step ho (fun k hk=>by
  rw [aDP,aC4] at hk;rcases hk with hk | hk
  ·exact .inr (Qf k hk)
  ·exact .inr (Dx k hk))
 have hlen:=j3;have e1:=j4;have e2:=j5;have e3:=j6;have fB:=j8;have rE:=j9;generalize DO (DO (Ho 0) ia) ib=s at *;have kQ:∀ w',AB [] w3 w'→DE w' qb s F2:=fun w' ho=>Ff.only ho;clear hQ ZA QM;refine Jn ?_;refine tks 6 2 ?_;refine en ?_;refine Ja ?_;refine cl (h:=by exact Lu qb s F2 1 _ Ff (by decide)) ?_;rw [e1,fB];rintro v w4 ⟨rfl,Ar⟩;replace Ff:=Ff.only Ar;replace hs:=hs.AP Ar;refine Ja ?_;refine cl (h:=by exact Lu qb s F2 2 _ Ff (by decide)) ?_;rw [e2,rE];rintro v w5 ⟨rfl,BL⟩;replace Ff:=Ff.only BL;replace hs:=hs.AP BL;refine Ja ?_;refine cl (h:=by exact PU qb s F2 _ Ff) ?_;rw [e3]
 rintro v w' ⟨rfl,ho⟩;replace hs:=hs.AP ho;repeat' (first|refine Sa ?_|(refine AV hs ?_;intro w hs)|(refine al hs ?_;intro b w hz hs)|fail)
 refine AZ hs (h:=by exact YO _ (tab_only ht (hm _ hs.only))) ?_;intro w' ho hs;refine Jc ?_;refine AG ?_;exact ⟨rfl,hm _ hs.only⟩
theorem YJ (w0:World) (ht:DJ w0):AO prog 256 #[] w0 fun v w'=>v = .bool true∧AB [] w0 w':=by
 have hs:=St.nil w0;refine AS func256 ntmps256 ?_;refine Ja ?_;refine AZ hs (h:=by exact YH _ ht) ?_;intro w' ho hs;refine Jc ?_;refine AG ?_;exact ⟨rfl,hs.AE rfl⟩
theorem n1:newR ⟨1,0,1⟩ 1 3=some ⟨⟨⟨1,0,1⟩,1,⟨3145729,0,1⟩⟩,3,3,false⟩:=by kernel_rfl
theorem n2:Ik ⟨⟨⟨1,0,1⟩,1,⟨3145729,0,1⟩⟩,3,3,false⟩ 0 [1,2]=some (⟨⟨⟨3145729,0,1⟩,1,⟨6291457,0,1⟩⟩,3,3,false⟩,1):=by kernel_rfl
theorem uB {w:World} {b:Nat} {x y:Int} (hb:w.heap[b]?=some (.cells #[.int .u64 x,.int .u64 y] 22 (0,0))):Cu w 22 1 (.slice (some ⟨b,0,none⟩) 2 2) ([x,y].map fun n=>[.int .u64 n]) :=
 ⟨_,2,rfl,fun _=>⟨b,0,_,(0,0),rfl,aC5 _,hb,fun i x h=>by
  rcases i with _ | _ | i
  ·cases h;exact pick_of rfl rfl
  ·cases h;exact pick_of rfl rfl
  ·simp at h⟩⟩
theorem YD (w0:World) (ht:DJ w0):AO prog 254 #[] w0 fun v w'=>v = .bool true∧AB [] w0 w':=by
 have hs:=St.nil w0;refine AS func254 ntmps254 ?_;refine Ja ?_;refine cl (h:=by exact LV ⟨1,0,1⟩ 1 3 (by decide) (by decide) (by decide) _) ?_;rw [n1]
 rintro v w' ⟨rfl,ho⟩;replace hs:=hs.AP ho;repeat' (first|refine Sa ?_|(refine AV hs ?_;intro w hs)|(refine al hs ?_;intro b w hz hs)|(refine bs hs ?_;intro b w hz hs)|fail)
 refine cl (h:=by exact Yi ⟨⟨⟨1,0,1⟩,1,⟨3145729,0,1⟩⟩,3,3,false⟩ [1,2] _ (by decide) (by decide) (by decide) _ (uB (hs.get At.head))) ?_;rw [n2]
 rintro v w' ⟨rfl,ho⟩;replace hs:=hs.AP ho;repeat' (first|refine Sa ?_|(refine AV hs ?_;intro w hs)|(refine al hs ?_;intro b w hz hs)|fail)
 refine AZ hs (h:=by exact YJ _ (tab_only ht (hs.AE rfl))) ?_;intro w' ho hs;refine Jc ?_;refine AG ?_;exact ⟨rfl,hs.AE rfl⟩
theorem YX (w0:World) (ht:DJ w0):AO prog 253 #[] w0 fun v w'=>v = .bool true∧AB [] w0 w':=by
 have hs:=St.nil w0;refine AS func253 ntmps253 ?_;refine Ja ?_;refine AZ hs (h:=by exact YD _ ht) ?_;intro w' ho hs;refine Jc ?_;refine AG ?_;exact ⟨rfl,hs.AE rfl⟩
end Go.Proofs.Q0
namespace Go.Proofs
open Go.RowKit Go.Maps Go.Sort Go.Shelf Tryz
theorem aAU (m:Nat):AnyZI.SortsIn prog Q5 Fence.wide m :=
 ⟨fun blk off cap ss W hH hblk hsz=>callsIn_wide.2 (AnyM.slices_Sort_int rF blk off cap ss W hH hblk hsz),
  fun p cap W=>callsIn_wide.2 (AnyM.slices_Sort_int_none rF p cap W)⟩
end Go.Proofs
namespace Go.Proofs.Q0
open Go Go.RowKit Go.Maps Go.Sort Go.Shelf Tryz
theorem keys_calls (b:Nat) (w:World):Calls prog 43 #[.map (some b)] w fun e w'=>e = .returned (.func (.func 83) #[] #[.pointer (some ⟨w.heap.size,0,none⟩)])∧w'=w.alloc (.cells #[.map (some b)] 77) :=
 (callsIn_wide (n:=5)).1 (AnyZI.keys_in sI Fence.wide 5 trivial rfl (some b) w)
theorem sorted_calls {H:Type} (b nn:Nat) (D0:DataW H) (R:Value→Option (DataW H × List MemPlace)) (w:World) (hown:w.ownsMap prog 3 R b nn D0) (aBm:Maps.size D0≤maxLen) (hbytes:Maps.size D0*8≤140737488355328) :
 Calls prog 42 #[.func (.func 83) #[] #[.pointer (some ⟨w.heap.size,0,none⟩)]] (w.alloc (.cells #[.map (some b)] 77)) fun e w'=>∃ (v:Value) (ss:List Int),e = .returned v∧ss.Perm (intKeys D0) ∧
  w'.ownsRow (w.heap.size+1) 3 1 v ss.length ((ss.mergeSort (fun x y=>decide (x≤y))).map encZ)∧(v = .slice none 0 0↔ss=[])∧Below (w.heap.size+1) (w.alloc (.cells #[.map (some b)] 77)) w':=by
 refine (callsIn_wide (n:=5)).1 ?_;have J3:=hown.lt
 have hseq:SeqGives Fence.wide 2 prog 83 #[.pointer (some ⟨w.heap.size,0,none⟩)] encZ (fun ss=>ss.Perm (intKeys D0)) (Maps.size D0) (w.alloc (.cells #[.map (some b)] 77)) :=
  AnyZI.keys_gives (ρ:=Uq) { sI with } Fence.wide _ trivial rfl om w.heap.size b nn D0 _ AA AA (by
   obtain ⟨es,clock,hb,Ft,hs,hD⟩:=hown;exact ⟨es,clock,(Below.heap_alloc _ _ b J3).trans hb,Ft,hs,hD⟩)
 have cS:=AnyZI.sorted_in vA Fence.wide 5 trivial trivial trivial trivial rfl om (aAU _) (enters_of func82 (by kernel_rfl) rfl) 83 #[.pointer (some ⟨w.heap.size,0,none⟩)] trivial (enters_of func83 (by kernel_rfl) rfl) _ _ aBm hbytes _ hseq;change CallsIn _ _ prog 42 _ _ _ at cS;refine cS.mono ?_;rintro e w' ⟨v,ss,rfl,hS,hrow,cL,hb⟩;rw [show (w.alloc (.cells #[.map (some b)] 77)).heap.size=w.heap.size+1 by simp] at hrow hb;exact ⟨v,ss,rfl,hS,hrow,cL,hb⟩
end Go.Proofs.Q0
namespace Go.Proofs.Q0
open Go Go.RowKit Go.Maps Go.Sort Go.Shelf Tryz
attribute [local irreducible] XS XC XA AY AR A9 A1 A0 Aa Ae AW SE
theorem CB.perm {w:World} {b c:Nat} {f:Int→Option Value} (h:CB w b f c):∃ D:DataW Value,w.ownsMap prog 3 Mu b c D∧Maps.size D=c∧∀ ss:List Int,ss.Nodup→(∀ x,x∈ss↔In64 x∧(f x).isSome=true)→ss.Perm (intKeys D):=by
 obtain ⟨D,h1,h2,h3⟩:=h;refine ⟨D,h1,h2,fun ss hnd hm=>?_⟩;obtain ⟨es,rfl,hp,_⟩:=h1.entries N9;obtain ⟨es',he,hk⟩:=h1.keysOf;cases he
 have hkk:∀ p∈es,∃ x,p.1 = .int .i64 x∧In64 x:=fun p j0=>by
  obtain ⟨v,hv⟩:=hk p j0;obtain ⟨x,_,e,hw⟩:=Maps.keyOf_i64 (by kernel_rfl) hv;refine ⟨x,e,?_⟩;have e1:IntKind.i64.min=-9223372036854775808:=rfl;have e2:IntKind.i64.max=9223372036854775807:=rfl;have hw':(decide (IntKind.i64.min≤x) && decide (x≤IntKind.i64.max))=true:=hw;simp only [Bool.and_eq_true,decide_eq_true_eq,e1,e2] at hw';exact ⟨hw'.1,by omega⟩
 refine perm_intKeys hp (fun p j0=>by obtain ⟨x,e,_⟩:=hkk p j0;exact ⟨x,e⟩) hnd fun x=>?_;rw [hm x];constructor
 ·rintro ⟨hi,hs⟩;exact ((h3 x hi).1).trans hs
 ·intro hh
  have hi:In64 x:=by
   rw [has_eq,List.any_eq_true] at hh;obtain ⟨p,j0,hs⟩:=hh;obtain ⟨y,e,hy⟩:=hkk p j0;rw [e] at hs;have:y=x:=by simpa [Lit.sameKey] using hs
   exact this ▸ hy
  exact ⟨hi,((h3 x hi).1).symm.trans hh⟩
theorem uX {l ss:List Int} (hl:l.Pairwise (· < ·)) (hp:ss.Perm l):ss.mergeSort (fun x y=>decide (x≤y))=l:=by
 have h:=mergeSort_of_perm_i hp;unfold leI at h;rw [h];exact List.mergeSort_of_pairwise (hl.imp fun {a b} h=>by simpa using Int.le_of_lt h)
def Jq (i:Int):List Value:=[.int .i64 i]
theorem flat_int (l:List Int):(l.map Jq).flatten=l.map encZ:=by
 induction l with
 | nil=>rfl
 | cons a l ih=>rw [List.map_cons,List.flatten_cons,ih];rfl
theorem cY {w:World} {base e size n:Nat} {v:Value} {xs:List Value} (h:w.ownsRow base e size v n xs):∃ G,B6 w e size v n xs G∧∀ k∈G,base≤k:=by
 obtain ⟨h1,h2⟩:=h;rcases h2 with ⟨rfl,rfl⟩ | ⟨g,cap,cur,rfl,hb,hg,hc,_,hz,ht⟩
 ·exact ⟨[],.inl ⟨rfl,rfl,by rw [Nat.zero_mul] at h1;exact List.eq_nil_of_length_eq_zero h1,rfl⟩,by simp⟩
 ·exact ⟨[g],.inr ⟨g,cap,cur.toList,rfl,rfl,hc,by simpa using hz,h1,ht,by simpa using hg⟩,by simpa using hb⟩
theorem oJ (b:Nat) (w0:World):AO prog 43 #[.map (some b)] w0 fun v w'=>v = .func (.func 83) #[] #[.pointer (some ⟨w0.heap.size,0,none⟩)]∧w'=w0.alloc (.cells #[.map (some b)] 77) :=
 ret_of_calls (by kernel_rfl) ((keys_calls b w0).mono fun e w' ⟨h1,h2⟩=>⟨_,h1,rfl,h2⟩)
theorem bK (b c:Nat) (f:Int→Option Value) (l:List Int) (w0:World) (h:CB w0 b f c) (hc:c≤1000000) (hl:l.Pairwise (· < ·)) (hm:∀ x,x∈l↔In64 x∧(f x).isSome=true) :
 AO prog 42 #[.func (.func 83) #[] #[.pointer (some ⟨w0.heap.size,0,none⟩)]] (w0.alloc (.cells #[.map (some b)] 77)) fun v w'=>Cu w' 3 1 v (l.map Jq)∧l.length=c∧AB [] (w0.alloc (.cells #[.map (some b)] 77)) w':=by
 obtain ⟨D,h1,h2,h3⟩:=h.perm;have hp:=h3 l (hl.imp fun {a b} h e=>by subst e;exact Int.lt_irrefl _ h) hm;have hml:maxLen=9223372036854775807:=rfl;refine ret_of_calls (by kernel_rfl) ((sorted_calls b c D Mu w0 h1 om om).mono fun e w' ⟨v,ss,he,hS,hrow,_,hb⟩=>⟨v,he,?_,?_,?_⟩)
 ·have e1:=uX hl (hS.trans hp.symm);have e2:ss.length=l.length:=(hS.trans hp.symm).length_eq;rw [e1,e2] at hrow;obtain ⟨G,hG,_⟩:=cY hrow;exact hG.ls (flat_int l).symm AA (fun x hx=>by obtain ⟨i,_,rfl⟩:=List.mem_map.1 hx;rfl)
 ·rw [hp.length_eq,← h2];obtain ⟨es,rfl,_⟩:=h1.entries N9;simp [intKeys,Maps.size_eq]
 ·refine AB.RG (by simpa using hb)
end Go.Proofs.Q0
namespace Go.Proofs.Q0
open Go Go.RowKit Tryz
open IB (IT DF Bi)
attribute [local irreducible] XS XC XA AY AR A9 A1 A0 Aa Ae AW SE
structure Ss where
 q:Qs
 l:List RT
abbrev Wn (qb mb:Nat):Obj := .cells #[.pointer (some ⟨qb,0,none⟩),.map (some mb)] 79 (0,0)
def DC (w:World) (sb:Nat) (s:Ss) (F:List Nat):Prop :=
 ∃ qb mb Fq,F=sb :: mb :: Fq∧w.heap[sb]?=some (Wn qb mb)∧CB w mb (rvals s.l) s.l.length∧DE w qb s.q Fq∧mb∉Fq∧Cv s.l
theorem DC.Ai {w w':World} {sb:Nat} {s:Ss} {F G:List Nat} (h:DC w sb s F) (ho:AB G w w') (hd:∀ k∈F,k∉G):DC w' sb s F:=by
 obtain ⟨qb,mb,Fq,rfl,h1,h2,h3,h4⟩:=h;exact ⟨qb,mb,Fq,rfl,ho.block h1 (hd sb AA),h2.keep ho (hd mb AA),h3.Ai ho (fun k hk=>hd k (by simp [hk])),h4⟩
theorem DC.only {w w':World} {sb:Nat} {s:Ss} {F:List Nat} (h:DC w sb s F) (ho:AB [] w w'):DC w' sb s F:=h.Ai ho AA
theorem DC.lt {w:World} {sb:Nat} {s:Ss} {F:List Nat} (h:DC w sb s F):∀ k∈F,k < w.heap.size:=by
 obtain ⟨qb,mb,Fq,rfl,h1,h2,h3,h4⟩:=h;intro k hk;simp only [aCu] at hk;rcases hk with rfl | rfl | hk
 ·exact lt_of_block h1
 ·exact h2.lt
 ·exact h3.lt k hk
def Vv:Obj→Bool
 | .cells _ ty _=>!(Nat.beq ty 276) && !(Nat.beq ty 199) && !(Nat.beq ty 114) && !(Nat.beq ty 79)
 | _=>false
theorem DC.not {w:World} {sb:Nat} {s:Ss} {F:List Nat} (h:DC w sb s F) {b:Nat} {cs:Array Value} {ty:Nat} {fz:Nat × Nat} (hb:w.heap[b]?=some (.cells cs ty fz)) (ho:Vv (.cells cs ty fz)=true):b∉F:=fun hm=>by
 obtain ⟨qb,mb,Fq,rfl,k1,k2,k3,k4⟩:=h;simp only [Vv,aDB,aDf] at ho;simp only [aCu] at hm;rcases hm with rfl | rfl | hm
 ·exact A3 hb k1 (fun e=>by rw [e] at ho;exact absurd ho.2 (by decide)) rfl
 ·exact k2.ne hb rfl
 ·exact k3.not hb (fun e=>by rw [e] at ho;exact absurd ho.1.1.1 (by decide)) (fun e=>by rw [e] at ho;exact absurd ho.1.1.2 (by decide)) (fun e=>by rw [e] at ho;exact absurd ho.1.2 (by decide)) hm
theorem DC.apart {wb w:World} {D:Ctx} {H:List Br} {sb:Nat} {s:Ss} {F:List Nat} (h:DC w sb s F) (hs:St wb D H w) (hH:(H.all fun e=>Vv e.2.1)=true):∀ k∈F,k∉H.map (·.1):=fun k hk hm=>by
 obtain ⟨e,he,rfl⟩:=List.mem_map.1 hm;have h1:=List.all_eq_true.1 hH e he;have h2:=hs.at_ e he;cases ho:e.2.1 with
 | cells cs ty fz=>rw [ho] at h1 h2;exact h.not h2 h1 hk
 | _=>rw [ho] at h1;cases h1
def I0 (c:Int):Ss:=⟨Ho c,[]⟩
theorem snew_ret (c:Int) (hc:BY c) (w0:World):AO prog 63 #[.int .u64 c] w0 fun v w'=>(∃ sb F,v = .pointer (some ⟨sb,0,none⟩)∧DC w' sb (I0 c) F∧∀ k∈F,w0.heap.size≤k)∧AB [] w0 w':=by
 have hs:=St.nil w0;refine AS func63 ntmps63 ?_;refine Ja ?_;refine cl (h:=by exact Vq c hc _) ?_;rintro v w1 ⟨⟨qb,Fq,rfl,hQ,hFq⟩,ho⟩;replace hs:=hs.AP ho;have AL:=hs.AE rfl;have J0:=AL.size;refine UO ?_;intro mb w2 AN hM hmb;clear hs;have hs:=St.nil w2;refine vs ?_;refine bx hs ?_;intro sb w3 hz hs;have hsb:=hs.new (sb,true) AA rfl;simp only at hsb;have Mz:=AN.size;have Nt:=hM.keep (hs.AE rfl) AA;have hlQ:=hQ.lt;have Ff:=(hQ.only AN).only (hs.AE rfl);have l9:=hs.get At.head;have AU:=(AL.trans AN).trans (hs.AE rfl);have hA:DC w3 sb (I0 c) (sb :: mb :: Fq):=⟨qb,mb,Fq,rfl,l9,Nt,Ff,fun hm=>by have:=hlQ mb hm;omega,List.Pairwise.nil⟩
 have hnew:∀ k∈sb :: mb :: Fq,w0.heap.size≤k:=fun k hk=>by
  simp only [aCu] at hk;rcases hk with rfl | rfl | hk
  ·omega
  ·omega
  ·have:=hFq k hk;omega
 refine Jc ?_;refine AG ?_;exact ⟨⟨sb,_,rfl,hA,hnew⟩,AU⟩
def GS (r:Rq) (E:Int):Int:=bif r.right then E else 2
def K9 (s:Ss) (r:RT) (E:Int) (q':Qs):Ss:=bif r.1.right then ⟨q',bif decide (E=0) then CJ r s.l else s.l⟩ else s
theorem WZ (g sb:Nat) (s:Ss) (F:List Nat) (r:RT) (E:Int) (q':Qs) (w0:World) (h:DC w0 sb s F) (hn:s.l.length < 1000000)
 (hg:∀ qb Fq w,DE w qb s.q Fq→r.1.right=true→AO prog g #[.pointer (some ⟨qb,0,none⟩),rv r.1] w fun v w'=>v = .int .i64 E∧∃ F',DE w' qb q' F'∧(∀ k∈F',k∈Fq∨w.heap.size≤k)∧AB Fq w w') :
 AO prog 150 #[.pointer (some ⟨sb,0,none⟩),rv r.1,.func (.func g) #[] #[]] w0 fun v w'=>v = .int .i64 (GS r.1 E)∧∃ F',DC w' sb (K9 s r E q') F'∧(∀ k∈F',k∈F∨w0.heap.size≤k)∧AB F w0 w':=by
 have hS:=h;obtain ⟨qb,mb,Fq,rfl,h1,h2,h3,h4,h5⟩:=h;have hs:=(St.nil w0).AH h1 AA;have hlt:=hS.lt;have same:∀ w',AB [] w0 w'→∃ F',DC w' sb s F'∧(∀ k∈F',k∈sb :: mb :: Fq∨w0.heap.size≤k)∧AB (sb :: mb :: Fq) w0 w':=fun w' ho=>⟨_,hS.only ho,fun k hk => .inl hk,ho.weaken AA⟩;refine AS func150 ntmps150 ?_;refine Ah ?_;refine Aq ?_;refine bx hs ?_;intro bq wq Lp hs;have Ir:=hs.new (bq,true) AA rfl;simp only at Ir;refine Jd ?_;refine cl (h:=by exact JF r.1 r.2 _) ?_;generalize hr:r.1.right=rr;cases rr
 ·rintro v w' ⟨rfl,ho⟩;replace hs:=hs.AP ho;refine Je ?_;refine AG ?_;refine ⟨by unfold GS;rw [hr];rfl,?_⟩;unfold K9;rw [hr];exact same _ (hs.AD [] (by simp [h1]) sD)
 ·rintro v w' ⟨rfl,ho⟩;replace hs:=hs.AP ho;refine Jl ?_
  have hno:∀ k∈Fq,k∉[bq,sb]:=fun k hk hm=>by
   have hl:=hlt k (by simp [hk]);simp only [aCu,aC1,or_false] at hm;rcases hm with rfl | rfl
   ·omega
   ·exact h3.not h1 (by decide) (by decide) (by decide) hk
  refine dr [] hs ?_;intro hX w hs;refine tks 0 6 ?_;refine dt 6 hX ?_;have AL:=hs.AD [] (by simp [h1]) sD;have hsz:=hs.size;refine cl (h:=by exact hg qb Fq _ (h3.only AL) hr) ?_;rintro v w2 ⟨rfl,F',hQ,C0,AN⟩;replace hs:=hs.call AN hno sD;have hM:=(h2.keep AL AA).keep AN h4
  have UQ:mb∉F':=fun hm=>by
   have:=hlt mb AA;rcases C0 mb hm with h | h
   ·exact h4 h
   ·omega
  have D6:∀ k∈sb :: mb :: F',k∈sb :: mb :: Fq∨w0.heap.size≤k:=fun k hk=>by
   simp only [aCu] at hk ⊢;rcases hk with rfl | rfl | hk
   ·simp
   ·simp
   ·rcases C0 k hk with h | h
    ·simp [h]
    ·exact .inr om
  refine Jn ?_;refine tk 7 hX ?_;refine en ?_;have BF:AB (sb :: mb :: Fq) w0 w2:=hs.only.weaken (by simp [olds,D0];exact fun a h => .inr (.inr h));have M3:=hs.get (At.tail At.head);have xZ:=hs.get At.head;have nbs:bq≠sb:=by have:=hlt sb AA;omega
  clear hs;have hs:=((St.nil w2).AH M3 AA).AH xZ (by simpa using nbs)
  repeat' (first|refine Sa ?_|refine Aw rfl (fun hc=>?_) fun hc=>?_|fail)
  ·have hE:E=0:=by assumption
   have nb:mb≠bq:=by have:=hlt mb AA;omega
   have ns:mb≠sb:=fun e=>(hM.ne (hs.get (At.tail At.head))) e.symm;refine dr [] hs ?_;intro hX w hs;refine tks 0 8 ?_;refine dt 8 hX ?_;have AU:=hs.AD [] (by simp [M3,xZ]) sD;refine OW (e:=66) (i:=BB r) (v:=rv r.1) (hM.keep AU AA) r.2.1.2.1 (by have:maxLen=9223372036854775807:=rfl;omega) (by kernel_rfl) (k:=?_);intro w3 Nt Ar
   replace hs:=hs.call Ar (fun k hk hm=>by
    obtain rfl:=List.mem_singleton.1 hk;simp only [aC2,aDD,aCu,aC1,or_false] at hm;rcases hm with hm | hm
    ·exact nb hm
    ·exact ns hm) sD
   rw [UI,HX,← Ts h5] at Nt;have Ff:=(hQ.only AU).Ai Ar (fun k hk hm=>by obtain rfl:=List.mem_singleton.1 hm;exact UQ hk);refine Jn ?_;refine en ?_;refine Ja ?_;refine AG ?_;have ee:K9 s r E q'=⟨q',CJ r s.l⟩:=by unfold K9;rw [hr,decide_eq_true hE];rfl
   refine ⟨by unfold GS;rw [hr];rfl,?_⟩;rw [ee];exact ⟨_,⟨qb,mb,F',rfl,hs.get (At.tail At.head),Nt,Ff,UQ,ord_put h5⟩,D6,(BF.step AU AA).step Ar AA⟩
  ·have hE:¬ E=0:=by assumption
   refine AG ?_;have ee:K9 s r E q'=⟨q',s.l⟩:=by unfold K9;rw [hr,decide_eq_false hE];rfl
   refine ⟨by unfold GS;rw [hr];rfl,?_⟩;rw [ee];exact ⟨_,⟨qb,mb,F',rfl,hs.get (At.tail At.head),hM,hQ,UQ,h5⟩,D6,BF⟩
def BZ (r:RT):IT:=⟨r.1.i,r.2.1⟩
theorem Zs (qb:Nat) (s:Qs) (F:List Nat) (r:RT) (w0:World) (h:DE w0 qb s F) (hlen:s.t.list.length+1≤1000000) (hn:s.n < 1000000) :
 AO prog 170 #[.pointer (some ⟨qb,0,none⟩),rv r.1] w0 fun v w'=>v = .int .i64 (EA s (BZ r))∧∃ F',DE w' qb (DO s (BZ r)) F'∧(∀ k∈F',k∈F∨w0.heap.size≤k)∧AB F w0 w':=by
 have hs:=St.nil w0;refine AS func170 ntmps170 ?_
 repeat' (first|refine Sa ?_|(refine bx hs ?_;intro b w hz hs)|fail)
 have ho:=hs.AE rfl;refine cl (h:=by exact Oy qb s F (BZ r) _ (h.only ho) hlen hn) ?_;rintro v w1 ⟨rfl,F',hA,C0,AL⟩;have hz:=ho.size;clear hs;have hs:=St.nil w1;refine Jc ?_;refine AG ?_;exact ⟨rfl,F',hA.only (hs.AE rfl),fun k hk=>by rcases C0 k hk with h | h;exact .inl h;exact .inr om,((ho.weaken AA).step AL (fun k hk => .inl hk)).step (hs.AE rfl) AA⟩
def LM (s:Ss) (r:RT):Int:=GS r.1 (EA s.q (BZ r))
def G4 (s:Ss) (r:RT):Ss:=K9 s r (EA s.q (BZ r)) (DO s.q (BZ r))
theorem enter_ret (sb:Nat) (s:Ss) (F:List Nat) (r:RT) (w0:World) (h:DC w0 sb s F) (hl:s.l.length < 1000000) (hlen:s.q.t.list.length+1≤1000000) (hn:s.q.n < 1000000) :
 AO prog 132 #[.pointer (some ⟨sb,0,none⟩),rv r.1] w0 fun v w'=>v = .int .i64 (LM s r)∧∃ F',DC w' sb (G4 s r) F'∧(∀ k∈F',k∈F∨w0.heap.size≤k)∧AB F w0 w':=by
 have hs:=St.nil w0;refine AS func132 ntmps132 ?_
 repeat' (first|refine Sa ?_|(refine bx hs ?_;intro b w hz hs)|fail)
 have ho:=hs.AE rfl;refine cl (h:=by exact WZ 170 sb s F r (EA s.q (BZ r)) (DO s.q (BZ r)) _ (h.only ho) hl (fun qb Fq w hq _=>Zs qb s.q Fq r w hq hlen hn)) ?_;rintro v w1 ⟨rfl,F',hA,C0,AL⟩;have hz:=ho.size;clear hs;have hs:=St.nil w1;refine Jc ?_;refine AG ?_;exact ⟨rfl,F',hA.only (hs.AE rfl),fun k hk=>by rcases C0 k hk with h | h;exact .inl h;exact .inr om,((ho.weaken AA).step AL (fun k hk => .inl hk)).step (hs.AE rfl) AA⟩
theorem tX (sb:Nat) (s:Ss) (F:List Nat) (id:Int) (w0:World) (h:DC w0 sb s F) (hid:In64 id) :
 AO prog 102 #[.pointer (some ⟨sb,0,none⟩),.int .i64 id] w0 fun v w'=>v = .tuple #[rv (DI s.l id),.bool (Al s.l id).isSome]∧AB [] w0 w':=by
 obtain ⟨qb,mb,Fq,rfl,h1,h2,h3,h4,h5⟩:=h;have hs:=(St.nil w0).AH h1 AA;refine AS func102 ntmps102 ?_
 repeat' (first|refine Sd ?_|(refine al hs ?_;intro b w hz hs)|fail)
 have ho:=hs.AD [] (by simp [h1]) sD;refine Ju (e:=66) (z:=rv .zero) (h2.keep ho AA) hid (by kernel_rfl) (by kernel_rfl) ?_;rw [MI,HX];generalize DI s.l id=x
 repeat' (first|refine Sa ?_|(refine AV hs ?_;intro w hs)|(refine al hs ?_;intro b w hz hs)|fail)
 refine AG ?_;exact ⟨rfl,hs.AD [] (by simp [h1]) sD⟩
def Gm (s:Ss) (id:Int):Ss:=⟨KZ s.q id,Dn id s.l⟩
theorem WU (sb:Nat) (s:Ss) (F:List Nat) (id:Int) (w0:World) (h:DC w0 sb s F) (hid:In64 id) (hlen:s.q.t.list.length≤1000000) (a:IT) (hf:s.q.f id=some a) (hd:GX a s.q.t) :
 AO prog 139 #[.pointer (some ⟨sb,0,none⟩),.int .i64 id] w0 fun v w'=>v = .tuple #[rv (DI s.l id),.int .i64 0]∧∃ F',DC w' sb (Gm s id) F'∧(∀ k∈F',k∈F∨w0.heap.size≤k)∧AB F w0 w':=by
 have hS:=h;obtain ⟨qb,mb,Fq,rfl,h1,h2,h3,h4,h5⟩:=h;have hs:=(St.nil w0).AH h1 AA;have hlt:=hS.lt;refine AS func139 ntmps139 ?_;refine Ah ?_;refine Aq ?_;refine al hs ?_;intro b4 w hz hs;have g4:=hs.new (b4,true) AA rfl;simp only at g4;refine Jd ?_;have ho:=hs.AD [] (by simp [h1]) sD;have hsz:=ho.size;have l4:=lt_of_block (hs.get At.head);refine cl (h:=by exact SZ qb s.q Fq id _ (h3.only ho) hid hlen (fun a' e=>by rw [hf] at e;cases e;exact hd)) (k:=?_);rw [hf];rintro v w1 ⟨rfl,F',hQ,C0,AL⟩
 have hno:∀ k∈Fq,k∉[b4,sb]:=fun k hk hm=>by
  have hl:=hlt k (by simp [hk]);simp only [aCu,aC1,or_false] at hm;rcases hm with rfl | rfl
  ·omega
  ·exact h3.not h1 (by decide) (by decide) (by decide) hk
 have UQ:mb∉F':=fun hm=>by
  have:=hlt mb AA;rcases C0 mb hm with h | h
  ·exact h4 h
  ·omega
 have D6:∀ k∈sb :: mb :: F',k∈sb :: mb :: Fq∨w0.heap.size≤k:=fun k hk=>by
  simp only [aCu] at hk ⊢;rcases hk with rfl | rfl | hk
  ·simp
  ·simp
  ·rcases C0 k hk with h | h
   ·simp [h]
   ·exact .inr om
 have hM1:=(h2.keep ho AA).keep AL h4;have k4:=AL.block (hs.get At.head) (fun hm=>hno _ hm AA);have k6:=AL.block (hs.get (At.tail At.head)) (fun hm=>hno _ hm AA);have Nu:b4≠sb:=by have:=hlt sb AA;omega
 have BF:AB (sb :: mb :: Fq) w0 w1:=(ho.weaken AA).step AL (fun k hk => .inl (by simp [hk]));have aCt:=hQ.lt;clear hs;have hs:=((St.nil w1).AH k6 AA).AH k4 (by simpa using Nu)
 repeat' (first|refine Sd ?_|(refine AV hs ?_;intro w hs)|(refine al hs ?_;intro b w hz hs)|fail)
 replace hs:=hs.Bx;have AN:=hs.AD [] (by simp [k4,k6]) sD;refine Wp (e:=66) (z:=rv .zero) (hM1.keep AN AA) hid (by kernel_rfl) (by kernel_rfl) ?_;rw [MI];generalize DI s.l id=x at *;refine al hs ?_;intro b8 w8 hz8 hs;have g8:=hs.new (b8,true) AA rfl;simp only at g8;have J0:=AL.size
 repeat' (first|refine Sa ?_|(refine AV hs ?_;intro w hs)|fail)
 have AU:=hs.AD [] (by simp [k4,k6]) sD;have lm:=hlt mb AA;refine Ut (e:=66) (hM1.keep AU AA) hid (by kernel_rfl) ?_;intro w3 Nt Ar;rw [kM,HX,← TO h5] at Nt;have e1:=hs.get (At.tail (At.tail At.head))
 replace hs:=hs.call Ar (fun k hk hm=>by
  obtain rfl:=List.mem_singleton.1 hk;simp only [aC2,aDD,aCu,aC1,or_false] at hm;rcases hm with hm | hm | hm
  ·omega
  ·omega
  ·exact (hM1.ne k6) hm.symm) sD
 have Ff:=(hQ.only AU).Ai Ar (fun k hk hm=>by obtain rfl:=List.mem_singleton.1 hm;exact UQ hk);have Bd:=(BF.step AU AA).step Ar AA;have c1:=hs.get At.head;have c2:=hs.get (At.tail At.head);have c3:=hs.get (At.tail (At.tail At.head));have n84:b8≠b4:=by have:=hs.nd;simp only [aC2,aC6,aCu,not_or] at this;exact this.1.1
 have n86:b8≠sb:=by have:=hs.nd;simp only [aC2,aC6,aCu,not_or] at this;exact this.1.2.1
 clear hs;have hs:=(((St.nil w3).AH c3 AA).AH c2 (by simpa using Nu)).AH c1 (by simp [n84,n86])
 repeat' (first|refine Sa ?_|(refine AV hs ?_;intro w hs)|fail)
 refine AG ?_;have EM:=hs.AD [b4] (by simp [c1,c3]) sD
 have hs4:b4∉F':=fun hm=>by
  have:=C0 b4 hm;rcases this with h | h
  ·exact hno b4 h AA
  ·omega
 refine ⟨rfl,_,⟨qb,mb,F',rfl,hs.get (At.tail (At.tail At.head)),Nt.keep EM (by simp;omega),Ff.Ai EM (fun k hk hm=>by obtain rfl:=List.mem_singleton.1 hm;exact hs4 hk),UQ,ZH h5⟩,D6,Bd.step EM (fun k hk => .inr (by obtain rfl:=List.mem_singleton.1 hk;exact g4))⟩
def HV (a:RT) (b:Bool):RT:=⟨⟨a.1.i,a.1.left,a.1.slice,b⟩,a.2⟩
def Sr (s:Ss) (id:Int):Int:=O0 (Al s.l id).isSome
def Mk (s:Ss) (id:Int) (b:Bool):Ss:=match Al s.l id with | some a=>⟨s.q,CJ (HV a b) s.l⟩ | none=>s
theorem UG (sb:Nat) (s:Ss) (F:List Nat) (id:Int) (yb:Bool) (w0:World) (h:DC w0 sb s F) (hid:In64 id) (hn:s.l.length < 1000000) :
 AO prog 105 #[.pointer (some ⟨sb,0,none⟩),.int .i64 id,.bool yb] w0 fun v w'=>v = .int .i64 (Sr s id)∧DC w' sb (Mk s id yb) F∧AB F w0 w':=by
 have hS:=h;obtain ⟨qb,mb,Fq,rfl,h1,h2,h3,h4,h5⟩:=h;have hs:=(St.nil w0).AH h1 AA;have hlt:=hS.lt;refine AS func105 ntmps105 ?_;refine Jd ?_;have ho:=hs.AD [] (by simp [h1]) sD;refine Ju (e:=66) (z:=rv .zero) (h2.keep ho AA) hid (by kernel_rfl) (by kernel_rfl) ?_;rw [MI,HX];unfold Sr Mk;cases hf:Al s.l id with
 | none =>
   repeat' (first|refine Sc ?_|(refine AV hs ?_;intro w hs)|(refine al hs ?_;intro b w hz hs)|fail)
   refine AG ?_;have ho:=hs.AD [] (by simp [h1]) sD;exact ⟨rfl,hS.only ho,ho.weaken AA⟩
 | some a =>
   have ei:BB a=id:=(Bu hf).2;rw [show DI s.l id=a.1 by unfold DI;rw [hf]]
   repeat' (first|refine Sd ?_|(refine st hs ?_;intro w hs)|(refine AV hs ?_;intro w hs)|(refine al hs ?_;intro b w hz hs)|fail)
   refine dr [] hs ?_;intro hX w hs;refine tks 0 6 ?_;refine dt 6 hX ?_;have AL:=hs.AD [] (by simp [h1]) sD;have hM:=h2.keep AL AA;have hmb:=hlt mb AA;have hnb:=hs.new (_,true) (aDF (aCw)) rfl;simp only at hnb;refine OW (e:=66) (i:=id) (v:=rv (HV a yb).1) hM hid (by have:maxLen=9223372036854775807:=rfl;omega) (by kernel_rfl) (k:=?_);intro w3 Nt Ar;rw [← ei,show BB a=BB (HV a yb) from rfl,UI,HX,← Ts h5] at Nt;have Ff:=(h3.only AL).Ai Ar (fun k hk hm=>by obtain rfl:=List.mem_singleton.1 hm;exact h4 hk);have ns:mb≠sb:=fun e=>(hM.ne (hs.get (At.tail At.head))) e.symm
   replace hs:=hs.call Ar (fun k hk hm=>by
    obtain rfl:=List.mem_singleton.1 hk;simp only [aC2,aDD,aCu,aC1,or_false] at hm;rcases hm with hm | hm
    ·omega
    ·exact ns hm) sD
   refine Jn ?_;refine en ?_;refine Ja ?_;refine AG ?_;exact ⟨rfl,⟨qb,mb,Fq,rfl,hs.get (At.tail At.head),Nt,Ff,h4,ord_put h5⟩,(AL.weaken AA).step Ar AA⟩
end Go.Proofs.Q0
namespace Go.Proofs.Q0
open IB (IT)
theorem PL:∀ {l:List Int},l≠[]→IX l∈l∧∀ x∈l,IX l≤x
 | [],h=>absurd rfl h
 | d :: l,_=>by
   suffices H:∀ (l:List Int) (d:Int),(l.foldl (fun a b=>if b < a then b else a) d=d∨l.foldl (fun a b=>if b < a then b else a) d∈l)∧l.foldl (fun a b=>if b < a then b else a) d≤d∧∀ x∈l,l.foldl (fun a b=>if b < a then b else a) d≤x by
    obtain ⟨h1,h2,h3⟩:=H l d;refine ⟨aCu.2 h1,fun x hx=>?_⟩;rcases aCu.1 hx with rfl | hx
    ·exact h2
    ·exact h3 x hx
   intro l
   induction l with
   | nil=>intro d;exact ⟨.inl rfl,Int.le_refl _,by simp⟩
   | cons e l ih =>
     intro d;rw [aDZ];obtain ⟨m,hm,k1,k2,k3⟩:∃ m,m=(if e < d then e else d)∧m≤d∧m≤e∧(m=d∨m=e):=⟨_,rfl,by split <;> omega,by split <;> omega,by split <;> simp⟩;rw [← hm];obtain ⟨h1,h2,h3⟩:=ih m;refine ⟨?_,by omega,fun x hx=>?_⟩
     ·rcases h1 with h1 | h1
      ·rcases k3 with k3 | k3
       ·exact .inl (h1.trans k3)
       ·exact .inr (by rw [h1,k3];exact aCw)
      ·exact .inr (aCy _ h1)
     ·rcases aCu.1 hx with rfl | hx
      ·omega
      ·exact h3 x hx
theorem PM:∀ {l:List Int},l≠[]→I3 l∈l∧∀ x∈l,x≤I3 l
 | [],h=>absurd rfl h
 | d :: l,_=>by
   suffices H:∀ (l:List Int) (d:Int),(l.foldl (fun a b=>if b > a then b else a) d=d∨l.foldl (fun a b=>if b > a then b else a) d∈l)∧d≤l.foldl (fun a b=>if b > a then b else a) d∧∀ x∈l,x≤l.foldl (fun a b=>if b > a then b else a) d by
    obtain ⟨h1,h2,h3⟩:=H l d;refine ⟨aCu.2 h1,fun x hx=>?_⟩;rcases aCu.1 hx with rfl | hx
    ·exact h2
    ·exact h3 x hx
   intro l
   induction l with
   | nil=>intro d;exact ⟨.inl rfl,Int.le_refl _,by simp⟩
   | cons e l ih =>
     intro d;rw [aDZ];obtain ⟨m,hm,k1,k2,k3⟩:∃ m,m=(if e > d then e else d)∧m≥d∧m≥e∧(m=d∨m=e):=⟨_,rfl,by split <;> omega,by split <;> omega,by split <;> simp⟩;rw [← hm];obtain ⟨h1,h2,h3⟩:=ih m;refine ⟨?_,by omega,fun x hx=>?_⟩
     ·rcases h1 with h1 | h1
      ·rcases k3 with k3 | k3
       ·exact .inl (h1.trans k3)
       ·exact .inr (by rw [h1,k3];exact aCw)
      ·exact .inr (aCy _ h1)
     ·rcases aCu.1 hx with rfl | hx
      ·omega
      ·exact h3 x hx
theorem Xt {l l':List Int} (h:∀ x,x∈l↔x∈l'):IX l=IX l':=by
 by_cases e:l=[]
 ·subst e;have:l'=[]:=List.eq_nil_iff_forall_not_mem.2 fun x hx=>by have:=(h x).2 hx;cases this
  rw [this]
 ·have e':l'≠[]:=fun k=>e (List.eq_nil_iff_forall_not_mem.2 fun x hx=>by have:=(h x).1 hx;rw [k] at this;cases this);obtain ⟨h1,h2⟩:=PL e;obtain ⟨k1,k2⟩:=PL e';have:=h2 _ ((h _).2 k1);have:=k2 _ ((h _).1 h1);omega
theorem Y8 {l l':List Int} (h:∀ x,x∈l↔x∈l'):I3 l=I3 l':=by
 by_cases e:l=[]
 ·subst e;have:l'=[]:=List.eq_nil_iff_forall_not_mem.2 fun x hx=>by have:=(h x).2 hx;cases this
  rw [this]
 ·have e':l'≠[]:=fun k=>e (List.eq_nil_iff_forall_not_mem.2 fun x hx=>by have:=(h x).1 hx;rw [k] at this;cases this);obtain ⟨h1,h2⟩:=PM e;obtain ⟨k1,k2⟩:=PM e';have:=h2 _ ((h _).2 k1);have:=k2 _ ((h _).1 h1);omega
theorem mem_places {b d:Int} {l:List It}:d∈sinces b (places l)↔∃ x∈l,d=sn x.p.t b:=by
 unfold sinces places;simp only [List.map_map,List.mem_map,Function.comp];exact ⟨fun ⟨x,h,e⟩=>⟨x,h,e.symm⟩,fun ⟨x,h,e⟩=>⟨x,h,e.symm⟩⟩
theorem mem_boths {b d:Int} {l:List It}:d∈sinces b (Dg l)↔∃ x∈l,d=sn x.p.t b∨d=sn x.d.t b:=by
 unfold sinces Dg;simp only [List.mem_map,List.mem_flatMap,aCu,aC1,or_false];constructor
 ·rintro ⟨p,⟨x,h,rfl | rfl⟩,rfl⟩
  ·exact ⟨x,h,.inl rfl⟩
  ·exact ⟨x,h,.inr rfl⟩
 ·rintro ⟨x,h,rfl | rfl⟩
  ·exact ⟨_,⟨x,h,.inl rfl⟩,rfl⟩
  ·exact ⟨_,⟨x,h,.inr rfl⟩,rfl⟩
theorem uK {b:Int} {l l':List It} (h:∀ x,x∈l↔x∈l'):spr b l=spr b l':=by
 unfold spr;rw [Y8 (l:=sinces b (Dg l)) (l':=sinces b (Dg l')) (fun x=>by rw [mem_boths,mem_boths];simp only [h]),Xt (l:=sinces b (places l)) (l':=sinces b (places l')) (fun x=>by rw [mem_places,mem_places];simp only [h])]
theorem N8 {b:Int} {l l':List It} (h:∀ x,x∈l↔x∈l'):within b l=within b l':=by unfold within;rw [uK h]
theorem jY {b:Int} {l:List It} (h1:∀ x∈l,x.In∧x.right=true) (h2:within b l=true) (h3:∃ x∈l,sn x.p.t b≤0) (h4:∃ x∈l,0≤sn x.p.t b) (hl:l.length≤32):∃ lo,Cg b lo l:=by
 unfold within at h2;rw [decide_eq_true_eq] at h2;obtain ⟨x0,hx0,k0⟩:=h3;obtain ⟨x1,hx1,k1⟩:=h4;have e1:sinces b (places l)≠[]:=fun e=>by have:=(mem_places (b:=b)).2 ⟨x0,hx0,rfl⟩;rw [e] at this;cases this
 have e2:sinces b (Dg l)≠[]:=fun e=>by have:=(mem_boths (b:=b)).2 ⟨x0,hx0,.inl rfl⟩;rw [e] at this;cases this
 obtain ⟨m1,m2⟩:=PL e1;obtain ⟨n1,n2⟩:=PM e2;have a0:=m2 _ (mem_places.2 ⟨x0,hx0,rfl⟩);have a1:=n2 _ (mem_boths.2 ⟨x1,hx1,.inl rfl⟩);unfold spr at h2;have r1:IX (sinces b (places l))≥-9223372036854775808:=by obtain ⟨x,_,e⟩:=mem_places.1 m1;rw [e];exact (sn_rng _ _).1
 have r2:I3 (sinces b (Dg l)) < 9223372036854775808:=by
  obtain ⟨x,_,e | e⟩:=mem_boths.1 n1
  ·rw [e];exact (sn_rng _ _).2
  ·rw [e];exact (sn_rng _ _).2
 generalize IX (sinces b (places l))=lo at *;generalize I3 (sinces b (Dg l))=hi at *;refine ⟨lo,by unfold Ib;omega,hl,fun x hx=>?_⟩;obtain ⟨i1,i2⟩:=h1 x hx;have b1:=m2 _ (mem_places.2 ⟨x,hx,rfl⟩);have b2:=n2 _ (mem_boths.2 ⟨x,hx,.inl rfl⟩);have b3:=n2 _ (mem_boths.2 ⟨x,hx,.inr rfl⟩);obtain ⟨_,_,_,_,d1,d2,_⟩:=iright_all i1 i2;have ed:sn x.d.t b=sn x.p.t b+sn x.d.t x.p.t:=by unfold sn at *;omega
 exact ⟨i1,i2,b1,by omega⟩
structure As where
 l:List RT
 c:Int
def its (l:List RT):List It:=l.map fun r=>r.1.i
def L2 (A:As):Int:=if A.l=[] then A.c else (JN (its A.l)).b
def Iv (A:As) (a:It):Int:=if A.l=[] then a.p.t else L2 A
def SK (A:As) (a:It):Int :=
 bif !a.right then 2 else bif (Al A.l a.id).isSome then 13 else bif decide (A.l.length=32) then 7 else bif !within (Iv A a) (its A.l ++ [a]) then 8 else 0
def FT (A:As) (r:RT):Int:=GS r.1 (SK A r.1.i)
def Gj (A:As) (r:RT):As:=if FT A r=0 then ⟨CJ r A.l,A.c⟩ else A
def Fl (A:As) (id:Int):As:=if (Al A.l id).isSome then ⟨Dn id A.l,L2 A⟩ else A
structure BN (s:Ss) (A:As):Prop where
 q:QI s.q
 l:s.l=A.l
 p:s.q.t.list.Perm (A.l.map BZ)
 c:s.q.c=A.c
 r:∀ r∈A.l,r.1.right=true
 o:Cv A.l
theorem ZY (l:List RT):plain (l.map BZ)=its l:=by unfold plain its;rw [List.map_map];rfl
theorem BN.len {s:Ss} {A:As} (h:BN s A):s.q.t.list.length=A.l.length:=by rw [h.p.length_eq,aC0]
theorem BN.le {s:Ss} {A:As} (h:BN s A):A.l.length≤32:=by rw [← h.len];exact h.q.len
theorem BN.nil {s:Ss} {A:As} (h:BN s A):s.q.t.list=[]↔A.l=[]:=by
 rw [← List.length_eq_zero_iff,h.len,List.length_eq_zero_iff]
theorem BN.pQ {s:Ss} {A:As} (h:BN s A):(plain s.q.t.list).Perm (its A.l):=by rw [← ZY];exact plain_perm h.p
theorem its_ne {l:List RT} (h:l≠[]):its l≠[]:=fun e=>h (List.map_eq_nil_iff.1 e)
theorem BN.cen {s:Ss} {A:As} (h:BN s A) (e:A.l≠[]):LK s.q.m (its A.l):=(h.q.cen (fun k=>e (h.nil.1 k))).perm h.pQ
theorem BN.Gk {s:Ss} {A:As} (h:BN s A) (e:A.l≠[]):s.q.m=JN (its A.l):=(h.cen e).eq (its_ne e)
theorem BN.now {s:Ss} {A:As} (h:BN s A):F7 s.q=L2 A:=by
 unfold L2;by_cases e:A.l=[]
 ·rw [XR (h.nil.2 e),h.c,if_pos e]
 ·rw [h.q.now (fun k=>e (h.nil.1 k)),h.Gk e,if_neg e]
theorem BN.f {s:Ss} {A:As} (h:BN s A) (i:Int):s.q.f i=(Al A.l i).map BZ:=by
 cases e:Al A.l i with
 | some a =>
   obtain ⟨h1,h2⟩:=Bu e;exact (h.q.f i (BZ a)).2 ⟨h.p.mem_iff.2 (aDF h1),h2⟩
 | none =>
   cases e':s.q.f i with
   | none=>rfl
   | some b =>
     obtain ⟨h1,h2⟩:=(h.q.f i b).1 e';obtain ⟨r,h3,rfl⟩:=List.mem_map.1 (h.p.mem_iff.1 h1);have:=UY h3;rw [show BB r=i from h2,e] at this;cases this
theorem BN.fs {s:Ss} {A:As} (h:BN s A) (i:Int):(s.q.f i).isSome=(Al A.l i).isSome:=by rw [h.f];cases Al A.l i <;> rfl
theorem BN.join {s:Ss} {A:As} (h:BN s A) (a:IT):EA s.q a=SK A a.1:=by
 unfold EA SK;rw [h.fs,h.len]
 have e1:KC s.q a=Iv A a.1:=by
  unfold KC Iv;rw [h.len,h.now];by_cases e:A.l=[]
  ·rw [if_pos e,e];rfl
  ·rw [if_neg e,decide_eq_false (fun k=>e (aDp k)),cond_false]
 rw [e1,N8 (l:=plain (s.q.t.list ++ [a])) (l':=its A.l ++ [a.1]) (fun x=>by rw [show plain (s.q.t.list ++ [a])=plain s.q.t.list ++ [a.1] from aDa ..,aC4,aC4,h.pQ.mem_iff])]
theorem BN.base {s:Ss} {A:As} (h:BN s A) (a:IT):(FY s.q a).b=Iv A a.1:=by
 unfold Iv;by_cases e:A.l=[]
 ·rw [if_pos e,L6 (h.nil.2 e)]
 ·rw [if_neg e,LA (fun k=>e (h.nil.1 k)),← h.now,h.q.now (fun k=>e (h.nil.1 k))]
theorem rright_i {r:Rq} (h:r.right=true):r.i.right=true:=by
 unfold Rq.right at h;simp only [aDB] at h;exact h.1.1.1
theorem Tq {m:Mn} {l:List It} (h:LK m l) (hl:l≠[]):(∃ x∈l,sn x.p.t m.b≤0)∧∃ x∈l,0≤sn x.p.t m.b:=by
 obtain ⟨lo,k⟩:=h.all;have hw:=(k.mid hl).1;have a0:=h.a0;have a1:=h.a1;rw [h.is.a] at a0 a1;rw [h.is.w] at a1;constructor
 ·refine Classical.byContradiction fun hn=>?_
  have:=(sum_rng (b:=m.b) (lo:=1) (hi:=lo+4611686018427387904) (l:=l) fun x hx=>by
   obtain ⟨r1,r2,r3,r4⟩:=(k.2.2 x hx).zH k.1;exact ⟨r1,r2,by have:=Int.not_le.1 (fun e=>hn ⟨x,hx,e⟩);omega,r4⟩).1
  omega
 ·refine Classical.byContradiction fun hn=>?_
  have:=(sum_rng (b:=m.b) (lo:=lo) (hi:=-1) (l:=l) fun x hx=>by
   obtain ⟨r1,r2,r3,r4⟩:=(k.2.2 x hx).zH k.1;exact ⟨r1,r2,r3,by have:=Int.not_le.1 (fun e=>hn ⟨x,hx,e⟩);omega⟩).2.1
  have:=List.length_pos_iff.2 hl;omega
theorem BN.win {s:Ss} {A:As} (h:BN s A) {a:IT} (hr:a.1.right=true) (hn:A.l.length≠32) (hw:within (Iv A a.1) (its A.l ++ [a.1])=true):∃ lo,Cg (FY s.q a).b lo (a.1 :: plain s.q.t.list):=by
 have hle:=h.le;rw [h.base]
 have hall:∀ x∈its A.l ++ [a.1],x.In∧x.right=true:=fun x hx=>by
  rcases aC4.1 hx with hx | hx
  ·obtain ⟨r,hr',rfl⟩:=List.mem_map.1 hx;exact ⟨r.2.1,rright_i (h.r r hr')⟩
  ·obtain rfl:=List.mem_singleton.1 hx;exact ⟨a.2,hr⟩
 have hlen:(its A.l ++ [a.1]).length≤32:=by simp [its];omega
 have hx:(∃ x∈its A.l ++ [a.1],sn x.p.t (Iv A a.1)≤0)∧∃ x∈its A.l ++ [a.1],0≤sn x.p.t (Iv A a.1):=by
  by_cases e:A.l=[]
  ·have:Iv A a.1=a.1.p.t:=if_pos e;rw [this];exact ⟨⟨a.1,by simp,by rw [P3];omega⟩,⟨a.1,by simp,by rw [P3];omega⟩⟩
  ·obtain ⟨⟨x,k1,k2⟩,⟨y,k3,k4⟩⟩:=Tq (h.cen e) (its_ne e);have:s.q.m.b=Iv A a.1:=by rw [← h.base a,LA (fun k=>e (h.nil.1 k))]
   rw [this] at k2 k4;exact ⟨⟨x,by simp [k1],k2⟩,⟨y,by simp [k3],k4⟩⟩
 obtain ⟨lo,k⟩:=jY hall hw hx.1 hx.2 hlen;exact ⟨lo,k.perm (List.perm_append_comm.trans (h.pQ.symm.cons _))⟩
theorem put_perm {r:RT}:∀ {l:List RT},Al l (BB r)=none→(CJ r l).Perm (r :: l)
 | [],_ => .refl _
 | a :: l,h=>by
   rw [DA] at h;unfold CJ;split
   ·exact .refl _
   ·split at h
    ·cases h
    ·split
     ·rename_i k1 k2 k3;exact absurd k3.symm k2
     ·exact ((put_perm h).cons a).trans (.swap _ _ _)
theorem BN.enter {s:Ss} {A:As} (h:BN s A) (r:RT):LM s r=FT A r∧BN (G4 s r) (Gj A r):=by
 have he:LM s r=FT A r:=by unfold LM FT;rw [h.join];rfl
 refine ⟨he,?_⟩;unfold Gj;by_cases e0:FT A r=0
 ·rw [if_pos e0]
  have hr:r.1.right=true:=by
   unfold FT GS at e0;cases k:r.1.right
   ·rw [k] at e0;cases e0
   ·rfl
  have hj:SK A r.1.i=0:=by unfold FT GS at e0;rw [hr] at e0;exact e0
  have hjq:EA s.q (BZ r)=0:=by rw [h.join];exact hj
  unfold SK at hj;cases k1:r.1.i.right with
  | false=>rw [k1] at hj;cases hj
  | true =>
  cases k2:(Al A.l r.1.i.id) with
  | some x=>rw [k1,k2] at hj;cases hj
  | none =>
  by_cases k3:A.l.length=32
  ·rw [k1,k2,decide_eq_true k3] at hj;cases hj
  ·cases k4:within (Iv A r.1.i) (its A.l ++ [r.1.i]) with
   | false=>rw [k1,k2,decide_eq_false k3,k4] at hj;cases hj
   | true =>
     obtain ⟨lo,hw⟩:=h.win (a:=BZ r) k1 k3 k4;obtain ⟨p1,p2,p3⟩:=h.q.put (a:=BZ r) (by rw [h.f];show Option.map BZ (Al A.l r.1.i.id)=none;rw [k2];rfl) hw
     have hE:G4 s r=⟨LX s.q (BZ r),CJ r s.l⟩:=by
      unfold G4 K9 DO;rw [hr,hjq];rfl
     rw [hE];refine ⟨p1,by rw [h.l],?_,p3.trans h.c,fun x hx=>?_,ord_put h.o⟩
     ·refine p2.trans ?_;have:=(put_perm (r:=r) (l:=A.l) k2).map BZ;exact ((h.p.cons _).trans this.symm)
     ·rcases Ml hx with rfl | hx
      ·exact hr
      ·exact h.r x hx
 ·rw [if_neg e0]
  have:G4 s r=s:=by
   unfold G4 K9;cases k:r.1.right
   ·rfl
   ·have:EA s.q (BZ r)≠0:=fun e=>e0 (by rw [← he];unfold LM GS;rw [k];exact e);unfold DO;rw [decide_eq_false this];rfl
  rw [this];exact h
theorem nT {l:List RT} {a:RT} (ho:Cv l) (ha:a∈l):(Dn (BB a) l).map BZ=RB.sans (BZ a) (l.map BZ):=by
 unfold Dn RB.sans;rw [List.filter_map];congr 1;refine List.filter_congr fun x hx=>?_;simp only [Function.comp];by_cases e:BB x=BB a
 ·have h1:=Cl ho hx;have h2:=Cl ho ha;rw [e,h2] at h1;obtain rfl:=aDo h1;simp
 ·have:BZ x≠BZ a:=fun k=>e (by unfold BB;exact congrArg (fun z:IT=>z.1.id) k);simp [e,this]
theorem BN.exit {s:Ss} {A:As} (h:BN s A) {id:Int} {a:RT} (hf:Al A.l id=some a):s.q.f id=some (BZ a)∧GX (BZ a) s.q.t∧BN (Gm s id) (Fl A id):=by
 obtain ⟨h1,h2⟩:=Bu hf;have hfq:s.q.f id=some (BZ a):=by rw [h.f,hf];rfl
 have hm:BZ a∈s.q.t.list:=h.p.mem_iff.2 (aDF h1);obtain ⟨p1,p2,p3,p4,p5⟩:=h.q.cut hm;have hE:Gm s id=⟨FD s.q (BZ a),Dn id s.l⟩:=by unfold Gm KZ;rw [hfq]
 refine ⟨hfq,p5,?_⟩;unfold Fl;rw [hE,hf,h.l];refine ⟨p1,rfl,?_,?_,fun x hx=>h.r x (List.mem_filter.1 hx).1,ZH h.o⟩
 ·show (FD s.q (BZ a)).t.list.Perm ((Dn id A.l).map BZ);rw [p2,← h2,nT h.o h1];unfold RB.sans;exact h.p.filter _
 ·show (FD s.q (BZ a)).c=L2 A;rw [p4,h.now]
theorem BN.new (c:Int):BN (I0 c) ⟨[],c⟩:=⟨QI.new c,rfl,.refl _,rfl,by simp,List.Pairwise.nil⟩
end Go.Proofs.Q0
namespace Go.Proofs.Q0
open Go Go.RowKit Tryz
open IB (IT DF Bi)
attribute [local irreducible] XS XC XA AY AR A9 A1 A0 Aa Ae AW SE
def DT (id:Int) (l:List IT):List IT:=l.filter fun a=>decide (a.1.id≠id)
theorem lF (id:Int) (l:List IT) (a:IT):DT id (l ++ [a])=if a.1.id=id then DT id l else DT id l ++ [a]:=by
 unfold DT;rw [List.filter_append];by_cases h:a.1.id=id
 ·rw [if_pos h];simp [h]
 ·rw [if_neg h];simp [h]
theorem Tl (id:Int) (l:List IT):(DT id l).length≤l.length:=aD6 _ _
theorem Xx (qb:Nat) (s:Qs) (F:List Nat) (id:Int) (w0:World) (h:DE w0 qb s F) (hm:s.t.list.length≤1000000) :
 AO prog 196 #[.pointer (some ⟨qb,0,none⟩),.int .i64 id] w0 fun v w'=>(∃ G,B6 w' 64 7 v (DT id s.t.list).length (Bi (DT id s.t.list)) G∧∀ k∈G,w0.heap.size≤k)∧AB [] w0 w':=by
 have hs:=St.nil w0;refine AS func196 ntmps196 ?_;refine Ja ?_;have OA:=hs.AE rfl;refine cl (h:=by exact TF qb s F _ (h.only OA) hm) ?_;rintro v w1 ⟨⟨Gi,hGi,aCs⟩,AL⟩;generalize hl:s.t.list=l at *;have hD:=IB.Od hGi;obtain ⟨ad,cap,rfl,hD⟩:=hD;rw [aC0,aC0] at hD ⊢;have J0:=(OA.trans AL).size;have BF:AB [] w0 w1:=OA.trans AL;clear hs;have hs:=St.nil w1;refine Jc ?_;refine BM (fun (v3:Value)=>[(5,v3)]) (fun v3 w=>AB [] w1 w∧∃ G,B6 w 64 7 v3 (DT id l).length (Bi (DT id l)) G∧∀ k∈G,w1.heap.size≤k) ?_ ?_
 ·refine BH (fun (x:Nat × Value)=>[(1,.int .i64 id),(5,x.2),(9,.slice ad l.length cap),(10,.int .i64 (l.length:Nat)),(11,.int .i64 (x.1:Nat))])
   (fun x w=>x.1≤l.length∧AB [] w1 w∧∃ G,B6 w 64 7 x.2 (DT id (l.take x.1)).length (Bi (DT id (l.take x.1))) G∧∀ k∈G,w1.heap.size≤k) (fun x=>l.length - x.1) (0,.slice none 0 0) Ad ⟨aC7 _,hs.AE rfl,[],.inl ⟨rfl,rfl,rfl,rfl⟩,by simp⟩ fun x env wl ⟨hi,BP,hT⟩=>?_
  obtain ⟨i,v5⟩:=x;simp only at hi hT;obtain ⟨G,hG,DV⟩:=hT;clear hs;have hs:=St.nil wl
  repeat' (first|refine Sa ?_|refine Aw rfl (fun hc=>?_) fun hc=>?_|fail)
  ·have hlt:i < l.length:=by omega
   obtain ⟨b,off,cs,fz,rfl,_,hb,hcs⟩:=hD (fun h=>by have:=congrArg List.length h;rw [aC0,aC0,aDA] at this;omega);have hpk:=hcs i (It.cells l[i].1) (by rw [aC8,aC8,aC3 hlt];rfl);have ei:=DP (m:=l.length) hlt om;have et:DT id (l.take (i+1))=if l[i].1.id=id then DT id (l.take i) else DT id (l.take i) ++ [l[i]]:=by rw [CH hlt,lF]
   have zL:=hG.lt;have hle:=Tl id (l.take i);rw [aDg] at hle;generalize l[i]=q at *;generalize DT id (l.take i)=A at *;refine ix (h0:=(by omega)) (h1:=(by omega)) ?_;refine Ia (BP.block hb AA) hpk ?_
   repeat' (first|refine Sa ?_|(refine AV hs ?_;intro w hs)|(refine al hs ?_;intro b w hz hs)|(refine bs hs ?_;intro b w hz hs)|refine xc_cond rfl (fun hc=>?_) fun hc=>?_|fail)
   ·rename_i hne;have Ds:=hs.get At.head;have AN:=hs.AE rfl;refine CF AJ rfl rfl rfl rfl rfl rfl rfl (by decide) (lit_cells (news:=q.1.cells) Ds) (by simp [Value.oneCell']) (hG.keep AN AA) om om ?_;intro M8 w4 ⟨G',G0,IY⟩ Ar;have Ob:=AN.size;have O2:=BP.size;clear hs;have hs:=St.nil w4;refine Ja ?_;refine A2 (i+1,M8) (by show l.length - (i+1) < l.length - i;omega) (by (repeat (first | exact Ag | (apply A8;first | exact rfl | exact congrArg (Value.int .i64) ei)))) ⟨by show i+1≤_;omega,((BP.trans AN).news DV Ar).trans (hs.AE rfl),G',?_,?_⟩
    ·simp only [et];rw [if_neg (by simpa using hc),aCv,IB.MK,show Bi [q]=q.1.cells by simp [Bi]];exact G0.keep (hs.AE rfl) AA
    ·intro k hk;rcases IY k hk with h | h
     ·exact DV k h
     ·omega
   ·refine A2 (i+1,v5) (by show l.length - (i+1) < l.length - i;omega) (by (repeat (first | exact Ag | (apply A8;first | exact rfl | exact congrArg (Value.int .i64) ei)))) ⟨by show i+1≤_;omega,BP.trans (hs.AE rfl),G,?_,DV⟩;simp only [et];rw [if_pos (by simpa using hc)];exact hG.keep (hs.AE rfl) AA
  ·have e:i=l.length:=by omega
   subst e;rw [aDK] at hG;exact Au v5 Ad ⟨BP,G,hG,DV⟩
 ·rintro v5 env w ⟨BP,G,hG,DV⟩;clear hs;have hs:=St.nil w;refine Ja ?_;refine AG ?_;have AU:=hs.AE rfl;exact ⟨⟨G,hG.keep AU AA,fun k hk=>by have:=DV k hk;omega⟩,(BF.trans BP).trans AU⟩
def P4:List It→Option Int
 | []=>none
 | x :: l=>(ofM x.p.t (places (x :: l))).bind I9
theorem jF:∀ {l:List Pt} {m o:Mn},m.In→(∀ p∈l,p.In)→Ll m l=some o→o.In
 | [],m,o,h,_,e=>by cases e;exact h
 | p :: l,m,o,h,hp,e=>by
   simp only [Ll] at e;cases e1:ER m p with
   | none=>rw [e1] at e;cases e
   | some m'=>rw [e1] at e;exact jF (TN h e1) (fun q hq=>hp q (aCy _ hq)) e
theorem wP {b:Int} {l:List Pt} {o:Mn} (hb:BY b) (hp:∀ p∈l,p.In) (e:ofM b l=some o):o.In:=jF ⟨hb,Ot,oG,S6⟩ hp e
theorem dS (l:List It) (sl:Value) (hin:∀ x∈l,x.In) (hm:l.length≤1000000) (w0:World) (hP:JU w0 sl l) :
 AO prog 197 #[sl] w0 fun v w'=>v=tmV (P4 l)∧AB [] w0 w':=by
 obtain ⟨ad,cap,rfl,hD⟩:=hP;rw [aC0] at *;have hs:=St.nil w0;refine AS func197 ntmps197 ?_
 repeat' (first|refine Sa ?_|refine Aw rfl (fun hc=>?_) fun hc=>?_|fail)
 ·obtain rfl:l=[]:=aDp om;refine AG ?_;exact ⟨rfl,hs.AE rfl⟩
 ·have hl:l≠[]:=fun e=>hc (by rw [e];rfl);refine BM (fun (v3:Value)=>[(0,.slice ad l.length cap),(4,v3)]) (fun v3 w=>AB [] w0 w∧∃ G,B6 w 62 3 v3 l.length (Ip (places l)) G) ?_ ?_
  ·refine BH (fun (x:Nat × Value)=>[(0,.slice ad l.length cap),(4,x.2),(12,.slice ad l.length cap),(13,.int .i64 (l.length:Nat)),(14,.int .i64 (x.1:Nat))])
    (fun x w=>x.1≤l.length∧AB [] w0 w∧∃ G,B6 w 62 3 x.2 x.1 (Ip (places (l.take x.1))) G∧∀ k∈G,w0.heap.size≤k) (fun x=>l.length - x.1) (0,.slice none 0 0) Ad ⟨aC7 _,hs.AE rfl,[],.inl ⟨rfl,rfl,rfl,rfl⟩,by simp⟩ fun x env wl ⟨hi,BP,hT⟩=>?_
   obtain ⟨i,v5⟩:=x;simp only at hi hT;obtain ⟨G,hG,DV⟩:=hT;clear hs;have hs:=St.nil wl
   repeat' (first|refine Sa ?_|refine Aw rfl (fun hc=>?_) fun hc=>?_|fail)
   ·have hlt:i < l.length:=by omega
    obtain ⟨b,off,cs,fz,rfl,_,hb,hcs⟩:=hD (fun h=>by have:=congrArg List.length h;rw [aC0,aDA] at this;omega);have hpk:=hcs i (It.cells l[i]) (by rw [aC8,aC3 hlt];rfl);have ei:=DP (m:=l.length) hlt om;have et:places (l.take (i+1))=places (l.take i) ++ [l[i].p]:=by rw [CH hlt];unfold places;rw [aDa];rfl
    have zL:=hG.lt;generalize l[i]=q at *;generalize places (l.take i)=A at *;refine ix (h0:=(by omega)) (h1:=(by omega)) ?_;refine Ia (BP.block hb AA) hpk ?_
    repeat' (first|refine Sa ?_|(refine AV hs ?_;intro w hs)|(refine al hs ?_;intro b w hz hs)|(refine bs hs ?_;intro b w hz hs)|fail)
    have Ds:=hs.get At.head;have AN:=hs.AE rfl;refine CF AJ rfl rfl rfl rfl rfl rfl rfl (by decide) (lit_cells (news:=q.p.cells) Ds) (by simp [Value.oneCell']) (hG.keep AN AA) om om ?_;intro M8 w4 ⟨G',G0,IY⟩ Ar;have Ob:=AN.size;have O2:=BP.size;clear hs;have hs:=St.nil w4;refine Ja ?_;refine A2 (i+1,M8) (by show l.length - (i+1) < l.length - i;omega) (by (repeat (first | exact Ag | (apply A8;first | exact rfl | exact congrArg (Value.int .i64) ei)))) ⟨by show i+1≤_;omega,((BP.trans AN).news DV Ar).trans (hs.AE rfl),G',?_,?_⟩
    ·simp only [et];rw [PC,show Ip [q.p]=q.p.cells by simp [Ip]];exact G0.keep (hs.AE rfl) AA
    ·intro k hk;rcases IY k hk with h | h
     ·exact DV k h
     ·omega
   ·have e:i=l.length:=by omega
    subst e;rw [aDK] at hG;exact Au v5 Ad ⟨BP,G,hG⟩
  ·rintro v5 env w ⟨BP,G,hG⟩;clear hs;obtain ⟨x,r,rfl⟩:=List.exists_cons_of_ne_nil hl;obtain ⟨b,off,cs,fz,rfl,_,hb,hcs⟩:=hD (fun h=>by simp at h);have hpk:=hcs 0 (It.cells x) rfl;have hx:=hin x aCw;have hP:Xm w v5 (places (x :: r)):=hG.ls rfl (by simp [places]) (fun y hy=>OQ _ y hy);have hs:=St.nil w;refine Ja ?_;refine ix (i:=0) (h0:=by decide) (h1:=by simp) ?_;refine Jf ?_;refine lh (v := .int .u64 x.p.t) (BP.block hb AA) (by cases hpk;assumption) (k:=?_);refine Jf ?_;refine cl (h:=by exact II x.p.t (places (x :: r)) v5 hx.1.1 (fun p hp=>by obtain ⟨y,hy,rfl⟩:=List.mem_map.1 hp;exact (hin y hy).1) (by simp [places] at hm ⊢;omega) _ (hP.only (hs.AE rfl))) (k:=?_);have eA:P4 (x :: r)=(ofM x.p.t (places (x :: r))).bind I9:=rfl;rw [eA];cases hM:ofM x.p.t (places (x :: r)) with
   | none =>
     rintro v w' ⟨rfl,ho⟩;replace hs:=hs.AP ho;repeat' (first|refine Sc ?_|(refine AV hs ?_;intro w hs)|(refine al hs ?_;intro b w hz hs)|fail)
     refine AG ?_;exact ⟨rfl,BP.trans (hs.AE rfl)⟩
   | some m =>
     have hmi:m.In:=wP hx.1.1 (fun p hp=>by obtain ⟨y,hy,rfl⟩:=List.mem_map.1 hp;exact (hin y hy).1) hM
     rintro v w' ⟨rfl,ho⟩;replace hs:=hs.AP ho;repeat' (first|refine Sd ?_|(refine AV hs ?_;intro w hs)|(refine al hs ?_;intro b w hz hs)|fail)
     refine AZ hs (h:=by exact O7 m hmi _) ?_;intro w' ho hs;refine Jc ?_;refine AG ?_;exact ⟨rfl,BP.trans (hs.AE rfl)⟩
def JP (l:List RT):List Value:=(l.map fun a=>a.1.cells).flatten
theorem kZ (a b:List RT):JP (a ++ b)=JP a ++ JP b:=by simp [JP]
theorem Ws (sb:Nat) (s:Ss) (F:List Nat) (w0:World) (h:DC w0 sb s F) (hn:s.l.length≤1000000) :
 AO prog 17 #[.pointer (some ⟨sb,0,none⟩)] w0 fun v w'=>(∃ G,B6 w' 66 10 v s.l.length (JP s.l) G∧∀ k∈G,w0.heap.size≤k)∧AB [] w0 w':=by
 obtain ⟨qb,mb,Fq,rfl,h1,h2,h3,h4,h5⟩:=h;have hs:=(St.nil w0).AH h1 AA;refine AS func17 ntmps17 ?_;refine Jd ?_;have ho:=hs.AD [] (by simp [h1]) sD;refine cl (h:=by exact oJ mb _) ?_;rintro v w1 ⟨rfl,rfl⟩;refine cl (h:=by exact bK mb s.l.length (rvals s.l) (s.l.map BB) w0 h2 hn h5 (ids_iff s.l)) ?_;rintro v2 w2 ⟨⟨ad,cap,rfl,hD⟩,_,AN⟩;have BF:AB [] w0 w2:=(((St.nil w0).alloc _).AE rfl).trans AN;clear hs ho AN;rw [aC0,aC0];have M3:=BF.block h1 AA;have hM2:=h2.keep BF AA;have Mz:=BF.size;rw [aC0,aC0] at hD;have hs:=(St.nil w2).AH M3 AA;refine Jc ?_;refine BM (fun (v3:Value)=>[(3,v3)]) (fun v3 w=>AB [] w2 w∧∃ G,B6 w 66 10 v3 s.l.length (JP s.l) G∧∀ k∈G,w2.heap.size≤k) ?_ ?_
 ·refine BH (fun (x:Nat × Value)=>[(0,.pointer (some ⟨sb,0,none⟩)),(3,x.2),(13,.slice ad s.l.length cap),(14,.int .i64 (s.l.length:Nat)),(15,.int .i64 (x.1:Nat))])
   (fun x w=>x.1≤s.l.length∧AB [] w2 w∧∃ G,B6 w 66 10 x.2 x.1 (JP (s.l.take x.1)) G∧∀ k∈G,w2.heap.size≤k) (fun x=>s.l.length - x.1) (0,.slice none 0 0) Ad ⟨aC7 _,hs.AD [] (by simp [M3]) sD,[],.inl ⟨rfl,rfl,rfl,rfl⟩,by simp⟩ fun x env wl ⟨hi,BP,hT⟩=>?_
  obtain ⟨i,v5⟩:=x;simp only at hi hT;obtain ⟨G,hG,DV⟩:=hT;clear hs;have Co:=BP.block M3 AA;have hs:=(St.nil wl).AH Co AA
  repeat' (first|refine Sa ?_|refine Aw rfl (fun hc=>?_) fun hc=>?_|fail)
  ·have hlt:i < s.l.length:=by omega
   obtain ⟨b,off,cs,fz,rfl,_,hb,hcs⟩:=hD (fun h=>by simp at h;rw [h] at hlt;cases hlt);have hpk:=hcs i (Jq (BB s.l[i])) (by rw [aC8,aC8,aC3 hlt];rfl);have ei:=DP (m:=s.l.length) hlt om;have et:JP (s.l.take (i+1))=JP (s.l.take i) ++ s.l[i].1.cells:=by rw [CH hlt,kZ];simp [JP]
   have hfa:=Cl h5 (aDS hlt);have hlk:DI s.l (BB s.l[i])=s.l[i].1:=by unfold DI;rw [hfa]
   have hin:=s.l[i].2.1.2.1;generalize s.l[i]=q at *;refine ix (h0:=(by omega)) (h1:=(by omega)) ?_;refine lh (BP.block hb AA) (by cases hpk;assumption) (k:=?_);refine Ja ?_;refine Wp (e:=66) (z:=rv .zero) (i:=BB q) (hM2.keep BP AA) hin (by kernel_rfl) (by kernel_rfl) ?_;rw [MI,hlk];refine bs hs ?_;intro b26 w26 aCc hs;have aA9:=hs.get At.head;have zL:=hG.lt;have Cp:=hs.AD [] (by simp [Co]) sD;refine CF AJ rfl rfl rfl rfl rfl rfl rfl (by decide) (lit_cells (news:=q.1.cells) aA9) (by simp [Value.oneCell']) (hG.keep Cp AA) om om ?_;intro M8 w4 ⟨G',G0,IY⟩ Ar;have Ob:=Cp.size;have O2:=BP.size;clear hs;have hs:=St.nil w4;refine Ja ?_;refine A2 (i+1,M8) (by show s.l.length - (i+1) < s.l.length - i;omega) (by (repeat (first | exact Ag | (apply A8;first | exact rfl | exact congrArg (Value.int .i64) ei)))) ⟨by show i+1≤_;omega,((BP.trans Cp).news DV Ar).trans (hs.AE rfl),G',?_,?_⟩
   ·simp only [et];exact G0.keep (hs.AE rfl) AA
   ·intro k hk;rcases IY k hk with h | h
    ·exact DV k h
    ·omega
  ·have e:i=s.l.length:=by omega
   subst e;rw [aDK] at hG;exact Au v5 Ad ⟨BP,G,hG,DV⟩
 ·rintro v5 env w ⟨BP,G,hG,DV⟩;clear hs;have hs:=St.nil w;refine Ja ?_;refine AG ?_;exact ⟨⟨G,hG.keep (hs.AE rfl) AA,fun k hk=>by have:=DV k hk;omega⟩,(BF.trans BP).trans (hs.AE rfl)⟩
abbrev aB6 (w:World) (v:Value) (l:List RT):Prop:=Cu w 66 10 v (l.map fun a=>a.1.cells)
theorem tA {w:World} {v:Value} {l:List RT} {G:List Nat} (h:B6 w 66 10 v l.length (JP l) G):aB6 w v l :=
 h.ls rfl AA (fun x hx=>by obtain ⟨a,_,rfl⟩:=List.mem_map.1 hx;rfl)
def runN (l:List RT):Nat:=(l.filter fun a=>!a.1.asleep).length
theorem oL (a b:List RT):runN (a ++ b)=runN a+runN b:=by simp [runN,List.filter_append]
theorem vN (l:List RT):runN l≤l.length:=aD6 _ _
theorem LI (sb:Nat) (s:Ss) (F:List Nat) (w0:World) (h:DC w0 sb s F) (hn:s.l.length≤1000000) :
 AO prog 252 #[.pointer (some ⟨sb,0,none⟩)] w0 fun v w'=>v = .int .i64 (runN s.l:Nat)∧AB [] w0 w':=by
 have hs:=St.nil w0;refine AS func252 ntmps252 ?_;refine Ja ?_;have ho:=hs.AE rfl;refine cl (h:=by exact Ws sb s F _ (h.only ho) hn) ?_;rintro v2 w2 ⟨⟨G,hG,_⟩,AN⟩;obtain ⟨ad,cap,rfl,hD⟩:=tA hG;rw [aC0];rw [aC0] at hD;have BF:=ho.trans AN;clear hs;have hs:=St.nil w2;refine Jc ?_;refine BM (fun (_:Unit)=>[(3,.int .i64 (runN s.l:Nat))]) (fun _ w=>AB [] w2 w) ?_ ?_
 ·refine BH (fun (x:Nat)=>[(3,.int .i64 (runN (s.l.take x):Nat)),(7,.slice ad s.l.length cap),(8,.int .i64 (s.l.length:Nat)),(9,.int .i64 (x:Nat))])
   (fun x w=>x≤s.l.length∧AB [] w2 w) (fun x=>s.l.length - x) 0 Ad ⟨aC7 _,hs.AE rfl⟩ fun i env wl ⟨hi,BP⟩=>?_
  clear hs;have hs:=St.nil wl
  repeat' (first|refine Sa ?_|refine Aw rfl (fun hc=>?_) fun hc=>?_|fail)
  ·have hlt:i < s.l.length:=by omega
   obtain ⟨b,off,cs,fz,rfl,_,hb,hcs⟩:=hD (fun h=>by rw [List.map_eq_nil_iff.1 h] at hlt;cases hlt);have hpk:=hcs i (Rq.cells s.l[i].1) (by rw [aC8,aC3 hlt];rfl);have ei:=DP (m:=s.l.length) hlt om;have et:runN (s.l.take (i+1))=runN (s.l.take i)+bif s.l[i].1.asleep then 0 else 1:=by rw [CH hlt,oL];congr 1;unfold runN;rw [aD1,List.filter_nil];cases s.l[i].1.asleep <;> rfl
   have hle:=vN (s.l.take i);rw [aDg] at hle;have ec:=DP (i:=runN (s.l.take i)) (m:=s.l.length+1) om om;generalize s.l[i]=q at *;refine ix (h0:=(by omega)) (h1:=(by omega)) ?_;refine Ia (BP.block hb AA) hpk ?_;refine al hs ?_;intro b8 w8 hz hs
   repeat' (first|refine Sa ?_|(refine AV hs ?_;intro w hs)|refine xc_cond rfl (fun hc=>?_) fun hc=>?_|fail)
   ·have eq:q.1.asleep=false:=by simpa using ‹(!q.1.asleep)=true›
    rw [eq] at et;refine A2 (i+1) (by show s.l.length - (i+1) < s.l.length - i;omega) ?_ ⟨by show i+1≤_;omega,BP.trans (hs.AE rfl)⟩;rw [et]
    (repeat (first | exact Ag | (apply A8;first | exact rfl | exact congrArg (Value.int .i64) ei | exact congrArg (Value.int .i64) ec)))
   ·have eq:q.1.asleep=true:=by simpa using ‹(!q.1.asleep)=false›
    rw [eq] at et;refine A2 (i+1) (by show s.l.length - (i+1) < s.l.length - i;omega) ?_ ⟨by show i+1≤_;omega,BP.trans (hs.AE rfl)⟩;rw [et]
    (repeat (first | exact Ag | (apply A8;first | exact rfl | exact congrArg (Value.int .i64) ei)))
  ·have e:i=s.l.length:=by omega
   subst e;rw [aDK];exact Au () Ad BP
 ·rintro _ env w BP;clear hs;have hs:=St.nil w;refine Ja ?_;refine AG ?_;exact ⟨rfl,(BF.trans BP).trans (hs.AE rfl)⟩
structure Gn where
 id:Int
 lag:Int
 r:Rq
abbrev Gn.cells (g:Gn):List Value := .int .i64 g.id :: .int .i64 (g.lag / 18446744073709551616) :: .int .u64 (g.lag % 18446744073709551616) :: g.r.cells
def gv (g:Gn):Value := .agg g.cells.toArray
def Gn.zero:Gn:=⟨0,0,.zero⟩
def goes (q:Qs) (a:RT):Bool:=a.1.asleep && decide (Ls q (BB a)≥0)
def bW (q:Qs) (a:RT):Gn:=⟨BB a,Xn q (BB a),a.1⟩
def IP (s:Ss):Option Gn:=(s.l.find? (goes s.q)).map (bW s.q)
def gnV (o:Option Gn):Value := .tuple #[gv (o.getD .zero),.bool o.isSome]
theorem kJ {l:List RT} {p:RT→Bool} {i:Nat} (h:i < l.length) (hn:(l.take i).find? p=none) (hp:p l[i]=false):(l.take (i+1)).find? p=none:=by
 rw [CH h,List.find?_append,hn,List.find?_singleton,hp];rfl
theorem fM {l:List RT} {p:RT→Bool} {i:Nat} (h:i < l.length) (hn:(l.take i).find? p=none) (hp:p l[i]=true):l.find? p=some l[i]:=by
 conv=>lhs;rw [← List.take_append_drop i l]
 rw [List.find?_append,hn,aD0 h,List.find?_cons,hp];rfl
theorem oC (sb:Nat) (s:Ss) (F:List Nat) (w0:World) (h:DC w0 sb s F) (hn:s.l.length≤1000000) :
 AO prog 227 #[.pointer (some ⟨sb,0,none⟩)] w0 fun v w'=>v=gnV (IP s)∧AB [] w0 w':=by
 have hS:=h;obtain ⟨qb,mb,Fq,rfl,h1,h2,h3,h4,h5⟩:=h;have hs:=(St.nil w0).AH h1 AA;refine AS func227 ntmps227 ?_;refine Ah ?_;refine Aq ?_;refine al hs ?_;intro b2 w hz hs;have g2:=hs.new (b2,true) AA rfl;simp only at g2;refine Ja ?_;have ho:=hs.AD [] (by simp [h1]) sD;refine cl (h:=by exact Ws sb s _ _ (hS.only ho) hn) ?_;rintro v2 w2 ⟨⟨G,hG,_⟩,AN⟩;replace hs:=hs.AP AN;have hD:=tA hG;obtain ⟨ad,cap,rfl,hD⟩:=hD;rw [aC0];rw [aC0] at hD;have hk2:=hs.get At.head;have M3:=hs.get (At.tail At.head);have n2s:b2≠sb:=by have:=lt_of_block h1;omega
 have BF:AB [] w0 w2:=hs.AD [] (by simp [h1]) sD;have Mz:=BF.size;clear hs;have hs:=((St.nil w2).AH M3 AA).AH hk2 (by simpa using n2s);refine Jc ?_;refine BM (fun (_:Unit)=>[(0,.pointer (some ⟨sb,0,none⟩)),(2,.pointer (some ⟨b2,0,none⟩))]) (fun _ w=>AB [] w2 w∧IP s=none) ?_ ?_
 ·refine BH (fun (x:Nat)=>[(0,.pointer (some ⟨sb,0,none⟩)),(2,.pointer (some ⟨b2,0,none⟩)),(11,.slice ad s.l.length cap),(12,.int .i64 (s.l.length:Nat)),(13,.int .i64 (x:Nat))])
   (fun x w=>x≤s.l.length∧AB [] w2 w∧(s.l.take x).find? (goes s.q)=none) (fun x=>s.l.length - x) 0 Ad ⟨aC7 _,hs.AD [] (by simp [M3,hk2]) sD,rfl⟩ fun i env wl ⟨hi,BP,hnone⟩=>?_
  clear hs;have J3:=BP.block hk2 AA;have Co:=BP.block M3 AA;have hs:=((St.nil wl).AH Co AA).AH J3 (by simpa using n2s);have hSl:=hS.only (BF.trans BP)
  repeat' (first|refine Sa ?_|refine Aw rfl (fun hc=>?_) fun hc=>?_|fail)
  ·have hlt:i < s.l.length:=by omega
   obtain ⟨b,off,cs,fz,rfl,_,hb,hcs⟩:=hD (fun h=>by rw [List.map_eq_nil_iff.1 h] at hlt;cases hlt);have hpk:=hcs i (Rq.cells s.l[i].1) (by rw [aC8,aC3 hlt];rfl);have ei:=DP (m:=s.l.length) hlt om;have eNo:=kJ hlt hnone;have eHe:=fM hlt hnone;have hin:=s.l[i].2.1.2.1;generalize s.l[i]=q at *;refine ix (h0:=(by omega)) (h1:=(by omega)) ?_;refine Ia (BP.block hb AA) hpk ?_;refine al hs ?_;intro b8 w8 hz hs
   repeat' (first|refine Nx.h ?_|(refine AV hs ?_;intro w hs)|fail)
   refine dr [] hs ?_;intro hX w hs;refine tks 0 7 ?_;refine dt 7 hX ?_;have Bd:=(BF.trans BP).trans (hs.AD [] (by simp [Co,J3]) sD);refine cl (h:=by exact Lu qb s.q Fq (BB q) _ (h3.only Bd) hin) ?_;generalize hg:Ls s.q (BB q)=ow;generalize O0 (s.q.f (BB q)).isSome=er;rintro v w' ⟨rfl,ho⟩;replace hs:=hs.AP ho;refine Jn ?_;refine tks 8 5 ?_;refine en ?_
   repeat' (first|refine vs ?_|refine ps ?_|refine Aq ?_|refine Nx.h ?_|refine Eb ?_|((with_reducible apply BV);exact rfl;exact rfl;intro c hc;(fail_if_success have:true=c:=hc);(fail_if_success have:false=c:=hc);cases c)|refine Aw rfl (fun hc=>?_) fun hc=>?_|fail)
   ·have ef:goes s.q q=false:=by unfold goes;rw [show q.1.asleep=false by assumption];rfl
    exact A2 (i+1) (by show s.l.length - (i+1) < s.l.length - i;omega) (by (repeat (first | exact Ag | (apply A8;first | exact rfl | exact congrArg (Value.int .i64) ei)))) ⟨by show i+1≤_;omega,BP.trans (hs.AD [] (by simp [Co,J3]) sD),eNo ef⟩
   ·have ef:goes s.q q=true:=by unfold goes;rw [show q.1.asleep=true by assumption,hg,decide_eq_true (show ow≥0 by assumption)];rfl
    have ev:IP s=some (bW s.q q):=by unfold IP;rw [eHe ef];rfl
    refine dr [] hs ?_;intro hX w hs;refine tks 0 7 ?_;refine Gq 11 8 hs ?_;intro f X w hp;have hs:=hp.st;apply BI 7 11 (f:=f) (X:=X) hX hp;exact rfl;exact rfl;(apply AT AJ;exact rfl);kernel_rfl;kernel_rfl;kernel_rfl;kernel_rfl;(intro X Y;(repeat (first | exact A4 | refine A5 ?_ (by exact rfl))));(intro w' hs;first|exact AI hs.hold|exact AI hs.hold.tail|exact Ab rfl);intro f X w hp;have hs:=hp.st;have EM:=(BF.trans BP).trans (hs.AD [] (by simp [Co,J3]) sD);refine cl (h:=by exact Vo qb s.q Fq (BB q) _ (h3.only EM) hin) ?_;rintro v w' ⟨rfl,ho⟩;replace hp:=hp.only ho;replace hs:=hp.st;refine Jn ?_;refine tk 8 hX (hc:=by cases f <;> kernel_rfl) (k:=?_);refine tk 9 hX (hc:=by cases f <;> kernel_rfl) (k:=?_);refine tk 10 hX (hc:=by cases f <;> kernel_rfl) (k:=?_);apply Bb 11 (f:=f) (X:=X) hX hp;exact rfl;(apply AT AJ;exact rfl);kernel_rfl;kernel_rfl;(intro X Y;(repeat (first | exact A4 | refine A5 ?_ (by exact rfl))));(intro w' hs;first|exact AI hs.hold|exact AI hs.hold.tail|exact Ab rfl);intro b w hI hs;refine dt 12 hX ?_
    repeat' (first|refine Nx.h ?_|(refine AV hs ?_;intro w hs)|fail)
    refine dn ?_;refine tk 13 hX ?_;refine en ?_
    repeat' (first|refine Sa ?_|(refine AV hs ?_;intro w hs)|fail)
    refine AG ?_;rw [ev];exact ⟨rfl,(BF.trans BP).step (hs.AD [b2] (by simp [Co]) sD) (fun k hk => .inr (by obtain rfl:=List.mem_singleton.1 hk;exact g2))⟩
   ·have ef:goes s.q q=false:=by unfold goes;rw [hg,decide_eq_false (show ¬ ow≥0 by assumption),aDw]
    exact A2 (i+1) (by show s.l.length - (i+1) < s.l.length - i;omega) (by (repeat (first | exact Ag | (apply A8;first | exact rfl | exact congrArg (Value.int .i64) ei)))) ⟨by show i+1≤_;omega,BP.trans (hs.AD [] (by simp [Co,J3]) sD),eNo ef⟩
  ·have e:i=s.l.length:=by omega
   subst e;rw [aDK] at hnone;exact Au () Ad ⟨BP,by unfold IP;rw [hnone];rfl⟩
 ·rintro _ env w ⟨BP,hnone⟩;clear hs;have J3:=BP.block hk2 AA;have hs:=(St.nil w).AH J3 AA
  repeat' (first|refine Sa ?_|(refine AV hs ?_;intro w hs)|fail)
  refine AG ?_;rw [hnone];exact ⟨rfl,(BF.trans BP).step (hs.AD [b2] AA sD) (fun k hk => .inr (by obtain rfl:=List.mem_singleton.1 hk;exact g2))⟩
inductive HY:Ss→List Gn→Ss→Prop
 | done {s:Ss}:IP s=none→HY s [] s
 | step {s s':Ss} {g:Gn} {l:List Gn} {a:IT}:IP s=some g→s.q.f g.id=some a→GX a s.q.t→HY (Gm s g.id) l s'→HY s (g :: l) s'
def HW (l:List Gn):List Value:=(l.map Gn.cells).flatten
theorem bV (l:List Gn) (g:Gn):HW (l ++ [g])=HW l ++ g.cells:=by simp [HW]
theorem uG {s:Ss} {g:Gn} (h:IP s=some g):In64 g.id:=by
 obtain ⟨a,_,rfl⟩:=Option.map_eq_some_iff.1 h;exact a.2.1.2.1
theorem V2 {a:IT} {t:RB IT} (h:GX a t):(X3 a t).list.length≤t.list.length:=by
 unfold X3;cases e:RB.has IB.Cy a t
 ·exact aC5 _
 ·have:=(h e).2;rw [cond_true,RB.Iu];omega
theorem aT {s:Ss} {id:Int} {a:IT} (hf:s.q.f id=some a) (hc:GX a s.q.t) (ho:Cv s.l):(Gm s id).l.length≤s.l.length∧(Gm s id).q.t.list.length≤s.q.t.list.length:=by
 constructor
 ·show (Dn id s.l).length≤_;rw [TO ho];split <;> omega
 ·show (KZ s.q id).t.list.length≤_;unfold KZ;rw [hf];exact V2 hc
theorem DC.ord {w:World} {sb:Nat} {s:Ss} {F:List Nat} (h:DC w sb s F):Cv s.l:=by obtain ⟨qb,mb,Fq,rfl,h1,h2,h3,h4,h5⟩:=h;exact h5
theorem slv_set {w:World} {e k n:Nat} {v:Value} {xs:List Value} {G F:List Nat} {sb:Nat} {s:Ss} (h:B6 w e k v n xs G) (hS:DC w sb s F) (ho:Vv (.cells #[] e (0,0))=true):∀ b∈G,b∉F:=fun b hb=>by
 rcases h with ⟨_,_,_,rfl⟩ | ⟨g,cap,cur,_,rfl,_,_,_,_,hg⟩
 ·cases hb
 ·obtain rfl:=List.mem_singleton.1 hb;exact hS.not hg ho
theorem iB (sb:Nat) (s s':Ss) (l:List Gn) (F:List Nat) (w0:World) (h:DC w0 sb s F) (hn:s.l.length≤1000000) (hq:s.q.t.list.length≤1000000) (hl:l.length≤1000000) (hF:HY s l s') :
 AO prog 209 #[.pointer (some ⟨sb,0,none⟩)] w0 fun v w'=>(∃ G,B6 w' 170 13 v l.length (HW l) G∧∀ k∈G,w0.heap.size≤k)∧∃ F',DC w' sb s' F'∧(∀ k∈F',k∈F∨w0.heap.size≤k)∧AB F w0 w':=by
 have hs:=St.nil w0;refine AS func209 ntmps209 ?_;refine Ja ?_;refine BM (fun (_:Unit)=>[]) (fun _ _=>False) ?_ ?_
 ·refine BH (fun (x:List Gn × List Gn × Value × Ss × List Nat)=>[(0,.pointer (some ⟨sb,0,none⟩)),(3,x.2.2.1)])
   (fun x w=>x.2.1 ++ x.1=l∧HY x.2.2.2.1 x.1 s'∧x.2.2.2.1.l.length≤1000000∧x.2.2.2.1.q.t.list.length≤1000000∧(∃ G,B6 w 170 13 x.2.2.1 x.2.1.length (HW x.2.1) G∧∀ k∈G,w0.heap.size≤k)∧DC w sb x.2.2.2.1 x.2.2.2.2∧(∀ k∈x.2.2.2.2,k∈F∨w0.heap.size≤k)∧AB F w0 w)
   (fun x=>x.1.length) (l,[],.slice none 0 0,s,F) Ad ⟨rfl,hF,hn,hq,⟨[],.inl ⟨rfl,rfl,rfl,rfl⟩,by simp⟩,h,fun k hk => .inl hk,(hs.AE rfl).weaken AA⟩ fun x env wl hI=>?_
  obtain ⟨r,acc,v3,s1,F1⟩:=x;simp only at hI;obtain ⟨hacc,hFl,KP,hq1,⟨G,hG,DV⟩,GB,Cq,BP⟩:=hI;clear hs;have hs:=St.nil wl;have hsz:=BP.size;have hal:acc.length≤1000000:=by rw [← hacc,aCv] at hl;omega
  refine Ja ?_;refine cl (h:=by exact oC sb s1 F1 _ GB KP) ?_;cases hFl with
  | done Q6 =>
    rw [Q6]
    rintro v w' ⟨rfl,ho⟩;replace hs:=hs.AP ho;repeat' (first|refine Sc ?_|(refine AV hs ?_;intro w hs)|(refine al hs ?_;intro b w hz hs)|fail)
    refine AG ?_;rw [aDP] at hacc;subst hacc;exact ⟨⟨G,hG.keep (hs.AE rfl) AA,DV⟩,F1,GB.only (hs.AE rfl),Cq,BP.step (hs.AE rfl) AA⟩
  | step Q6 hf hc hFl' =>
    rename_i g r' a;rw [Q6];have hid:=uG Q6;have PA:=aT hf hc GB.ord
    rintro v w' ⟨rfl,ho⟩;replace hs:=hs.AP ho;repeat' (first|refine Sd ?_|(refine AV hs ?_;intro w hs)|(refine al hs ?_;intro b w hz hs)|fail)
    have qM:=hs.AE rfl;have yR:=GB.only qM;have zX:=yR.apart hs rfl;refine cl (h:=by exact WU sb s1 F1 g.id _ yR hid hq1 a hf hc) ?_;rintro v wE ⟨rfl,F2,E7,D6,EB⟩;replace hs:=hs.call EB zX sD;have k4:=hs.get At.head;have Mw:=hG.keep qM AA;have KQ:=Mw.keep EB (slv_set Mw yR rfl);have hzN:=qM.size;have hzE:=EB.size;have BF:AB F w0 wE:=(BP.step qM AA).step EB Cq
    have Kb:∀ k∈F2,k∈F∨w0.heap.size≤k:=fun k hk=>by
     rcases D6 k hk with h | h
     ·exact Cq k h
     ·exact .inr om
    clear hs;have hs:=(St.nil wE).AH k4 AA;refine XS.nil ?_;refine Dw ?_
    repeat' (first|refine vs ?_|refine Aq ?_|(refine bs hs ?_;intro b w hz hs)|fail)
    have aCG:=hs.get At.head;have Bd:=hs.AD [] (by simp [k4]) sD;have qQ:=Bd.size;have hGB:=KQ.keep Bd AA;have hSB:=E7.only Bd;refine CF AJ rfl rfl rfl rfl rfl rfl rfl (by decide) (lit_cells (news:=g.cells) aCG) (by simp [Value.oneCell']) hGB om om ?_;intro v5 w5 ⟨G',G0,IY⟩ BL;have W9:=hSB.Ai BL (fun k hk hm=>slv_set hGB hSB rfl k hm hk);clear hs;have hs:=St.nil w5;refine Jc ?_;refine A2 (r',acc ++ [g],v5,Gm s1 g.id,F2) (by show r'.length < (g :: r').length;simp) Ad ⟨by show (acc ++ [g]) ++ r'=l;rw [aDQ];exact hacc,hFl',by show (Gm s1 g.id).l.length≤_;omega,by show (Gm s1 g.id).q.t.list.length≤_;omega,⟨G',?_,?_⟩,W9.only (hs.AE rfl),Kb,((BF.step Bd AA).step BL (fun k hk => .inr (DV k hk))).step (hs.AE rfl) AA⟩
    ·simp only [aCv,aCx,aDA,bV];exact G0.keep (hs.AE rfl) AA
    ·intro k hk;rcases IY k hk with h | h
     ·exact DV k h
     ·omega
 ·rintro _ _ _ hI;exact hI.elim
def HE (s:Qs) (a:IT):Int:=(P4 (plain (DT a.1.id s.t.list))).getD a.1.p.t
def L0 (s:Qs) (a:IT):Int :=
 bif !a.1.right then 2 else bif !(s.f a.1.id).isSome then 14 else bif !within (HE s a) (plain (DT a.1.id s.t.list ++ [a])) then 8 else 0
def aQ (s:Qs) (o a:IT):Qs:={ LX (FD s o) a with c:=s.c }
def QN (s:Qs) (a:IT):Qs:=bif decide (L0 s a=0) then (match s.f a.1.id with | some o=>aQ s o a | none=>s) else s
theorem lY (f:Int→Option IT) (i:Int):(vals f i).getD (iv .zero)=iv (IB.JA (f i)):=by unfold vals;cases f i <;> rfl
theorem Yn (qb:Nat) (s:Qs) (F:List Nat) (a:IT) (w0:World) (h:DE w0 qb s F) (hlen:s.t.list.length+1≤1000000) (hn:s.n < 1000000) (hd:∀ o,s.f a.1.id=some o→GX o s.t) :
 AO prog 152 #[.pointer (some ⟨qb,0,none⟩),iv a.1] w0 fun v w'=>v = .int .i64 (L0 s a)∧∃ F',DE w' qb (QN s a) F'∧(∀ k∈F',k∈F∨w0.heap.size≤k)∧AB F w0 w':=by
 have hq:=h;obtain ⟨tb,mb,Ft,rfl,h1,h2,h3,h4,h5⟩:=h;have hs:=(St.nil w0).AH h1 AA;have same:∀ w',AB [] w0 w'→∃ F',DE w' qb s F'∧(∀ k∈F',k∈qb :: mb :: Ft∨w0.heap.size≤k)∧AB (qb :: mb :: Ft) w0 w':=fun w' ho=>⟨_,hq.only ho,fun k hk => .inl hk,ho.weaken AA⟩;refine AS func152 ntmps152 ?_;refine Ah ?_;refine Aq ?_;refine bx hs ?_;intro bq wq Lp hs;refine Jd ?_;have Ir:=hs.new (bq,true) AA rfl;simp only at Ir;refine dr [] hs ?_;intro hX w hs;refine tks 0 6 ?_;refine Gq 10 5 hs ?_;intro f X w hp;have hs:=hp.st;apply BI 6 10 (f:=f) (X:=X) hX hp;exact rfl;exact rfl;(apply AT AJ;exact rfl);kernel_rfl;kernel_rfl;kernel_rfl;kernel_rfl;(intro X Y;(repeat (first | exact A4 | refine A5 ?_ (by exact rfl))));(intro w' hs;first|exact AI hs.hold|exact AI hs.hold.tail|exact Ab rfl);intro f X w hp;have hs:=hp.st;have ho:=hs.AD [] (by simp [h1]) sD;refine Ju (e:=64) (z:=iv .zero) (h2.keep ho AA) a.2.2.1 (by kernel_rfl) (by kernel_rfl) ?_;rw [lY,F9];generalize hx:IB.JA (s.f a.1.id)=x;refine Jn ?_;refine tk 7 hX (hc:=by cases f <;> kernel_rfl) (k:=?_);refine tk 8 hX (hc:=by cases f <;> kernel_rfl) (k:=?_);refine tk 9 hX (hc:=by cases f <;> kernel_rfl) (k:=?_);apply Bb 10 (f:=f) (X:=X) hX hp;exact rfl;(apply AT AJ;exact rfl);kernel_rfl;kernel_rfl;(intro X Y;(repeat (first | exact A4 | refine A5 ?_ (by exact rfl))));(intro w' hs;first|exact AI hs.hold|exact AI hs.hold.tail|exact Ab rfl);intro b w hI hs;refine dt 11 hX ?_
 repeat' (first|refine Nx.h ?_|(refine AV hs ?_;intro w hs)|fail)
 refine dn ?_;refine tk 12 hX ?_;refine en ?_;refine Ja ?_;have XJ:=hs.new _ aCw rfl;simp only at XJ;have ho:=hs.AD [] (by simp [h1]) sD;have lb5:=lt_of_block (hs.get At.head);have lbq:=lt_of_block (hs.get (At.tail At.head));have lqb:=lt_of_block (hs.get (At.tail (At.tail At.head)));refine cl (h:=by exact Xx qb s _ a.1.id _ (hq.only ho) om) ?_;rintro v1 w1 ⟨⟨G,hG,DV⟩,AL⟩;replace hs:=hs.AP AL;have hz:=ho.size;have IY:∀ k∈G,w0.heap.size≤k:=fun k hk=>by have:=DV k hk;omega
 have oK:∀ k∈G,k≠b∧k≠bq∧k≠qb:=fun k hk=>by have:=DV k hk;omega
 have BF:=hs.AD [] (by simp [h1]) sD;have c1:=hs.get At.head;have c2:=hs.get (At.tail At.head);have c3:=hs.get (At.tail (At.tail At.head));have hnd:=hs.nd;simp only [aC2,aC6,aCu,aDD,aC1,or_false,not_or] at hnd;have hle:=Tl a.1.id s.t.list;have hL:JU w1 v1 (plain (DT a.1.id s.t.list)):=IB.Od hG;clear hs;have hs:=(((St.nil w1).AH c3 AA).AH c2 (by simpa using hnd.2.1)).AH c1 (by simp [hnd.1.1,hnd.1.2]);have e0:HE s a=(P4 (plain (DT a.1.id s.t.list))).getD a.1.p.t:=rfl;have eE:L0 s a=bif !a.1.right then 2 else bif !(s.f a.1.id).isSome then 14 else bif !within (HE s a) (plain (DT a.1.id s.t.list ++ [a])) then 8 else 0:=rfl
 generalize HE s a=B at *;generalize hO:DT a.1.id s.t.list=O at *;refine Ja ?_;have AN:=hs.AD [] (by simp [c1,c2,c3]) sD;refine cl (h:=by exact dS (plain O) v1 (fun x hx=>by obtain ⟨y,_,rfl⟩:=List.mem_map.1 hx;exact y.2) (by simp [plain];omega) _ (hL.only AN)) (k:=?_);rintro v2 w2 ⟨rfl,ho⟩;replace hs:=hs.AP ho;refine vs ?_;refine vs ?_;refine vs ?_;refine vs ?_;refine vs ?_;refine XS.nil ?_;refine Dw ?_;refine Ah ?_;refine B9 (fun _:Unit=>[(0,.pointer (some ⟨qb,0,none⟩)),(3,.pointer (some ⟨bq,0,none⟩)),(4,.int .i64 0),(5,.pointer (some ⟨b,0,none⟩)),(6,.bool (s.f a.1.id).isSome),(7,v1),(8,.int .u64 B)]) (fun _ w=>St w1 D0 [(b,q9 x,false),(bq,q9 a.1,false),(qb,Lc s.m tb mb s.c,false)] w) ?_ ?_
 ·cases hA:P4 (plain O) with
  | none =>
    rw [hA] at e0;rw [e0];refine Je ?_;exact AQ () Ad hs
  | some t =>
    rw [hA] at e0;rw [e0];refine Jd ?_;exact AQ () Ad hs
 clear hs ho;rintro _ env w hs;refine Ja ?_;refine cl (h:=by exact N1 a.1 _) ?_;have vY:∀ n,L0 s a=n→n≠0→QN s a=s:=fun n e hn=>by unfold QN;rw [e,decide_eq_false hn];rfl
 rintro v w' ⟨rfl,ho⟩;replace hs:=hs.AP ho;repeat' (first|refine Sa ?_|(refine bs hs ?_;intro b w hz hs)|refine xc_cond rfl (fun hc=>?_) fun hc=>?_|fail)
 ·refine AG ?_;have ho:=hs.AD [] (by simp [c1,c2,c3]) sD;have e:L0 s a=2:=by rw [eE,show (!a.1.right)=true by simpa using hc];rfl
  refine ⟨by rw [e];rfl,?_⟩;rw [vY 2 e (by decide)];exact same _ (BF.trans ho)
 ·refine AG ?_;have ho:=hs.AD [] (by simp [c1,c2,c3]) sD;have e:L0 s a=14:=by rw [eE,show (!a.1.right)=false by assumption,hc];rfl
  refine ⟨by rw [e];rfl,?_⟩;rw [vY 14 e (by decide)];exact same _ (BF.trans ho)
 ·have r1:(!a.1.right)=false:=by assumption
  have r2:(s.f a.1.id).isSome=true:=by simpa using hc
  obtain ⟨o,hf⟩:=Option.isSome_iff_exists.1 r2;rw [hf] at hx;obtain rfl:o.1=x:=hx;rw [r1,r2] at eE;have hb4:=hs.get At.head;have Ar:=hs.AD [] (by simp [c1,c2,c3]) sD;refine CF AJ rfl rfl rfl rfl rfl rfl rfl (by decide) (lit_cells (news:=a.1.cells) hb4) (by simp [Value.oneCell']) (hG.keep Ar AA) om om ?_;intro v2 w2 ⟨G',KQ,Qm⟩ AU;have Bd:AB [] w0 w2:=(BF.trans Ar).news IY AU;have d1:=AU.block (hs.get (At.tail At.head)) (fun hm=>(oK _ hm).1 rfl);have d2:=AU.block (hs.get (At.tail (At.tail At.head))) (fun hm=>(oK _ hm).2.1 rfl);have d3:=AU.block (hs.get (At.tail (At.tail (At.tail At.head)))) (fun hm=>(oK _ hm).2.2 rfl)
  have hL2:JU w2 v2 (plain (O ++ [a])):=IB.Od (G:=G') (by
   rw [IB.MK,aCv];exact KQ)
  clear hs;have hs:=(((St.nil w2).AH d3 AA).AH d2 (by simpa using hnd.2.1)).AH d1 (by simp [hnd.1.1,hnd.1.2])
  skip
  have BL:=hs.AD [] (by simp [d1,d2,d3]) sD;refine cl (h:=by exact Kt B (plain (O ++ [a])) v2 (by simp [plain];omega) _ (hL2.only BL)) (k:=?_);generalize hwi:within B (plain (O ++ [a]))=wi;rw [hwi] at eE;cases wi
  ·rintro v w' ⟨rfl,ho⟩;replace hs:=hs.AP ho;refine Je ?_;refine AG ?_;have ho:=hs.AD [] (by simp [d1,d2,d3]) sD;refine ⟨by rw [eE];rfl,?_⟩;rw [vY 8 eE (by decide)];exact same _ (Bd.trans ho)
  ·have hQ:QN s a=aQ s o a:=by unfold QN;rw [eE,hf];rfl
   rintro v w' ⟨rfl,ho⟩;replace hs:=hs.AP ho;refine Jd ?_;have ho:=hs.AD [] (by simp [d1,d2,d3]) sD;have EM:=Bd.trans ho;have hqC:=hq.only EM;have hzC:=EM.size;refine cl (h:=by exact XE qb s _ o _ hqC om (hd o hf)) ?_;rintro v3 w3 ⟨F1,hA1,Cq,Ao⟩;have q2:=Ao.block (hs.get (At.tail At.head)) (hqC.not (hs.get (At.tail At.head)) (by decide) (by decide) (by decide));have aCX:(FD s o).t.list.length≤s.t.list.length:=V2 (hd o hf);have hnc:(FD s o).n≤s.n:=by show (if (s.f o.1.id).isSome then s.n - 1 else s.n)≤s.n;split <;> omega
   have CG:AB (qb :: mb :: Ft) w0 w3:=(EM.weaken AA).step Ao (fun k hk => .inl hk);have hzD:=CG.size;clear hs;have hs:=(St.nil w3).AH q2 AA;refine Ja ?_;have C8:=hs.AD [] (by simp [q2]) sD;have hA2:=hA1.only C8;have ZC:=C8.size;refine cl (h:=by exact Xf qb (FD s o) F1 a _ hA2 om om) ?_;rintro v4 w4 ⟨F2,XW,D6,E9⟩;obtain ⟨E5,QK,iW,rfl,g1,g2,g3,g4,g5⟩:=XW
   have EB:AB (qb :: mb :: Ft) w0 w4:=(CG.step C8 AA).step E9 (fun k hk=>by
    rcases Cq k hk with h | h
    ·exact .inl h
    ·exact .inr om)
   have hQP:QP w4 qb E5 QK iW (LX (FD s o) a):=⟨g1,g2,g3⟩;clear hs;have hs:=(St.nil w4).AH g1 AA
   repeat' (first|refine Sa ?_|(refine st hs ?_;intro w hs)|fail)
   refine AG ?_;have Me:AB [qb] w4 _:=hs.AD [qb] AA sD;have hP:=hQP.own Me (hs.get At.head);refine ⟨by rw [eE];rfl,?_⟩;rw [hQ];refine ⟨qb :: QK :: iW,⟨E5,QK,iW,rfl,hP.q,hP.M,hP.T,g4,h5⟩,fun k hk=>?_,EB.step Me (fun k hk => .inl (by obtain rfl:=List.mem_singleton.1 hk;simp))⟩;rcases D6 k hk with h | h
   ·rcases Cq k h with h | h
    ·exact .inl h
    ·exact .inr om
   ·exact .inr om
theorem nL (qb:Nat) (s:Qs) (F:List Nat) (r:RT) (w0:World) (h:DE w0 qb s F) (hlen:s.t.list.length+1≤1000000) (hn:s.n < 1000000) (hd:∀ o,s.f (BZ r).1.id=some o→GX o s.t) :
 AO prog 151 #[.pointer (some ⟨qb,0,none⟩),rv r.1] w0 fun v w'=>v = .int .i64 (L0 s (BZ r))∧∃ F',DE w' qb (QN s (BZ r)) F'∧(∀ k∈F',k∈F∨w0.heap.size≤k)∧AB F w0 w':=by
 have hs:=St.nil w0;refine AS func151 ntmps151 ?_
 repeat' (first|refine Sa ?_|(refine bx hs ?_;intro b w hz hs)|fail)
 have ho:=hs.AE rfl;refine cl (h:=by exact Yn qb s F (BZ r) _ (h.only ho) hlen hn hd) ?_;rintro v w1 ⟨rfl,F',hA,C0,AL⟩;have hz:=ho.size;clear hs;have hs:=St.nil w1;refine Jc ?_;refine AG ?_;exact ⟨rfl,F',hA.only (hs.AE rfl),fun k hk=>by rcases C0 k hk with h | h;exact .inl h;exact .inr om,((ho.weaken AA).step AL (fun k hk => .inl hk)).step (hs.AE rfl) AA⟩
def Sw (s:Ss) (r:RT):Int:=GS r.1 (L0 s.q (BZ r))
def Tj (s:Ss) (r:RT):Ss:=K9 s r (L0 s.q (BZ r)) (QN s.q (BZ r))
theorem sput_ret (sb:Nat) (s:Ss) (F:List Nat) (r:RT) (w0:World) (h:DC w0 sb s F) (hl:s.l.length < 1000000) (hlen:s.q.t.list.length+1≤1000000) (hn:s.q.n < 1000000) (hd:∀ o,s.q.f (BZ r).1.id=some o→GX o s.q.t) :
 AO prog 115 #[.pointer (some ⟨sb,0,none⟩),rv r.1] w0 fun v w'=>v = .int .i64 (Sw s r)∧∃ F',DC w' sb (Tj s r) F'∧(∀ k∈F',k∈F∨w0.heap.size≤k)∧AB F w0 w':=by
 have hs:=St.nil w0;refine AS func115 ntmps115 ?_
 repeat' (first|refine Sa ?_|(refine bx hs ?_;intro b w hz hs)|fail)
 have ho:=hs.AE rfl;refine cl (h:=by exact WZ 151 sb s F r (L0 s.q (BZ r)) (QN s.q (BZ r)) _ (h.only ho) hl (fun qb Fq w hq _=>nL qb s.q Fq r w hq hlen hn hd)) ?_;rintro v w1 ⟨rfl,F',hA,C0,AL⟩;have hz:=ho.size;clear hs;have hs:=St.nil w1;refine Jc ?_;refine AG ?_;exact ⟨rfl,F',hA.only (hs.AE rfl),fun k hk=>by rcases C0 k hk with h | h;exact .inl h;exact .inr om,((ho.weaken AA).step AL (fun k hk => .inl hk)).step (hs.AE rfl) AA⟩
end Go.Proofs.Q0
namespace Go.Proofs.Q0
open IB (IT)
theorem kX {lo:Int}:∀ {l2 l1:List It} {m:Mn},Cg m.b lo (l1 ++ l2)→Kg m l1→∃ m',Ll m (places l2)=some m'∧m'.b=m.b∧Kg m' (l1 ++ l2)
 | [],l1,m,h,k=>⟨m,rfl,rfl,by rwa [aDP]⟩
 | a :: l2,l1,m,h,k=>by
   have hp:(l1 ++ a :: l2).Perm ((a :: l1) ++ l2):=List.perm_middle;have h2:=h.perm hp;have h3:Cg m.b lo (a :: l1):=⟨h2.1,by have:=h2.2.1;simp only [aCv,aCx] at this ⊢;omega,fun x hx=>h2.2.2 x (aDC _ hx)⟩;obtain ⟨m1,e1,e2,e3⟩:=kA h3 k;obtain ⟨m2,e4,e5,e6⟩:=kX (l2:=l2) (l1:=a :: l1) (m:=m1) (by rw [e2];exact h2) e3;refine ⟨m2,?_,e5.trans e2,e6.perm hp.symm⟩;show (ER m a.p).bind (fun m=>Ll m (places l2))=some m2;rw [e1];exact e4
theorem Cg.at {b lo:Int} {x:It} {l:List It} (h:Cg b lo (x :: l)):Cg x.p.t (lo - sn x.p.t b) (x :: l):=(h.move h.head.low (h.head.dead h.1).2.2).1
theorem mean_of {b lo:Int} {l:List It} (h:Cg b lo l) (hl:l≠[]):LK (JN l) l∧P4 l=some (JN l).b:=by
 obtain ⟨x,r,rfl⟩:=List.exists_cons_of_ne_nil hl;have hw:=h.at;obtain ⟨m,e1,e2,e3⟩:=kX (l1:=[]) (l2:=x :: r) (m:=⟨x.p.t,0,0,0⟩) hw ⟨rfl,rfl,rfl⟩;have e2':m.b=x.p.t:=e2;have hw':Cg m.b (lo - sn x.p.t b) (x :: r):=by rw [e2'];exact hw
 obtain ⟨m',e4,e5⟩:=Oa hw' e3 hl;have hf:=Qv hw' e3 hl;have e6:=e5.eq hl;rw [← e6];refine ⟨e5,?_⟩;show (ofM x.p.t (places (x :: r))).bind I9=_;unfold ofM;rw [e1,Option.bind_some,hf];rw [hf] at e4;simp only [Option.getD_some,JE] at e4;split at e4
 ·cases e4;rfl
 ·cases e4
theorem aU {b lo:Int} {l l':List It} (h:Cg b lo l) (p:l.Perm l'):JN l=JN l':=by
 by_cases e:l=[]
 ·subst e;rw [p.nil_eq]
 ·exact ((mean_of h e).1.perm p).eq (fun k=>e (by subst k;exact p.symm.nil_eq.symm))
theorem QI.aCP {s:Qs} (h:QI s) {a:IT} (hr:a.1.right=true) (hn:s.t.list.length < 32) {L:List It} (hL:L.Perm (a.1 :: plain s.t.list)) (hw:within (FY s a).b L=true):∃ lo,Cg (FY s a).b lo (a.1 :: plain s.t.list):=by
 obtain ⟨lo,k⟩:=h.win;rw [N8 (l':=a.1 :: plain s.t.list) (fun x=>hL.mem_iff)] at hw;refine jY (fun x hx=>?_) hw ?_ ?_ (by simp only [plain,aCx,aC0];omega)
 ·rcases aCu.1 hx with rfl | hx
  ·exact ⟨a.2,hr⟩
  ·exact ⟨(k.2.2 x hx).isin,(k.2.2 x hx).right⟩
 all_goals by_cases e:s.t.list=[]
 ·rw [L6 e];exact ⟨a.1,by simp,by show sn a.1.p.t a.1.p.t≤0;rw [P3];omega⟩
 ·rw [LA e];obtain ⟨⟨x,k1,k2⟩,_⟩:=Tq (h.cen e) (plain_ne e);exact ⟨x,by simp [k1],k2⟩
 ·rw [L6 e];exact ⟨a.1,by simp,by show 0≤sn a.1.p.t a.1.p.t;rw [P3];omega⟩
 ·rw [LA e];obtain ⟨_,⟨x,k1,k2⟩⟩:=Tq (h.cen e) (plain_ne e);exact ⟨x,by simp [k1],k2⟩
theorem QI.clock {s:Qs} (h:QI s) (c:Int):QI { s with c:=c }:=⟨h.good,h.srt,h.f,h.n,h.len,h.cen,h.nil⟩
theorem KS {r:RT}:∀ {l:List RT},Cv l→(CJ r l).Perm (r :: Dn (BB r) l)
 | [],_ => .refl _
 | a :: l,h=>by
   have hd:=h.head;have hlt:∀ {b:RT},BB r≤BB a→b∈l→decide (BB b≠BB r)=true:=fun h1 hb=>by have:=hd _ hb;simp;omega
   have ih:=KS (r:=r) h.tail;unfold CJ Dn;rw [aD1];split
   ·rename_i h1;rw [if_pos (by simp;omega),List.filter_eq_self.2 (fun b hb=>hlt om hb)]
   ·split
    ·rename_i h1 h2;rw [if_neg (by simp;omega),List.filter_eq_self.2 (fun b hb=>hlt om hb)]
    ·rename_i h1 h2;rw [if_pos (by simp;omega)];exact (ih.cons a).trans (.swap _ _ _)
def RY (A:As) (id:Int):List It:=its (Dn id A.l)
def Tm (A:As) (a:It):Int:=if RY A a.id=[] then a.p.t else (JN (RY A a.id)).b
def LC (A:As) (a:It):Int:=bif !a.right then 2 else bif !(Al A.l a.id).isSome then 14 else bif !within (Tm A a) (RY A a.id ++ [a]) then 8 else 0
def Dz (A:As) (r:RT):Int:=GS r.1 (LC A r.1.i)
def GR (A:As) (r:RT):As:=if Dz A r=0 then ⟨CJ r A.l,A.c⟩ else A
theorem oth_perm {s:Ss} {A:As} (h:BN s A) (id:Int):(DT id s.q.t.list).Perm ((Dn id A.l).map BZ):=by
 unfold DT Dn;have:((A.l.filter fun a=>decide (BB a≠id)).map BZ)=(A.l.map BZ).filter fun a=>decide (a.1.id≠id):=by rw [List.filter_map];rfl
 rw [this];exact h.p.filter _
theorem BN.oth {s:Ss} {A:As} (h:BN s A) (id:Int):(plain (DT id s.q.t.list)).Perm (RY A id):=by
 unfold RY;rw [← ZY];exact plain_perm (oth_perm h id)
theorem BN.HE {s:Ss} {A:As} (h:BN s A) (a:IT):Go.Proofs.Q0.HE s.q a=Tm A a.1:=by
 unfold Go.Proofs.Q0.HE Tm;have hp:=h.oth a.1.id;by_cases e:RY A a.1.id=[]
 ·rw [if_pos e];rw [e] at hp;rw [hp.eq_nil];rfl
 ·rw [if_neg e];obtain ⟨lo,k⟩:=h.q.win
  have k2:Cg s.q.m.b lo (plain (DT a.1.id s.q.t.list)):=⟨k.1,by have:=k.2.1;have:=Tl a.1.id s.q.t.list;simp only [plain,aC0] at *;omega,fun x hx=>by
   obtain ⟨y,hy,rfl⟩:=List.mem_map.1 hx;exact plain_win k y (List.mem_filter.1 hy).1⟩
  have ne:plain (DT a.1.id s.q.t.list)≠[]:=fun k=>e (by rw [k] at hp;exact hp.nil_eq.symm);rw [(mean_of k2 ne).2,Option.getD_some,aU k2 hp]
theorem BN.put {s:Ss} {A:As} (h:BN s A) (r:RT):Sw s r=Dz A r∧BN (Tj s r) (GR A r)∧∀ o,s.q.f (BZ r).1.id=some o→GX o s.q.t:=by
 have aCQ:∀ o,s.q.f (BZ r).1.id=some o→GX o s.q.t:=fun o ho=>(h.q.cut ((h.q.f _ _).1 ho).1).2.2.2.2
 have hch:L0 s.q (BZ r)=LC A r.1.i:=by
  unfold L0 LC
  rw [h.fs,h.HE,N8 (l:=plain (DT (BZ r).1.id s.q.t.list ++ [BZ r])) (l':=RY A r.1.i.id ++ [r.1.i]) (fun x=>by
   rw [show plain (DT (BZ r).1.id s.q.t.list ++ [BZ r])=plain (DT (BZ r).1.id s.q.t.list) ++ [(BZ r).1] from aDa ..,aC4,aC4,(h.oth _).mem_iff];rfl)]
  rfl
 have he:Sw s r=Dz A r:=by unfold Sw Dz;rw [hch]
 refine ⟨he,?_,aCQ⟩;unfold GR;by_cases e0:Dz A r=0
 ·rw [if_pos e0]
  have hr:r.1.right=true:=by
   unfold Dz GS at e0;cases k:r.1.right
   ·rw [k] at e0;cases e0
   ·rfl
  have hj:LC A r.1.i=0:=by unfold Dz GS at e0;rw [hr] at e0;exact e0
  have hjq:L0 s.q (BZ r)=0:=by rw [hch];exact hj
  have hj':=hjq;unfold L0 at hj';cases k1:(BZ r).1.right with
  | false=>rw [k1] at hj';cases hj'
  | true =>
  cases k2:s.q.f (BZ r).1.id with
  | none=>rw [k1,k2] at hj';cases hj'
  | some o =>
  cases k4:within (Go.Proofs.Q0.HE s.q (BZ r)) (plain (DT (BZ r).1.id s.q.t.list ++ [BZ r])) with
  | false=>rw [k1,k2,k4] at hj';cases hj'
  | true =>
    obtain ⟨AL,AN⟩:=(h.q.f _ _).1 k2;obtain ⟨c1,c2,c3,c4,c5⟩:=h.q.cut AL
    have sU:DT (BZ r).1.id s.q.t.list=RB.sans o s.q.t.list:=by
     unfold DT RB.sans;refine List.filter_congr fun x hx=>?_;by_cases e:x=o
     ·subst e;simp [AN]
     ·have:x.1.id≠(BZ r).1.id:=fun e'=>e (h.q.inj x hx o AL om);simp [this,e]
    have hb:(FY (FD s.q o) (BZ r)).b=Go.Proofs.Q0.HE s.q (BZ r):=by
     unfold Go.Proofs.Q0.HE;rw [sU,← c2];by_cases e:(FD s.q o).t.list=[]
     ·rw [L6 e,e];rfl
     ·obtain ⟨lo,k⟩:=c1.win;have hm:=mean_of k (plain_ne e);rw [LA e,hm.2,← (c1.cen e).eq (plain_ne e)];rfl
    have hfn:(FD s.q o).f (BZ r).1.id=none:=by
     cases k:(FD s.q o).f (BZ r).1.id with
     | none=>rfl
     | some y =>
       obtain ⟨y1,y2⟩:=(c1.f _ _).1 k;rw [c2,← sU] at y1;have:=(List.mem_filter.1 y1).2;simp only [decide_eq_true_eq] at this;exact absurd y2 this
    have hlen:=c3.length_eq;have hle:=h.q.len;simp only [aCx] at hlen
    obtain ⟨lo,hw⟩:=c1.aCP (a:=BZ r) k1 (by rw [c2];omega) (L:=plain (DT (BZ r).1.id s.q.t.list ++ [BZ r])) (by
     rw [sU,c2,show plain (RB.sans o s.q.t.list ++ [BZ r])=plain (RB.sans o s.q.t.list) ++ [(BZ r).1] from aDa ..];exact List.perm_append_comm) (by rw [hb];exact k4)
    obtain ⟨p1,p2,p3⟩:=c1.put (a:=BZ r) hfn hw
    have hE:Tj s r=⟨aQ s.q o (BZ r),CJ r s.l⟩:=by
     unfold Tj K9 QN;rw [hr,hjq,k2];rfl
    rw [hE];refine ⟨p1.clock _,by rw [h.l],?_,h.c,fun x hx=>?_,ord_put h.o⟩
    ·show (LX (FD s.q o) (BZ r)).t.list.Perm ((CJ r A.l).map BZ);refine p2.trans ?_;rw [c2,← sU];exact ((oth_perm h _).cons _).trans ((KS h.o).map BZ).symm
    ·rcases Ml hx with rfl | hx
     ·exact hr
     ·exact h.r x hx
 ·rw [if_neg e0]
  have:Tj s r=s:=by
   unfold Tj K9;cases k:r.1.right
   ·rfl
   ·have:L0 s.q (BZ r)≠0:=fun e=>e0 (by rw [← he];unfold Sw GS;rw [k];exact e);unfold QN;rw [decide_eq_false this];rfl
  rw [this];exact h
def Gl (A:As) (id:Int) (b:Bool):As:=match Al A.l id with | some a=>⟨CJ (HV a b) A.l,A.c⟩ | none=>A
theorem del_perm {l:List RT} {a:RT} {i:Int} (ho:Cv l) (hf:Al l i=some a):l.Perm (a :: Dn i l):=by
 obtain ⟨h1,h2⟩:=Bu hf;have:l.Nodup:=(List.Pairwise.imp (fun h e=>by subst e;omega) (List.pairwise_map.1 ho));clear hf
 induction l with
 | nil=>cases h1
 | cons b l ih =>
   have hd:=ho.head;unfold Dn;rw [aD1];rcases aCu.1 h1 with rfl | h1
   ·rw [if_neg (by simp [h2]),List.filter_eq_self.2 (fun x hx=>by have:=hd x hx;simp;omega)]
   ·have:=hd a h1;rw [if_pos (by simp;omega)];exact ((ih ho.tail h1 (aC6.1 ‹(b :: l).Nodup›).2).cons b).trans (.swap _ _ _)
theorem BN.Zx {s:Ss} {A:As} (h:BN s A) (id:Int) (b:Bool):BN (Mk s id b) (Gl A id b):=by
 unfold Mk Gl;rw [h.l];cases e:Al A.l id with
 | none=>exact h
 | some a =>
   obtain ⟨h1,h2⟩:=Bu e;refine ⟨h.q,rfl,?_,h.c,fun x hx=>?_,ord_put h.o⟩
   ·refine h.p.trans (((del_perm h.o e).map BZ).trans ?_);have hi:BB (HV a b)=id:=h2;have:=(KS (r:=HV a b) h.o).map BZ;rw [hi] at this;exact this.symm
   ·rcases Ml hx with rfl | hx
    ·exact h.r a h1
    ·exact h.r x hx
end Go.Proofs.Q0
namespace Go.Proofs.Q0
open Go Go.RowKit Tryz
open IB (IT DF Bi)
attribute [local irreducible] XS XC XA AY AR A9 A1 A0 Aa Ae AW SE
def Mx (q:Qs):Int:=(IB.JA (Lv q)).id
theorem settle_ret (sb:Nat) (s s':Ss) (l:List Gn) (F:List Nat) (w0:World) (h:DC w0 sb s F) (hn:s.l.length≤1000000) (hq:s.q.t.list.length≤1000000) (hl:l.length≤1000000) (hF:HY s l s') :
 AO prog 172 #[.pointer (some ⟨sb,0,none⟩)] w0 fun v w'=>∃ sl,v = .tuple #[sl,.int .i64 (Mx s'.q)]∧(∃ G,B6 w' 170 13 sl l.length (HW l) G∧∀ k∈G,w0.heap.size≤k)∧∃ F',DC w' sb s' F'∧(∀ k∈F',k∈F∨w0.heap.size≤k)∧AB F w0 w':=by
 have hs:=St.nil w0;refine AS func172 ntmps172 ?_;refine Jd ?_;have OA:=hs.AE rfl;have hz:=OA.size;refine cl (h:=by exact iB sb s s' l F _ (h.only OA) hn hq hl hF) ?_;rintro v1 w1 ⟨⟨G,hG,DV⟩,F1,GB,Cq,AL⟩;have aBq:=GB;obtain ⟨qb,mb,Fq,rfl,h1,h2,h3,h4,h5⟩:=GB;clear hs;have hs:=(St.nil w1).AH h1 AA;refine Ja ?_;have AN:=hs.AD [] (by simp [h1]) sD;refine AZ hs (h:=by exact PU qb s'.q Fq _ (h3.only AN)) ?_;intro w' ho hs;repeat' (first|refine Sb ?_|(refine AV hs ?_;intro w hs)|(refine al hs ?_;intro b w hz hs)|fail)
 refine dr [] hs ?_;intro hX w hs;refine tks 0 5 ?_;refine en ?_;refine Jb ?_;refine AG ?_;have AU:=hs.AD [] (by simp [h1]) sD
 exact ⟨v1,rfl,⟨G,hG.keep AU AA,fun k hk=>by have:=DV k hk;omega⟩,_,aBq.only AU,fun k hk=>by
  rcases Cq k hk with h | h
  ·exact .inl h
  ·exact .inr om,((OA.weaken AA).step AL (fun k hk => .inl hk)).step AU AA⟩
end Go.Proofs.Q0
namespace Go.Proofs.Q0
open IB (IT)
theorem over_ok {m:Mn} {l:List It} (h:LK m l) {x:It} (hx:x∈l):Fe m x.p=some (Hl m x.p)∧Ac (Hl m x.p):=by
 obtain ⟨lo,k⟩:=h.all;have hw:=k.2.2 x hx;have hr:=k.right h.is;obtain ⟨r1,_,_,_,_,_,⟨w1,w2,w3,w4⟩,_⟩:=iright_all hw.isin hw.right;have hn:m.n≠0:=by rw [h.is.n];have:=List.length_pos_of_mem hx;omega
 have h8:=ZD hw.isin.1 hr r1;have hm:=Cm.1 hr;have a0:=h.a0;have a1:=h.a1;have h9:=mul_rng (w:=m.a) (s:=x.p.w) (W:=33554432) (S:=1048576) om om om om;have h10:=mul_rng (w:=m.w) (s:=dist x.p m.b) (W:=33554432) (S:=9671406556917033397649408+1048576) om om h8.2.1 h8.2.2;have e:=aDU (dist x.p m.b) m.w;have i1:Ac (m.a*x.p.w):=by unfold Ac;omega
 have i2:Ac (Hl m x.p):=by unfold Hl Ac;rw [e];omega
 unfold Fe;exact ⟨if_pos ⟨hr,hn,r1,i1,i2⟩,i2⟩
def mA (A:As):Mn:=JN (its A.l)
def NI (A:As) (a:RT):Int:=Hl (mA A) a.1.i.p
def XN (A:As) (a:RT):Int:=NI A a / (mA A).w
def Dm (A:As) (id:Int):Int:=match Al A.l id with | some a=>C1 (NI A a) 0 | none=>0
def C2 (A:As) (id:Int):Int:=match Al A.l id with | some a=>XN A a | none=>0
theorem BN.over {s:Ss} {A:As} (h:BN s A) {a:RT} (ha:a∈A.l):Fe s.q.m a.1.i.p=some (NI A a)∧Ac (NI A a)∧s.q.m=mA A:=by
 have hne:A.l≠[]:=List.ne_nil_of_mem ha;have e:=h.Gk hne;have:=over_ok (h.cen hne) (x:=a.1.i) (aDF ha);rw [e] at this;exact ⟨by rw [e];exact this.1,this.2,e⟩
theorem BN.MR {s:Ss} {A:As} (h:BN s A) (id:Int):Ls s.q id=Dm A id:=by
 unfold Ls Dm;rw [h.f];cases e:Al A.l id with
 | none=>rfl
 | some a =>
   have:=h.over (Bu e).1;show C1 ((Fe s.q.m a.1.i.p).getD 0) 0=_;rw [this.1];rfl
theorem BN.lag {s:Ss} {A:As} (h:BN s A) (id:Int):Xn s.q id=C2 A id:=by
 unfold Xn C2;rw [h.f];cases e:Al A.l id with
 | none=>rfl
 | some a =>
   have:=h.over (Bu e).1;show ((Wr s.q.m a.1.i.p).getD 0)=_;unfold Wr XN;rw [this.1,this.2.2];rfl
def GJ (A:As) (a:RT):Bool:=a.1.asleep && decide (0≤NI A a)
def rS (A:As) (a:RT):Gn:=⟨BB a,XN A a,a.1⟩
def Cr:Nat→As→List Gn × As
 | 0,A=>([],A)
 | n+1,A=>match A.l.find? (GJ A) with
   | none=>([],A)
   | some a=>(rS A a :: (Cr n (Fl A (BB a))).1,(Cr n (Fl A (BB a))).2)
def DR (A:As):List Gn × As:=Cr A.l.length A
theorem Zt {x:Int}:C1 x 0≥0↔0≤x:=by unfold C1;split <;> (try split) <;> omega
theorem find_congr {α:Type} {p q:α→Bool}:∀ {l:List α},(∀ x∈l,p x=q x)→l.find? p=l.find? q
 | [],_=>rfl
 | a :: l,h=>by
   rw [List.find?_cons,List.find?_cons,h a aCw,find_congr fun x hx=>h x (aCy _ hx)]
theorem BN.next {s:Ss} {A:As} (h:BN s A):IP s=(A.l.find? (GJ A)).map (rS A):=by
 unfold IP
 rw [h.l,find_congr (q:=GJ A) (fun a ha=>by
  unfold goes GJ;rw [h.MR];unfold Dm;rw [Cl h.o ha];simp only [Zt])]
 cases e:A.l.find? (GJ A) with
 | none=>rfl
 | some a =>
   have ha:=aD5 e;show some (bW s.q a)=some (rS A a);unfold bW rS;rw [h.lag];unfold C2;rw [Cl h.o ha]
theorem BN.Cr:∀ {n:Nat} {s:Ss} {A:As},BN s A→A.l.length≤n→∃ s',HY s (Cr n A).1 s'∧BN s' (Cr n A).2
 | 0,s,A,h,hn=>⟨s,.done (by rw [h.next,aDp (Nat.le_zero.1 hn)];rfl),h⟩
 | n+1,s,A,h,hn=>by
   unfold Go.Proofs.Q0.Cr;cases e:A.l.find? (GJ A) with
   | none=>exact ⟨s,.done (by rw [h.next,e];rfl),h⟩
   | some a =>
     have ha:=aD5 e;have hf:=Cl h.o ha;obtain ⟨e1,e2,e3⟩:=h.exit hf
     have hl:(Fl A (BB a)).l.length≤n:=by
      unfold Fl;simp only [hf,Option.isSome_some,if_true];have:=(del_perm h.o hf).length_eq;simp only [aCx] at this ⊢;omega
     obtain ⟨s',k1,k2⟩:=e3.Cr hl;exact ⟨s',.step (by rw [h.next,e];rfl) e1 e2 k1,k2⟩
theorem BN.flush {s:Ss} {A:As} (h:BN s A):∃ s',HY s (DR A).1 s'∧BN s' (DR A).2:=h.Cr (aC5 _)
def Hf (X:List IT):Option IT→Prop
 | none=>X=[]
 | some m=>m∈X∧∀ y∈X,due y.1 m.1=false
theorem P7 {S:IT→Prop} (o:Cw (fun x y:IT=>due x.1 y.1) S) {X Y:List IT} (hX:∀ z∈X,S z) (hY:∀ z∈Y,S z) {x y:IT} (h1:Hf X (some x)) (h2:Hf Y (some y)) {Z:List IT} (hZ:∀ z,z∈Z↔z∈X∨z∈Y):Hf Z (some (IB.snr x y)):=by
 obtain ⟨x1,x2⟩:=h1;obtain ⟨y1,y2⟩:=h2;have sx:=hX x x1;have sy:=hY y y1;unfold IB.snr;cases e:due y.1 x.1
 ·refine ⟨(hZ _).2 (.inl x1),fun z hz=>?_⟩;rcases (hZ z).1 hz with hz | hz
  ·exact x2 z hz
  ·cases k:due z.1 x.1
   ·exact k
   ·exfalso;cases k2:due y.1 z.1
    ·have:=o.tri z y (hY z hz) sy (y2 z hz) k2;subst this;rw [e] at k;cases k
    ·have:=o.tr y z x sy (hY z hz) sx k2 k;rw [show due y.1 x.1=true from this] at e;cases e
 ·refine ⟨(hZ _).2 (.inr y1),fun z hz=>?_⟩;rcases (hZ z).1 hz with hz | hz
  ·cases k:due z.1 y.1
   ·exact k
   ·have:=o.tr z y x (hX z hz) sy sx k e;exact absurd (x2 z hz) (by rw [show due z.1 x.1=true from this];simp)
  ·exact y2 z hz
theorem all_min {S:IT→Prop} (o:Cw (fun x y:IT=>due x.1 y.1) S):∀ {t:RB IT},(∀ z∈t.list,S z)→Hf t.list (IB.all? t)
 | .nil,_=>rfl
 | .node l x r c,h=>by
   have hl:=all_min o (t:=l) fun z hz=>h z (by simp [RB.list,hz]);have hr:=all_min o (t:=r) fun z hz=>h z (by simp [RB.list,hz]);have hx:S x:=h x (by simp [RB.list]);have h0:Hf [x] (some x):=⟨by simp,fun y hy=>by obtain rfl:=List.mem_singleton.1 hy;exact o.irr y hx⟩;have hL:∀ z∈l.list,S z:=fun z hz=>h z (by simp [RB.list,hz]);have hR:∀ z∈r.list,S z:=fun z hz=>h z (by simp [RB.list,hz]);have iV:∀ z∈[x],S z:=fun z hz=>by obtain rfl:=List.mem_singleton.1 hz;exact hx
   have h1:Hf (l.list ++ [x]) (some (match IB.all? l with | none=>x | some a=>IB.snr a x)):=by
    cases e:IB.all? l with
    | none=>rw [e] at hl;rw [show l.list=[] from hl];exact h0
    | some a=>rw [e] at hl;exact P7 o hL iV hl h0 (fun z=>by simp)
   have h1':∀ z∈l.list ++ [x],S z:=fun z hz=>by
    rcases aC4.1 hz with hz | hz
    ·exact hL z hz
    ·exact iV z hz
   show Hf (l.list ++ x :: r.list) (some _);cases e:IB.all? r with
   | none=>rw [e] at hr;rw [show r.list=[] from hr];exact h1
   | some b=>rw [e] at hr;exact P7 o h1' hR h1 hr (fun z=>by simp [or_assoc])
theorem R9 {S:IT→Prop} (o:Cw (fun x y:IT=>due x.1 y.1) S) {q:IT→Bool}:∀ {t:RB IT} {acc:Option IT} {X Z:List IT},(∀ z∈t.list,S z)→(∀ z∈X,S z)→Hf X acc→t.list.Pairwise (fun a b=>q b=true→q a=true)→(∀ z,z∈Z↔z∈X∨(z∈t.list∧q z=true))→Hf Z (IB.DU q t acc)
 | .nil,acc,X,Z,_,_,h,_,hZ=>by
   have:∀ z,z∈Z↔z∈X:=fun z=>by rw [hZ];simp [RB.list]
   unfold IB.DU;cases acc with
   | none=>exact List.eq_nil_iff_forall_not_mem.2 fun z hz=>by have:=(this z).1 hz;rw [show X=[] from h] at this;cases this
   | some m=>exact ⟨(this m).2 h.1,fun y hy=>h.2 y ((this y).1 hy)⟩
 | .node l x r c,acc,X,Z,hS,hX,h,hp,hZ=>by
   have hx:S x:=hS x (by simp [RB.list]);have hL:∀ z∈l.list,S z:=fun z hz=>hS z (by simp [RB.list,hz]);have hR:∀ z∈r.list,S z:=fun z hz=>hS z (by simp [RB.list,hz]);obtain ⟨p1,p2,p3⟩:=List.pairwise_append.1 (show (l.list ++ x :: r.list).Pairwise _ from hp);obtain ⟨p4,p5⟩:=List.pairwise_cons.1 p2;have iV:∀ z∈[x],S z:=fun z hz=>by obtain rfl:=List.mem_singleton.1 hz;exact hx
   have h0:Hf [x] (some x):=⟨by simp,fun y hy=>by obtain rfl:=List.mem_singleton.1 hy;exact o.irr y hx⟩;unfold IB.DU;cases e:q x
   ·refine R9 o hL hX h p1 fun z=>?_;rw [hZ];constructor
    ·rintro (h1 | ⟨h1,h2⟩)
     ·exact .inl h1
     ·rcases aC4.1 (show z∈l.list ++ x :: r.list from h1) with h1 | h1
      ·exact .inr ⟨h1,h2⟩
      ·rcases aCu.1 h1 with rfl | h1
       ·rw [e] at h2;cases h2
       ·have:=p4 z h1 h2;rw [e] at this;cases this
    ·rintro (h1 | ⟨h1,h2⟩)
     ·exact .inl h1
     ·exact .inr ⟨by show z∈l.list ++ x :: r.list;simp [h1],h2⟩
   ·have fD:∀ z∈l.list,q z=true:=fun z hz=>p3 z hz x aCw e
    have a1:Hf (X ++ l.list) (IB.NQ acc l):=by
     have hl:=all_min o hL;unfold IB.NQ;cases e1:IB.all? l with
     | none=>rw [e1] at hl;rw [show l.list=[] from hl,aDP];exact h
     | some a =>
       rw [e1] at hl;unfold IB.M4;cases acc with
       | none=>rw [show X=[] from h];exact hl
       | some m=>exact P7 o hX hL h hl (fun z=>by simp)
    have hXL:∀ z∈X ++ l.list,S z:=fun z hz=>by
     rcases aC4.1 hz with hz | hz
     ·exact hX z hz
     ·exact hL z hz
    have a2:Hf (X ++ l.list ++ [x]) (IB.M4 (IB.NQ acc l) x):=by
     unfold IB.M4;cases e1:IB.NQ acc l with
     | none=>rw [e1] at a1;rw [show X ++ l.list=[] from a1];exact h0
     | some m=>rw [e1] at a1;exact P7 o hXL iV a1 h0 (fun z=>by simp [or_assoc])
    refine R9 (X:=X ++ l.list ++ [x]) o hR (fun z hz=>?_) a2 p5 fun z=>?_
    ·rcases aC4.1 hz with hz | hz
     ·exact hXL z hz
     ·exact iV z hz
    ·rw [hZ];constructor
     ·rintro (h1 | ⟨h1,h2⟩)
      ·exact .inl (by simp [h1])
      ·rcases aC4.1 (show z∈l.list ++ x :: r.list from h1) with h1 | h1
       ·exact .inl (by simp [h1])
       ·rcases aCu.1 h1 with rfl | h1
        ·exact .inl AA
        ·exact .inr ⟨h1,h2⟩
     ·rintro (h1 | ⟨h1,h2⟩)
      ·rcases aC4.1 h1 with h1 | h1
       ·rcases aC4.1 h1 with h1 | h1
        ·exact .inl h1
        ·exact .inr ⟨by show z∈l.list ++ x :: r.list;simp [h1],fD z h1⟩
       ·obtain rfl:=List.mem_singleton.1 h1;exact .inr ⟨by show z∈l.list ++ z :: r.list;simp,e⟩
      ·exact .inr ⟨by show z∈l.list ++ x :: r.list;simp [h1],h2⟩
def MH (A:As):List RT:=A.l.filter fun a=>decide (0≤NI A a)
def Qy:List RT→Option RT
 | []=>none
 | a :: l=>some (l.foldl (fun a b=>bif due b.1.i a.1.i then b else a) a)
def H6 (A:As):Option RT:=Qy (MH A)
def T2 (o:Option RT):Int:=match o with | none=>0 | some a=>BB a
def bI (X:List RT):Option RT→Prop
 | none=>X=[]
 | some m=>m∈X∧∀ y∈X,due y.1.i m.1.i=false
theorem kS {S:RT→Prop} (o:Cw (fun x y:RT=>due x.1.i y.1.i) S):∀ {X:List RT},(∀ z∈X,S z)→bI X (Qy X)
 | [],_=>rfl
 | a :: l,h=>by
   suffices H:∀ (l:List RT) (a:RT) (Y:List RT),(∀ z∈Y,S z)→(∀ z∈l,S z)→bI Y (some a)→bI (Y ++ l) (some (l.foldl (fun a b=>bif due b.1.i a.1.i then b else a) a)) from
    H l a [a] (fun z hz=>h z (by simp at hz;simp [hz])) (fun z hz=>h z (aCy _ hz)) ⟨by simp,fun y hy=>by obtain rfl:=List.mem_singleton.1 hy;exact o.irr y (h y aCw)⟩
   intro l
   induction l with
   | nil=>intro a Y _ _ h;rw [aDP];exact h
   | cons b l ih =>
     intro a Y hY hl h;rw [aDZ,show Y ++ b :: l=(Y ++ [b]) ++ l by simp];have hb:=hl b aCw;have ha:=hY a h.1;refine ih _ _ (fun z hz=>?_) (fun z hz=>hl z (aCy _ hz)) ?_
     ·rcases aC4.1 hz with hz | hz
      ·exact hY z hz
      ·obtain rfl:=List.mem_singleton.1 hz;exact hb
     ·cases e:due b.1.i a.1.i
      ·refine ⟨by simp [h.1],fun y hy=>?_⟩;rcases aC4.1 hy with hy | hy
       ·exact h.2 y hy
       ·obtain rfl:=List.mem_singleton.1 hy;exact e
      ·refine ⟨by simp,fun y hy=>?_⟩;rcases aC4.1 hy with hy | hy
       ·show due y.1.i b.1.i=false;cases k:due y.1.i b.1.i
        ·rfl
        ·have:=o.tr y b a (hY y hy) hb ha k e;exact absurd (h.2 y hy) (by rw [show due y.1.i a.1.i=true from this];simp)
       ·obtain rfl:=List.mem_singleton.1 hy;exact o.irr y hb
theorem Cv.inj {l:List RT} (h:Cv l):∀ x∈l,∀ y∈l,BB x=BB y→x=y:=fun x hx y hy e=>by
 have h1:=Cl h hx;rw [e,Cl h hy] at h1;exact (aDo h1).symm
theorem mV {b lo:Int} {x y:It} (hx:Kf b lo x) (hy:Kf b lo y) (hm:Ib lo) (h:ahead x y=true):U4 b x.p y.p:=by
 have d1:=hx.dead hm;have d2:=hy.dead hm;have l1:=hx.low;have l2:=hy.low;have hc:=cmp_le (PR hx.isin.1 hy.isin.1 (iright_all hx.isin hx.right).1 (iright_all hy.isin hy.right).1 (b:=b) (by unfold We;unfold Ib at hm;omega));unfold ahead at h;simp only [Bool.or_eq_true,aDB,decide_eq_true_eq] at h;rcases h with h | h
 ·have:=hc.1.1 h;unfold U4 at *;omega
 ·exact (hc.2.1 h.1).1
theorem dA {m:Mn} {l:List It} (h:LK m l) {x y:It} (hx:x∈l) (hy:y∈l) (ha:ahead x y=true) (he:elig m y.p=true):elig m x.p=true:=by
 obtain ⟨lo,k⟩:=h.all;have wx:=k.2.2 x hx;have wy:=k.2.2 y hy;have hl:=mV wx wy k.1 ha;unfold elig at he ⊢;rw [(over_ok h hx).1];rw [(over_ok h hy).1] at he;simp only [Option.isSome_some,Option.getD_some,Bool.true_and,decide_eq_true_eq] at he ⊢;have p1:=(iright_all wx.isin wx.right).2.2.2.2.2.2.1;have p2:=(iright_all wy.isin wy.right).2.2.2.2.2.2.1;have a0:=h.a0;have a1:=h.a1;have:=Qh (p:=x.p.w) (q:=y.p.w) (r:=m.w) om om om hl (show dist y.p m.b*m.w≤m.a*y.p.w by unfold Hl at he;omega);unfold Hl;omega
def VJ (A:As):It:=match H6 A with | none => .zero | some a=>a.1.i
theorem BN.aCA {s:Ss} {A:As} (h:BN s A):IB.JA (Lv s.q)=VJ A∧(Lv s.q).isSome=(H6 A).isSome:=by
 obtain ⟨lo,hW⟩:=h.q.win;have aBu:=plain_win hW;have o1:Cw (fun x y:IT=>due x.1 y.1) (·∈s.q.t.list):=aCN aBu hW.1 h.q.inj;have hin:∀ a:RT,a∈A.l→BZ a∈s.q.t.list:=fun a ha=>h.p.mem_iff.2 (aDF ha)
 have o2:Cw (fun x y:RT=>due x.1.i y.1.i) (·∈A.l):=⟨fun a ha=>o1.irr (BZ a) (hin a ha),fun a b c ha hb hc=>o1.tr (BZ a) (BZ b) (BZ c) (hin a ha) (hin b hb) (hin c hc),fun a b ha hb k1 k2=>by
  have:=o1.tri (BZ a) (BZ b) (hin a ha) (hin b hb) k1 k2;exact h.o.inj a ha b hb (congrArg (fun z:IT=>z.1.id) this)⟩
 have hmono:s.q.t.list.Pairwise (fun a b=>elig s.q.m b.1.p=true→elig s.q.m a.1.p=true):=by
  by_cases e:s.q.t.list=[]
  ·rw [e];exact List.Pairwise.nil
  ·refine List.Pairwise.imp_of_mem (fun {a b} ha hb hab=>?_) h.q.srt;exact dA (h.q.cen e) (aDF ha) (aDF hb) hab
 have hE:∀ a∈A.l,elig s.q.m a.1.i.p=decide (0≤NI A a):=fun a ha=>by
  unfold elig;rw [(h.over ha).1];rfl
 have hm:Hf ((MH A).map BZ) (Lv s.q):=R9 (X:=[]) o1 (fun z hz=>hz) (fun z hz=>by cases hz) rfl hmono fun z=>by
  rw [List.mem_map];constructor
  ·rintro ⟨a,ha,rfl⟩;obtain ⟨h1,h2⟩:=List.mem_filter.1 ha;exact .inr ⟨hin a h1,by show elig s.q.m a.1.i.p=true;rw [hE a h1];exact h2⟩
  ·rintro (h1 | ⟨h1,h2⟩)
   ·cases h1
   ·obtain ⟨a,ha,rfl⟩:=List.mem_map.1 (h.p.mem_iff.1 h1);exact ⟨a,List.mem_filter.2 ⟨ha,by rw [← hE a ha];exact h2⟩,rfl⟩
 have hr:bI (MH A) (H6 A):=kS o2 fun z hz=>(List.mem_filter.1 hz).1;cases e1:Lv s.q with
 | none =>
   rw [e1] at hm;have:MH A=[]:=List.map_eq_nil_iff.1 hm;unfold VJ H6;rw [this];exact ⟨rfl,rfl⟩
 | some m =>
   rw [e1] at hm;obtain ⟨h1,h2⟩:=hm;obtain ⟨a,ha,rfl⟩:=List.mem_map.1 h1;cases e2:H6 A with
   | none=>rw [e2] at hr;rw [show MH A=[] from hr] at ha;cases ha
   | some b =>
     rw [e2] at hr;obtain ⟨h3,h4⟩:=hr;have:a=b:=o2.tri a b (List.mem_filter.1 ha).1 (List.mem_filter.1 h3).1 (h4 a ha) (h2 (BZ b) (aDF h3));subst this;unfold VJ;rw [e2];exact ⟨rfl,rfl⟩
theorem BN.Mx {s:Ss} {A:As} (h:BN s A):Go.Proofs.Q0.Mx s.q=T2 (H6 A):=by
 unfold Go.Proofs.Q0.Mx;rw [h.aCA.1];unfold VJ;cases H6 A <;> rfl
end Go.Proofs.Q0
namespace Go.Proofs.Q0
open Go Go.RowKit Go.Maps Go.Shelf Tryz
open IB (IT DF Bi)
attribute [local irreducible] XS XC XA AY AR A9 A1 A0 Aa Ae AW SE
theorem Xy (b c:Nat) (f:Int→Option Value) (w0:World) (h:CB w0 b f c):AO prog 154 #[.map (some b)] w0 fun v w'=>(∃ mb,v = .map (some mb)∧CB w' mb f c∧w0.heap.size≤mb)∧AB [] w0 w':=by
 obtain ⟨D,h1,h2⟩:=h;exact ret_of_calls (by kernel_rfl) ((AnyW.maps_Clone_owns xV 3 Mu b c D w0 h1).mono fun e w' ⟨he,k1,k2,k3⟩=>⟨_,he,⟨_,rfl,⟨D,k1,h2⟩,aC5 _⟩,AB.RG k3⟩)
theorem YA (b c:Nat) (f:Int→Option Value) (w0:World) (h:CB w0 b f c):AO prog 120 #[.map (some b)] w0 fun v w'=>(∃ mb,v = .map (some mb)∧CB w' mb f c∧w0.heap.size≤mb)∧AB [] w0 w':=by
 obtain ⟨D,h1,h2⟩:=h;exact ret_of_calls (by kernel_rfl) ((AnyW.maps_Clone_owns wY 3 Mu b c D w0 h1).mono fun e w' ⟨he,k1,k2,k3⟩=>⟨_,he,⟨_,rfl,⟨D,k1,h2⟩,aC5 _⟩,AB.RG k3⟩)
theorem cC (qb:Nat) (s:Qs) (F:List Nat) (w0:World) (h:DE w0 qb s F) :
 AO prog 119 #[.pointer (some ⟨qb,0,none⟩)] w0 fun v w'=>(∃ q' F',v = .pointer (some ⟨q',0,none⟩)∧DE w' q' s F'∧∀ k∈F',w0.heap.size≤k)∧AB [] w0 w':=by
 obtain ⟨tb,mb,Ft,rfl,h1,h2,h3,h4,h5⟩:=h;have hs:=(St.nil w0).AH h1 AA;refine AS func119 ntmps119 ?_;refine Jd ?_;refine dr [] hs ?_;intro hX w hs;refine tks 0 8 ?_;refine tks 9 4 ?_;refine tks 14 4 ?_;refine dt 8 hX ?_;have ho:=hs.AD [] (by simp [h1]) sD;refine cl (h:=by exact IB.cV tb s.t Ft _ (h3.only ho)) ?_;rintro v w1 ⟨⟨t',iW,rfl,k3,hF⟩,AL⟩;replace hs:=hs.AP AL;refine Jb ?_;have n1:=ho.size;refine dn ?_;refine dt 13 hX ?_;have AN:=hs.AD [] (by simp [h1]) sD;refine cl (h:=by exact Xy mb s.n _ _ (h2.keep AN AA)) ?_;rintro v w2 ⟨⟨m',rfl,k2,hm⟩,AU⟩;replace hs:=hs.AP AU;have n2:=AN.size;have l3:=k3.lt;have BF:=hs.AD [] (by simp [h1]) sD;have kq:=hs.get At.head;have n3:=BF.size;have n4:=AU.size;clear hs;have hs:=(St.nil w2).AH kq AA;refine Jn ?_;refine tk 18 hX ?_;refine dt 19 hX ?_
 repeat' (first|refine Nx.h ?_|(refine bx hs ?_;intro b w hz hs)|fail)
 have n5:=hs.new _ (aCw) rfl;simp only at n5;refine dn ?_;refine tk 20 hX ?_;refine en ?_;refine Jb ?_;refine AG ?_;have Ar:=hs.AD [] (by simp [kq]) sD
 exact ⟨⟨_,_,rfl,⟨t',m',iW,rfl,hs.get At.head,k2.keep Ar AA,(k3.only AU).only Ar,h4,h5⟩,fun k hk=>by
  simp only [aCu] at hk;rcases hk with rfl | rfl | hk
  ·omega
  ·omega
  ·have:=hF k hk;omega⟩,BF.step Ar AA⟩
theorem sclone_ret (sb:Nat) (s:Ss) (F:List Nat) (w0:World) (h:DC w0 sb s F) :
 AO prog 80 #[.pointer (some ⟨sb,0,none⟩)] w0 fun v w'=>(∃ s' F',v = .pointer (some ⟨s',0,none⟩)∧DC w' s' s F'∧∀ k∈F',w0.heap.size≤k)∧AB [] w0 w':=by
 obtain ⟨qb,mb,Fq,rfl,h1,h2,h3,h4,h5⟩:=h;have hs:=(St.nil w0).AH h1 AA;refine AS func80 ntmps80 ?_;refine Jd ?_;refine dr [] hs ?_;intro hX w hs;refine tks 0 4 ?_;refine tks 5 4 ?_;refine dt 4 hX ?_;have ho:=hs.AD [] (by simp [h1]) sD;refine cl (h:=by exact cC qb s.q Fq _ (h3.only ho)) ?_;rintro v w1 ⟨⟨q',Fq',rfl,k3,hF⟩,AL⟩;replace hs:=hs.AP AL;refine Jb ?_;have n1:=ho.size;refine dn ?_;refine dt 9 hX ?_;have AN:=hs.AD [] (by simp [h1]) sD;refine cl (h:=by exact YA mb s.l.length _ _ (h2.keep AN AA)) ?_;rintro v w2 ⟨⟨m',rfl,k2,hm⟩,AU⟩;replace hs:=hs.AP AU;have n2:=AN.size;have l3:=k3.lt;have BF:=hs.AD [] (by simp [h1]) sD;have kq:=hs.get At.head;have n3:=BF.size;have n4:=AU.size;clear hs;have hs:=(St.nil w2).AH kq AA;refine Jn ?_;refine tk 10 hX ?_;refine dt 11 hX ?_
 repeat' (first|refine Nx.h ?_|(refine bx hs ?_;intro b w hz hs)|fail)
 have n5:=hs.new _ (aCw) rfl;simp only at n5;refine dn ?_;refine tk 12 hX ?_;refine en ?_;refine Jb ?_;refine AG ?_;have Ar:=hs.AD [] (by simp [kq]) sD
 exact ⟨⟨_,_,rfl,⟨q',m',Fq',rfl,hs.get At.head,k2.keep Ar AA,(k3.only AU).only Ar,fun hm'=>by have:=l3 _ hm';omega,h5⟩,fun k hk=>by
  simp only [aCu] at hk;rcases hk with rfl | rfl | hk
  ·omega
  ·omega
  ·have:=hF k hk;omega⟩,BF.step Ar AA⟩
end Go.Proofs.Q0
namespace Go.Proofs.Q0
open Go Go.RowKit Tryz
open IB (IT DF Bi)
attribute [local irreducible] XS XC XA AY AR A9 A1 A0 Aa Ae AW SE
def Cn (w:World) (sb:Nat) (A:As) (F:List Nat):Prop:=∃ s,DC w sb s F∧BN s A
theorem Cn.Ai {w w':World} {sb:Nat} {A:As} {F G:List Nat} (h:Cn w sb A F) (ho:AB G w w') (hd:∀ k∈F,k∉G):Cn w' sb A F:=by obtain ⟨s,h1,h2⟩:=h;exact ⟨s,h1.Ai ho hd,h2⟩
theorem Cn.only {w w':World} {sb:Nat} {A:As} {F:List Nat} (h:Cn w sb A F) (ho:AB [] w w'):Cn w' sb A F:=h.Ai ho AA
theorem Cn.lt {w:World} {sb:Nat} {A:As} {F:List Nat} (h:Cn w sb A F):∀ k∈F,k < w.heap.size:=by obtain ⟨s,h1,h2⟩:=h;exact h1.lt
theorem Cn.not {w:World} {sb:Nat} {A:As} {F:List Nat} (h:Cn w sb A F) {b:Nat} {cs:Array Value} {ty:Nat} {fz:Nat × Nat} (hb:w.heap[b]?=some (.cells cs ty fz)) (ho:Vv (.cells cs ty fz)=true):b∉F:=by obtain ⟨s,h1,h2⟩:=h;exact h1.not hb ho
def K6 (w:World) (qb:Nat) (A:As):Prop:=∃ s F,DE w qb s.q F∧BN s A
theorem K6.only {w w':World} {qb:Nat} {A:As} (h:K6 w qb A) (ho:AB [] w w'):K6 w' qb A:=by obtain ⟨s,F,h1,h2⟩:=h;exact ⟨s,F,h1.only ho,h2⟩
theorem Cn.FA {w:World} {sb:Nat} {A:As} {F:List Nat} (h:Cn w sb A F):∃ qb mb,w.heap[sb]?=some (Wn qb mb)∧K6 w qb A:=by
 obtain ⟨s,⟨qb,mb,Fq,rfl,h1,h2,h3,h4⟩,hr⟩:=h;exact ⟨qb,mb,h1,s,Fq,h3,hr⟩
theorem Cn.rep {w:World} {sb:Nat} {A:As} {F:List Nat} (h:Cn w sb A F):∃ s,BN s A:=by obtain ⟨s,h1,h2⟩:=h;exact ⟨s,h2⟩
theorem BN.small {s:Ss} {A:As} (h:BN s A):s.l.length < 1000000∧s.q.t.list.length+1≤1000000∧s.q.n < 1000000∧A.l.length≤1000000:=by
 have:=h.le;have:=h.len;have:=h.q.n;rw [h.l];omega
def Left (w0:World) (sb:Nat) (A:As) (F:List Nat) (w':World):Prop:=∃ F',Cn w' sb A F'∧(∀ k∈F',k∈F∨w0.heap.size≤k)∧AB F w0 w'
theorem nZ (c:Int) (hc:BY c) (w0:World):AO prog 63 #[.int .u64 c] w0 fun v w'=>(∃ sb F,v = .pointer (some ⟨sb,0,none⟩)∧Cn w' sb ⟨[],c⟩ F∧∀ k∈F,w0.heap.size≤k)∧AB [] w0 w' :=
 (snew_ret c hc w0).mono fun v w' ⟨⟨sb,F,h1,h2,h3⟩,ho⟩=>⟨⟨sb,F,h1,⟨_,h2,BN.new c⟩,h3⟩,ho⟩
theorem dV (sb:Nat) (A:As) (F:List Nat) (r:RT) (w0:World) (h:Cn w0 sb A F):AO prog 132 #[.pointer (some ⟨sb,0,none⟩),rv r.1] w0 fun v w'=>v = .int .i64 (FT A r)∧Left w0 sb (Gj A r) F w':=by
 obtain ⟨s,h1,h2⟩:=h;obtain ⟨k1,k2⟩:=h2.enter r;rw [← k1];exact (enter_ret sb s F r w0 h1 h2.small.1 h2.small.2.1 h2.small.2.2.1).mono fun v w' ⟨e,F',a,b⟩=>⟨e,F',⟨_,a,k2⟩,b⟩
theorem RK (sb:Nat) (A:As) (F:List Nat) (r:RT) (w0:World) (h:Cn w0 sb A F):AO prog 115 #[.pointer (some ⟨sb,0,none⟩),rv r.1] w0 fun v w'=>v = .int .i64 (Dz A r)∧Left w0 sb (GR A r) F w':=by
 obtain ⟨s,h1,h2⟩:=h;obtain ⟨k1,k2,k3⟩:=h2.put r;rw [← k1];exact (sput_ret sb s F r w0 h1 h2.small.1 h2.small.2.1 h2.small.2.2.1 k3).mono fun v w' ⟨e,F',a,b⟩=>⟨e,F',⟨_,a,k2⟩,b⟩
theorem J7 (sb:Nat) (A:As) (F:List Nat) (id:Int) (w0:World) (h:Cn w0 sb A F) (hid:In64 id):AO prog 102 #[.pointer (some ⟨sb,0,none⟩),.int .i64 id] w0 fun v w'=>v = .tuple #[rv (DI A.l id),.bool (Al A.l id).isSome]∧AB [] w0 w':=by
 obtain ⟨s,h1,h2⟩:=h;rw [← h2.l];exact tX sb s F id w0 h1 hid
theorem gB (sb:Nat) (s:Ss) (F:List Nat) (id:Int) (w0:World) (h:DC w0 sb s F) (hid:In64 id) (hlen:s.q.t.list.length≤1000000) (hf:s.q.f id=none) :
 AO prog 139 #[.pointer (some ⟨sb,0,none⟩),.int .i64 id] w0 fun v w'=>v = .tuple #[rv .zero,.int .i64 14]∧∃ F',DC w' sb s F'∧(∀ k∈F',k∈F∨w0.heap.size≤k)∧AB F w0 w':=by
 have hS:=h;obtain ⟨qb,mb,Fq,rfl,h1,h2,h3,h4,h5⟩:=h;have hs:=(St.nil w0).AH h1 AA;have hlt:=hS.lt;refine AS func139 ntmps139 ?_;refine Ah ?_;refine Aq ?_;refine al hs ?_;intro b4 w hz hs;have g4:=hs.new (b4,true) AA rfl;simp only at g4;refine Jd ?_;have ho:=hs.AD [] (by simp [h1]) sD;have hsz:=ho.size;have l4:=lt_of_block (hs.get At.head);refine cl (h:=by exact SZ qb s.q Fq id _ (h3.only ho) hid hlen (fun a' e=>by rw [hf] at e;cases e)) (k:=?_);rw [show KZ s.q id=s.q by unfold KZ;rw [hf],hf];rintro v w1 ⟨rfl,F',hQ,C0,AL⟩
 have hno:∀ k∈Fq,k∉[b4,sb]:=fun k hk hm=>by
  have hl:=hlt k (by simp [hk]);simp only [aCu,aC1,or_false] at hm;rcases hm with rfl | rfl
  ·omega
  ·exact h3.not h1 (by decide) (by decide) (by decide) hk
 have UQ:mb∉F':=fun hm=>by
  have:=hlt mb AA;rcases C0 mb hm with h | h
  ·exact h4 h
  ·omega
 have D6:∀ k∈sb :: mb :: F',k∈sb :: mb :: Fq∨w0.heap.size≤k:=fun k hk=>by
  simp only [aCu] at hk ⊢;rcases hk with rfl | rfl | hk
  ·simp
  ·simp
  ·rcases C0 k hk with h | h
   ·simp [h]
   ·exact .inr om
 have hM1:=(h2.keep ho AA).keep AL h4;have k4:=AL.block (hs.get At.head) (fun hm=>hno _ hm AA);have k6:=AL.block (hs.get (At.tail At.head)) (fun hm=>hno _ hm AA);have Nu:b4≠sb:=by have:=hlt sb AA;omega
 have BF:AB (sb :: mb :: Fq) w0 w1:=(ho.weaken AA).step AL (fun k hk => .inl (by simp [hk]));clear hs;have hs:=((St.nil w1).AH k6 AA).AH k4 (by simpa using Nu)
 repeat' (first|refine Sc ?_|(refine AV hs ?_;intro w hs)|(refine al hs ?_;intro b w hz hs)|fail)
 refine AG ?_;have EM:=hs.AD [b4] (by simp [k6]) sD
 have hs4:b4∉F':=fun hm=>by
  rcases C0 b4 hm with h | h
  ·exact hno b4 h AA
  ·omega
 exact ⟨rfl,_,⟨qb,mb,F',rfl,hs.get (At.tail (At.tail At.head)),hM1.keep EM (by simp;have:=hlt mb AA;omega),hQ.Ai EM (fun k hk hm=>by obtain rfl:=List.mem_singleton.1 hm;exact hs4 hk),UQ,h5⟩,D6,BF.step EM (fun k hk => .inr (by obtain rfl:=List.mem_singleton.1 hk;exact g4))⟩
theorem lR (sb:Nat) (A:As) (F:List Nat) (id:Int) (w0:World) (h:Cn w0 sb A F) (hid:In64 id):AO prog 139 #[.pointer (some ⟨sb,0,none⟩),.int .i64 id] w0 fun v w'=>v = .tuple #[rv (DI A.l id),.int .i64 (O0 (Al A.l id).isSome)]∧Left w0 sb (Fl A id) F w':=by
 obtain ⟨s,h1,h2⟩:=h;cases e:Al A.l id with
 | some a =>
   obtain ⟨k1,k2,k3⟩:=h2.exit e;have:=WU sb s F id w0 h1 hid (by have:=h2.small;omega) (BZ a) k1 k2;rw [h2.l] at this;exact this.mono fun v w' ⟨e',F',a,b⟩=>⟨e',F',⟨_,a,k3⟩,b⟩
 | none =>
   have:=gB sb s F id w0 h1 hid (by have:=h2.small;omega) (by rw [h2.f,e];rfl);refine this.mono fun v w' ⟨e',F',a,b⟩=>⟨?_,F',⟨_,a,?_⟩,b⟩
   ·rw [e'];unfold DI;rw [e];rfl
   ·unfold Fl;rw [e];exact h2
theorem SY (sb:Nat) (A:As) (F:List Nat) (id:Int) (b:Bool) (w0:World) (h:Cn w0 sb A F) (hid:In64 id):AO prog 105 #[.pointer (some ⟨sb,0,none⟩),.int .i64 id,.bool b] w0 fun v w'=>v = .int .i64 (O0 (Al A.l id).isSome)∧Left w0 sb (Gl A id b) F w':=by
 obtain ⟨s,h1,h2⟩:=h;have:=UG sb s F id b w0 h1 hid h2.small.1;unfold Sr at this;rw [h2.l] at this;exact this.mono fun v w' ⟨e,a,c⟩=>⟨e,F,⟨_,a,h2.Zx id b⟩,fun k hk => .inl hk,c⟩
theorem aC (sb:Nat) (A:As) (F:List Nat) (w0:World) (h:Cn w0 sb A F):AO prog 80 #[.pointer (some ⟨sb,0,none⟩)] w0 fun v w'=>(∃ s' F',v = .pointer (some ⟨s',0,none⟩)∧Cn w' s' A F'∧∀ k∈F',w0.heap.size≤k)∧AB [] w0 w':=by
 obtain ⟨s,h1,h2⟩:=h;exact (sclone_ret sb s F w0 h1).mono fun v w' ⟨⟨s',F',e,a,b⟩,ho⟩=>⟨⟨s',F',e,⟨s,a,h2⟩,b⟩,ho⟩
theorem jG (qb:Nat) (A:As) (id:Int) (w0:World) (h:K6 w0 qb A) (hid:In64 id):AO prog 104 #[.pointer (some ⟨qb,0,none⟩),.int .i64 id] w0 fun v w'=>v = .tuple #[.int .i64 (Dm A id),.int .i64 (O0 (Al A.l id).isSome)]∧AB [] w0 w':=by
 obtain ⟨s,F,h1,h2⟩:=h;rw [← h2.MR,← h2.fs];exact Lu qb s.q F id w0 h1 hid
theorem mM (qb:Nat) (A:As) (id:Int) (w0:World) (h:K6 w0 qb A) (hid:In64 id):AO prog 48 #[.pointer (some ⟨qb,0,none⟩),.int .i64 id] w0 fun v w'=>v = .tuple #[wv (C2 A id),.int .i64 (O0 (Al A.l id).isSome)]∧AB [] w0 w':=by
 obtain ⟨s,F,h1,h2⟩:=h;rw [← h2.lag,← h2.fs];exact Vo qb s.q F id w0 h1 hid
theorem oQ (qb:Nat) (A:As) (w0:World) (h:K6 w0 qb A):AO prog 20 #[.pointer (some ⟨qb,0,none⟩)] w0 fun v w'=>v = .int .u64 (L2 A)∧AB [] w0 w':=by
 obtain ⟨s,F,h1,h2⟩:=h;rw [← h2.now];exact Nc qb s.q F w0 h1
theorem pZ (qb:Nat) (A:As) (w0:World) (h:K6 w0 qb A):AO prog 44 #[.pointer (some ⟨qb,0,none⟩)] w0 fun v w'=>v = .int .i64 (A.l.length:Nat)∧AB [] w0 w':=by
 obtain ⟨s,F,h1,h2⟩:=h;rw [← h2.len];exact L1 qb s.q F w0 h1
def Ta (A:As) (m:Mn):Prop:=if A.l=[] then m.a=0∧m.w=0∧m.n=0 else m=mA A
theorem BN.uO {s:Ss} {A:As} (h:BN s A):Ta A s.q.m:=by
 unfold Ta;by_cases e:A.l=[]
 ·rw [if_pos e];exact h.q.nil (h.nil.2 e)
 ·rw [if_neg e];exact h.Gk e
def K4 (A:As):Int:=T2 (H6 (DR A).2)
theorem YY (sb:Nat) (A:As) (F:List Nat) (w0:World) (h:Cn w0 sb A F) :
 AO prog 172 #[.pointer (some ⟨sb,0,none⟩)] w0 fun v w'=>∃ sl,v = .tuple #[sl,.int .i64 (K4 A)]∧(∃ G,B6 w' 170 13 sl (DR A).1.length (HW (DR A).1) G∧∀ k∈G,w0.heap.size≤k)∧Left w0 sb (DR A).2 F w':=by
 obtain ⟨s,h1,h2⟩:=h;obtain ⟨s',k1,k2⟩:=h2.flush
 have hl:∀ n B,(Cr n B).1.length≤n:=fun n=>by
  induction n with
  | zero=>intro B;exact aC5 _
  | succ n ih =>
    intro B;unfold Cr;cases B.l.find? (GJ B) with
    | none=>exact aC7 _
    | some a=>simp only [aCx];have:=ih (Fl B (BB a));omega
 have:=h2.small;have hle:=hl A.l.length A;unfold K4;rw [← k2.Mx];exact (settle_ret sb s s' (DR A).1 F w0 h1 om om (by show (Cr _ _).1.length≤_;omega) k1).mono fun v w' ⟨sl,e,a,F',b,c⟩=>⟨sl,e,a,F',⟨_,b,k2⟩,c⟩
end Go.Proofs.Q0
namespace Go.Proofs.Q0
open Go Go.RowKit Tryz
section
variable {P : Program} {ops : Array Oper} {QE : Exit → Env → World → Prop} {n : Nat} {rest : List Oper} {env : Env} {w : World} {T : MC}
 {d:Option Nat} {ty:Nat} {pos:String} {Am:Array Edge} {g:Option (Nat × Bool)}
theorem VM {t e:Nat} (ht:P.underlying t=some (.slice e)) {i:TypeInfo} (hi:P.info? e=some i) {size:Nat} {v y:Value} {k:Nat} {xs ys:List Value} {G Gy:List Nat} (hO:B6 w e size v k xs G) (hY:B6 w e size y 0 ys Gy):(Builtin.append_ #[t,t] ty #[v,y]).run P w = .ok v w:=by
 rcases hY with ⟨rfl,-⟩ | ⟨b,c,cur,rfl,-⟩ <;> rcases hO with ⟨rfl,-⟩ | ⟨b',c',cur',rfl,-,hn,-⟩
 ·simp [Builtin.append_,run_underlying ht,sizeOf,typeInfo,hi,Builtin.lenOf,Builtin.firstCells]
 ·simp [Builtin.append_,run_underlying ht,sizeOf,typeInfo,hi,Builtin.lenOf,Builtin.firstCells,hn,storeCells]
 ·simp [Builtin.append_,run_underlying ht,sizeOf,typeInfo,hi,Builtin.lenOf,Builtin.firstCells,loadCells,loadCellsFrom,Result.andThen]
 ·simp [Builtin.append_,run_underlying ht,sizeOf,typeInfo,hi,Builtin.lenOf,Builtin.firstCells,loadCells,loadCellsFrom,Result.andThen,hn,storeCells]
theorem SX (hT:Be P T) {t e size bytes:Nat} {zs:List Value} {x y:Operand} {v u:Value} {k c:Nat} {xs ys:List Value} {G Gy:List Nat} (hw:Ax ops env g=true) (Co:look t T.sls=some (e,size,bytes)) (hz:look e T.zs=some zs) (hzl:Nat.beq zs.length size=true)
 (hx:ev env x=v) (hy:ev env y=u) (h1:∀ u∈ys,u.oneCell'=true) (hO:B6 w e size v k xs G) (hY:B6 w e size u c ys Gy)
 (hk:(k+c)*bytes≤140737488355328) (hk':k+c≤9223372036854775807) (kk:∀ v' w',(∃ G',B6 w' e size v' (k+c) (xs ++ ys) G'∧∀ i∈G',i∈G∨w.heap.size≤i)→AB G w w'→XS P ops QE n rest (Bf env d v') w') :
 XS P ops QE n (⟨d,.call { callee := .builtin .append,args:=#[x,y],argTypes:=#[t,t] },ty,pos,Am,g⟩ :: rest) env w:=by
 by_cases h0:c=0
 ·subst h0;obtain ⟨hu,i,hi,hs1,hs2⟩:=GL (hT.sl Co);have hr:=VM (ty:=ty) hu hi hO hY
  have e:ys=[]:=by
   rcases hY with ⟨_,_,h,_⟩ | ⟨_,_,_,_,_,_,_,h,_⟩
   ·exact h
   ·exact aDp (by rw [h,Nat.zero_mul])
  refine XS.value hw (v:=v) (w':=w) ?_ (kk v w ⟨G,by rw [e,aDP];exact hO,fun i hi => .inl hi⟩ (AB.refl _ _));simp [execOp,resolve,aCz,invoke,builtin,hx,hy,hr]
 ·rcases hY with ⟨_,h,_⟩ | ⟨b,cap,cur,rfl,hG,hc,U0,hl,ht,hb⟩
  ·exact absurd h h0
  ·refine CF (c:=c) (m:=cap) (a:=⟨b,0,none⟩) hT hw Co hz hzl hx hy hl om (fun j u hj=>?_) h1 hO hk hk' kk
   have:cur[j]?=some u:=by
    rw [← ht,aDz] at hj;split at hj
    ·exact hj
    ·cases hj
   exact lit_cells hb j u this
end
end Go.Proofs.Q0
namespace Go.Proofs.Q0
open Go Go.RowKit Tryz
attribute [local irreducible] XS XC XA AY AR A9 A1 A0 Aa Ae AW SE
def JV (r:Rq) (p:Pt):Option Rq:=bif r.right then CM ⟨⟨p,r.i.id,r.i.d⟩,r.left,r.slice,r.asleep⟩ else none
def Dh (r:Rq) (n:Int):Option Rq:=bif r.right then CM ⟨r.i,r.left,n,r.asleep⟩ else none
theorem SQ (r:Rq) (p:Pt) (hr:r.In) (hp':p.In) (w0:World):AO prog 113 #[rv r,pv p] w0 fun v w'=>v=iM (JV r p)∧AB [] w0 w':=by
 have hs:=St.nil w0;refine AS func113 ntmps113 ?_
 repeat' (first|refine Sa ?_|(refine al hs ?_;intro b w hz hs)|(refine bx hs ?_;intro b w hz hs)|fail)
 refine cl (h:=by exact JF r hr _) ?_;unfold JV;generalize hq:r.right=q;cases q
 ·rintro v w' ⟨rfl,ho⟩;replace hs:=hs.AP ho;repeat' (first|refine Sc ?_|(refine AV hs ?_;intro w hs)|fail)
  refine AG ?_;exact ⟨rfl,hs.AE rfl⟩
 ·rintro v w' ⟨rfl,ho⟩;replace hs:=hs.AP ho;repeat' (first|refine Sd ?_|(refine AV hs ?_;intro w hs)|fail)
  refine AZ hs (h:=by exact Lj ⟨⟨p,r.i.id,r.i.d⟩,r.left,r.slice,r.asleep⟩ ⟨⟨hp',hr.1.2⟩,hr.2⟩ _) ?_;intro w' ho hs;repeat' (first|refine Sb ?_|(refine AV hs ?_;intro w hs)|fail)
  refine AG ?_;exact ⟨rfl,hs.AE rfl⟩
theorem Xr (r:Rq) (n:Int) (hr:r.In) (hn:BY n) (w0:World):AO prog 118 #[rv r,.int .u64 n] w0 fun v w'=>v=iM (Dh r n)∧AB [] w0 w':=by
 have hs:=St.nil w0;refine AS func118 ntmps118 ?_
 repeat' (first|refine Sa ?_|(refine al hs ?_;intro b w hz hs)|(refine bx hs ?_;intro b w hz hs)|fail)
 refine cl (h:=by exact JF r hr _) ?_;unfold Dh;generalize hq:r.right=q;cases q
 ·rintro v w' ⟨rfl,ho⟩;replace hs:=hs.AP ho;repeat' (first|refine Sc ?_|(refine AV hs ?_;intro w hs)|fail)
  refine AG ?_;exact ⟨rfl,hs.AE rfl⟩
 ·rintro v w' ⟨rfl,ho⟩;replace hs:=hs.AP ho;repeat' (first|refine Sd ?_|(refine st hs ?_;intro w hs)|fail)
  refine AZ hs (h:=by exact Lj ⟨r.i,r.left,n,r.asleep⟩ ⟨hr.1,hr.2.1,hn⟩ _) ?_;intro w' ho hs;repeat' (first|refine Sb ?_|(refine AV hs ?_;intro w hs)|fail)
  refine AG ?_;exact ⟨rfl,hs.AE rfl⟩
end Go.Proofs.Q0
