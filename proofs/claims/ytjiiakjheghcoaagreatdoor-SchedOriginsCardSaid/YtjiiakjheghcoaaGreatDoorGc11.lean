/- Proved: of two Origins all is answered alike -/
import Derived.Test.YtjiiakjheghcoaaGreatDoorGc10
import Derived.Test.YtjiiakjheghcoaaGreatDoorRows
import Derived.JoinedOf
import Derived.Test.YtjiiakjheghcoaaGreatDoorTie
import Derived.Lib.LaidTab
import Derived.Stop.LaidErr
import Derived.MakeChecks
import Derived.LaidMore
import Derived.LaidLaws
import Derived.Test.YtjiiakjheghcoaaGreatDoorCards
import Derived.SevenTiedAt
set_option linter.unusedVariables false
set_option linter.unusedSimpArgs false
set_option maxRecDepth 100000
set_option maxHeartbeats 64000000
set_option linter.unusedSectionVars false
namespace Go.Proofs.Q0
open Go Go.RowKit
attribute [local irreducible] XS XC XA AZ AP Aa A1 A0 A8 Ad AW SE
theorem mF (b2 hb:Nat) (s:Sy) (F:List Nat) (x:Tk) (core:Int) (w0:World) (h:Dv w0 hb ⟨s,[]⟩ F) (GK:In64 core) (B2:w0.heap[b2]?=some (.cells #[.int .i64 core] 3 (0,0))) (hx:CV s.cf.cores x) (hn:x.st≠0) :
 AO Tryz.prog 78 #[.pointer (some ⟨hb,0,none⟩),Jr x,.pointer (some ⟨b2,0,none⟩)] w0 fun v w'=>v = .int .i64 (CU ⟨s,[]⟩ x core).1∧KP w0 hb (CU ⟨s,[]⟩ x core).1 (CU ⟨s,[]⟩ x core).2 F w':=by
 have FX:=h
 have Wq:=h.lt
 have RX:Eh s:=by obtain ⟨_,_,_,_,_,_,_,_,_,hO⟩:=h.FB;exact hO.s.ok
 obtain ⟨sb,tb,rb,v,ve,L,G,Ge,eF,hO⟩:=h.FB
 have hs:=((St.nil w0).AE B2).AE hO.s.o |>.AE hO.h
 refine AR Tryz.func78 Tryz.ntmps78 (k:=?_)
 refine Ai ?_
 refine Ao ?_
 refine HP hs (k:=?_);clear hs;intro b4 w1 AK z1 hs
 have Zs:b4∉F:=fun hm=>by have:=Wq _ hm;omega
 refine Jc ?_
 refine IW [] hs (k:=?_);clear hs;intro hX w CP hs
 refine tks 0 8 ?_
 refine dt 8 hX (k:=?_)
 refine cl (h:=by exact MT s.cf core _) (k:=?_)
 rintro v2 w2 ⟨rfl,AM⟩
 replace hs:=hs.JR AM
 have BB:=(AK.trans CP).trans AM
 refine XS.nil ?_
 refine dn (k:=?_)
 refine tk 9 hX (k:=?_)
 refine en (k:=?_)
 have Vg:∀ w',AA [] w2 w'→(Ci s.cf core≠0∨core=x.core)→Value.int .i64 (Ci s.cf core) = .int .i64 (CU ⟨s,[]⟩ x core).1∧KP w0 hb (CU ⟨s,[]⟩ x core).1 (CU ⟨s,[]⟩ x core).2 F w':=fun w' ho hb'=>by
  rw [HD (s:=⟨s,[]⟩) hb']
  exact ⟨rfl,fun _=>⟨F,FX.only (BB.trans ho),fun k hk => .inl hk⟩,(BB.trans ho).weaken (by simp)⟩
 by_cases c0:Ci s.cf core≠0
 ·have ED:=fun w' ho=>Vg w' ho (.inl c0)
  clear Vg
  generalize Ci s.cf core=ee at *
  repeat' (first|refine Se ?_|((with_reducible apply B6);exact rfl;exact rfl;intro c hc;(fail_if_success have:true=c:=hc);(fail_if_success have:false=c:=hc);cases c)|refine Ax rfl (fun hc=>?_) fun hc=>?_|fail)
  ·exact absurd (by simpa using ‹(ee != 0)=false›) c0
  ·exact absurd (by simpa using ‹(ee != 0)=false›) c0
  ·refine AG ?_
   exact ED _ (hs.AB [] (fun e he => .inr (.inr (hs.hold e he))) (by simp [D0]))
 have gL:Ci s.cf core=0:=by
  rcases Classical.em (Ci s.cf core=0) with z | z
  ·exact z
  ·exact absurd z c0
 by_cases c1:core=x.core
 ·have ED:=fun w' ho=>Vg w' ho (.inr c1)
  clear Vg
  rw [gL] at ED ⊢
  subst c1
  repeat' (first|refine Sa ?_|refine Ax rfl (fun hc=>?_) fun hc=>?_|fail)
  ·refine AG ?_
   exact ED _ (hs.AB [] (fun e he => .inr (.inr (hs.hold e he))) (by simp [D0]))
  ·exact absurd hc (by simp)
 have c2:¬ (Ci s.cf core≠0∨core=x.core):=fun z=>z.elim c0 c1
 have eM:CU ⟨s,[]⟩ x core=Eo (if BK x=true then (BO ⟨s,[]⟩ x).2 else ⟨s,[]⟩) x core (if BK x=true then (BO ⟨s,[]⟩ x).1 else x.lag):=by
  rw [IJ (s:=⟨s,[]⟩) c2]
  split <;> rfl
 rw [eM,gL]
 clear Vg eM
 have Ju:0≤core∧core < s.cf.cores:=by
  unfold Ci at gL
  split at gL
  ·cases gL
  ·omega
 have hlv:=ok_leave (s:=⟨s,[]⟩) RX x
 have hU:Eh (if BK x=true then (BO ⟨s,[]⟩ x).2 else (⟨s,[]⟩:Ch)).s∧(if BK x=true then (BO ⟨s,[]⟩ x).2 else (⟨s,[]⟩:Ch)).s.cf=s.cf:=by
  split
  ·exact hlv
  ·exact ⟨RX,rfl⟩
 have hlg:In64 (if BK x=true then (BO ⟨s,[]⟩ x).1 else x.lag):=by
  split
  ·exact leave_in _ _
  ·exact hx.2.2.2.2.2.1
 have aBb:(if BK x=true then (BO ⟨s,[]⟩ x).2 else (⟨s,[]⟩:Ch)).ev.length≤1000000:=by
  split
  ·have hR:(Cd (Ab (AF s x.core) x.id).2).length≤64:=by
    have h1:(Cd (Ab (AF s x.core) x.id).2).length≤(Ab (AF s x.core) x.id).2.A.l.length:=N4 _ _
    obtain ⟨n,e,_,_,_,GH,_,_,hC,hce,_,_,_,_,hR,_⟩:=hO.place hx hn
    have h2:=VO (Fi hR x.id)
    have KL:AF s n=e.c:=hce
    rw [GH,KL];omega
   show (Ay _ x.core (BH _ _ .none)).ev.length≤_
   rw [MB]
   simp only [List.length_append,List.length_map,jT,List.length_nil]
   have:(BH (Ab (AF s x.core) x.id).1 (Ab (AF s x.core) x.id).2 .none).g.length≤64:=by
    unfold BH
    split
    ·show ([] ++ Cd (Ab (AF s x.core) x.id).2).length≤64
     rw [List.nil_append];exact hR
    ·exact Nat.zero_le _
   have h9:(BH (Ab (AF (Ch.s ⟨s,[]⟩) x.core) x.id).1 (Ab (AF (Ch.s ⟨s,[]⟩) x.core) x.id).2 .none).g.length≤64:=this
   omega
  ·exact Nat.zero_le _
 repeat' (first|refine Sa ?_|refine Ax rfl (fun hc=>?_) fun hc=>?_|fail)
 ·exact absurd hc (by simpa using c1)
 refine cl (h:=by exact Hp x _) (k:=?_)
 rintro v3 w3 ⟨rfl,AT⟩
 have Bn:=hs.AB [] (fun e he => .inr (.inr (hs.hold e he))) (by simp [D0])
 have Te:=(BB.trans Bn).trans AT
 have hs1:=hs.FH
 simp only [List.map_cons,List.map_nil] at hs1
 clear hs
 have hs:=hs1.JR AT
 clear hs1
 refine XS.nil ?_
 refine ET ?_
 have tM:=Te.size
 refine Bg (fun (_:List Nat)=>[(0,.pointer (some ⟨hb,0,none⟩)),(2,.pointer (some ⟨b2,0,none⟩)),(4,.pointer (some ⟨b4,0,none⟩))]) (fun F1 w=>w.heap[b2]?=some (.cells #[.int .i64 core] 3 (0,0))∧w.heap[b4]?=some (OA { x with lag:=if BK x=true then (BO ⟨s,[]⟩ x).1 else x.lag })∧Dv w hb (if BK x=true then (BO ⟨s,[]⟩ x).2 else (⟨s,[]⟩:Ch)) F1∧b4∉F1∧(∀ k∈F1,k∈F∨w0.heap.size≤k)∧AA F w0 w) ?_ ?_
 ·cases Zm:BK x with
  | false =>
    rw [if_neg (by simp),if_neg (by simp)]
    refine Jg ?_
    exact AQ F Ae ⟨hs.get (b:=b2) (by repeat (first | exact At.head | (with_reducible apply At.tail))),hs.get (b:=b4) (by repeat (first | exact At.head | (with_reducible apply At.tail))),FX.only Te,Zs,fun k hk => .inl hk,Te.weaken (by simp)⟩
  | true =>
    rw [if_pos rfl,if_pos rfl]
    refine Ji ?_
    refine cl (h:=by exact SH hb ⟨s,[]⟩ F x _ (FX.only Te) hx hn (by simp)) (k:=?_)
    rintro v4 w4 ⟨rfl,F3,WW,NI,Aw⟩
    have k2:=Aw.block (hs.get (b:=b2) (by repeat (first | exact At.head | (with_reducible apply At.tail)))) ((FX.only Te).not (hs.get (b:=b2) (by repeat (first | exact At.head | (with_reducible apply At.tail)))) rfl)
    have k4:=Aw.block (hs.get (b:=b4) (by repeat (first | exact At.head | (with_reducible apply At.tail)))) Zs
    have l4:=lt_of_block (hs.get (b:=b4) (by repeat (first | exact At.head | (with_reducible apply At.tail))))
    have n43:b4∉F3:=fun hm=>by
     rcases NI _ hm with q | q
     ·exact Zs q
     ·omega
    clear hs
    have hs:=((St.nil w4).AE k2).AE k4
    generalize (BO ⟨s,[]⟩ x).1=lg at *
    refine vs (k:=?_)
    refine kS hs (k:=?_);clear hs;intro w5 BY hs
    refine XS.nil ?_
    have Og:=WW.Ah BY (fun k hk hm=>by obtain rfl:=List.mem_singleton.1 hm;exact n43 hk)
    exact AQ F3 Ae ⟨hs.get (b:=b2) (by repeat (first | exact At.head | (with_reducible apply At.tail))),hs.get (b:=b4) (by repeat (first | exact At.head | (with_reducible apply At.tail))),Og,n43,fun k hk=>by
     rcases NI k hk with q | q
     ·exact .inl q
     ·exact .inr om,((Te.weaken (by simp)).step Aw (fun k hk => .inl hk)).step BY (fun k hk => .inr (by obtain rfl:=List.mem_singleton.1 hk;omega))⟩
 ·rintro F1 env Mz ⟨k2,k4,NR,n41,DE,Xr⟩
  generalize (if BK x=true then (BO ⟨s,[]⟩ x).2 else (⟨s,[]⟩:Ch))=U at *
  generalize (if BK x=true then (BO ⟨s,[]⟩ x).1 else x.lag)=lg at *
  clear hs hO
  obtain ⟨sb,tb,rb,v,ve,L,G,Ge,rfl,hO⟩:=NR.FB
  have GY:b4≠rb:=fun e=>n41 (by rw [e];simp [CJ])
  have zQ:=hU.2
  have hs:=(((St.nil Mz).AE k2).AE hO.s.o).AE hO.h |>.AE k4
  have Am:AA (b4 :: CJ hb sb tb rb L G Ge) Mz Mz:=(AA.refl [] Mz).weaken (by simp)
  have hH:=hs.hold
  have Ef:=hs.get At.head
  obtain ⟨xi,xt,xc,xw,Cm,xl⟩:=x
  have aT:∀ w',AA (b4 :: CJ hb sb tb rb L G Ge) Mz w'→AA F w0 w':=fun w' ho=>Xr.step ho (fun k hk=>by
   rcases List.mem_cons.1 hk with rfl | hk
   ·exact .inr om
   ·exact DE k hk)
  have aCN:=Xr.size
  have eE:∀ y:Tk,Dz ⟨xi,xt,xc,xw,Cm,xl⟩ core lg=y→Eo U ⟨xi,xt,xc,xw,Cm,xl⟩ core lg=if y.st=1 then E0 ⟨Bk U.s y,U.ev⟩ y y.lag else (0,⟨Bk U.s y,U.ev⟩):=fun y hy=>by subst hy;rfl
  have okr:∀ z:Int,0≤z∧z < 256→CV U.s.cf.cores { id:=xi,st:=z,core:=core,w:=xw,slice:=Cm,lag:=lg }:=fun z hz=>by
   rw [zQ]
   exact ⟨hx.1,hz,GK,hx.2.2.2.1,hx.2.2.2.2.1,hlg,fun _=>Ju⟩
  by_cases t1:xt=1
  ·subst t1
   rw [eE { id:=xi,st:=1,core:=core,w:=xw,slice:=Cm,lag:=lg } rfl,if_pos rfl]
   have hy:=okr 1 om
   repeat' (first|refine Sd ?_|(refine st hs (k:=?_);intro w hs)|fail)
   have AT:=hs.AB [b4] (fun e he=>by
    rcases List.mem_cons.1 he with rfl | he
    ·exact .inr (.inl (by simp))
    ·exact .inr (.inr (hH e (List.mem_cons_of_mem _ he)))) (by simp [D0])
   replace hs:=hs.FH
   simp only [List.map_cons,List.map_nil] at hs
   replace hO:=hO.FN AT Ef GY
   replace Am:=Am.step AT (fun k hk => .inl (by obtain rfl:=List.mem_singleton.1 hk;simp))
   clear hH Ef
   refine IW [] hs (k:=?_);clear hs;intro hX w CP hs
   replace hO:=hO.only CP
   replace Am:=Am.step CP (by simp)
   refine tks 0 8 ?_
   refine dt 8 hX (k:=?_)
   refine cl (h:=by exact Fv tb rb _ (({ id:=xi,st:=1,core:=core,w:=xw,slice:=Cm,lag:=lg }:Tk)) _ hO.s.t hy.1) (k:=?_)
   rintro v12 w12 ⟨rfl,GD,By⟩
   have I1:=hO.s.t
   obtain ⟨KS,IY,M9,Ex,_⟩:=I1
   replace hs:=hs.EC By (fun k hk=>by obtain rfl:=List.mem_singleton.1 hk;exact hs.I2 GY Ex)
   replace hO:=hO.JW GD By (hO.s.ok.Bu hy)
   replace Am:=Am.step By (fun k hk => .inl (by obtain rfl:=List.mem_singleton.1 hk;simp [CJ]))
   refine XS.nil ?_
   refine dn (k:=?_)
   refine en (k:=?_)
   refine Je ?_
   refine cl (h:=by exact PZ hb ⟨Bk U.s { id:=xi,st:=1,core:=core,w:=xw,slice:=Cm,lag:=lg },U.ev⟩ _ { id:=xi,st:=1,core:=core,w:=xw,slice:=Cm,lag:=lg } lg _ hO.at hy (by decide:(1:Int)≠0) hlg aBb) (k:=?_)
   rintro v25 w25 ⟨rfl,pS,KE⟩
   have aBk:=Am.size
   replace Am:=Am.step KE (fun k hk => .inl (by simp [hk]))
   clear hs
   have hs:=St.nil w25
   refine Jc ?_
   refine AG ?_
   have DH:=hs.AD rfl
   refine ⟨rfl,fun e0=>?_,aT _ (Am.step DH (by simp))⟩
   obtain ⟨F',h1,h2⟩:=pS e0
   exact ⟨F',h1.only DH,fun k hk=>by
    rcases h2 k hk with q | q
    ·exact DE k q
    ·exact .inr om⟩
  by_cases t2:xt=2
  ·subst t2
   rw [eE { id:=xi,st:=3,core:=core,w:=xw,slice:=Cm,lag:=lg } rfl,if_neg (by decide:¬ (3:Int)=1)]
   have hy:=okr 3 om
   repeat' (first|refine Sc ?_|(refine st hs (k:=?_);intro w hs)|fail)
   have AT:=hs.AB [b4] (fun e he=>by
    rcases List.mem_cons.1 he with rfl | he
    ·exact .inr (.inl (by simp))
    ·exact .inr (.inr (hH e (List.mem_cons_of_mem _ he)))) (by simp [D0])
   replace hs:=hs.FH
   simp only [List.map_cons,List.map_nil] at hs
   replace hO:=hO.FN AT Ef GY
   replace Am:=Am.step AT (fun k hk => .inl (by obtain rfl:=List.mem_singleton.1 hk;simp))
   clear hH Ef
   refine IW [] hs (k:=?_);clear hs;intro hX w CP hs
   replace hO:=hO.only CP
   replace Am:=Am.step CP (by simp)
   refine tks 0 8 ?_
   refine dt 8 hX (k:=?_)
   refine cl (h:=by exact Fv tb rb _ (({ id:=xi,st:=3,core:=core,w:=xw,slice:=Cm,lag:=lg }:Tk)) _ hO.s.t hy.1) (k:=?_)
   rintro v12 w12 ⟨rfl,GD,By⟩
   have I1:=hO.s.t
   obtain ⟨KS,IY,M9,Ex,_⟩:=I1
   replace hs:=hs.EC By (fun k hk=>by obtain rfl:=List.mem_singleton.1 hk;exact hs.I2 GY Ex)
   replace hO:=hO.JW GD By (hO.s.ok.Bu hy)
   replace Am:=Am.step By (fun k hk => .inl (by obtain rfl:=List.mem_singleton.1 hk;simp [CJ]))
   refine XS.nil ?_
   refine dn (k:=?_)
   refine en (k:=?_)
   refine Jd ?_
   refine AG ?_
   have DH:=hs.AB [] (fun e he => .inr (.inr (hs.hold e he))) (by simp [D0])
   exact ⟨rfl,fun _=>⟨_,(hO.only DH).at,DE⟩,aT _ (Am.step DH (by simp))⟩
  ·have ey:Dz ⟨xi,xt,xc,xw,Cm,xl⟩ core lg={ id:=xi,st:=xt,core:=core,w:=xw,slice:=Cm,lag:=lg }:=by
    show ({ id:=xi,st:=if xt=2 then 3 else xt,core:=core,w:=xw,slice:=Cm,lag:=lg }:Tk)=_
    rw [if_neg t2]
   rw [eE _ ey,if_neg t1]
   have hy:=okr xt hx.2.1
   repeat' (first|refine Sa ?_|(refine st hs (k:=?_);intro w hs)|refine Ax rfl (fun hc=>?_) fun hc=>?_|fail)
   ·exact absurd (by simpa using hc) t2
   have AT:=hs.AB [b4] (fun e he=>by
    rcases List.mem_cons.1 he with rfl | he
    ·exact .inr (.inl (by simp))
    ·exact .inr (.inr (hH e (List.mem_cons_of_mem _ he)))) (by simp [D0])
   replace hs:=hs.FH
   simp only [List.map_cons,List.map_nil] at hs
   replace hO:=hO.FN AT Ef GY
   replace Am:=Am.step AT (fun k hk => .inl (by obtain rfl:=List.mem_singleton.1 hk;simp))
   clear hH Ef
   refine IW [] hs (k:=?_);clear hs;intro hX w CP hs
   replace hO:=hO.only CP
   replace Am:=Am.step CP (by simp)
   refine tks 0 8 ?_
   refine dt 8 hX (k:=?_)
   refine cl (h:=by exact Fv tb rb _ (({ id:=xi,st:=xt,core:=core,w:=xw,slice:=Cm,lag:=lg }:Tk)) _ hO.s.t hy.1) (k:=?_)
   rintro v12 w12 ⟨rfl,GD,By⟩
   have I1:=hO.s.t
   obtain ⟨KS,IY,M9,Ex,_⟩:=I1
   replace hs:=hs.EC By (fun k hk=>by obtain rfl:=List.mem_singleton.1 hk;exact hs.I2 GY Ex)
   replace hO:=hO.JW GD By (hO.s.ok.Bu hy)
   replace Am:=Am.step By (fun k hk => .inl (by obtain rfl:=List.mem_singleton.1 hk;simp [CJ]))
   refine XS.nil ?_
   refine dn (k:=?_)
   refine en (k:=?_)
   repeat' (first|refine Sa ?_|refine Ax rfl (fun hc=>?_) fun hc=>?_|fail)
   ·exact absurd (by simpa using hc) t1
   refine AG ?_
   have DH:=hs.AB [] (fun e he => .inr (.inr (hs.hold e he))) (by simp [D0])
   exact ⟨rfl,fun _=>⟨_,(hO.only DH).at,DE⟩,aT _ (Am.step DH (by simp))⟩
abbrev Wy (x:Int):Obj := .cells #[.int .i64 x] 3 (0,0)
theorem wH {l:List Tk} (h:l.length≤32) (x:Tk):In64 (E5 l x):=by
 unfold E5
 cases Bd x with
 | false=>exact (by decide:In64 0)
 | true =>
   cases e:Ds l with
   | none=>exact (by decide:In64 0)
   | some i =>
     have:=LZ e
     show In64 ((i:Int)+1)
     unfold In64;omega
theorem Y8 (b1 b2 b3 b4 hb:Nat) (s:Sy) (core q ns:Int) (wb w0:World) (GK:In64 core) (hq:BL q) (Du:BL ns) (hw0:AA [] wb w0) (n14:b1≠b4) (n23:b2≠b3)
 (B1w:wb.heap[b1]?=some (Wy core)) (B2w:wb.heap[b2]?=some (.cells #[.int .u64 q] 22 (0,0))) (B3w:wb.heap[b3]?=some (.cells #[.int .u64 ns] 22 (0,0))) (B4w:wb.heap[b4]?=some (Wy 0)) :
 uO wb w0 51 [.pointer (some ⟨b1,0,none⟩),.pointer (some ⟨b2,0,none⟩),.pointer (some ⟨b3,0,none⟩),.pointer (some ⟨b4,0,none⟩)] [b4] (fun w=>w.heap[b4]?=some (Wy (B8 ⟨s,[]⟩ core q ns).2.1)) s ((B8 ⟨s,[]⟩ core q ns).1,(B8 ⟨s,[]⟩ core q ns).2.2):=by
 intro hb F h hF
 have B1:=hw0.block B1w (by simp)
 have B2:=hw0.block B2w (by simp)
 have B3:=hw0.block B3w (by simp)
 have B4:=hw0.block B4w (by simp)
 have l4:=lt_of_block B4w
 have zw:=hw0.size
 have FX:=h
 have Wq:=h.lt
 have RX:Eh s:=by obtain ⟨_,_,_,_,_,_,_,_,_,hO⟩:=h.FB;exact hO.s.ok
 obtain ⟨sb,tb,rb,v,ve,L,G,Ge,eF,hO⟩:=h.FB
 have aD:=hO.s.t.Rr.2
 have Zs:b4∉F:=fun hm=>by have:=hF _ hm;omega
 have hh:=hO.h
 have os:=hO.s.o
 have hs:=((((St.nil w0).AE B1).AE B2).AH B3 (by
  have:=A3 B3 B1 (by decide)
  simp;exact ⟨Ne.symm n23,this⟩)).AE os |>.AE hh
 refine AR Tryz.func51 Tryz.ntmps51 (k:=?_)
 refine Ja ?_
 refine IW [] hs (k:=?_);clear hs;intro hX w CP hs
 refine tks 0 8 ?_
 refine tks 9 8 ?_
 refine tks 18 8 ?_
 refine dt 8 hX (k:=?_)
 refine cl (h:=by exact MT s.cf core _) (k:=?_)
 rintro v2 w2 ⟨rfl,AM⟩
 replace hs:=hs.JR AM
 refine XS.nil ?_
 refine dn (k:=?_)
 refine dt 17 hX (k:=?_)
 refine cl (h:=by exact Om s.cf q _) (k:=?_)
 rintro v3 w3 ⟨rfl,AT⟩
 replace hs:=hs.JR AT
 refine XS.nil ?_
 refine dn (k:=?_)
 refine dt 26 hX (k:=?_)
 refine cl (h:=by exact PR s.cf ns _) (k:=?_)
 rintro v4 w4 ⟨rfl,Aw⟩
 replace hs:=hs.JR Aw
 refine XS.nil ?_
 refine dn (k:=?_)
 refine dt 27 hX (k:=?_)
 refine bs1 hs (k:=?_);clear hs;intro b27 w5 BY z5 hs
 refine XS.nil ?_
 refine dn (k:=?_)
 refine dt 28 hX (k:=?_)
 refine cl (h:=by exact ZZ [Ci s.cf core,Ar q 1048576,Ar ns (DO s.cf.slice)] _ (by simp) _ (lit_ls (n:=3) (hs.get At.head) rfl (fun x hx=>by obtain ⟨e,_,rfl⟩:=List.mem_map.1 hx;rfl) rfl).x) (k:=?_)
 rintro v6 w6 ⟨rfl,Aq⟩
 replace hs:=hs.JR Aq
 refine XS.nil ?_
 refine dn (k:=?_)
 refine tk 29 hX (k:=?_)
 refine en (k:=?_)
 have BB:=((((CP.trans AM).trans AT).trans Aw).trans BY).trans Aq
 have zA:=BB.size
 rw [show GR [Ci s.cf core,Ar q 1048576,Ar ns (DO s.cf.slice)]=DV s core q ns from rfl]
 by_cases c1:DV s core q ns≠0
 ·rw [JO (s:=⟨s,[]⟩) c1]
  generalize DV s core q ns=ee at *
  repeat' (first|refine Sa ?_|(refine AU hs (k:=?_);intro w hs)|(refine al hs (k:=?_);intro b w hz hs)|refine xc_cond rfl (fun hc=>?_) fun hc=>?_|fail)
  ·refine AG ?_
   have Cb:=hs.AB [] (fun e he => .inr (.inr (hs.hold e he))) (by simp [D0])
   exact ⟨rfl,(BB.trans Cb).block B4 (by simp),fun z=>absurd z c1,(BB.trans Cb).weaken (by simp)⟩
  ·exact absurd (by simpa using hc) c1
 have s5:DV s core q ns=0:=by
  rcases Classical.em (DV s core q ns=0) with z | z
  ·exact z
  ·exact absurd z c1
 rw [s5]
 have Ju:0≤core∧core < s.cf.cores:=by
  unfold DV GR Ci at s5
  by_cases k:core < 0∨core≥s.cf.cores
  ·rw [if_pos k] at s5;cases s5
  ·omega
 have Hj:CV s.cf.cores (BU core q ns):=⟨(by decide:In64 0),(by decide:(0:Int)≤1∧(1:Int) < 256),GK,LJ _,Du,(by decide:In64 0),fun _=>Ju⟩
 have k1:=hs.get (b:=b1) (by repeat (first | exact At.head | (with_reducible apply At.tail)))
 have k2:=hs.get (b:=b2) (by repeat (first | exact At.head | (with_reducible apply At.tail)))
 have k3:=hs.get (b:=b3) (by repeat (first | exact At.head | (with_reducible apply At.tail)))
 have hO6:=hO.only BB
 have o6h:=hO6.h
 have o6s:=hO6.s.o
 clear hs
 have hs:=((((St.nil w6).AE k1).AE k2).AH k3 (by
  have:=A3 k3 k1 (by decide)
  simp;exact ⟨Ne.symm n23,this⟩)).AE o6s |>.AE o6h
 have hH:=hs.hold
 repeat' (first|refine Sd ?_|(refine AU hs (k:=?_);intro w hs)|(refine al hs (k:=?_);intro b w hz hs)|fail)
 obtain ⟨b8,rfl⟩:∃ z,z=b:=⟨_,rfl⟩
 have z8:w6.heap.size≤b8:=hs.new (b8,true) (by simp) rfl
 have Cb:=hs.AB [] (fun e he=>by
  rcases List.mem_cons.1 he with rfl | he
  ·exact .inl rfl
  ·exact .inr (.inr (hH e he))) (by simp [D0])
 replace hs:=hs.FH
 simp only [List.map_cons,List.map_nil] at hs
 have hO7:=hO6.only Cb
 have GY:b8≠rb:=by omega
 have Am:=(BB.trans Cb).weaken (G:=F) (by simp)
 refine IW [] hs (k:=?_);clear hs;intro hX w FA hs
 have hO8:=hO7.only FA
 replace Am:=Am.step FA (by simp)
 refine tks 0 8 ?_
 refine dt 8 hX (k:=?_)
 refine cl (h:=by exact Lr tb rb s.t (BU core q ns) _ hO8.s.t) (k:=?_)
 rintro v8 w8 ⟨rfl,hT8,Eb⟩
 have I1:=hO8.s.t
 obtain ⟨KS,IY,M9,Ex,_⟩:=I1
 replace hs:=hs.EC Eb (fun k hk=>by obtain rfl:=List.mem_singleton.1 hk;exact hs.I2 GY Ex)
 have hO9:=hO8.JW hT8 Eb (RX.rows (ZP RX.row RX.tl Hj) (Xb _ _))
 replace Am:=Am.step Eb (fun k hk => .inl (by obtain rfl:=List.mem_singleton.1 hk;rw [eF];simp [CJ]))
 have B48:w8.heap[b4]?=some (Wy 0):=Am.block B4 Zs
 refine XS.nil ?_
 refine dn (k:=?_)
 refine tks 9 5 ?_
 refine en (k:=?_)
 by_cases c2:E9 s.t (BU core q ns)≠0
 ·rw [Jp (s:=⟨s,[]⟩) c1 c2]
  have Wd:E9 (Ch.s ⟨s,[]⟩).t (BU core q ns)≠0:=c2
  generalize E9 (Ch.s ⟨s,[]⟩).t (BU core q ns)=ee at *
  generalize E9 s.t (BU core q ns)=ee2 at *
  repeat' (first|refine Sa ?_|(refine st hs (k:=?_);intro w hs)|refine xc_cond rfl (fun hc=>?_) fun hc=>?_|fail)
  ·refine AG ?_
   have Cb:=hs.AB [] (fun e he => .inr (.inr (hs.hold e he))) (by simp [D0])
   exact ⟨rfl,Cb.block B48 (by simp),fun z=>absurd z c2,(Am.step Cb (by simp)).weaken (by intro k hk;exact List.mem_append_left _ hk)⟩
  ·exact absurd (by simpa using hc) c2
 have Wd:E9 s.t (BU core q ns)=0:=by
  rcases Classical.em (E9 s.t (BU core q ns)=0) with z | z
  ·exact z
  ·exact absurd z c2
 rw [Lp (s:=⟨s,[]⟩) c1 c2,Wd]
 have hn:=wH RX.tl (BU core q ns)
 have eJ:Gv ⟨s,[]⟩ core q ns=E0 ⟨{ s with t:=Dp s.t (BU core q ns) },[]⟩ { BU core q ns with id:=E5 s.t (BU core q ns) } 0:=rfl
 have eN:E5 (Ch.s ⟨s,[]⟩).t (BU core q ns)=E5 s.t (BU core q ns):=rfl
 rw [eN]
 have hy2:CV s.cf.cores { BU core q ns with id:=E5 s.t (BU core q ns) }:=⟨hn,Hj.2⟩
 generalize Gv ⟨s,[]⟩ core q ns=J at *
 generalize E5 s.t (BU core q ns)=n at *
 have hH:=hs.hold
 have Ef:=hs.get At.head
 repeat' (first|refine Sd ?_|(refine st hs (k:=?_);intro w hs)|fail)
 have JY:=hs.AB [b8] (fun e he=>by
  rcases List.mem_cons.1 he with rfl | he
  ·exact .inr (.inl (by simp))
  ·exact .inr (.inr (hH e (List.mem_cons_of_mem _ he)))) (by simp [D0])
 have aCF:=hO9.FN JY Ef GY
 have yQ:b4≠b8:=by omega
 replace Am:=Am.step JY (fun k hk => .inr (by obtain rfl:=List.mem_singleton.1 hk;omega))
 have aCG:=JY.block B48 (by simpa using yQ)
 refine cl (h:=by exact PZ hb ⟨{ s with t:=Dp s.t (BU core q ns) },[]⟩ _ { BU core q ns with id:=n } 0 _ aCF.at hy2 (by decide:(1:Int)≠0) (by decide:In64 0) (by simp)) (k:=?_)
 rw [← eJ]
 rintro v11 w11 ⟨rfl,aB2,IL⟩
 have tU:=Am.size
 have aY:=IL.block aCG (by rw [← eF];exact Zs)
 replace Am:=Am.step IL (fun k hk => .inl (by rw [eF];exact hk))
 clear hs
 have hs:=(St.nil w11).AE aY
 by_cases c3:J.1=0
 ·rw [if_pos c3]
  have hL:=aB2 c3
  rw [c3]
  repeat' (first|refine Sd ?_|(refine st hs (k:=?_);intro w hs)|fail)
  refine AG ?_
  have By:=hs.AB [b4] (by simp) (by simp [D0])
  obtain ⟨F',h1,h2⟩:=hL
  refine ⟨rfl,hs.get (b:=b4) (by repeat (first | exact At.head | (with_reducible apply At.tail))),fun _=>⟨F',h1.Ah By (fun k hk hm=>by obtain rfl:=List.mem_singleton.1 hm;exact h1.not aY rfl hk),fun k hk=>?_⟩,(Am.weaken (by intro k hk;exact List.mem_append_left _ hk)).step By (fun k hk => .inl (List.mem_append_right _ hk))⟩
  rcases h2 k hk with q | q
  ·exact .inl (by rw [eF];exact q)
  ·exact .inr om
 ·rw [if_neg c3]
  generalize J.1=ee at *
  repeat' (first|refine Sa ?_|(refine st hs (k:=?_);intro w hs)|refine xc_cond rfl (fun hc=>?_) fun hc=>?_|fail)
  ·refine AG ?_
   have Cb:=hs.AB [] (by simp [aY]) (by simp [D0])
   exact ⟨rfl,Cb.block aY (by simp),fun z=>absurd z c3,(Am.step Cb (by simp)).weaken (by intro k hk;exact List.mem_append_left _ hk)⟩
  ·exact absurd (by simpa using hc) c3
theorem EH.fin {w0 w1 w2 w3:World} {sb:Nat} {F:List Nat} {ve:Value} {s:Sy} {l:Int × Ch} (T:EH w1 sb F [] ve s l w2) (ho:AA [] w0 w1) (AT:AA [] w2 w3):EH w0 sb F [] ve s l w3:=by
 obtain ⟨⟨G,hG⟩,⟨F',hS,hF⟩,hT⟩:=T
 have hz:=ho.size
 exact ⟨⟨G,hG.keep AT (by simp)⟩,⟨F',hS.only AT,fun k hk=>by
  rcases hF k hk with q | q
  ·exact .inl q
  ·exact .inr om⟩,((ho.weaken (by simp)).step hT (fun k hk => .inl hk)).step AT (by simp)⟩
theorem EH.form {w0 w1:World} {sb:Nat} {F E:List Nat} {ve:Value} {s:Sy} {l:Int × Ch} (T:EH w0 sb F E ve s l w1):∃ a c,ve = .slice a (Dt s l).1.length c:=by
 obtain ⟨⟨G,hG⟩,_⟩:=T
 exact BZ hG
theorem mH (sb:Nat) (s:Sy) (F:List Nat) (id:Int) (w0:World) (h:Cj w0 sb s F) (hid:In64 id) :
 AO Tryz.prog 32 #[.pointer (some ⟨sb,0,none⟩),.int .i64 id] w0 fun v w'=>∃ ve,v = .tuple #[ve,.int .i64 (CG ⟨s,[]⟩ id (fun s x=>Ey s x id)).1]∧EH w0 sb F [] ve s (CG ⟨s,[]⟩ id (fun s x=>Ey s x id)) w':=by
 have hs:=St.nil w0
 refine AR Tryz.func32 Tryz.ntmps32 (k:=?_)
 refine Ai ?_
 refine Ao ?_
 refine HP hs (k:=?_);clear hs;intro b3 w3 AT z3 hs
 refine Ja ?_
 have k3:=hs.get (b:=b3) (by repeat (first | exact At.head | (with_reducible apply At.tail)))
 have Bn:=AT
 refine cl (h:=by exact JA sb s F id 65 [.pointer (some ⟨b3,0,none⟩)] (fun s x=>Ey s x id) _ (h.only Bn) hid (fun wb w h1 h2=>QM.of fun hb F' hC he hx hn=>iT b3 hb s F' (AV s.t id) id w hC hid ((h1.trans h2).block k3 (by simp)) hx hn)) (k:=?_)
 rintro v w9 ⟨ve,rfl,T⟩
 obtain ⟨ae,ce,rfl⟩:=T.form
 clear hs
 have hs:=St.nil w9
 refine Jc ?_
 refine AG ?_
 exact ⟨_,rfl,T.fin Bn (hs.AD rfl)⟩
theorem Rz (sb:Nat) (s:Sy) (F:List Nat) (id:Int) (w0:World) (h:Cj w0 sb s F) (hid:In64 id) :
 AO Tryz.prog 33 #[.pointer (some ⟨sb,0,none⟩),.int .i64 id] w0 fun v w'=>∃ ve,v = .tuple #[ve,.int .i64 (CG ⟨s,[]⟩ id (fun s x=>GA s x id)).1]∧EH w0 sb F [] ve s (CG ⟨s,[]⟩ id (fun s x=>GA s x id)) w':=by
 have hs:=St.nil w0
 refine AR Tryz.func33 Tryz.ntmps33 (k:=?_)
 refine Ai ?_
 refine Ao ?_
 refine HP hs (k:=?_);clear hs;intro b3 w3 AT z3 hs
 refine Ja ?_
 have k3:=hs.get (b:=b3) (by repeat (first | exact At.head | (with_reducible apply At.tail)))
 have Bn:=AT
 refine cl (h:=by exact JA sb s F id 68 [.pointer (some ⟨b3,0,none⟩)] (fun s x=>GA s x id) _ (h.only Bn) hid (fun wb w h1 h2=>QM.of fun hb F' hC he hx hn=>Yf b3 hb s F' (AV s.t id) id w hC hid ((h1.trans h2).block k3 (by simp)) hx hn)) (k:=?_)
 rintro v w9 ⟨ve,rfl,T⟩
 obtain ⟨ae,ce,rfl⟩:=T.form
 clear hs
 have hs:=St.nil w9
 refine Jc ?_
 refine AG ?_
 exact ⟨_,rfl,T.fin Bn (hs.AD rfl)⟩
theorem Us (sb:Nat) (s:Sy) (F:List Nat) (id:Int) (w0:World) (h:Cj w0 sb s F) (hid:In64 id) :
 AO Tryz.prog 34 #[.pointer (some ⟨sb,0,none⟩),.int .i64 id] w0 fun v w'=>∃ ve,v = .tuple #[ve,.int .i64 (CG ⟨s,[]⟩ id (fun s x=>EX s x id)).1]∧EH w0 sb F [] ve s (CG ⟨s,[]⟩ id (fun s x=>EX s x id)) w':=by
 have hs:=St.nil w0
 refine AR Tryz.func34 Tryz.ntmps34 (k:=?_)
 refine Ai ?_
 refine Ao ?_
 refine HP hs (k:=?_);clear hs;intro b3 w3 AT z3 hs
 refine Ja ?_
 have k3:=hs.get (b:=b3) (by repeat (first | exact At.head | (with_reducible apply At.tail)))
 have Bn:=AT
 refine cl (h:=by exact JA sb s F id 72 [.pointer (some ⟨b3,0,none⟩)] (fun s x=>EX s x id) _ (h.only Bn) hid (fun wb w h1 h2=>QM.of fun hb F' hC he hx hn=>bO b3 hb s F' (AV s.t id) id w hC hid ((h1.trans h2).block k3 (by simp)) hx hn)) (k:=?_)
 rintro v w9 ⟨ve,rfl,T⟩
 obtain ⟨ae,ce,rfl⟩:=T.form
 clear hs
 have hs:=St.nil w9
 refine Jc ?_
 refine AG ?_
 exact ⟨_,rfl,T.fin Bn (hs.AD rfl)⟩
theorem Y6 (sb:Nat) (s:Sy) (F:List Nat) (id q:Int) (w0:World) (h:Cj w0 sb s F) (hid:In64 id) :
 AO Tryz.prog 35 #[.pointer (some ⟨sb,0,none⟩),.int .i64 id,.int .u64 q] w0 fun v w'=>∃ ve,v = .tuple #[ve,.int .i64 (CG ⟨s,[]⟩ id (fun s x=>DQ s x id q)).1]∧EH w0 sb F [] ve s (CG ⟨s,[]⟩ id (fun s x=>DQ s x id q)) w':=by
 have hs:=St.nil w0
 refine AR Tryz.func35 Tryz.ntmps35 (k:=?_)
 refine Ai ?_
 refine Ao ?_
 refine HP hs (k:=?_);clear hs;intro b4 w4 Aw z4 hs
 refine HP hs (k:=?_);clear hs;intro b5 w5 BY z5 hs
 refine Ja ?_
 have k4:=hs.get (b:=b4) (by repeat (first | exact At.head | (with_reducible apply At.tail)))
 have k5:=hs.get (b:=b5) (by repeat (first | exact At.head | (with_reducible apply At.tail)))
 have Bn:=(Aw.trans BY)
 refine cl (h:=by exact JA sb s F id 74 [.pointer (some ⟨b5,0,none⟩),.pointer (some ⟨b4,0,none⟩)] (fun s x=>DQ s x id q) _ (h.only Bn) hid (fun wb w h1 h2=>QM.of fun hb F' hC he hx hn=>Yk b5 b4 hb s F' (AV s.t id) id q w hC hid ((h1.trans h2).block k5 (by simp)) ((h1.trans h2).block k4 (by simp)) hx hn)) (k:=?_)
 rintro v w9 ⟨ve,rfl,T⟩
 obtain ⟨ae,ce,rfl⟩:=T.form
 clear hs
 have hs:=St.nil w9
 refine Jc ?_
 refine AG ?_
 exact ⟨_,rfl,T.fin Bn (hs.AD rfl)⟩
theorem cP (sb:Nat) (s:Sy) (F:List Nat) (id q:Int) (w0:World) (h:Cj w0 sb s F) (hid:In64 id) (hq:BL q) :
 AO Tryz.prog 36 #[.pointer (some ⟨sb,0,none⟩),.int .i64 id,.int .u64 q] w0 fun v w'=>∃ ve,v = .tuple #[ve,.int .i64 (CG ⟨s,[]⟩ id (fun s x=>Dy s x id q)).1]∧EH w0 sb F [] ve s (CG ⟨s,[]⟩ id (fun s x=>Dy s x id q)) w':=by
 have hs:=St.nil w0
 refine AR Tryz.func36 Tryz.ntmps36 (k:=?_)
 refine Ai ?_
 refine Ao ?_
 refine HP hs (k:=?_);clear hs;intro b4 w4 Aw z4 hs
 refine HP hs (k:=?_);clear hs;intro b5 w5 BY z5 hs
 refine Ja ?_
 have k4:=hs.get (b:=b4) (by repeat (first | exact At.head | (with_reducible apply At.tail)))
 have k5:=hs.get (b:=b5) (by repeat (first | exact At.head | (with_reducible apply At.tail)))
 have Bn:=(Aw.trans BY)
 refine cl (h:=by exact JA sb s F id 76 [.pointer (some ⟨b5,0,none⟩),.pointer (some ⟨b4,0,none⟩)] (fun s x=>Dy s x id q) _ (h.only Bn) hid (fun wb w h1 h2=>QM.of fun hb F' hC he hx hn=>YT b5 b4 hb s F' (AV s.t id) id q w hC hid hq ((h1.trans h2).block k5 (by simp)) ((h1.trans h2).block k4 (by simp)) hx hn)) (k:=?_)
 rintro v w9 ⟨ve,rfl,T⟩
 obtain ⟨ae,ce,rfl⟩:=T.form
 clear hs
 have hs:=St.nil w9
 refine Jc ?_
 refine AG ?_
 exact ⟨_,rfl,T.fin Bn (hs.AD rfl)⟩
theorem Wb (sb:Nat) (s:Sy) (F:List Nat) (id core:Int) (w0:World) (h:Cj w0 sb s F) (hid:In64 id) (GK:In64 core) :
 AO Tryz.prog 37 #[.pointer (some ⟨sb,0,none⟩),.int .i64 id,.int .i64 core] w0 fun v w'=>∃ ve,v = .tuple #[ve,.int .i64 (CG ⟨s,[]⟩ id (fun s x=>CU s x core)).1]∧EH w0 sb F [] ve s (CG ⟨s,[]⟩ id (fun s x=>CU s x core)) w':=by
 have hs:=St.nil w0
 refine AR Tryz.func37 Tryz.ntmps37 (k:=?_)
 refine Ai ?_
 refine Ao ?_
 refine HP hs (k:=?_);clear hs;intro b5 w5 BY z5 hs
 refine Ja ?_
 have k5:=hs.get (b:=b5) (by repeat (first | exact At.head | (with_reducible apply At.tail)))
 have Bn:=BY
 refine cl (h:=by exact JA sb s F id 78 [.pointer (some ⟨b5,0,none⟩)] (fun s x=>CU s x core) _ (h.only Bn) hid (fun wb w h1 h2=>QM.of fun hb F' hC he hx hn=>mF b5 hb s F' (AV s.t id) core w hC GK ((h1.trans h2).block k5 (by simp)) hx hn)) (k:=?_)
 rintro v w9 ⟨ve,rfl,T⟩
 obtain ⟨ae,ce,rfl⟩:=T.form
 clear hs
 have hs:=St.nil w9
 refine Jc ?_
 refine AG ?_
 exact ⟨_,rfl,T.fin Bn (hs.AD rfl)⟩
theorem OU (sb:Nat) (s:Sy) (F:List Nat) (ns:Int) (w0:World) (h:Cj w0 sb s F) (Du:BL ns) (hbd:ns≤1099511627776→∀ k:Nat,k < s.k.length→(AX (AF s k) ns).2.2.p.length≤1000000) :
 AO Tryz.prog 27 #[.pointer (some ⟨sb,0,none⟩),.int .u64 ns] w0 fun v w'=>∃ ve,v = .tuple #[ve,.int .i64 (Ek ⟨s,[]⟩ ns).1]∧EH w0 sb F [] ve s (Ek ⟨s,[]⟩ ns) w':=by
 have hs:=St.nil w0
 refine AR Tryz.func27 Tryz.ntmps27 (k:=?_)
 refine Ai ?_
 refine Ao ?_
 refine HP hs (k:=?_);clear hs;intro b3 w3 AT z3 hs
 refine Ja ?_
 have k3:=hs.get (b:=b3) (by repeat (first | exact At.head | (with_reducible apply At.tail)))
 refine cl (h:=by exact Qv sb s F _ (h.only AT) 57 [.pointer (some ⟨b3,0,none⟩)] [] (fun _=>True) (Ek ⟨s,[]⟩ ns) (fun _ _ _ _ _ _=>trivial) (by simp) (fun w hw hb F' hC Cc=>dW b3 hb s ns _ w Du hw k3 hbd hb F' hC Cc)) (k:=?_)
 rintro v w9 ⟨ve,rfl,_,T⟩
 obtain ⟨ae,ce,rfl⟩:=T.form
 clear hs
 have hs:=St.nil w9
 refine Jc ?_
 refine AG ?_
 exact ⟨_,rfl,T.fin AT (hs.AD rfl)⟩
theorem LB (sb:Nat) (s:Sy) (F:List Nat) (core q ns:Int) (w0:World) (h:Cj w0 sb s F) (GK:In64 core) (hq:BL q) (Du:BL ns) :
 AO Tryz.prog 26 #[.pointer (some ⟨sb,0,none⟩),.int .i64 core,.int .u64 q,.int .u64 ns] w0 fun v w'=>∃ ve,v = .tuple #[.int .i64 (B8 ⟨s,[]⟩ core q ns).2.1,ve,.int .i64 (B8 ⟨s,[]⟩ core q ns).1]∧EH w0 sb F [] ve s ((B8 ⟨s,[]⟩ core q ns).1,(B8 ⟨s,[]⟩ core q ns).2.2) w':=by
 have Wq:=h.lt
 have hs:=St.nil w0
 refine AR Tryz.func26 Tryz.ntmps26 (k:=?_)
 refine Ai ?_
 refine Ao ?_
 refine HP hs (k:=?_);clear hs;intro b5 w5 BY z5 hs
 refine HP hs (k:=?_);clear hs;intro b6 w6 Aq z6 hs
 refine HP hs (k:=?_);clear hs;intro b7 w7 Cb z7 hs
 iterate 3 refine vs (k:=?_)
 refine XS.nil ?_
 refine ET ?_
 refine Ai ?_
 refine Ao ?_
 refine Fg hs (k:=?_);clear hs;intro Ir w8 Eb z8 hs
 refine kS hs (k:=?_);clear hs;intro w9 Lc hs
 refine Ja ?_
 have k5:=hs.get (b:=b5) (by repeat (first | exact At.head | (with_reducible apply At.tail)))
 have k6:=hs.get (b:=b6) (by repeat (first | exact At.head | (with_reducible apply At.tail)))
 have k7:=hs.get (b:=b7) (by repeat (first | exact At.head | (with_reducible apply At.tail)))
 have rQ:=hs.get (b:=Ir) (by repeat (first | exact At.head | (with_reducible apply At.tail)))
 have e5:=BY.size
 have e6:=Aq.size
 have e7:=Cb.size
 have e8:=Eb.size
 have l5:=lt_of_block k5
 have BB:AA [] w0 w9:=(((BY.trans Aq).trans Cb).trans Eb).step Lc (fun k hk => .inr (by obtain rfl:=List.mem_singleton.1 hk;simp at *;omega))
 have n57:b5≠Ir:=by
  have:=hs.nd
  simp only [List.map_cons,List.map_nil,List.nodup_cons,List.mem_cons,not_or] at this
  exact fun e=>this.1.2.2.1 e.symm
 have n67:b6≠b7:=by
  have:=hs.nd
  simp only [List.map_cons,List.map_nil,List.nodup_cons,List.mem_cons,not_or] at this
  exact fun e=>this.2.1.1 e.symm
 refine cl (h:=by exact Qv sb s F _ (h.only BB) 51 [.pointer (some ⟨b5,0,none⟩),.pointer (some ⟨b6,0,none⟩),.pointer (some ⟨b7,0,none⟩),.pointer (some ⟨Ir,0,none⟩)] [Ir] (fun w=>w.heap[Ir]?=some (Wy (B8 ⟨s,[]⟩ core q ns).2.1)) ((B8 ⟨s,[]⟩ core q ns).1,(B8 ⟨s,[]⟩ core q ns).2.2) (fun w w' G hq ho hG=>ho.block hq (hG _ (by simp))) (fun k hk=>by obtain rfl:=List.mem_singleton.1 hk;exact ⟨fun hm=>by have:=Wq _ hm;simp at *;omega,lt_of_block rQ⟩) (fun w hw hb F' hC Cc=>Y8 b5 b6 b7 Ir hb s core q ns _ w GK hq Du hw n57 n67 k5 k6 k7 rQ hb F' hC Cc)) (k:=?_)
 rintro v Z0 ⟨ve,rfl,hQ,T⟩
 obtain ⟨ae,ce,rfl⟩:=T.form
 clear hs
 have hs:=(St.nil Z0).AE hQ
 obtain ⟨⟨Gt,sI⟩,⟨F',hS',Cc⟩,WJ⟩:=T
 refine Ja ?_
 refine AG ?_
 have IL:=hs.AB [] (by simp [hQ]) (by simp [D0])
 have zA:=BB.size
 refine ⟨_,rfl,⟨Gt,sI.keep IL (by simp)⟩,⟨F',hS'.only IL,fun k hk=>?_⟩,((BB.weaken (by simp)).step WJ (fun k hk=>?_)).step IL (by simp)⟩
 ·rcases Cc k hk with z | z
  ·exact .inl z
  ·exact .inr om
 ·simp only [List.mem_cons,List.not_mem_nil,or_false] at hk
  rcases hk with rfl | rfl
  ·exact .inl (by simp)
  ·exact .inr (by simp at *;omega)
abbrev aCH (a:CR):Value := .agg #[.int .u8 a.d,.int .i64 a.id,.int .i64 a.core,.int .u64 a.w,.int .u64 a.ns]
def R7 (s:Sy) (a:CR):Prop:=9 < a.d % 12→a.ns≤1099511627776→∀ k:Nat,k < s.k.length→(AX (AF s k) a.ns).2.2.p.length≤1000000
theorem VJ (sb:Nat) (s:Sy) (F:List Nat) (a:CR) (ha:a.In) (w0:World) (h:Cj w0 sb s F) (hfew:R7 s a) :
 AO Tryz.prog 11 #[.pointer (some ⟨sb,0,none⟩),aCH a] w0 fun v w'=>∃ ve,v = .tuple #[.int .i64 (Fo s a),ve,.int .i64 (CS s a).1]∧EH w0 sb F [] ve s (CS s a) w':=by
 have hs:=St.nil w0
 obtain ⟨d0,hid,GK,hw,Du⟩:=ha
 refine AR Tryz.func11 Tryz.ntmps11 (k:=?_)
 refine Ai ?_
 refine Ao ?_
 refine HP hs (k:=?_);clear hs;intro b3 w1 AK z1 hs
 refine Ja ?_
 refine aAv (b:=12) d0.1 (by decide) (k:=?_)
 have aC9:0≤a.d % 12∧a.d % 12 < 12:=by omega
 by_cases k0:a.d % 12=0
 ·rw [k0]
  have eD:CS s a=((B8 ⟨s,[]⟩ a.core a.w a.ns).1,(B8 ⟨s,[]⟩ a.core a.w a.ns).2.2):=by unfold CS;rw [if_pos (show a.d % 12 < 2 by omega)]
  have eI:Fo s a=(B8 ⟨s,[]⟩ a.core a.w a.ns).2.1:=if_pos (show a.d % 12 < 2 by omega)
  rw [eD,eI]
  refine Je ?_
  have ho:=AK.trans (hs.AB [] (fun e he => .inr (.inr (hs.hold e he))) (by simp [D0]))
  refine cl (h:=by exact LB sb s F a.core a.w a.ns _ (h.only ho) GK hw Du) (k:=?_)
  rintro v w5 ⟨ve,rfl,T⟩
  obtain ⟨ae,ce,rfl⟩:=T.form
  clear hs
  have hs:=St.nil w5
  refine Jc ?_
  refine AG ?_
  exact ⟨_,rfl,T.fin ho (hs.AD rfl)⟩
 by_cases k1:a.d % 12=1
 ·rw [k1]
  have eD:CS s a=((B8 ⟨s,[]⟩ a.core a.w a.ns).1,(B8 ⟨s,[]⟩ a.core a.w a.ns).2.2):=by unfold CS;rw [if_pos (show a.d % 12 < 2 by omega)]
  have eI:Fo s a=(B8 ⟨s,[]⟩ a.core a.w a.ns).2.1:=if_pos (show a.d % 12 < 2 by omega)
  rw [eD,eI]
  repeat' (first|refine vs (k:=?_)|refine Ao ?_|refine Nx.h ?_|refine FY ?_|refine FD ?_|fail)
  have ho:=AK.trans (hs.AB [] (fun e he => .inr (.inr (hs.hold e he))) (by simp [D0]))
  refine cl (h:=by exact LB sb s F a.core a.w a.ns _ (h.only ho) GK hw Du) (k:=?_)
  rintro v w5 ⟨ve,rfl,T⟩
  obtain ⟨ae,ce,rfl⟩:=T.form
  clear hs
  have hs:=St.nil w5
  refine Jc ?_
  refine AG ?_
  exact ⟨_,rfl,T.fin ho (hs.AD rfl)⟩
 by_cases k2:a.d % 12=2
 ·rw [k2]
  have eD:CS s a=CG ⟨s,[]⟩ a.id fun s x=>Ey s x a.id:=by unfold CS;rw [if_neg (show ¬ a.d % 12 < 2 by omega),if_pos (show a.d % 12=2 by omega)]
  have eI:Fo s a=0:=if_neg (show ¬ a.d % 12 < 2 by omega)
  rw [eD,eI]
  repeat' (first|refine vs (k:=?_)|refine Ao ?_|refine Nx.h ?_|refine FY ?_|refine FD ?_|fail)
  have ho:=AK.trans (hs.AB [] (fun e he => .inr (.inr (hs.hold e he))) (by simp [D0]))
  refine cl (h:=by exact mH sb s F a.id _ (h.only ho) hid) (k:=?_)
  rintro v w5 ⟨ve,rfl,T⟩
  obtain ⟨ae,ce,rfl⟩:=T.form
  clear hs
  have hs:=St.nil w5
  refine Ja ?_
  refine AG ?_
  exact ⟨_,rfl,T.fin ho (hs.AD rfl)⟩
 by_cases k3:a.d % 12=3
 ·rw [k3]
  have eD:CS s a=CG ⟨s,[]⟩ a.id fun s x=>GA s x a.id:=by unfold CS;rw [if_neg (show ¬ a.d % 12 < 2 by omega),if_neg (show ¬ a.d % 12=2 by omega),if_pos (show a.d % 12 < 5 by omega)]
  have eI:Fo s a=0:=if_neg (show ¬ a.d % 12 < 2 by omega)
  rw [eD,eI]
  repeat' (first|refine vs (k:=?_)|refine Ao ?_|refine Nx.h ?_|refine FY ?_|refine FD ?_|fail)
  have ho:=AK.trans (hs.AB [] (fun e he => .inr (.inr (hs.hold e he))) (by simp [D0]))
  refine cl (h:=by exact Rz sb s F a.id _ (h.only ho) hid) (k:=?_)
  rintro v w5 ⟨ve,rfl,T⟩
  obtain ⟨ae,ce,rfl⟩:=T.form
  clear hs
  have hs:=St.nil w5
  refine Ja ?_
  refine AG ?_
  exact ⟨_,rfl,T.fin ho (hs.AD rfl)⟩
 by_cases k4:a.d % 12=4
 ·rw [k4]
  have eD:CS s a=CG ⟨s,[]⟩ a.id fun s x=>GA s x a.id:=by unfold CS;rw [if_neg (show ¬ a.d % 12 < 2 by omega),if_neg (show ¬ a.d % 12=2 by omega),if_pos (show a.d % 12 < 5 by omega)]
  have eI:Fo s a=0:=if_neg (show ¬ a.d % 12 < 2 by omega)
  rw [eD,eI]
  repeat' (first|refine vs (k:=?_)|refine Ao ?_|refine Nx.h ?_|refine FY ?_|refine FD ?_|fail)
  have ho:=AK.trans (hs.AB [] (fun e he => .inr (.inr (hs.hold e he))) (by simp [D0]))
  refine cl (h:=by exact Rz sb s F a.id _ (h.only ho) hid) (k:=?_)
  rintro v w5 ⟨ve,rfl,T⟩
  obtain ⟨ae,ce,rfl⟩:=T.form
  clear hs
  have hs:=St.nil w5
  refine Ja ?_
  refine AG ?_
  exact ⟨_,rfl,T.fin ho (hs.AD rfl)⟩
 by_cases k5:a.d % 12=5
 ·rw [k5]
  have eD:CS s a=CG ⟨s,[]⟩ a.id fun s x=>EX s x a.id:=by unfold CS;rw [if_neg (show ¬ a.d % 12 < 2 by omega),if_neg (show ¬ a.d % 12=2 by omega),if_neg (show ¬ a.d % 12 < 5 by omega),if_pos (show a.d % 12 < 7 by omega)]
  have eI:Fo s a=0:=if_neg (show ¬ a.d % 12 < 2 by omega)
  rw [eD,eI]
  repeat' (first|refine vs (k:=?_)|refine Ao ?_|refine Nx.h ?_|refine FY ?_|refine FD ?_|fail)
  have ho:=AK.trans (hs.AB [] (fun e he => .inr (.inr (hs.hold e he))) (by simp [D0]))
  refine cl (h:=by exact Us sb s F a.id _ (h.only ho) hid) (k:=?_)
  rintro v w5 ⟨ve,rfl,T⟩
  obtain ⟨ae,ce,rfl⟩:=T.form
  clear hs
  have hs:=St.nil w5
  refine Ja ?_
  refine AG ?_
  exact ⟨_,rfl,T.fin ho (hs.AD rfl)⟩
 by_cases k6:a.d % 12=6
 ·rw [k6]
  have eD:CS s a=CG ⟨s,[]⟩ a.id fun s x=>EX s x a.id:=by unfold CS;rw [if_neg (show ¬ a.d % 12 < 2 by omega),if_neg (show ¬ a.d % 12=2 by omega),if_neg (show ¬ a.d % 12 < 5 by omega),if_pos (show a.d % 12 < 7 by omega)]
  have eI:Fo s a=0:=if_neg (show ¬ a.d % 12 < 2 by omega)
  rw [eD,eI]
  repeat' (first|refine vs (k:=?_)|refine Ao ?_|refine Nx.h ?_|refine FY ?_|refine FD ?_|fail)
  have ho:=AK.trans (hs.AB [] (fun e he => .inr (.inr (hs.hold e he))) (by simp [D0]))
  refine cl (h:=by exact Us sb s F a.id _ (h.only ho) hid) (k:=?_)
  rintro v w5 ⟨ve,rfl,T⟩
  obtain ⟨ae,ce,rfl⟩:=T.form
  clear hs
  have hs:=St.nil w5
  refine Ja ?_
  refine AG ?_
  exact ⟨_,rfl,T.fin ho (hs.AD rfl)⟩
 by_cases k7:a.d % 12=7
 ·rw [k7]
  have eD:CS s a=CG ⟨s,[]⟩ a.id fun s x=>DQ s x a.id a.w:=by unfold CS;rw [if_neg (show ¬ a.d % 12 < 2 by omega),if_neg (show ¬ a.d % 12=2 by omega),if_neg (show ¬ a.d % 12 < 5 by omega),if_neg (show ¬ a.d % 12 < 7 by omega),if_pos (show a.d % 12=7 by omega)]
  have eI:Fo s a=0:=if_neg (show ¬ a.d % 12 < 2 by omega)
  rw [eD,eI]
  repeat' (first|refine vs (k:=?_)|refine Ao ?_|refine Nx.h ?_|refine FY ?_|refine FD ?_|fail)
  have ho:=AK.trans (hs.AB [] (fun e he => .inr (.inr (hs.hold e he))) (by simp [D0]))
  refine cl (h:=by exact Y6 sb s F a.id a.w _ (h.only ho) hid) (k:=?_)
  rintro v w5 ⟨ve,rfl,T⟩
  obtain ⟨ae,ce,rfl⟩:=T.form
  clear hs
  have hs:=St.nil w5
  refine Ja ?_
  refine AG ?_
  exact ⟨_,rfl,T.fin ho (hs.AD rfl)⟩
 by_cases k8:a.d % 12=8
 ·rw [k8]
  have eD:CS s a=CG ⟨s,[]⟩ a.id fun s x=>Dy s x a.id a.ns:=by unfold CS;rw [if_neg (show ¬ a.d % 12 < 2 by omega),if_neg (show ¬ a.d % 12=2 by omega),if_neg (show ¬ a.d % 12 < 5 by omega),if_neg (show ¬ a.d % 12 < 7 by omega),if_neg (show ¬ a.d % 12=7 by omega),if_pos (show a.d % 12=8 by omega)]
  have eI:Fo s a=0:=if_neg (show ¬ a.d % 12 < 2 by omega)
  rw [eD,eI]
  repeat' (first|refine vs (k:=?_)|refine Ao ?_|refine Nx.h ?_|refine FY ?_|refine FD ?_|fail)
  have ho:=AK.trans (hs.AB [] (fun e he => .inr (.inr (hs.hold e he))) (by simp [D0]))
  refine cl (h:=by exact cP sb s F a.id a.ns _ (h.only ho) hid Du) (k:=?_)
  rintro v w5 ⟨ve,rfl,T⟩
  obtain ⟨ae,ce,rfl⟩:=T.form
  clear hs
  have hs:=St.nil w5
  refine Ja ?_
  refine AG ?_
  exact ⟨_,rfl,T.fin ho (hs.AD rfl)⟩
 by_cases k9:a.d % 12=9
 ·rw [k9]
  have eD:CS s a=CG ⟨s,[]⟩ a.id fun s x=>CU s x a.core:=by unfold CS;rw [if_neg (show ¬ a.d % 12 < 2 by omega),if_neg (show ¬ a.d % 12=2 by omega),if_neg (show ¬ a.d % 12 < 5 by omega),if_neg (show ¬ a.d % 12 < 7 by omega),if_neg (show ¬ a.d % 12=7 by omega),if_neg (show ¬ a.d % 12=8 by omega),if_pos (show a.d % 12=9 by omega)]
  have eI:Fo s a=0:=if_neg (show ¬ a.d % 12 < 2 by omega)
  rw [eD,eI]
  repeat' (first|refine vs (k:=?_)|refine Ao ?_|refine Nx.h ?_|refine FY ?_|refine FD ?_|fail)
  have ho:=AK.trans (hs.AB [] (fun e he => .inr (.inr (hs.hold e he))) (by simp [D0]))
  refine cl (h:=by exact Wb sb s F a.id a.core _ (h.only ho) hid GK) (k:=?_)
  rintro v w5 ⟨ve,rfl,T⟩
  obtain ⟨ae,ce,rfl⟩:=T.form
  clear hs
  have hs:=St.nil w5
  refine Ja ?_
  refine AG ?_
  exact ⟨_,rfl,T.fin ho (hs.AD rfl)⟩
 by_cases rV:a.d % 12=10
 ·rw [rV]
  have eD:CS s a=Ek ⟨s,[]⟩ a.ns:=by unfold CS;rw [if_neg (show ¬ a.d % 12 < 2 by omega),if_neg (show ¬ a.d % 12=2 by omega),if_neg (show ¬ a.d % 12 < 5 by omega),if_neg (show ¬ a.d % 12 < 7 by omega),if_neg (show ¬ a.d % 12=7 by omega),if_neg (show ¬ a.d % 12=8 by omega),if_neg (show ¬ a.d % 12=9 by omega)]
  have eI:Fo s a=0:=if_neg (show ¬ a.d % 12 < 2 by omega)
  rw [eD,eI]
  refine Jd ?_
  have ho:=AK.trans (hs.AB [] (fun e he => .inr (.inr (hs.hold e he))) (by simp [D0]))
  refine cl (h:=by exact OU sb s F a.ns _ (h.only ho) Du (hfew om)) (k:=?_)
  rintro v w5 ⟨ve,rfl,T⟩
  obtain ⟨ae,ce,rfl⟩:=T.form
  clear hs
  have hs:=St.nil w5
  refine Ja ?_
  refine AG ?_
  exact ⟨_,rfl,T.fin ho (hs.AD rfl)⟩
 by_cases rQ:a.d % 12=11
 ·rw [rQ]
  have eD:CS s a=Ek ⟨s,[]⟩ a.ns:=by unfold CS;rw [if_neg (show ¬ a.d % 12 < 2 by omega),if_neg (show ¬ a.d % 12=2 by omega),if_neg (show ¬ a.d % 12 < 5 by omega),if_neg (show ¬ a.d % 12 < 7 by omega),if_neg (show ¬ a.d % 12=7 by omega),if_neg (show ¬ a.d % 12=8 by omega),if_neg (show ¬ a.d % 12=9 by omega)]
  have eI:Fo s a=0:=if_neg (show ¬ a.d % 12 < 2 by omega)
  rw [eD,eI]
  refine Jd ?_
  have ho:=AK.trans (hs.AB [] (fun e he => .inr (.inr (hs.hold e he))) (by simp [D0]))
  refine cl (h:=by exact OU sb s F a.ns _ (h.only ho) Du (hfew om)) (k:=?_)
  rintro v w5 ⟨ve,rfl,T⟩
  obtain ⟨ae,ce,rfl⟩:=T.form
  clear hs
  have hs:=St.nil w5
  refine Ja ?_
  refine AG ?_
  exact ⟨_,rfl,T.fin ho (hs.AD rfl)⟩
 omega
theorem bG (p q:Ev):(CY (.int .i64 p.core) (.int .i64 q.core) && (CY (.int .i64 p.id) (.int .i64 q.id) && (CY (.int .u64 p.ns) (.int .u64 q.ns) && (CY (.bool p.done) (.bool q.done) && CY (.bool p.gone) (.bool q.gone)))))=decide (p=q):=by
 obtain ⟨a,b,c,d,e⟩:=p
 obtain ⟨a',b',c',d',e'⟩:=q
 show ((a == a') && ((b == b') && ((c == c') && ((d == d') && (e == e')))))=_
 rw [Bool.eq_iff_iff]
 simp
theorem Xv (va vb:Value) (A B:List Ev) (hm:A.length≤9223372036854775807) (w0:World) (hA:Cu w0 41 5 va (A.map Ev.cells)) (hB:Cu w0 41 5 vb (B.map Ev.cells)) :
 AO Tryz.prog 22 #[va,vb] w0 fun v w'=>v = .bool (decide (A=B))∧AA [] w0 w':=by
 obtain ⟨Si,ca,rfl,hA⟩:=hA
 obtain ⟨TI,cb,rfl,hB⟩:=hB
 rw [List.length_map] at *
 rw [List.length_map] at *
 have hs:=St.nil w0
 refine AR Tryz.func22 Tryz.ntmps22 (k:=?_)
 repeat' (first|refine Sa ?_|refine xc_cond rfl (fun hc=>?_) fun hc=>?_|fail)
 ·refine AG ?_
  refine ⟨congrArg Value.bool ?_,hs.AD rfl⟩
  have hne:A≠B:=fun e=>by subst e;simp at hc
  exact (decide_eq_false hne).symm
 ·have MK:A.length=B.length:=by
   have h:((A.length:Nat):Int)=B.length:=by simpa using hc
   omega
  refine BS (fun _:Unit=>[]) (fun _ w=>A=B∧AA [] w0 w) ?_ ?_
  ·refine BG (fun (i:Nat)=>[(0,.slice Si A.length ca),(1,.slice TI B.length cb),(12,.int .i64 (A.length:Nat)),(13,.int .i64 (i:Nat))])
    (fun i w=>i≤A.length∧A.take i=B.take i∧AA [] w0 w)
    (fun i=>A.length - i) 0 Ae ⟨Nat.zero_le _,by simp,hs.AD rfl⟩ fun i env w ⟨hi,ht,ho⟩=>?_
   clear hs
   have hs:=St.nil w
   repeat' (first|refine Sa ?_|refine Ax rfl (fun hc=>?_) fun hc=>?_|fail)
   ·have hlt:i < A.length:=by omega
    have Il:i < B.length:=by omega
    obtain ⟨ba,oa,lW,fa,rfl,a2,a3,a4⟩:=hA (fun h=>by have:=congrArg List.length h;rw [List.length_map,List.length_nil] at this;omega)
    obtain ⟨bb,ob,fV,fb,rfl,b2,b3,b4⟩:=hB (fun h=>by have:=congrArg List.length h;rw [List.length_map,List.length_nil] at this;omega)
    have ga:=a4 i _ (by rw [List.getElem?_map,List.getElem?_eq_getElem hlt];rfl)
    have gb:=b4 i _ (by rw [List.getElem?_map,List.getElem?_eq_getElem Il];rfl)
    have a3:=ho.block a3 (by simp)
    have b3:=ho.block b3 (by simp)
    have key:A[i]=B[i]→A.take (i+1)=B.take (i+1):=fun he=>by rw [List.take_add_one,List.take_add_one,ht,List.getElem?_eq_getElem hlt,List.getElem?_eq_getElem Il,he]
    have JE:A[i]≠B[i]→A≠B:=fun h e=>h (by subst e;rfl)
    have ei:=Dl hlt hm
    generalize A[i]=x at *
    generalize B[i]=y at *
    by_cases e:ba=bb
    ·subst e
     rw [a3] at b3
     cases b3
     replace hs:=hs.AH a3 (by simp)
     refine dr [] hs (k:=?_);intro hX w hs
     refine tks 0 2 ?_
     refine tk 2 hX (hr:=fun w' hH=>BJ AJ rfl rfl rfl om om) (k:=?_)
     refine tk 3 hX (hr:=fun w' hH=>EU AJ rfl rfl (hH rfl) At.head ga) (k:=?_)
     refine tks 4 2 ?_
     refine tk 6 hX (hr:=fun w' hH=>BJ AJ rfl rfl rfl om om) (k:=?_)
     refine tk 7 hX (hr:=fun w' hH=>EU AJ rfl rfl (hH rfl) At.head gb) (k:=?_)
     refine tk 8 hX (k:=?_)
     refine en (k:=?_)
     repeat' (first|refine Sa ?_|refine xc_cond rfl (fun hc=>?_) fun hc=>?_|fail)
     ·rw [bG] at hc
      refine AG ?_
      exact ⟨congrArg Value.bool (decide_eq_false (JE (by simpa using hc))).symm,ho.step (hs.AB [] (by simp [a3]) (by simp [D0])) (by simp)⟩
     ·rw [bG] at hc
      exact A4 (i+1) om (by (repeat (first | exact Ak | (apply Ac;first | exact rfl | exact congrArg (Value.int .i64) ei)))) ⟨by omega,key (by simpa using hc),ho.step (hs.AB [] (by simp [a3]) (by simp [D0])) (by simp)⟩
    ·replace hs:=(hs.AH a3 (by simp)).AH b3 (by simpa using Ne.symm e)
     refine dr [] hs (k:=?_);intro hX w hs
     refine tks 0 2 ?_
     refine tk 2 hX (hr:=fun w' hH=>BJ AJ rfl rfl rfl om om) (k:=?_)
     refine tk 3 hX (hr:=fun w' hH=>EU AJ rfl rfl (hH rfl) (At.tail At.head) ga) (k:=?_)
     refine tks 4 2 ?_
     refine tk 6 hX (hr:=fun w' hH=>BJ AJ rfl rfl rfl om om) (k:=?_)
     refine tk 7 hX (hr:=fun w' hH=>EU AJ rfl rfl (hH rfl) At.head gb) (k:=?_)
     refine tk 8 hX (k:=?_)
     refine en (k:=?_)
     repeat' (first|refine Sa ?_|refine xc_cond rfl (fun hc=>?_) fun hc=>?_|fail)
     ·rw [bG] at hc
      refine AG ?_
      exact ⟨congrArg Value.bool (decide_eq_false (JE (by simpa using hc))).symm,ho.step (hs.AB [] (by simp [a3,b3]) (by simp [D0])) (by simp)⟩
     ·rw [bG] at hc
      exact A4 (i+1) om (by (repeat (first | exact Ak | (apply Ac;first | exact rfl | exact congrArg (Value.int .i64) ei)))) ⟨by omega,key (by simpa using hc),ho.step (hs.AB [] (by simp [a3,b3]) (by simp [D0])) (by simp)⟩
   ·have e:i=A.length:=by omega
    have TP:A=B:=by
     have h1:A.take i=A:=List.take_of_length_le om
     have h2:B.take i=B:=List.take_of_length_le om
     rw [← h1,ht,h2]
    exact Au () Ae ⟨TP,ho.step (hs.AD rfl) (by simp)⟩
  ·rintro _ env w ⟨rfl,ho⟩
   clear hs
   have hs:=St.nil w
   refine Ja ?_
   refine AG ?_
   exact ⟨congrArg Value.bool (decide_eq_true rfl).symm,ho.step (hs.AD rfl) (by simp)⟩
def aBI (m:Int) (a:CR):Prop:=9 < a.d % 12→a.ns≤1099511627776→a.ns≤m
structure Hr (least ticks:Int) (A:List CR):Prop where
 l1:1≤least
 l2:least≤1099511627776
 t1:0≤ticks
 t2:ticks≤A.length*1099511627776
 a:∀ x∈A,eU least x
 t:∀ x∈A,aBI ticks x
theorem Hr.tick {l t:Int} {A:List CR} (h:Hr l t A) {q:CR} (h0:0≤q.ns) (h1:9 < q.d % 12) (h2:q.ns≤1099511627776):Hr l (t+q.ns) (A ++ [q]):=by
 have hl:((A ++ [q]).length:Int)=A.length+1:=by simp
 refine ⟨h.l1,h.l2,by have:=h.t1;omega,by rw [hl];have:=h.t2;omega,fun x hx=>?_,fun x hx=>?_⟩
 ·rcases List.mem_append.1 hx with k | k
  ·exact h.a x k
  ·obtain rfl:=List.mem_singleton.1 k
   intro z;omega
 ·rcases List.mem_append.1 hx with k | k
  ·intro a b;have:=h.t x k a b;omega
  ·obtain rfl:=List.mem_singleton.1 k
   intro _ _;have:=h.t1;omega
theorem pF (a b:Int):EG a b≤a∧EG a b≤b∧(EG a b=a∨EG a b=b):=by unfold EG;split <;> omega
theorem Hr.ask {l t:Int} {A:List CR} (h:Hr l t A) {q:CR} (h1:¬ (9 < q.d % 12∧q.ns≤1099511627776)) (h2:1≤q.ns):Hr (EG l q.ns) t (A ++ [q]):=by
 have hl:((A ++ [q]).length:Int)=A.length+1:=by simp
 obtain ⟨k1,k2,k3⟩:=pF l q.ns
 refine ⟨by have:=h.l1;omega,by have:=h.l2;omega,h.t1,by rw [hl];have:=h.t2;omega,fun x hx=>?_,fun x hx=>?_⟩
 ·rcases List.mem_append.1 hx with k | k
  ·intro a b;have:=h.a x k a b;omega
  ·obtain rfl:=List.mem_singleton.1 k
   intro _ _;omega
 ·rcases List.mem_append.1 hx with k | k
  ·exact h.t x k
  ·obtain rfl:=List.mem_singleton.1 k
   intro a b;exact absurd ⟨a,b⟩ h1
theorem Hr.skip {l t:Int} {A:List CR} (h:Hr l t A) {q:CR} (h1:¬ (9 < q.d % 12∧q.ns≤1099511627776)) (h2:¬ ((q.d % 12 < 2∨q.d % 12=8)∧1≤q.ns)):Hr l t (A ++ [q]):=by
 have hl:((A ++ [q]).length:Int)=A.length+1:=by simp
 refine ⟨h.l1,h.l2,h.t1,by rw [hl];have:=h.t2;omega,fun x hx=>?_,fun x hx=>?_⟩
 ·rcases List.mem_append.1 hx with k | k
  ·exact h.a x k
  ·obtain rfl:=List.mem_singleton.1 k
   intro a b;exact absurd ⟨a,b⟩ h2
 ·rcases List.mem_append.1 hx with k | k
  ·exact h.t x k
  ·obtain rfl:=List.mem_singleton.1 k
   intro a b;exact absurd ⟨a,b⟩ h1
def aAp (xs:List CR):Prop:=xs.length≤40∧∃ m,1≤m∧(∀ a∈xs,eU m a)∧∀ a∈xs,9 < a.d % 12→a.ns≤1099511627776→a.ns / m≤300
theorem Y4 (c:Cf) (xs:List CR) (sl:Value) (hx:∀ a∈xs,a.In) (w0:World) (hL:TF w0 5 sl (xs.map CR.cells)):AO Tryz.prog 8 #[QX c,sl] w0 fun v w'=>(∃ b,v = .bool b∧(b=true→aAp xs))∧AA [] w0 w':=by
 obtain ⟨ad,cap,rfl,hD⟩:=hL
 rw [List.length_map]
 have hs:=St.nil w0
 refine AR Tryz.func8 Tryz.ntmps8 (k:=?_)
 repeat' (first|refine Sa ?_|(refine bx hs (k:=?_);intro b w hz hs)|refine Ax rfl (fun hc=>?_) fun hc=>?_|fail)
 ·refine AG ?_
  exact ⟨⟨false,rfl,fun h=>by cases h⟩,hs.AD rfl⟩
 have hm:xs.length≤40:=by omega
 have BP:=hs.AD rfl
 refine BS (fun (x:Int × Int)=>[(5,.int .u64 x.1),(6,.int .u64 x.2)]) (fun x w=>Hr x.1 x.2 xs∧AA [] w0 w) ?_ ?_
 ·refine BG (fun (x:Nat × Int × Int)=>[(5,.int .u64 x.2.1),(6,.int .u64 x.2.2),(13,.slice ad xs.length cap),(14,.int .i64 (xs.length:Nat)),(15,.int .i64 (x.1:Nat))])
   (fun x w=>x.1≤xs.length∧Hr x.2.1 x.2.2 (xs.take x.1)∧AA [] w0 w) (fun x=>xs.length - x.1) (0,1099511627776,0) Ae ⟨Nat.zero_le _,⟨by decide,by decide,by decide,by simp,by simp,by simp⟩,BP⟩ fun x env wl ⟨hi,hI,ho⟩=>?_
  obtain ⟨i,least,ticks⟩:=x
  simp only at hi hI
  clear hs
  have hs:=St.nil wl
  repeat' (first|refine Sa ?_|refine Ax rfl (fun hc=>?_) fun hc=>?_|fail)
  ·have hlt:i < xs.length:=by omega
   obtain ⟨b,off,cs,E,fz,rfl,hb,hcs⟩:=hD (fun h=>by have:=congrArg List.length h;rw [List.length_map,List.length_nil] at this;omega)
   have hpk:=hcs i (CR.cells xs[i]) (by rw [List.getElem?_map,List.getElem?_eq_getElem hlt];rfl)
   have ei:=Dl (m:=xs.length) hlt om
   have et:xs.take (i+1)=xs.take i ++ [xs[i]]:=C4 hlt
   have MK:((xs.take i).length:Int)≤40:=by rw [List.length_take];omega
   obtain ⟨d0,hid,GK,hw,Du⟩:=hx xs[i] (List.getElem_mem hlt)
   generalize xs[i]=q at *
   have aBw:0≤q.ns∧q.ns < 18446744073709551616:=Du
   have ht2:=hI.t2
   have ht1:=hI.t1
   have LU:=hI.l1
   have hl2:=hI.l2
   have ew:q.ns≤1099511627776→IntKind.u64.wrap (ticks+q.ns)=ticks+q.ns:=fun h=>by rw [wrap_u64];omega
   have nA:=fun h1 h2=>hI.tick (q:=q) aBw.1 h1 h2
   have nB:=fun h1 h2=>hI.ask (q:=q) h1 h2
   have nC:=fun h1 h2=>hI.skip (q:=q) h1 h2
   rw [← et] at nA nB nC
   refine ix (h0:=(by omega)) (h1:=(by omega)) (k:=?_)
   refine JQ (vs:=q.cells) (ho.block hb (by simp)) hpk (k:=?_)
   refine al hs (k:=?_);clear hs;intro Ir w3 OF hs
   refine AU hs (k:=?_);clear hs;intro w4 hs
   refine Ja ?_
   refine aAv (b:=12) d0.1 (by decide) (k:=?_)
   generalize q.d % 12=m at *
   repeat' (first|refine vs (k:=?_)|refine ps (k:=?_)|refine Ao ?_|refine Nx.h ?_|refine FD ?_|((with_reducible apply B6);exact rfl;exact rfl;intro c hc;(fail_if_success have:true=c:=hc);(fail_if_success have:false=c:=hc);cases c)|refine Ax rfl (fun hc=>?_) fun hc=>?_|fail)
   all_goals (first
    | (have hq : m > 9 ∧ q.ns ≤ 1099511627776 := (by simp only [decide_eq_true_eq, decide_eq_false_iff_not, ge_iff_le, beq_iff_eq, beq_eq_false_iff_ne, ne_eq] at *; omega)
       refine A4 (i+1,least,ticks+q.ns) (by show xs.length - (i+1) < xs.length - i;omega) ?_ ⟨by show i+1≤_;omega,nA om hq.2,ho.trans (hs.AD rfl)⟩;(repeat (first | exact Ak | (apply Ac;first | exact rfl | exact congrArg (Value.int .i64) ei | exact congrArg (Value.int .u64) (ew hq.2) | exact congrArg (Value.int .u64) (ew hq.2))));done)
    | (have hq : ¬ (9 < m ∧ q.ns ≤ 1099511627776) ∧ 1 ≤ q.ns := (by simp only [decide_eq_true_eq, decide_eq_false_iff_not, ge_iff_le, beq_iff_eq, beq_eq_false_iff_ne, ne_eq] at *; omega)
       refine A4 (i+1,EG least q.ns,ticks) (by show xs.length - (i+1) < xs.length - i;omega) ?_ ⟨by show i+1≤_;omega,nB hq.1 hq.2,ho.trans (hs.AD rfl)⟩;(repeat (first | exact Ak | (apply Ac;first | exact rfl | exact congrArg (Value.int .i64) ei)));done)
    | (have hq : ¬ (9 < m ∧ q.ns ≤ 1099511627776) ∧ ¬ ((m < 2 ∨ m = 8) ∧ 1 ≤ q.ns) := (by simp only [decide_eq_true_eq, decide_eq_false_iff_not, ge_iff_le, beq_iff_eq, beq_eq_false_iff_ne, ne_eq] at *; omega)
       refine A4 (i+1,least,ticks) (by show xs.length - (i+1) < xs.length - i;omega) ?_ ⟨by show i+1≤_;omega,nC hq.1 hq.2,ho.trans (hs.AD rfl)⟩;(repeat (first | exact Ak | (apply Ac;first | exact rfl | exact congrArg (Value.int .i64) ei)));done))
  ·have e:i=xs.length:=by omega
   subst e
   rw [List.take_length] at hI
   exact Au (least,ticks) Ae ⟨hI,ho⟩
 ·rintro ⟨least,ticks⟩ env w ⟨hI,ho⟩
  simp only at hI
  have LU:=hI.l1
  have hl2:=hI.l2
  have ht1:=hI.t1
  have ht2:=hI.t2
  clear hs
  have hs:=St.nil w
  refine Ja ?_
  refine AG ?_
  refine ⟨⟨_,rfl,fun hb=>⟨hm,least,LU,hI.a,fun a ha h1 h2=>?_⟩⟩,ho.trans (hs.AD rfl)⟩
  have hq:ticks / least≤300:=by simpa using hb
  have:=Int.ediv_le_ediv (show 0 < least by omega) (hI.t a ha h1 h2)
  omega
theorem aAQ {s:Sy} {a:CR} {m:Int} (hI:Cl s) (hl:Bo m s.t) (hm:1≤m) (ha:a.In) (ht:9 < a.d % 12→a.ns≤1099511627776→a.ns / m≤300):R7 s a:=fun h1 h2 k hk=>by
 have:=jG hI hl hm ha.2.2.2.2.1 (ht h1 h2) hk
 omega
theorem aA (va vb:Value) (A B:List Int) (hm:A.length≤9223372036854775807) (w0:World) (hA:Cu w0 3 1 va (A.map Ld)) (hB:Cu w0 3 1 vb (B.map Ld)) :
 AO Tryz.prog 23 #[va,vb] w0 fun v w'=>v = .bool (decide (A=B))∧AA [] w0 w':=by
 obtain ⟨Si,ca,rfl,hA⟩:=hA
 obtain ⟨TI,cb,rfl,hB⟩:=hB
 rw [List.length_map] at *
 rw [List.length_map] at *
 have hs:=St.nil w0
 refine AR Tryz.func23 Tryz.ntmps23 (k:=?_)
 repeat' (first|refine Sa ?_|refine xc_cond rfl (fun hc=>?_) fun hc=>?_|fail)
 ·refine AG ?_
  refine ⟨congrArg Value.bool ?_,hs.AD rfl⟩
  have hne:A≠B:=fun e=>by subst e;simp at hc
  exact (decide_eq_false hne).symm
 ·have MK:A.length=B.length:=by
   have h:((A.length:Nat):Int)=B.length:=by simpa using hc
   omega
  refine BS (fun _:Unit=>[]) (fun _ w=>A=B∧AA [] w0 w) ?_ ?_
  ·refine BG (fun (i:Nat)=>[(0,.slice Si A.length ca),(1,.slice TI B.length cb),(12,.int .i64 (A.length:Nat)),(13,.int .i64 (i:Nat))])
    (fun i w=>i≤A.length∧A.take i=B.take i∧AA [] w0 w)
    (fun i=>A.length - i) 0 Ae ⟨Nat.zero_le _,by simp,hs.AD rfl⟩ fun i env w ⟨hi,ht,ho⟩=>?_
   clear hs
   have hs:=St.nil w
   repeat' (first|refine Sa ?_|refine Ax rfl (fun hc=>?_) fun hc=>?_|fail)
   ·have hlt:i < A.length:=by omega
    have Il:i < B.length:=by omega
    obtain ⟨ba,oa,lW,fa,rfl,a2,a3,a4⟩:=hA (fun h=>by have:=congrArg List.length h;rw [List.length_map,List.length_nil] at this;omega)
    obtain ⟨bb,ob,fV,fb,rfl,b2,b3,b4⟩:=hB (fun h=>by have:=congrArg List.length h;rw [List.length_map,List.length_nil] at this;omega)
    have ga:=a4 i _ (by rw [List.getElem?_map,List.getElem?_eq_getElem hlt];rfl)
    have gb:=b4 i _ (by rw [List.getElem?_map,List.getElem?_eq_getElem Il];rfl)
    have a3:=ho.block a3 (by simp)
    have b3:=ho.block b3 (by simp)
    have key:A[i]=B[i]→A.take (i+1)=B.take (i+1):=fun he=>by rw [List.take_add_one,List.take_add_one,ht,List.getElem?_eq_getElem hlt,List.getElem?_eq_getElem Il,he]
    have JE:A[i]≠B[i]→A≠B:=fun h e=>h (by subst e;rfl)
    have ei:=Dl hlt hm
    generalize A[i]=x at *
    generalize B[i]=y at *
    by_cases e:ba=bb
    ·subst e
     rw [a3] at b3
     cases b3
     replace hs:=hs.AH a3 (by simp)
     refine dr [] hs (k:=?_);intro hX w hs
     refine tks 0 2 ?_
     refine tk 2 hX (hr:=fun w' hH=>BJ AJ rfl rfl rfl om om) (k:=?_)
     refine tk 3 hX (hr:=fun w' hH=>r_load AJ rfl rfl (hH rfl) At.head (by cases ga;assumption)) (k:=?_)
     refine tks 4 2 ?_
     refine tk 6 hX (hr:=fun w' hH=>BJ AJ rfl rfl rfl om om) (k:=?_)
     refine tk 7 hX (hr:=fun w' hH=>r_load AJ rfl rfl (hH rfl) At.head (by cases gb;assumption)) (k:=?_)
     refine tk 8 hX (k:=?_)
     refine en (k:=?_)
     repeat' (first|refine Sa ?_|refine xc_cond rfl (fun hc=>?_) fun hc=>?_|fail)
     ·refine AG ?_
      exact ⟨congrArg Value.bool (decide_eq_false (JE (by simpa using hc))).symm,ho.step (hs.AB [] (by simp [a3]) (by simp [D0])) (by simp)⟩
     ·exact A4 (i+1) om (by (repeat (first | exact Ak | (apply Ac;first | exact rfl | exact congrArg (Value.int .i64) ei)))) ⟨by omega,key (by simpa using hc),ho.step (hs.AB [] (by simp [a3]) (by simp [D0])) (by simp)⟩
    ·replace hs:=(hs.AH a3 (by simp)).AH b3 (by simpa using Ne.symm e)
     refine dr [] hs (k:=?_);intro hX w hs
     refine tks 0 2 ?_
     refine tk 2 hX (hr:=fun w' hH=>BJ AJ rfl rfl rfl om om) (k:=?_)
     refine tk 3 hX (hr:=fun w' hH=>r_load AJ rfl rfl (hH rfl) (At.tail At.head) (by cases ga;assumption)) (k:=?_)
     refine tks 4 2 ?_
     refine tk 6 hX (hr:=fun w' hH=>BJ AJ rfl rfl rfl om om) (k:=?_)
     refine tk 7 hX (hr:=fun w' hH=>r_load AJ rfl rfl (hH rfl) At.head (by cases gb;assumption)) (k:=?_)
     refine tk 8 hX (k:=?_)
     refine en (k:=?_)
     repeat' (first|refine Sa ?_|refine xc_cond rfl (fun hc=>?_) fun hc=>?_|fail)
     ·refine AG ?_
      exact ⟨congrArg Value.bool (decide_eq_false (JE (by simpa using hc))).symm,ho.step (hs.AB [] (by simp [a3,b3]) (by simp [D0])) (by simp)⟩
     ·exact A4 (i+1) om (by (repeat (first | exact Ak | (apply Ac;first | exact rfl | exact congrArg (Value.int .i64) ei)))) ⟨by omega,key (by simpa using hc),ho.step (hs.AB [] (by simp [a3,b3]) (by simp [D0])) (by simp)⟩
   ·have e:i=A.length:=by omega
    have TP:A=B:=by
     have h1:A.take i=A:=List.take_of_length_le om
     have h2:B.take i=B:=List.take_of_length_le om
     rw [← h1,ht,h2]
    exact Au () Ae ⟨TP,ho.step (hs.AD rfl) (by simp)⟩
  ·rintro _ env w ⟨rfl,ho⟩
   clear hs
   have hs:=St.nil w
   refine Ja ?_
   refine AG ?_
   exact ⟨congrArg Value.bool (decide_eq_true rfl).symm,ho.step (hs.AD rfl) (by simp)⟩
def QS:Cf:=⟨1,2,9,9,0⟩
def RW:Sy:=(Dt (GN QS) ((B8 ⟨GN QS,[]⟩ 0 1 5).1,(B8 ⟨GN QS,[]⟩ 0 1 5).2.2)).2
def Md:Sy:=(Dt RW ((B8 ⟨RW,[]⟩ 0 1 5).1,(B8 ⟨RW,[]⟩ 0 1 5).2.2)).2
def oJ:Sy:=(Dt Md (Ek ⟨Md,[]⟩ 5)).2
theorem aAj:QS.In:=by unfold QS;exact ⟨by decide,by decide,by decide,by decide,by decide⟩
theorem aBJ:Ep QS=0:=by decide
theorem tL:(B8 ⟨GN QS,[]⟩ 0 1 5).1=0:=by kernel_rfl
theorem aBN:(B8 ⟨GN QS,[]⟩ 0 1 5).2.1=1:=by kernel_rfl
theorem r7:(B8 ⟨RW,[]⟩ 0 1 5).1=0:=by kernel_rfl
theorem aBW:(B8 ⟨RW,[]⟩ 0 1 5).2.1=2:=by kernel_rfl
theorem aBB:(Ek ⟨Md,[]⟩ 5).1=0:=by kernel_rfl
theorem aBS:(Dt Md (Ek ⟨Md,[]⟩ 5)).1=[⟨0,1,5,true,false⟩]:=by kernel_rfl
theorem aA9:oJ.k.map Cs.run=[2]:=by kernel_rfl
theorem aBH:Md.k.length=1:=by kernel_rfl
theorem aBC:(AX (AF Md 0) 5).2.2.p.length=1:=by kernel_rfl
theorem YU (w0:World) (ht:D3 w0):AO Tryz.prog 28 #[] w0 fun v w'=>v = .bool true∧AA [] w0 w':=by
 have hs:=St.nil w0
 refine AR Tryz.func28 Tryz.ntmps28 (k:=?_)
 refine Ja ?_
 refine AY hs (h:=by exact Yc _ (tab_only ht (hs.AD rfl))) (k:=?_);intro w' ho hs;refine Jc ?_
 refine AG ?_
 exact ⟨rfl,hs.AD rfl⟩
theorem YL (w0:World) (ht:D3 w0):AO Tryz.prog 7 #[] w0 fun v w'=>v = .bool true∧AA [] w0 w':=by
 have hs:=St.nil w0
 refine AR Tryz.func7 Tryz.ntmps7 (k:=?_)
 refine Ja ?_
 refine cl (h:=by exact MZ QS aAj _) (k:=?_)
 rintro v w1 ⟨h | ⟨-,sb,F0,rfl,hS,EM⟩,AK⟩
 ·exact absurd aBJ h.1
 have BB:=(hs.AD rfl).trans AK
 have rE:∀ k∈F0,w0.heap.size≤k:=fun k hk=>by have:=EM k hk;have:=(hs.AD rfl).size;omega
 have hcb:w0.heap.size≤sb:=rE sb hS.mem
 clear hs
 have hs:=St.nil w1
 refine Jd ?_
 refine cl (h:=by exact LB sb (GN QS) F0 0 1 5 _ (hS.only (hs.AD rfl)) (by decide) (by decide) (by decide)) (k:=?_)
 rw [tL,aBN]
 rintro v w2 ⟨ve,rfl,T⟩
 obtain ⟨ae,ce,rfl⟩:=T.form
 obtain ⟨-,⟨F1,FW,DE⟩,AM⟩:=T
 rw [← tL] at FW
 have FW:Cj w2 sb RW F1:=FW
 have Bn:AA [] w0 w2:=(BB.trans (hs.AD rfl)).step AM (fun k hk => .inr (by obtain rfl:=List.mem_singleton.1 hk;exact hcb))
 clear hs
 have hs:=St.nil w2
 refine Ja ?_
 refine cl (h:=by exact LB sb RW F1 0 1 5 _ (FW.only (hs.AD rfl)) (by decide) (by decide) (by decide)) (k:=?_)
 rw [r7,aBW]
 rintro v w3 ⟨ve,rfl,T⟩
 obtain ⟨ae,ce,rfl⟩:=T.form
 obtain ⟨-,⟨F2,EI,D5⟩,AT⟩:=T
 rw [← r7] at EI
 have EI:Cj w3 sb Md F2:=EI
 have E8:AA [] w0 w3:=(Bn.trans (hs.AD rfl)).step AT (fun k hk => .inr (by obtain rfl:=List.mem_singleton.1 hk;exact hcb))
 clear hs
 have hs:=St.nil w3
 refine Ja ?_
 refine cl (h:=by exact OU sb Md F2 5 _ (EI.only (hs.AD rfl)) (by decide) (fun _ k hk=>by rw [aBH] at hk;obtain rfl:k=0:=(by omega);have e:=aBC;show (AX (AF Md ((0:Nat):Int)) 5).2.2.p.length≤1000000;rw [show ((0:Nat):Int)=0 from rfl,e];decide)) (k:=?_)
 rw [aBB]
 rintro v w4 ⟨ve,rfl,T⟩
 obtain ⟨⟨Ge,hE⟩,⟨F3,J4,NI⟩,Aw⟩:=T
 have J4:Cj w4 sb oJ F3:=J4
 rw [aBS] at hE
 obtain ⟨ae,ce,rfl⟩:=BZ hE
 have CP:AA [] w0 w4:=(E8.trans (hs.AD rfl)).step Aw (fun k hk => .inr (by obtain rfl:=List.mem_singleton.1 hk;exact hcb))
 clear hs
 have hs:=St.nil w4
 refine Ja ?_
 have FA:=CP.trans (hs.AD rfl)
 refine AY hs (h:=by exact YU _ (tab_only ht FA)) (k:=?_);intro w' ho hs;repeat' (first|refine vs (k:=?_)|(refine bs hs (k:=?_);intro b w hz hs)|fail)
 have q8:=lit_ls (xs:=[Ev.cells ⟨0,1,5,true,false⟩]) (k:=5) (hs.get At.head) rfl (by decide) rfl
 have hE':Cu w4 41 5 (.slice ae 1 ce) ([⟨0,1,5,true,false⟩].map Ev.cells):=B7.ls hE rfl (by simp) (fun x hx=>by obtain ⟨p,_,rfl⟩:=List.mem_map.1 hx;rfl)
 refine cl (h:=by exact Xv _ _ [⟨0,1,5,true,false⟩] [⟨0,1,5,true,false⟩] (by decide) _ (hE'.only (hs.AD rfl)) q8) (k:=?_)
 rw [show decide ([(⟨0,1,5,true,false⟩:Ev)]=[⟨0,1,5,true,false⟩])=true by decide]
 rintro v w' ⟨rfl,ho⟩;replace hs:=hs.AN ho;refine Jf ?_
 refine cl (h:=by exact RP sb oJ F3 _ (J4.only (hs.AD rfl))) (k:=?_)
 rw [aA9]
 rintro v w5 ⟨⟨G5,hR,hG5⟩,BY⟩
 obtain ⟨ar,cr,rfl⟩:=BZ hR
 have hoF:=(CP.trans (hs.AD rfl)).trans BY
 clear hs
 have hs:=St.nil w5
 repeat' (first|(refine bs hs (k:=?_);intro b w hz hs)|fail)
 have aBM:=lit_ls (xs:=[Ld 2]) (k:=1) (hs.get At.head) rfl (by decide) rfl
 have hR':Cu w5 3 1 (.slice ar 1 cr) ([(2:Int)].map Ld):=B7.ls (xs:=[(2:Int)].map Ld) hR rfl (by simp) (fun x hx=>by obtain ⟨p,_,rfl⟩:=List.mem_map.1 hx;rfl)
 refine cl (h:=by exact aA _ _ [2] [2] (by decide) _ (hR'.only (hs.AD rfl)) aBM) (k:=?_)
 rw [show decide ([(2:Int)]=[2])=true by decide]
 rintro v w' ⟨rfl,ho⟩;replace hs:=hs.AN ho;refine Jc ?_
 refine AG ?_
 exact ⟨rfl,hoF.trans (hs.AD rfl)⟩
theorem bC (p q:Tk):(CY (.int .i64 p.id) (.int .i64 q.id) && (CY (.int .u8 p.st) (.int .u8 q.st) && (CY (.int .i64 p.core) (.int .i64 q.core) && (CY (.int .u32 p.w) (.int .u32 q.w) && (CY (.int .u64 p.slice) (.int .u64 q.slice) && CY (.int .i64 p.lag) (.int .i64 q.lag))))))=decide (p=q):=by
 obtain ⟨a,b,c,d,e,f⟩:=p
 obtain ⟨a',b',c',d',e',f'⟩:=q
 show ((a == a') && ((b == b') && ((c == c') && ((d == d') && ((e == e') && (f == f'))))))=_
 rw [Bool.eq_iff_iff]
 simp
theorem oG (va vb:Value) (A B:List Tk) (hm:A.length≤9223372036854775807) (w0:World) (hA:Cu w0 51 6 va (A.map Tk.cells)) (hB:Cu w0 51 6 vb (B.map Tk.cells)) :
 AO Tryz.prog 24 #[va,vb] w0 fun v w'=>v = .bool (decide (A=B))∧AA [] w0 w':=by
 obtain ⟨Si,ca,rfl,hA⟩:=hA
 obtain ⟨TI,cb,rfl,hB⟩:=hB
 rw [List.length_map] at *
 rw [List.length_map] at *
 have hs:=St.nil w0
 refine AR Tryz.func24 Tryz.ntmps24 (k:=?_)
 repeat' (first|refine Sa ?_|refine xc_cond rfl (fun hc=>?_) fun hc=>?_|fail)
 ·refine AG ?_
  refine ⟨congrArg Value.bool ?_,hs.AD rfl⟩
  have hne:A≠B:=fun e=>by subst e;simp at hc
  exact (decide_eq_false hne).symm
 ·have MK:A.length=B.length:=by
   have h:((A.length:Nat):Int)=B.length:=by simpa using hc
   omega
  refine BS (fun _:Unit=>[]) (fun _ w=>A=B∧AA [] w0 w) ?_ ?_
  ·refine BG (fun (i:Nat)=>[(0,.slice Si A.length ca),(1,.slice TI B.length cb),(12,.int .i64 (A.length:Nat)),(13,.int .i64 (i:Nat))])
    (fun i w=>i≤A.length∧A.take i=B.take i∧AA [] w0 w)
    (fun i=>A.length - i) 0 Ae ⟨Nat.zero_le _,by simp,hs.AD rfl⟩ fun i env w ⟨hi,ht,ho⟩=>?_
   clear hs
   have hs:=St.nil w
   repeat' (first|refine Sa ?_|refine Ax rfl (fun hc=>?_) fun hc=>?_|fail)
   ·have hlt:i < A.length:=by omega
    have Il:i < B.length:=by omega
    obtain ⟨ba,oa,lW,fa,rfl,a2,a3,a4⟩:=hA (fun h=>by have:=congrArg List.length h;rw [List.length_map,List.length_nil] at this;omega)
    obtain ⟨bb,ob,fV,fb,rfl,b2,b3,b4⟩:=hB (fun h=>by have:=congrArg List.length h;rw [List.length_map,List.length_nil] at this;omega)
    have ga:=a4 i _ (by rw [List.getElem?_map,List.getElem?_eq_getElem hlt];rfl)
    have gb:=b4 i _ (by rw [List.getElem?_map,List.getElem?_eq_getElem Il];rfl)
    have a3:=ho.block a3 (by simp)
    have b3:=ho.block b3 (by simp)
    have key:A[i]=B[i]→A.take (i+1)=B.take (i+1):=fun he=>by rw [List.take_add_one,List.take_add_one,ht,List.getElem?_eq_getElem hlt,List.getElem?_eq_getElem Il,he]
    have JE:A[i]≠B[i]→A≠B:=fun h e=>h (by subst e;rfl)
    have ei:=Dl hlt hm
    generalize A[i]=x at *
    generalize B[i]=y at *
    by_cases e:ba=bb
    ·subst e
     rw [a3] at b3
     cases b3
     replace hs:=hs.AH a3 (by simp)
     refine dr [] hs (k:=?_);intro hX w hs
     refine tks 0 2 ?_
     refine tk 2 hX (hr:=fun w' hH=>BJ AJ rfl rfl rfl om om) (k:=?_)
     refine tk 3 hX (hr:=fun w' hH=>EU AJ rfl rfl (hH rfl) At.head ga) (k:=?_)
     refine tks 4 2 ?_
     refine tk 6 hX (hr:=fun w' hH=>BJ AJ rfl rfl rfl om om) (k:=?_)
     refine tk 7 hX (hr:=fun w' hH=>EU AJ rfl rfl (hH rfl) At.head gb) (k:=?_)
     refine tk 8 hX (k:=?_)
     refine en (k:=?_)
     repeat' (first|refine Sa ?_|refine xc_cond rfl (fun hc=>?_) fun hc=>?_|fail)
     ·rw [bC] at hc
      refine AG ?_
      exact ⟨congrArg Value.bool (decide_eq_false (JE (by simpa using hc))).symm,ho.step (hs.AB [] (by simp [a3]) (by simp [D0])) (by simp)⟩
     ·rw [bC] at hc
      exact A4 (i+1) om (by (repeat (first | exact Ak | (apply Ac;first | exact rfl | exact congrArg (Value.int .i64) ei)))) ⟨by omega,key (by simpa using hc),ho.step (hs.AB [] (by simp [a3]) (by simp [D0])) (by simp)⟩
    ·replace hs:=(hs.AH a3 (by simp)).AH b3 (by simpa using Ne.symm e)
     refine dr [] hs (k:=?_);intro hX w hs
     refine tks 0 2 ?_
     refine tk 2 hX (hr:=fun w' hH=>BJ AJ rfl rfl rfl om om) (k:=?_)
     refine tk 3 hX (hr:=fun w' hH=>EU AJ rfl rfl (hH rfl) (At.tail At.head) ga) (k:=?_)
     refine tks 4 2 ?_
     refine tk 6 hX (hr:=fun w' hH=>BJ AJ rfl rfl rfl om om) (k:=?_)
     refine tk 7 hX (hr:=fun w' hH=>EU AJ rfl rfl (hH rfl) At.head gb) (k:=?_)
     refine tk 8 hX (k:=?_)
     refine en (k:=?_)
     repeat' (first|refine Sa ?_|refine xc_cond rfl (fun hc=>?_) fun hc=>?_|fail)
     ·rw [bC] at hc
      refine AG ?_
      exact ⟨congrArg Value.bool (decide_eq_false (JE (by simpa using hc))).symm,ho.step (hs.AB [] (by simp [a3,b3]) (by simp [D0])) (by simp)⟩
     ·rw [bC] at hc
      exact A4 (i+1) om (by (repeat (first | exact Ak | (apply Ac;first | exact rfl | exact congrArg (Value.int .i64) ei)))) ⟨by omega,key (by simpa using hc),ho.step (hs.AB [] (by simp [a3,b3]) (by simp [D0])) (by simp)⟩
   ·have e:i=A.length:=by omega
    have TP:A=B:=by
     have h1:A.take i=A:=List.take_of_length_le om
     have h2:B.take i=B:=List.take_of_length_le om
     rw [← h1,ht,h2]
    exact Au () Ae ⟨TP,ho.step (hs.AD rfl) (by simp)⟩
  ·rintro _ env w ⟨rfl,ho⟩
   clear hs
   have hs:=St.nil w
   refine Ja ?_
   refine AG ?_
   exact ⟨congrArg Value.bool (decide_eq_true rfl).symm,ho.step (hs.AD rfl) (by simp)⟩
theorem ints_flat:∀ l:List Int,ints l=(l.map Ld).flatten
 | []=>rfl
 | a :: l=>congrArg (Value.int .i64 a :: ·) (ints_flat l)
theorem ls_int {w:World} {v:Value} {l:List Int} {G:List Nat} (h:B7 w 3 1 v l.length (ints l) G):Cu w 3 1 v (l.map Ld):=B7.ls (xs:=l.map Ld) h (ints_flat l) (by simp) (fun x hx=>by obtain ⟨p,_,rfl⟩:=List.mem_map.1 hx;rfl)
theorem ls_tk {w:World} {v:Value} {l:List Tk} {G:List Nat} (h:B7 w 51 6 v l.length (CX l) G):Cu w 51 6 v (l.map Tk.cells):=B7.ls (xs:=l.map Tk.cells) h rfl (by simp) (fun x hx=>by obtain ⟨p,_,rfl⟩:=List.mem_map.1 hx;rfl)
theorem aBD (x:Int):(!(CY (.int .i64 (x / 18446744073709551616)) (.int .i64 (x / 18446744073709551616)) && CY (.int .u64 (x % 18446744073709551616)) (.int .u64 (x % 18446744073709551616))))=false:=by
 show (!((x / 18446744073709551616 == x / 18446744073709551616) && (x % 18446744073709551616 == x % 18446744073709551616)))=false
 simp
end Go.Proofs.Q0
namespace Go.Proofs.Q0
open Go Go.RowKit
structure EL (B:Nat) (s s':Ch):Prop where
 l:s'.ev.length≤s.ev.length+B
 r:IP s.s→IP s'.s
theorem EL.refl (s:Ch):EL 0 s s:=⟨Nat.le_refl _,id⟩
theorem EL.trans {B B':Nat} {s s1 s2:Ch} (h:EL B s s1) (h':EL B' s1 s2):EL (B+B') s s2:=⟨by have:=h.l;have:=h'.l;omega,fun e=>h'.r (h.r e)⟩
theorem EL.mono {B B':Nat} {s s':Ch} (h:EL B s s') (k:B≤B'):EL B' s s':=⟨by have:=h.l;omega,h.r⟩
theorem evl_rows {s:Ch} (t:List Tk):EL 0 s ⟨{ s.s with t:=t },s.ev⟩:=⟨Nat.le_refl _,id⟩
theorem oE {s:Sy} (h:IP s) (k:Int) {c:Cs} (hc:CI c) (t:List Tk):IP (BF { s with t:=t } k c):=fun x hx=>by
 rcases List.mem_or_eq_of_mem_set hx with q | rfl
 ·exact h x q
 ·exact hc
theorem q9 {c c1:Cs} {e:Int} (h:CI c) (h1:CI c1):CI (Bh c e c1):=by
 unfold Bh
 split
 ·exact L7 h1
 ·exact h
theorem aQ (s:Ch) (k:Int) (r:Rp):(Ay s k r).ev.length=s.ev.length+r.p.length+r.g.length:=by rw [MB,List.length_append,List.length_append,List.length_map,List.length_map]
theorem yT {s s':Sy} (h:s'.k=s.k) (hr:IP s):IP s':=fun c hc=>hr c (h ▸ hc)
theorem evl_try {s:Ch} (hR:IP s.s) (t:List Tk) (k:Int) {e:Int} {c1:Cs} {r1:Rp} (hc:CI c1) {g:Nat} (hg:r1.g.length≤g):EL (r1.p.length+g+32) s (Ay ⟨BF { s.s with t:=t } k (Bh (AF s.s k) e c1),s.ev⟩ k (BH e c1 r1)):=by
 obtain ⟨h1,h2⟩:=Hg (e:=e) (r1:=r1) hc
 refine ⟨?_,fun _=>yT (absorb_k _ _ _).1 (oE hR k (q9 (hR.at k) hc) t)⟩
 rw [aQ]
 show s.ev.length+_+_≤_
 omega
theorem JU {s:Ch} (hR:IP s.s) (k:Int) (l:Int × Cs) (h:CI l.2):EL 32 s (Dg s k (l.1,l.2,.none)).2:=by
 unfold Dg
 split
 ·exact (evl_try hR s.s.t k (r1 := .none) h (g:=0) (Nat.le_refl _)).mono (by decide)
 ·exact (EL.refl s).mono om
theorem SS {s:Ch} (hR:IP s.s) (y:Tk) (l:Int × Cs) (h:CI l.2):EL 32 s (Df s y (l.1,l.2,.none)).2:=by
 unfold Df
 split
 ·exact (evl_try hR (Et s.s.t y) y.core (r1 := .none) h (g:=0) (Nat.le_refl _)).mono (by decide)
 ·exact (EL.refl s).mono om
theorem evl_leave {s:Ch} (hR:IP s.s) (x:Tk):EL 32 s (BO s x).2:=(evl_try hR s.s.t x.core (r1 := .none) (Fi (hR.at x.core) x.id) (g:=0) (Nat.le_refl _)).mono (by decide)
theorem evl_with {s:Ch} {B:Nat} (id:Int) (f:Ch→Tk→Int × Ch) (hf:∀ x,EL B s (f s x).2):EL B s (CG s id f).2:=by
 unfold CG
 split
 ·exact (EL.refl s).mono om
 ·exact hf _
theorem Ur {ns:Int} {P:Nat}:∀ (n k:Nat) (s:Ch),IP s.s→(∀ j:Nat,k≤j→j < k+n→(AX (AF s.s j) ns).2.2.p.length≤P)→EL (n*(P+64)) s (DI n k s ns).2
 | 0,k,s,h,_=>(EL.refl s).mono om
 | n+1,k,s,h,hp=>by
   unfold DI
   dsimp only
   split
   ·have e1:=evl_try h s.s.t k (e:=(AX (AF s.s k) ns).1) (r1:=(AX (AF s.s k) ns).2.2) (Ot (h.at k) ns) (g:=32) (by obtain ⟨s1,hs1⟩:=h.at k;exact (tick_bounds hs1 ns).2)
    have e2:=Ur n (k+1) _ (e1.r h) (P:=P) (ns:=ns) (fun j h1 h2=>by
     rw [UF (absorb_k _ _ _).1,RH om om]
     exact hp j om om)
    refine (e1.trans e2).mono ?_
    have:=hp k (Nat.le_refl _) om
    rw [Nat.succ_mul]
    omega
   ·exact (EL.refl s).mono (Nat.zero_le _)
theorem vA {s:Sy} (hR:IP s) {a:CR} (hf:R7 s a) (hk:s.k.length≤8) (ht:9 < a.d % 12→(CS s a).1=0→a.ns≤1099511627776) (h0:(CS s a).1=0):(CS s a).2.ev.length≤100000000:=by
 have key:EL 64 ⟨s,[]⟩ (CS s a).2∨9 < a.d % 12:=by
  unfold CS
  by_cases c1:a.d % 12 < 2
  ·rw [if_pos c1]
   left
   show EL 64 ⟨s,[]⟩ (B8 ⟨s,[]⟩ a.core a.w a.ns).2.2
   unfold B8
   dsimp only
   split
   ·exact (EL.refl _).mono om
   split
   ·exact (EL.refl _).mono om
   split
   ·exact ((evl_rows (s:=⟨s,[]⟩) _).trans (JU hR _ _ (Iu (hR.at _) _ _ _ _))).mono om
   ·exact (EL.refl _).mono om
  rw [if_neg c1]
  by_cases c2:a.d % 12=2
  ·rw [if_pos c2]
   refine .inl (evl_with (s:=⟨s,[]⟩) a.id _ fun x=>?_)
   unfold Ey
   dsimp only
   split
   ·exact ((evl_leave (s:=⟨s,[]⟩) hR x).trans (evl_rows _)).mono om
   ·exact (evl_rows (s:=⟨s,[]⟩) _).mono om
  rw [if_neg c2]
  by_cases c3:a.d % 12 < 5
  ·rw [if_pos c3]
   refine .inl (evl_with (s:=⟨s,[]⟩) a.id _ fun x=>?_)
   unfold GA
   split
   ·exact (EL.refl _).mono om
   ·exact (SS (s:=⟨s,[]⟩) hR _ _ (Kz (hR.at _) _)).mono om
  rw [if_neg c3]
  by_cases c4:a.d % 12 < 7
  ·rw [if_pos c4]
   refine .inl (evl_with (s:=⟨s,[]⟩) a.id _ fun x=>?_)
   unfold EX
   split
   ·exact (EL.refl _).mono om
   split
   ·exact ((evl_rows (s:=⟨s,[]⟩) _).trans (JU hR _ _ (Iu (hR.at _) _ _ _ _))).mono om
   ·exact (SS (s:=⟨s,[]⟩) hR _ _ (MD (hR.at _) _)).mono om
  rw [if_neg c4]
  by_cases c5:a.d % 12=7
  ·rw [if_pos c5]
   refine .inl (evl_with (s:=⟨s,[]⟩) a.id _ fun x=>?_)
   unfold DQ
   split
   ·exact (EL.refl _).mono om
   dsimp only
   split
   ·exact (evl_rows (s:=⟨s,[]⟩) _).mono om
   ·exact ((evl_rows (s:=⟨s,[]⟩) _).trans (JU hR _ _ (Kw (hR.at _) _ _))).mono om
  rw [if_neg c5]
  by_cases c6:a.d % 12=8
  ·rw [if_pos c6]
   refine .inl (evl_with (s:=⟨s,[]⟩) a.id _ fun x=>?_)
   unfold Dy
   split
   ·exact (EL.refl _).mono om
   dsimp only
   split
   ·exact (evl_rows (s:=⟨s,[]⟩) _).mono om
   ·exact ((evl_rows (s:=⟨s,[]⟩) _).trans (JU hR _ _ (LH (hR.at _) _ _))).mono om
  rw [if_neg c6]
  by_cases c7:a.d % 12=9
  ·rw [if_pos c7]
   refine .inl (evl_with (s:=⟨s,[]⟩) a.id _ fun x=>?_)
   show EL 64 ⟨s,[]⟩ (CU ⟨s,[]⟩ x a.core).2
   by_cases q:Ci s.cf a.core≠0∨a.core=x.core
   ·rw [HD (s:=⟨s,[]⟩) q];exact (EL.refl _).mono om
   rw [IJ (s:=⟨s,[]⟩) q]
   have fin:∀ (u:Ch) (lag:Int),EL 32 ⟨s,[]⟩ u→EL 64 ⟨s,[]⟩ (Eo u x a.core lag).2:=fun u lag hu=>by
    have Ho:=hu.r hR
    unfold Eo
    split
    ·exact EL.mono (B:=32+0+32) ((hu.trans (evl_rows (Et u.s.t (Dz x a.core lag)))).trans (JU (s:=⟨{ u.s with t:=Et u.s.t (Dz x a.core lag) },u.ev⟩) Ho a.core _ (Iu (Ho.at _) _ _ _ _))) om
    ·exact EL.mono (B:=32+0) (hu.trans (evl_rows (Et u.s.t (Dz x a.core lag)))) om
   split
   ·exact fin _ _ (evl_leave (s:=⟨s,[]⟩) hR x)
   ·exact fin _ _ ((EL.refl _).mono om)
  ·exact .inr om
 rcases key with q | q
 ·have:=q.l
  have e:([]:List Ev).length=0:=rfl
  simp only at this
  omega
 ·have hn:=ht q h0
  have hp:=hf q hn
  unfold CS at h0 ⊢
  rw [if_neg om,if_neg om,if_neg om,if_neg om,if_neg om,if_neg om,if_neg om] at h0 ⊢
  unfold Ek at h0 ⊢
  dsimp only at h0 ⊢
  split
  ·exact Nat.zero_le _
  have:=(Ur (P:=1000000) s.k.length 0 ⟨s,[]⟩ hR (fun j _ h2=>hp j (by simpa using h2)) (ns:=a.ns)).l
  have e:([]:List Ev).length=0:=rfl
  have h8:s.k.length*(1000000+64)≤8*(1000000+64):=Nat.mul_le_mul_right _ hk
  simp only at this
  omega
theorem u7 {s:Sy} {a:CR} (h:9 < a.d % 12) (h0:(CS s a).1=0) (hd:a.d % 12 < 12):a.ns≤1099511627776:=by
 unfold CS at h0
 rw [if_neg om,if_neg om,if_neg om,if_neg om,if_neg om,if_neg om,if_neg om] at h0
 unfold Ek at h0
 dsimp only at h0
 split at h0
 ·rename_i k;exact absurd h0 k
 ·rename_i k
  have k1:Ar a.ns (DO s.cf.tick)=0:=by simpa using k
  unfold Ar at k1
  split at k1
  ·cases k1
  ·unfold DO at *
   split at * <;> omega
def MU (s:Sy) (a:CR):Sy:=(Dt s (CS s a)).2
theorem wY {s:Sy} {a:CR} (h:(CS s a).1=0):MU s a=(CS s a).2.s:=by unfold MU Dt;rw [if_pos h]
theorem uX {s:Sy} {a:CR} (h:(CS s a).1≠0):MU s a=s:=by unfold MU Dt;rw [if_neg h]
structure Good (m:Int) (s:Sy):Prop where
 inv:Cl s
 least:Bo m s.t
theorem Good.next {m:Int} {s:Sy} (h:Good m s) {a:CR} (ha:a.In) (hm:eU m a):Good m (MU s a):=by
 by_cases e:(CS s a).1=0
 ·rw [wY e];exact ⟨vN h.inv ha e,gG h.inv.ids h.least hm⟩
 ·rw [uX e];exact h
theorem Good.new {m:Int} {c:Cf} (hc:c.In) (h:Ep c=0):Good m (GN c):=⟨inv_new hc h,fun x hx=>by
 obtain ⟨h1,j,hj⟩:=Gq hx
 have:=List.mem_of_getElem? hj
 rw [List.eq_of_mem_replicate this] at h1
 exact absurd h1 (by decide)⟩
theorem Good.few {m:Int} {s:Sy} (h:Good m s) {a:CR} (hm:1≤m) (ha:a.In) (ht:9 < a.d % 12→a.ns≤1099511627776→a.ns / m≤300):R7 s a:=aAQ h.inv h.least hm ha ht
theorem sK {s:Sy} {a:CR} (h:(CS s a).1≠0):Fo s a=0:=by
 unfold Fo
 by_cases c:a.d % 12 < 2
 ·rw [if_pos c]
  unfold CS at h
  rw [if_pos c] at h
  unfold B8 at h ⊢
  dsimp only at h ⊢
  split
  ·rfl
  ·rename_i c1
   rw [if_neg c1] at h
   split
   ·rfl
   ·rename_i c2
    rw [if_neg c2] at h
    split
    ·rename_i c3
     rw [if_pos c3] at h
     exact absurd rfl h
    ·rfl
 ·rw [if_neg c]
theorem xP {s:Sy} (h:Cl s) {a:CR} (hf:R7 s a):(Dt s (CS s a)).1.length≤100000000:=by
 unfold Dt
 split
 ·rename_i e
  exact vA h.rep hf (by have:=h.ok.len;have:=h.ok.hi;omega) (fun q e=>u7 q e om) e
 ·exact Nat.zero_le _
theorem jA {w:World} {v:Value} {l:List Ev} {G:List Nat} (h:B7 w 41 5 v l.length (NA l) G):Cu w 41 5 v (l.map Ev.cells):=B7.ls (xs:=l.map Ev.cells) h rfl (by simp) (fun x hx=>by obtain ⟨p,_,rfl⟩:=List.mem_map.1 hx;rfl)
structure Ig (w0:World) (sa sb:Nat) (s t:Sy) (F G:List Nat) (w:World):Prop where
 a:Cj w sa s F
 b:Cj w sb t G
 d:∀ k∈F,k∉G
 f:∀ k∈F,w0.heap.size≤k
 g:∀ k∈G,w0.heap.size≤k
 o:AA [] w0 w
section
variable {w0 w w' : World} {sa sb : Nat} {s t : Sy} {F G : List Nat}
theorem Ig.keep (h:Ig w0 sa sb s t F G w) (ho:AA [] w w'):Ig w0 sa sb s t F G w':=⟨h.a.only ho,h.b.only ho,h.d,h.f,h.g,h.o.trans ho⟩
theorem Ig.left {ve:Value} {l:Int × Ch} (h:Ig w0 sa sb s t F G w) (T:EH w sa F [] ve s l w'):∃ F',Ig w0 sa sb (Dt s l).2 t F' G w':=by
 obtain ⟨_,⟨F',hC,hF⟩,ho⟩:=T
 have hz:=h.o.size
 refine ⟨F',hC,h.b.Ah ho (fun k hk hm=>?_),fun k hk hm=>?_,fun k hk=>?_,h.g,h.o.step ho (fun k hk=>?_)⟩
 ·obtain rfl:=List.mem_singleton.1 hm
  exact h.d _ h.a.mem hk
 ·rcases hF k hk with q | q
  ·exact h.d k q hm
  ·have:=h.b.lt k hm;omega
 ·rcases hF k hk with q | q
  ·exact h.f k q
  ·omega
 ·obtain rfl:=List.mem_singleton.1 hk
  exact .inr (h.f _ h.a.mem)
theorem Ig.swap (h:Ig w0 sa sb s t F G w):Ig w0 sb sa t s G F w:=⟨h.b,h.a,fun k h1 h2=>h.d k h2 h1,h.g,h.f,h.o⟩
theorem Ig.right {ve:Value} {l:Int × Ch} (h:Ig w0 sa sb s t F G w) (T:EH w sb G [] ve t l w'):∃ G',Ig w0 sa sb s (Dt t l).2 F G' w':=by
 obtain ⟨G',h'⟩:=h.swap.left T
 exact ⟨G',h'.swap⟩
end
end Go.Proofs.Q0
namespace Go.Proofs.YtjiiakjheghcoaaGreatDoor
open Go
theorem uS:laidOutB Tryz.prog=true:=by kernel_rfl
theorem xK:mapsRowed Tryz.prog=true:=by kernel_rfl
theorem vR:(true == Tryz.prog.plainKeys)=true:=by kernel_rfl
theorem rL:Tryz.prog.stopsHeard=true:=by kernel_rfl
theorem nX:Tryz.prog.mayEnter=true:=by kernel_rfl
theorem v7:(false == Tryz.prog.liftsFinal)=true:=by kernel_rfl
theorem wX:(Tryz.prog.make == some .cut)=true:=by kernel_rfl
theorem and_mk {a b:Bool} (h:a=true) (k:b=true):(a && b)=true:=by rw [h,k];rfl
end Go.Proofs.YtjiiakjheghcoaaGreatDoor
namespace Go.Proofs.Q0
open Go
theorem door_met (os : Os) (args : Array Value) : laidMetH Tryz.prog [("math/bits.deBruijn32tab", YtjiiakjheghcoaaGreatDoor.Rows.laid_math_bits_deBruijn32tab), ("math/bits.deBruijn64tab", YtjiiakjheghcoaaGreatDoor.Rows.laid_math_bits_deBruijn64tab), ("internal/strconv.uint64pow10", YtjiiakjheghcoaaGreatDoor.Rows.laid_internal_strconv_uint64pow10)] ((World.doorLaid Tryz.prog 24 os).forCall (fun _ _ => 0) ⟨#[], args, []⟩).memory :=
 laidMetH_of_parts3 (fuel:=8) (laidMet_of_run' 8 (by kernel_rfl) (by kernel_rfl)) (by kernel_rfl) (by kernel_rfl)
theorem xJ {W : World} (h : laidMetH Tryz.prog [("math/bits.deBruijn32tab", YtjiiakjheghcoaaGreatDoor.Rows.laid_math_bits_deBruijn32tab), ("math/bits.deBruijn64tab", YtjiiakjheghcoaaGreatDoor.Rows.laid_math_bits_deBruijn64tab), ("internal/strconv.uint64pow10", YtjiiakjheghcoaaGreatDoor.Rows.laid_internal_strconv_uint64pow10)] W) : D3 W := by
 rw [MakeChecks.laidMetH_plain _ _ _ (by kernel_rfl)] at h
 have h2:=h.tail.tail
 exact Lib.tabIs_of_head (g := (Tryz.prog.globalNamed "internal/strconv.uint64pow10").getD 0) (t := 315) (e := 22) (n := 20) (by kernel_rfl) (by kernel_rfl) (by kernel_rfl) (by kernel_rfl) (by kernel_rfl) (by kernel_rfl) h2
end Go.Proofs.Q0
namespace Go.Proofs.Q0
open Go Go.RowKit
def DU (t o:Int) (s:Sy):Sy:=⟨{ s.cf with origin:=o },s.t,s.k.map (BN t)⟩
def Bz (t o:Int) (c:Ch):Ch:=⟨DU t o c.s,c.ev⟩
theorem FK (t o:Int) (s:Sy) {k:Int} (h:k.toNat < s.k.length):AF (DU t o s) k=BN t (AF s k):=by
 unfold AF DU
 show (s.k.map (BN t)).getD k.toNat (Dw 0)=BN t (s.k.getD k.toNat (Dw 0))
 rw [List.getD_eq_getElem?_getD,List.getD_eq_getElem?_getD,List.getElem?_map,List.getElem?_eq_getElem h];rfl
theorem rF (t o:Int) (s:Sy) (k:Int) (c:Cs):BF (DU t o s) k (BN t c)=DU t o (BF s k c):=by
 unfold BF DU
 show (⟨_,_,(s.k.map (BN t)).set k.toNat (BN t c)⟩:Sy)=⟨_,_,(s.k.set k.toNat c).map (BN t)⟩
 rw [List.map_set]
theorem xN (t:Int) (c c1:Cs) (e:Int):Bh (BN t c) e (BN t c1)=BN t (Bh c e c1):=by
 unfold Bh
 split
 ·exact ZI t c1
 ·rfl
theorem wG (t:Int) (c1:Cs) (e:Int) (r1:Rp):BH e (BN t c1) (GP t r1)=GP t (BH e c1 r1):=by
 unfold BH
 split
 ·show (⟨(r1.g.map (MO t)) ++ Cd (BN t c1),r1.p⟩:Rp)=⟨(r1.g ++ Cd c1).map (MO t),r1.p⟩
  rw [T7,List.map_append]
 ·rfl
theorem Zk (t o k:Int):∀ (G:List Gn) (s:Ch),(G.map (MO t)).foldl (DN k) (Bz t o s)=Bz t o (G.foldl (DN k) s)
 | [],s=>rfl
 | g :: G,s=>Zk t o k G (DN k s g)
theorem aE (t o k:Int):∀ (l:List Pr) (s:Ch),l.foldl (GB k) (Bz t o s)=Bz t o (l.foldl (GB k) s)
 | [],s=>rfl
 | p :: l,s=>aE t o k l (GB k s p)
theorem lP (t o:Int) (s:Ch) (k:Int) (r:Rp):Ay (Bz t o s) k (GP t r)=Bz t o (Ay s k r):=by
 unfold Ay
 show (r.g.map (MO t)).foldl (DN k) (r.p.foldl (GB k) (Bz t o s))=_
 rw [aE,Zk]
theorem done_sh (t o:Int) (s:Sy) (tt:List Tk) (ev:List Ev) (k:Int) (hk:k.toNat < s.k.length) (e:Int) (c1:Cs) (r1:Rp) :
 Ay ⟨BF { DU t o s with t:=tt } k (Bh (AF (DU t o s) k) e (BN t c1)),ev⟩ k (BH e (BN t c1) (GP t r1))=Bz t o (Ay ⟨BF { s with t:=tt } k (Bh (AF s k) e c1),ev⟩ k (BH e c1 r1)):=by
 rw [FK t o s hk,xN,wG]
 rw [show (⟨BF { DU t o s with t:=tt } k (BN t (Bh (AF s k) e c1)),ev⟩:Ch)=Bz t o ⟨BF { s with t:=tt } k (Bh (AF s k) e c1),ev⟩ by
  unfold Bz
  rw [← rF];rfl]
 exact lP t o _ k _
theorem OP (t o:Int) (s:Ch) (k:Int) (hk:k.toNat < s.s.k.length) (l:Int × Cs × Rp):Dg (Bz t o s) k (l.1,BN t l.2.1,GP t l.2.2)=((Dg s k l).1,Bz t o (Dg s k l).2):=by
 unfold Dg
 by_cases h:l.1=0
 ·show (if l.1=0 then ((0:Int),Ay ⟨BF (DU t o s.s) k (Bh (AF (DU t o s.s) k) l.1 (BN t l.2.1)),s.ev⟩ k (BH l.1 (BN t l.2.1) (GP t l.2.2))) else (l.1,Bz t o s))=_
  rw [if_pos h,if_pos h]
  exact Prod.ext rfl (done_sh t o s.s s.s.t s.ev k hk l.1 l.2.1 l.2.2)
 ·show (if l.1=0 then ((0:Int),Ay ⟨BF (DU t o s.s) k (Bh (AF (DU t o s.s) k) l.1 (BN t l.2.1)),s.ev⟩ k (BH l.1 (BN t l.2.1) (GP t l.2.2))) else (l.1,Bz t o s))=_
  rw [if_neg h,if_neg h]
theorem Uj (t o:Int) (s:Ch) (y:Tk) (hk:y.core.toNat < s.s.k.length) (l:Int × Cs × Rp):Df (Bz t o s) y (l.1,BN t l.2.1,GP t l.2.2)=((Df s y l).1,Bz t o (Df s y l).2):=by
 unfold Df
 by_cases h:l.1=0
 ·show (if l.1=0 then ((0:Int),Ay ⟨Bk (BF (DU t o s.s) y.core (Bh (AF (DU t o s.s) y.core) l.1 (BN t l.2.1))) y,s.ev⟩ y.core (BH l.1 (BN t l.2.1) (GP t l.2.2))) else (l.1,Bz t o s))=_
  rw [if_pos h,if_pos h]
  exact Prod.ext rfl (done_sh t o s.s (Et s.s.t y) s.ev y.core hk l.1 l.2.1 l.2.2)
 ·show (if l.1=0 then ((0:Int),Ay ⟨Bk (BF (DU t o s.s) y.core (Bh (AF (DU t o s.s) y.core) l.1 (BN t l.2.1))) y,s.ev⟩ y.core (BH l.1 (BN t l.2.1) (GP t l.2.2))) else (l.1,Bz t o s))=_
  rw [if_neg h,if_neg h]
theorem Um (t o:Int) (s:Ch) (x:Tk) (hk:x.core.toNat < s.s.k.length):BO (Bz t o s) x=((BO s x).1,Bz t o (BO s x).2):=by
 unfold BO
 have e1:AF (Bz t o s).s x.core=BN t (AF s.s x.core):=FK t o s.s hk
 have e2:=Uc t (AF s.s x.core) x.id
 have e3:Bj (BN t (AF s.s x.core)).A x.id=Bj (AF s.s x.core).A x.id:=NQ t _ _
 refine Prod.ext ?_ ?_
 ·show Fa _ (Bj (AF (Bz t o s).s x.core).A x.id) x.slice=Fa _ (Bj (AF s.s x.core).A x.id) x.slice
  rw [e1,e3];rfl
 ·have:=done_sh t o s.s s.s.t s.ev x.core hk (Ab (AF s.s x.core) x.id).1 (Ab (AF s.s x.core) x.id).2 .none
  show Ay ⟨BF (DU t o s.s) x.core (Bh (AF (DU t o s.s) x.core) (Ab (AF (DU t o s.s) x.core) x.id).1 (Ab (AF (DU t o s.s) x.core) x.id).2),s.ev⟩ x.core (BH (Ab (AF (DU t o s.s) x.core) x.id).1 (Ab (AF (DU t o s.s) x.core) x.id).2 .none)=_
  rw [show Ab (AF (DU t o s.s) x.core) x.id=((Ab (AF s.s x.core) x.id).1,BN t (Ab (AF s.s x.core) x.id).2) by rw [← e2];exact congrArg (fun c=>Ab c x.id) e1]
  exact this
def dK (s:Sy):Prop:=∀ k:Nat,k < s.k.length→BL (GF (AF s k).A)
theorem RY (t o:Int) (s:Ch) (y:Tk) (lag:Int) (h0:0≤y.core) (hk:y.core.toNat < s.s.k.length) (hi:In64 y.id) (hw:Fk y.w) (hn:BL y.slice) (hu:BL (GF (AF s.s y.core).A)):E0 (Bz t o s) y lag=((E0 s y lag).1,Bz t o (E0 s y lag).2):=by
 have e1:AF (Bz t o s).s y.core=BN t (AF s.s y.core):=FK t o s.s hk
 have e2:=qZ t (AF s.s y.core) y.id y.w y.slice lag hi hn (fun p hp=>iH hu hw hp)
 unfold E0
 rw [e1,e2]
 exact OP t o s y.core hk ((Bc (AF s.s y.core) y.id y.w y.slice lag).1,(Bc (AF s.s y.core) y.id y.w y.slice lag).2,.none)
theorem fZ (t:Int) (c:Cs) (id:Int):CA (BN t c) id=CA c id:=by
 have hf:A2 (BN t c).A.l id=(A2 c.A.l id).map (DP t):=FE t c.A id
 have h1:Cq (BN t c).A id=Cq c.A id:=aM t c.A id
 have h2:Bj (BN t c).A id=Bj c.A id:=NQ t c.A id
 unfold CA
 rw [hf,h1,h2]
 cases A2 c.A.l id <;> rfl
theorem LN (t o:Int) (s:Ch) (id:Int) (f:Ch→Tk→Int × Ch) (hf:DG (BI s.s.t id)=0→f (Bz t o s) (AV s.s.t id)=((f s (AV s.s.t id)).1,Bz t o (f s (AV s.s.t id)).2)):CG (Bz t o s) id f=((CG s id f).1,Bz t o (CG s id f).2):=by
 unfold CG
 by_cases h:DG (BI s.s.t id)≠0
 ·have h':DG (BI (Bz t o s).s.t id)≠0:=h
  rw [if_pos h,if_pos h'];rfl
 ·have h':¬ DG (BI (Bz t o s).s.t id)≠0:=h
  rw [if_neg h,if_neg h']
  refine hf ?_
  rcases Classical.em (DG (BI s.s.t id)=0) with q | q
  ·exact q
  ·exact absurd q h
theorem Xn (t o ns:Int):∀ (n k:Nat) (s:Ch),k+n=s.s.k.length→DI n k (Bz t o s) ns=((DI n k s ns).1,Bz t o (DI n k s ns).2)
 | 0,k,s,_=>rfl
 | n+1,k,s,hk=>by
   unfold DI
   have hk2:((k:Nat):Int).toNat < s.s.k.length:=by omega
   have e1:AF (Bz t o s).s k=BN t (AF s.s k):=FK t o s.s hk2
   have e2:=aB t (AF s.s k) ns
   rw [e1,e2]
   by_cases h:(AX (AF s.s k) ns).1=0
   ·have hl:=absorb_k ⟨BF s.s k (Bh (AF s.s k) (AX (AF s.s k) ns).1 (AX (AF s.s k) ns).2.1),s.ev⟩ k (BH (AX (AF s.s k) ns).1 (AX (AF s.s k) ns).2.1 (AX (AF s.s k) ns).2.2)
    have hd:=done_sh t o s.s s.s.t s.ev k hk2 (AX (AF s.s k) ns).1 (AX (AF s.s k) ns).2.1 (AX (AF s.s k) ns).2.2
    rw [FK t o s.s hk2] at hd
    show (if (AX (AF s.s k) ns).1=0 then DI n (k+1) (Ay ⟨BF (DU t o s.s) k (Bh (BN t (AF s.s k)) (AX (AF s.s k) ns).1 (BN t (AX (AF s.s k) ns).2.1)),s.ev⟩ k (BH (AX (AF s.s k) ns).1 (BN t (AX (AF s.s k) ns).2.1) (GP t (AX (AF s.s k) ns).2.2))) ns else ((AX (AF s.s k) ns).1,Bz t o s))=((if (AX (AF s.s k) ns).1=0 then DI n (k+1) (Ay ⟨BF s.s k (Bh (AF s.s k) (AX (AF s.s k) ns).1 (AX (AF s.s k) ns).2.1),s.ev⟩ k (BH (AX (AF s.s k) ns).1 (AX (AF s.s k) ns).2.1 (AX (AF s.s k) ns).2.2)) ns else ((AX (AF s.s k) ns).1,s)).1,Bz t o (if (AX (AF s.s k) ns).1=0 then DI n (k+1) (Ay ⟨BF s.s k (Bh (AF s.s k) (AX (AF s.s k) ns).1 (AX (AF s.s k) ns).2.1),s.ev⟩ k (BH (AX (AF s.s k) ns).1 (AX (AF s.s k) ns).2.1 (AX (AF s.s k) ns).2.2)) ns else ((AX (AF s.s k) ns).1,s)).2)
    rw [if_pos h,if_pos h]
    have hd2:Ay ⟨BF (DU t o s.s) k (Bh (BN t (AF s.s k)) (AX (AF s.s k) ns).1 (BN t (AX (AF s.s k) ns).2.1)),s.ev⟩ k (BH (AX (AF s.s k) ns).1 (BN t (AX (AF s.s k) ns).2.1) (GP t (AX (AF s.s k) ns).2.2))=_:=hd
    rw [hd2]
    refine Xn t o ns n (k+1) _ ?_
    have hd3:(Ay ⟨BF s.s k (Bh (AF s.s k) (AX (AF s.s k) ns).1 (AX (AF s.s k) ns).2.1),s.ev⟩ k (BH (AX (AF s.s k) ns).1 (AX (AF s.s k) ns).2.1 (AX (AF s.s k) ns).2.2)).s.k=s.s.k.set k (Bh (AF s.s k) (AX (AF s.s k) ns).1 (AX (AF s.s k) ns).2.1):=hl.1
    show k+1+n=(Ay ⟨BF s.s k (Bh (AF s.s k) (AX (AF s.s k) ns).1 (AX (AF s.s k) ns).2.1),s.ev⟩ k (BH (AX (AF s.s k) ns).1 (AX (AF s.s k) ns).2.1 (AX (AF s.s k) ns).2.2)).s.k.length
    rw [hd3,List.length_set];omega
   ·show (if (AX (AF s.s k) ns).1=0 then _ else ((AX (AF s.s k) ns).1,Bz t o s))=((if (AX (AF s.s k) ns).1=0 then _ else ((AX (AF s.s k) ns).1,s)).1,Bz t o (if (AX (AF s.s k) ns).1=0 then _ else ((AX (AF s.s k) ns).1,s)).2)
    rw [if_neg h,if_neg h]
theorem Xh (t o:Int) {s:Sy} (h:Cl s) (hu:dK s) {a:CR} (ha:a.In):CS (DU t o s) a=((CS s a).1,Bz t o (CS s a).2):=by
 have hx:DG (BI s.t a.id)=0→∃ k:Nat,(AV s.t a.id).core=k∧k < s.k.length∧AV s.t a.id∈Aj s.t:=fun e=>by
  obtain ⟨k1,_⟩:=task_live h.ids e
  obtain ⟨k,hk,hk2⟩:=h.ok.GU k1
  exact ⟨k,hk,hk2,k1⟩
 have Ho:∀ {k:Int},0≤k→k.toNat < s.k.length→BL (GF (AF s k).A):=fun {k} h0 h1=>by
  have:=hu k.toNat h1
  rwa [Int.toNat_of_nonneg h0] at this
 unfold CS
 by_cases c1:a.d % 12 < 2
 ·rw [if_pos c1,if_pos c1]
  have key:B8 (Bz t o ⟨s,[]⟩) a.core a.w a.ns=((B8 ⟨s,[]⟩ a.core a.w a.ns).1,(B8 ⟨s,[]⟩ a.core a.w a.ns).2.1,Bz t o (B8 ⟨s,[]⟩ a.core a.w a.ns).2.2):=by
   by_cases q1:DV s a.core a.w a.ns≠0
   ·rw [JO (s:=Bz t o ⟨s,[]⟩) q1,JO (s:=⟨s,[]⟩) q1];rfl
   have h0:0≤a.core∧a.core < s.cf.cores:=by
    have q1:=q1
    unfold DV GR at q1
    split at q1
    ·rename_i z;exact absurd z q1
    ·rename_i z
     unfold Ci at z
     split at z
     ·exact absurd (by decide) z
     ·omega
   have hlen:=h.ok.len
   have hk:a.core.toNat < s.k.length:=by omega
   by_cases q2:E9 s.t (BU a.core a.w a.ns)≠0
   ·rw [Jp (s:=Bz t o ⟨s,[]⟩) q1 q2,Jp (s:=⟨s,[]⟩) q1 q2];rfl
   have hid:In64 (E5 s.t (BU a.core a.w a.ns)):=by
    have e2:E9 s.t (BU a.core a.w a.ns)=0:=by
     rcases Classical.em (E9 s.t (BU a.core a.w a.ns)=0) with q | q
     ·exact q
     ·exact absurd q q2
    obtain ⟨_,_,n1,n2⟩:=OR h.ids e2 (BU a.core a.w a.ns)
    have:=h.ok.tl
    unfold In64;omega
   have hj:Gv (Bz t o ⟨s,[]⟩) a.core a.w a.ns=((Gv ⟨s,[]⟩ a.core a.w a.ns).1,Bz t o (Gv ⟨s,[]⟩ a.core a.w a.ns).2) :=
    RY t o ⟨{ s with t:=Dp s.t (BU a.core a.w a.ns) },[]⟩ { BU a.core a.w a.ns with id:=E5 s.t (BU a.core a.w a.ns) } 0 h0.1 hk hid (LJ _) ha.2.2.2.2 (Ho h0.1 hk)
   rw [Lp (s:=Bz t o ⟨s,[]⟩) q1 q2,Lp (s:=⟨s,[]⟩) q1 q2,hj]
   by_cases q3:(Gv ⟨s,[]⟩ a.core a.w a.ns).1=0
   ·rw [if_pos q3,if_pos q3];rfl
   ·rw [if_neg q3,if_neg q3]
  show ((B8 (Bz t o ⟨s,[]⟩) a.core a.w a.ns).1,(B8 (Bz t o ⟨s,[]⟩) a.core a.w a.ns).2.2)=_
  rw [key]
 rw [if_neg c1,if_neg c1]
 by_cases c2:a.d % 12=2
 ·rw [if_pos c2,if_pos c2]
  refine LN t o ⟨s,[]⟩ a.id (fun s x=>Ey s x a.id) fun e=>?_
  obtain ⟨k,hk,hk2,_⟩:=hx e
  show Ey (Bz t o ⟨s,[]⟩) (AV s.t a.id) a.id=((Ey ⟨s,[]⟩ (AV s.t a.id) a.id).1,Bz t o (Ey ⟨s,[]⟩ (AV s.t a.id) a.id).2)
  unfold Ey
  cases hc:BK (AV s.t a.id) with
  | true =>
    rw [if_pos rfl,if_pos rfl,Um t o ⟨s,[]⟩ (AV s.t a.id) (by rw [hk];exact hk2)];rfl
  | false=>rw [if_neg (by simp),if_neg (by simp)];rfl
 rw [if_neg c2,if_neg c2]
 by_cases c3:a.d % 12 < 5
 ·rw [if_pos c3,if_pos c3]
  refine LN t o ⟨s,[]⟩ a.id (fun s x=>GA s x a.id) fun e=>?_
  obtain ⟨k,hk,hk2,_⟩:=hx e
  have LV:(AV s.t a.id).core.toNat < s.k.length:=by rw [hk];exact hk2
  show GA (Bz t o ⟨s,[]⟩) (AV s.t a.id) a.id=((GA ⟨s,[]⟩ (AV s.t a.id) a.id).1,Bz t o (GA ⟨s,[]⟩ (AV s.t a.id) a.id).2)
  unfold GA
  by_cases q:(AV s.t a.id).st≠1
  ·rw [if_pos q,if_pos q]
  rw [if_neg q,if_neg q]
  have e1:AF (Bz t o ⟨s,[]⟩).s (AV s.t a.id).core=BN t (AF s (AV s.t a.id).core):=FK t o s LV
  have e2:ES (Bz t o ⟨s,[]⟩) (AV s.t a.id) a.id=ES ⟨s,[]⟩ (AV s.t a.id) a.id:=by
   unfold ES
   rw [e1,fZ];rfl
  rw [e1,e2,mV]
  have hc:(ES ⟨s,[]⟩ (AV s.t a.id) a.id).core=(AV s.t a.id).core:=VI _ _ _
  exact Uj t o ⟨s,[]⟩ _ (by rw [hc];exact LV) ((B9 (AF s (AV s.t a.id).core) a.id).1,(B9 (AF s (AV s.t a.id).core) a.id).2,.none)
 rw [if_neg c3,if_neg c3]
 by_cases c4:a.d % 12 < 7
 ·rw [if_pos c4,if_pos c4]
  refine LN t o ⟨s,[]⟩ a.id (fun s x=>EX s x a.id) fun e=>?_
  obtain ⟨k,hk,hk2,hlv⟩:=hx e
  have hro:=h.ok.PL hlv
  have LV:(AV s.t a.id).core.toNat < s.k.length:=by rw [hk];exact hk2
  show EX (Bz t o ⟨s,[]⟩) (AV s.t a.id) a.id=((EX ⟨s,[]⟩ (AV s.t a.id) a.id).1,Bz t o (EX ⟨s,[]⟩ (AV s.t a.id) a.id).2)
  unfold EX
  by_cases q:(AV s.t a.id).st=1
  ·rw [if_pos q,if_pos q]
  rw [if_neg q,if_neg q]
  by_cases q2:(AV s.t a.id).st=3
  ·rw [if_pos q2,if_pos q2]
   exact RY t o ⟨Bk s { AV s.t a.id with st:=1 },[]⟩ { AV s.t a.id with st:=1 } _ (by show 0≤(AV s.t a.id).core;omega) LV hro.1 hro.2.2.2.1 hro.2.2.2.2.1 (Ho (by show 0≤(AV s.t a.id).core;omega) LV)
  ·rw [if_neg q2,if_neg q2]
   have e1:AF (Bz t o ⟨s,[]⟩).s (AV s.t a.id).core=BN t (AF s (AV s.t a.id).core):=FK t o s LV
   rw [e1,qG]
   exact Uj t o ⟨s,[]⟩ { AV s.t a.id with st:=1 } LV ((CE (AF s (AV s.t a.id).core) a.id).1,(CE (AF s (AV s.t a.id).core) a.id).2,.none)
 rw [if_neg c4,if_neg c4]
 by_cases c5:a.d % 12=7
 ·rw [if_pos c5,if_pos c5]
  refine LN t o ⟨s,[]⟩ a.id (fun s x=>DQ s x a.id a.w) fun e=>?_
  obtain ⟨k,hk,hk2,hlv⟩:=hx e
  have LV:(AV s.t a.id).core.toNat < s.k.length:=by rw [hk];exact hk2
  show DQ (Bz t o ⟨s,[]⟩) (AV s.t a.id) a.id a.w=((DQ ⟨s,[]⟩ (AV s.t a.id) a.id a.w).1,Bz t o (DQ ⟨s,[]⟩ (AV s.t a.id) a.id a.w).2)
  unfold DQ
  by_cases q:Ar a.w 1048576≠0
  ·rw [if_pos q,if_pos q]
  rw [if_neg q,if_neg q]
  by_cases q2:BK (AV s.t a.id)=false
  ·rw [if_pos q2,if_pos q2];rfl
  ·rw [if_neg q2,if_neg q2]
   have e1:AF (Bz t o ⟨s,[]⟩).s (AV s.t a.id).core=BN t (AF s (AV s.t a.id).core):=FK t o s LV
   rw [e1,mY]
   exact OP t o ⟨Bk s { AV s.t a.id with w:=IntKind.u32.wrap a.w },[]⟩ _ LV ((Be (AF s (AV s.t a.id).core) a.id (IntKind.u32.wrap a.w)).1,(Be (AF s (AV s.t a.id).core) a.id (IntKind.u32.wrap a.w)).2,.none)
 rw [if_neg c5,if_neg c5]
 by_cases c6:a.d % 12=8
 ·rw [if_pos c6,if_pos c6]
  refine LN t o ⟨s,[]⟩ a.id (fun s x=>Dy s x a.id a.ns) fun e=>?_
  obtain ⟨k,hk,hk2,hlv⟩:=hx e
  have LV:(AV s.t a.id).core.toNat < s.k.length:=by rw [hk];exact hk2
  show Dy (Bz t o ⟨s,[]⟩) (AV s.t a.id) a.id a.ns=((Dy ⟨s,[]⟩ (AV s.t a.id) a.id a.ns).1,Bz t o (Dy ⟨s,[]⟩ (AV s.t a.id) a.id a.ns).2)
  unfold Dy
  by_cases q:Ar a.ns (DO s.cf.slice)≠0
  ·have q':Ar a.ns (DO (Bz t o ⟨s,[]⟩).s.cf.slice)≠0:=q
   rw [if_pos q',if_pos q];rfl
  have q':¬ Ar a.ns (DO (Bz t o ⟨s,[]⟩).s.cf.slice)≠0:=q
  rw [if_neg q',if_neg q]
  by_cases q2:BK (AV s.t a.id)=false
  ·rw [if_pos q2,if_pos q2];rfl
  ·rw [if_neg q2,if_neg q2]
   have e1:AF (Bz t o ⟨s,[]⟩).s (AV s.t a.id).core=BN t (AF s (AV s.t a.id).core):=FK t o s LV
   rw [e1,lG t _ a.id ha.2.2.2.2]
   exact OP t o ⟨Bk s { AV s.t a.id with slice:=a.ns },[]⟩ _ LV ((Bf (AF s (AV s.t a.id).core) a.id a.ns).1,(Bf (AF s (AV s.t a.id).core) a.id a.ns).2,.none)
 rw [if_neg c6,if_neg c6]
 by_cases c7:a.d % 12=9
 ·rw [if_pos c7,if_pos c7]
  refine LN t o ⟨s,[]⟩ a.id (fun s x=>CU s x a.core) fun e=>?_
  obtain ⟨k,hk,hk2,hlv⟩:=hx e
  have hro:=h.ok.PL hlv
  have LV:(AV s.t a.id).core.toNat < s.k.length:=by rw [hk];exact hk2
  show CU (Bz t o ⟨s,[]⟩) (AV s.t a.id) a.core=((CU ⟨s,[]⟩ (AV s.t a.id) a.core).1,Bz t o (CU ⟨s,[]⟩ (AV s.t a.id) a.core).2)
  by_cases q:Ci s.cf a.core≠0∨a.core=(AV s.t a.id).core
  ·rw [HD (s:=Bz t o ⟨s,[]⟩) q,HD (s:=⟨s,[]⟩) q];rfl
  rw [IJ (s:=Bz t o ⟨s,[]⟩) q,IJ (s:=⟨s,[]⟩) q]
  have h0:0≤a.core∧a.core < s.cf.cores∧a.core≠(AV s.t a.id).core:=by
   have z:Ci s.cf a.core=0:=by
    rcases Classical.em (Ci s.cf a.core=0) with z | z
    ·exact z
    ·exact absurd (.inl z) q
   unfold Ci at z
   split at z
   ·cases z
   ·exact ⟨by omega,by omega,fun e=>q (.inr e)⟩
  have hlen:=h.ok.len
  have hkc:a.core.toNat < s.k.length:=by omega
  have fin:∀ (u:Ch) (lag:Int),u.s.k.length=s.k.length→BL (GF (AF u.s a.core).A) →
   Eo (Bz t o u) (AV s.t a.id) a.core lag=((Eo u (AV s.t a.id) a.core lag).1,Bz t o (Eo u (AV s.t a.id) a.core lag).2):=fun u lag hul huu=>by
   unfold Eo
   by_cases z:(Dz (AV s.t a.id) a.core lag).st=1
   ·rw [if_pos z,if_pos z]
    exact RY t o ⟨Bk u.s (Dz (AV s.t a.id) a.core lag),u.ev⟩ (Dz (AV s.t a.id) a.core lag) _ h0.1 (by show a.core.toNat < u.s.k.length;omega) hro.1 hro.2.2.2.1 hro.2.2.2.2.1 huu
   ·rw [if_neg z,if_neg z];rfl
  cases hc:BK (AV s.t a.id) with
  | true =>
    have hl:=Um t o ⟨s,[]⟩ (AV s.t a.id) LV
    have sC:Calm ⟨s,[]⟩ (BO ⟨s,[]⟩ (AV s.t a.id)).2 [(AV s.t a.id).core]:=bV om (by simp)
    rw [if_pos rfl,if_pos rfl,hl]
    refine fin (BO ⟨s,[]⟩ (AV s.t a.id)).2 (BO ⟨s,[]⟩ (AV s.t a.id)).1 ?_ ?_
    ·have:=absorb_k ⟨BF s (AV s.t a.id).core (Bh (AF s (AV s.t a.id).core) (Ab (AF s (AV s.t a.id).core) (AV s.t a.id).id).1 (Ab (AF s (AV s.t a.id).core) (AV s.t a.id).id).2),[]⟩ (AV s.t a.id).core (BH (Ab (AF s (AV s.t a.id).core) (AV s.t a.id).id).1 (Ab (AF s (AV s.t a.id).core) (AV s.t a.id).id).2 .none)
     have e:(BO ⟨s,[]⟩ (AV s.t a.id)).2.s.k=s.k.set (AV s.t a.id).core.toNat (Bh (AF s (AV s.t a.id).core) (Ab (AF s (AV s.t a.id).core) (AV s.t a.id).id).1 (Ab (AF s (AV s.t a.id).core) (AV s.t a.id).id).2):=this.1
     rw [e,List.length_set]
    ·have:=sC.k a.core.toNat (by rw [Int.toNat_of_nonneg h0.1];simpa using h0.2.2)
     rw [Int.toNat_of_nonneg h0.1] at this
     rw [this]
     exact Ho h0.1 hkc
  | false =>
    rw [if_neg (by simp),if_neg (by simp)]
    exact fin ⟨s,[]⟩ _ rfl (Ho h0.1 hkc)
 rw [if_neg c7,if_neg c7]
 show Ek (Bz t o ⟨s,[]⟩) a.ns=((Ek ⟨s,[]⟩ a.ns).1,Bz t o (Ek ⟨s,[]⟩ a.ns).2)
 unfold Ek
 by_cases q:Ar a.ns (DO s.cf.tick)≠0
 ·have q':Ar a.ns (DO (Bz t o ⟨s,[]⟩).s.cf.tick)≠0:=q
  rw [if_pos q',if_pos q];rfl
 ·have q':¬ Ar a.ns (DO (Bz t o ⟨s,[]⟩).s.cf.tick)≠0:=q
  rw [if_neg q',if_neg q]
  have hlen:(Bz t o ⟨s,[]⟩).s.k.length=s.k.length:=by show (s.k.map _).length=_;rw [List.length_map]
  rw [hlen]
  exact Xn t o a.ns s.k.length 0 ⟨s,[]⟩ (Nat.zero_add _)
theorem oH {c:Cf} {o:Int} (hc:BL c.origin) (ho:BL o):GN { c with origin:=o }=DU (IntKind.u64.wrap (o - c.origin)) o (GN c):=by
 unfold GN DU
 show (⟨_,_,List.replicate c.cores.toNat (Dw o)⟩:Sy)=⟨_,_,(List.replicate c.cores.toNat (Dw c.origin)).map _⟩
 rw [List.map_replicate,← u5 hc ho]
theorem xS {w:World} {sb:Nat} {s:Sy} {F:List Nat} (h:Cj w sb s F):dK s:=fun k hk=>by
 obtain ⟨tb,rb,v,L,G,rfl,hO⟩:=h
 obtain ⟨x,hx,hC,hce⟩:=hO.c.at hk
 have e:AF s k=x.c:=hce.symm
 rw [e]
 obtain ⟨_,qb,_,_,_,_,_,_,hQ,_⟩:=hC.FB
 exact hQ.zS
theorem Wa {s:Sy} {a:CR} (hd:a.d % 12 < 2) (h:(CS s a).1=0):Fo s a=E5 s.t (BU a.core a.w a.ns):=by
 unfold Fo
 rw [if_pos hd]
 unfold CS at h
 rw [if_pos hd] at h
 unfold B8 at h ⊢
 dsimp only at h ⊢
 split
 ·rename_i c1;rw [if_pos c1] at h;exact absurd h c1
 ·rename_i c1
  rw [if_neg c1] at h
  split
  ·rename_i c2;rw [if_pos c2] at h;exact absurd h c2
  ·rename_i c2
   rw [if_neg c2] at h
   split
   ·rfl
   ·rename_i c3;rw [if_neg c3] at h;exact absurd h c3
theorem wI (t o:Int) {s:Sy} (h:Cl s) (hu:dK s) {a:CR} (ha:a.In):Fo (DU t o s) a=Fo s a:=by
 have e1:(CS (DU t o s) a).1=(CS s a).1:=by rw [Xh t o h hu ha]
 by_cases h0:(CS s a).1=0
 ·by_cases hd:a.d % 12 < 2
  ·rw [Wa hd h0,Wa hd (e1.trans h0)];rfl
  ·unfold Fo;rw [if_neg hd,if_neg hd]
 ·rw [sK h0,sK (by rw [e1];exact h0)]
theorem vB (t o:Int) {s:Sy} (h:Cl s) (hu:dK s) {a:CR} (ha:a.In):Dt (DU t o s) (CS (DU t o s) a)=((Dt s (CS s a)).1,DU t o (Dt s (CS s a)).2):=by
 rw [Xh t o h hu ha]
 unfold Dt
 by_cases e:(CS s a).1=0
 ·rw [if_pos e,if_pos e];rfl
 ·rw [if_neg e,if_neg e]
theorem few_sh (t o:Int) {s:Sy} {a:CR} (h:R7 s a):R7 (DU t o s) a:=by
 intro h1 h2 k hk
 have hk':k < s.k.length:=by
  have e:(DU t o s).k.length=s.k.length:=List.length_map _
  omega
 have:=h h1 h2 k hk'
 rw [FK t o s (k:=(k:Int)) hk',aB]
 exact this
theorem uW (t o:Int) {s:Sy} (h:Cl s) (id:Int):Ti (DU t o s) id=Ti s id:=by
 unfold Ti
 by_cases e:DG (BI s.t id)≠0
 ·rw [if_pos e,if_pos (show DG (BI (DU t o s).t id)≠0 from e)]
 ·rw [if_neg e,if_neg (show ¬ DG (BI (DU t o s).t id)≠0 from e)]
  have e':DG (BI s.t id)=0:=by omega
  obtain ⟨k1,_⟩:=task_live h.ids e'
  obtain ⟨k,hk,hk2⟩:=h.ok.GU k1
  show (if BK (AV s.t id)=true then Bj (AF (DU t o s) (AV s.t id).core).A id else (AV s.t id).lag)=_
  rw [FK t o s (by rw [hk];exact hk2),show (BN t (AF s (AV s.t id).core)).A=BQ t (AF s (AV s.t id).core).A from rfl,NQ]
theorem qF (t o:Int) (s:Sy):(DU t o s).k.map Cs.run=s.k.map Cs.run:=by
 show (s.k.map (BN t)).map Cs.run=_
 rw [List.map_map];rfl
attribute [local irreducible] XS XC XA AZ AP Aa A1 A0 A8 Ad AW SE
theorem Rl (c:Cf) (o:Int) (xs:List CR) (sl:Value) (hc0:c.In) (BP:BL o) (hx:∀ a∈xs,a.In) (w0:World) (hL:TF w0 5 sl (xs.map CR.cells)) (ht:D3 w0):AO Tryz.prog 6 #[QX c,.int .u64 o,sl] w0 fun v w'=>v = .bool true∧AA [] w0 w':=by
 have hL0:=hL
 obtain ⟨ad,cap,rfl,hD⟩:=hL
 rw [List.length_map] at hL0 ⊢
 have hc1:({ c with origin:=o }:Cf).In:=⟨hc0.1,hc0.2.1,hc0.2.2.1,hc0.2.2.2.1,BP⟩
 have hs:=St.nil w0
 refine AR Tryz.func6 Tryz.ntmps6 (k:=?_)
 refine Ai ?_
 refine Ao ?_
 refine bx hs (k:=?_);clear hs;intro b2 w9 yB hs
 refine Ja ?_
 refine AY hs (h:=by exact YL _ (tab_only ht (hs.AD rfl))) (k:=?_);intro w' ho hs;refine Jd ?_
 refine cl (h:=by exact Y4 c xs _ hx _ (hL0.only (hs.AD rfl))) (k:=?_)
 rintro v w1 ⟨⟨bl,rfl,Jw⟩,AK⟩;replace hs:=hs.AN AK
 cases bl with
 | false =>
   refine Je ?_
   refine AG ?_
   exact ⟨rfl,hs.AD rfl⟩
 | true =>
 obtain ⟨hm,m,hm1,aCh,hfew⟩:=Jw rfl
 repeat' (first|refine Sd ?_|(refine st hs (k:=?_);intro w hs)|(refine AU hs (k:=?_);intro w hs)|(refine al hs (k:=?_);intro b w hz hs)|fail)
 have Bn:=hs.AD rfl
 have kb:=hs.get (b:=b) (by repeat (first | exact At.head | (with_reducible apply At.tail)))
 have k2:=hs.get (b:=b2) (by repeat (first | exact At.head | (with_reducible apply At.tail)))
 refine cl (h:=by exact MZ c hc0 _) (k:=?_)
 rintro v w2 ⟨⟨h0,rfl⟩ | ⟨h0,sa,F1,rfl,FW,DE⟩,AM⟩
 ·replace hs:=hs.AN AM
  refine Ja ?_
  refine cl (h:=by exact MZ { c with origin:=o } hc1 _) (k:=?_)
  rintro v w3 ⟨⟨iJ,rfl⟩ | ⟨iJ,sb,F2,rfl,EI,D5⟩,AT⟩
  ·replace hs:=hs.AN AT
   rw [show Ep { c with origin:=o }=Ep c from rfl]
   generalize Ep c=e at *
   refine Jc ?_
   refine Ao ?_
   refine vs (k:=?_)
   refine vs (k:=?_)
   refine vs (k:=?_)
   refine Mw 47 (v := .bool false) (congrArg Value.bool (show (e != e)=false by simp)) ?_
   repeat' (first|refine Sb ?_|refine xc_cond rfl (fun hc=>?_) fun hc=>?_|fail)
   ·refine Ao ?_
    refine vs (k:=?_)
    refine vs (k:=?_)
    refine vs (k:=?_)
    refine Mw 54 (v := .bool true) (congrArg Value.bool (show (e == e)=true by simp)) ?_
    refine Jc ?_
    refine AG ?_
    exact ⟨rfl,hs.AD rfl⟩
   ·exact absurd (by simpa using hc) h0
  ·exact absurd iJ h0
 have uD:=Bn.size
 have BB:=Bn.trans AM
 have kb:=AM.block kb (by simp)
 clear hs
 have hs:=(St.nil w2).AE kb
 refine Ja ?_
 have E8:=hs.AB [] (by simp [kb]) (by simp [D0])
 have FW:=FW.only E8
 refine cl (h:=by exact MZ { c with origin:=o } hc1 _) (k:=?_)
 rintro v w3 ⟨⟨iJ,rfl⟩ | ⟨iJ,sb,F2,rfl,EI,D5⟩,AT⟩
 ·exact absurd h0 iJ
 rw [oH hc0.2.2.2.2 BP] at EI
 generalize IntKind.u64.wrap (o - c.origin)=tt at EI
 have hzC:=E8.size
 have MF:=AM.size
 have T0:Ig w0 sa sb (GN c) (DU tt o (GN c)) F1 F2 w3:=⟨FW.only AT,EI,fun k hk hm=>by have:=FW.lt k hk;have:=D5 k hm;omega,fun k hk=>by have:=DE k hk;omega,fun k hk=>by have:=D5 k hk;omega,(BB.trans E8).trans AT⟩
 clear hs
 have hs:=St.nil w3
 refine Jd ?_
 refine BS (fun (_:Unit)=>[]) (fun _ w=>AA [] w0 w) ?_ ?_
 ·refine BG (fun (x:Nat × Sy × List Nat × List Nat)=>[(8,.pointer (some ⟨sa,0,none⟩)),(10,.pointer (some ⟨sb,0,none⟩)),(63,.slice ad xs.length cap),(64,.int .i64 (xs.length:Nat)),(65,.int .i64 (x.1:Nat))])
   (fun x w=>x.1≤xs.length∧Good m x.2.1∧Ig w0 sa sb x.2.1 (DU tt o x.2.1) x.2.2.1 x.2.2.2 w) (fun x=>xs.length - x.1) (0,GN c,F1,F2) Ae ⟨Nat.zero_le _,Good.new hc0 h0,T0.keep (hs.AD rfl)⟩ fun x env wl ⟨hi,hG,hT⟩=>?_
  obtain ⟨i,s,F,G⟩:=x
  simp only at hi hG hT
  clear hs T0 FW EI
  have hs:=St.nil wl
  repeat' (first|refine Sa ?_|refine Ax rfl (fun hc=>?_) fun hc=>?_|fail)
  ·have hlt:i < xs.length:=by omega
   obtain ⟨b0,off,cs,E,fz,rfl,hb,hcs⟩:=hD (fun h=>by have:=congrArg List.length h;rw [List.length_map,List.length_nil] at this;omega)
   have hpk:=hcs i (CR.cells xs[i]) (by rw [List.getElem?_map,List.getElem?_eq_getElem hlt];rfl)
   have ei:=Dl (m:=xs.length) hlt om
   have hq:=hx xs[i] (List.getElem_mem hlt)
   have lM:=aCh xs[i] (List.getElem_mem hlt)
   have hqt:=hfew xs[i] (List.getElem_mem hlt)
   generalize xs[i]=q at *
   have IK:=hG.next hq lM
   have zJ:=hG.few hm1 hq hqt
   refine ix (h0:=(by omega)) (h1:=(by omega)) (k:=?_)
   refine JQ (vs:=q.cells) (hT.o.block hb (by simp)) hpk (k:=?_)
   refine al hs (k:=?_);clear hs;intro b7 w3 OF hs
   refine AU hs (k:=?_);clear hs;intro w4 hs
   refine Ja ?_
   have Aw:=hs.AD rfl
   have T1:=hT.keep Aw
   have h7:=hs.get (b:=b7) (by repeat (first | exact At.head | (with_reducible apply At.tail)))
   have hu:=xS T1.a
   have eT:=vB tt o hG.inv hu hq
   have eD:(CS (DU tt o s) q).1=(CS s q).1:=by rw [Xh tt o hG.inv hu hq]
   have eI:=wI tt o hG.inv hu hq
   refine cl (h:=by exact VJ sa s F q hq _ T1.a zJ) (k:=?_)
   rintro v w5 ⟨ve,rfl,T⟩
   obtain ⟨F',QK⟩:=T1.left T
   have n7:b7∉F:=T1.a.not h7 rfl
   have k7:=T.2.2.block h7 (fun h=>n7 (List.mem_singleton.1 h ▸ T1.a.mem))
   have hE:=T.1
   obtain ⟨ae,ce,rfl⟩:=T.form
   obtain ⟨Ge,hE⟩:=hE
   clear hs
   have hs:=(St.nil w5).AE k7
   have Zp:=xP hG.inv zJ
   refine Ja ?_
   have Aq:=hs.AB [] (by simp [k7]) (by simp [D0])
   have T6:=QK.keep Aq
   refine cl (h:=by exact VJ sb (DU tt o s) G q hq _ T6.b (few_sh tt o zJ)) (k:=?_)
   rintro v w7 ⟨ve,rfl,T'⟩
   obtain ⟨G',PO⟩:=T6.right T'
   obtain ⟨a2,c2,rfl⟩:=T'.form
   obtain ⟨Ge2,NJ⟩:=T'.1
   rw [eT] at NJ PO
   rw [eI,eD,eT]
   have PO:Ig w0 sa sb (MU s q) (DU tt o (MU s q)) F' G' w7:=PO
   have yR:=hE.keep Aq (by simp)
   obtain ⟨tb6,rb6,vb6,Lb6,Gb6,-,O6⟩:=T6.b
   have hE1:=yR.keep T'.2.2 (fun k hk hm=>by obtain rfl:=List.mem_singleton.1 hm;exact BX yR O6.o (by decide) hk)
   have hE1:=jA hE1
   have NJ:=jA NJ
   clear yR O6 T' hE T6 QK T1 T
   clear hs
   obtain ⟨ta,ra,va,La,Ga,eF,O1⟩:=id PO.a
   obtain ⟨tb,rb,vb,Lb,Gb,eG,O2⟩:=id PO.b
   have p1:=O1.o
   have p2:=O2.o
   have hne:sb≠sa:=fun e=>PO.d sa PO.a.mem (e ▸ PO.b.mem)
   have hs:=((St.nil w7).AE p1).AH p2 (by simp [hne])
   generalize Fo s q=n at *
   generalize (Dt s (CS s q)).1=M5 at *
   generalize (CS s q).1=er at *
   have hok:=IK.inv.ok
   generalize MU s q=s' at *
   have hrl:(s'.k.map Cs.run).length≤9223372036854775807:=by have:=hok.len;have:=hok.hi;rw [List.length_map];omega
   have pJ:(Aj s'.t).length≤32:=Nat.le_trans (List.length_filter_le _ _) hok.tl
   refine Jc ?_
   refine dr [] hs (k:=?_);intro hX w hs
   refine tks 0 3 ?_
   refine J0 85 (v := .bool false) (congrArg Value.bool (show (n != n)=false by simp)) ?_
   refine tks 3 4 ?_
   refine J0 89 (v := .bool false) (congrArg Value.bool (show (er != er)=false by simp)) ?_
   refine tks 7 4 ?_
   refine dt 11 hX (k:=?_)
   have Hq:=hs.AB [] (by simp [p1,p2]) (by simp [D0])
   refine cl (h:=by exact Xv _ _ M5 M5 om _ (hE1.only Hq) (NJ.only Hq)) (k:=?_)
   rintro v8 w8 ⟨rfl,Eb⟩;replace hs:=hs.AN Eb
   refine XS.nil ?_
   refine dn (k:=?_)
   refine J0 94 (v := .bool true) (congrArg Value.bool (decide_eq_true rfl)) ?_
   refine tks 12 4 ?_
   refine tk 17 hX (k:=?_)
   refine dt 16 hX (k:=?_)
   have Hq:=hs.AB [] (by simp [p1,p2]) (by simp [D0])
   refine cl (h:=by exact RP sa s' _ _ (PO.a.only Hq)) (k:=?_)
   rintro v9 w9 ⟨⟨G3,JF,NU⟩,Lc⟩;replace hs:=hs.AN Lc
   refine XS.nil ?_
   refine dn (k:=?_)
   refine dt 18 hX (k:=?_)
   have Hq:=hs.AB [] (by simp [p1,p2]) (by simp [D0])
   refine cl (h:=by exact RP sb (DU tt o s') _ _ (PO.b.only Hq)) (k:=?_)
   rw [qF]
   rintro v10 Z0 ⟨⟨G4,KZ,hG4⟩,JY⟩;replace hs:=hs.AN JY
   refine XS.nil ?_
   refine dn (k:=?_)
   refine dt 19 hX (k:=?_)
   have aCa:=(JF.keep JY (by simp))
   refine cl (h:=by exact aA _ _ (s'.k.map Cs.run) (s'.k.map Cs.run) hrl _ (ls_int aCa) (ls_int KZ)) (k:=?_)
   rintro v11 w11 ⟨rfl,IL⟩;replace hs:=hs.AN IL
   refine XS.nil ?_
   refine dn (k:=?_)
   refine J0 102 (v := .bool true) (congrArg Value.bool (decide_eq_true rfl)) ?_
   refine tks 20 7 ?_
   refine tks 28 4 ?_
   refine dt 27 hX (k:=?_)
   have Hq:=hs.AB [] (by simp [p1,p2]) (by simp [D0])
   refine cl (h:=by exact Pc ta ra s'.t _ (O1.t.only Hq)) (k:=?_)
   rintro v12 w12 ⟨⟨G6,Bv,hG6⟩,By⟩;replace hs:=hs.AN By
   refine XS.nil ?_
   refine dn (k:=?_)
   refine dt 32 hX (k:=?_)
   have Hq:=hs.AB [] (by simp [p1,p2]) (by simp [D0])
   refine cl (h:=by exact Pc tb rb s'.t _ (O2.t.only Hq)) (k:=?_)
   rintro v13 Jt ⟨⟨G7,Kr,hG7⟩,J9⟩;replace hs:=hs.AN J9
   refine XS.nil ?_
   refine dn (k:=?_)
   refine dt 33 hX (k:=?_)
   have aBh:=(Bv.keep J9 (by simp))
   refine cl (h:=by exact oG _ _ (Aj s'.t) (Aj s'.t) om _ (ls_tk aBh) (ls_tk Kr)) (k:=?_)
   rintro v14 w14 ⟨rfl,Ki⟩;replace hs:=hs.AN Ki
   refine XS.nil ?_
   refine dn (k:=?_)
   refine J0 116 (v := .bool true) (congrArg Value.bool (decide_eq_true rfl)) ?_
   refine tks 34 2 ?_
   refine en (k:=?_)
   refine Jd ?_
   have hoe:=hs.AB [] (by simp [p1,p2]) (by simp [D0])
   refine cl (h:=by exact Pc ta ra s'.t _ (O1.t.only hoe)) (k:=?_)
   rintro v15 sQ ⟨⟨G9,Fh,hG9⟩,aBl⟩
   have T15:=(PO.keep hoe).keep aBl
   obtain ⟨at3,ct3,rfl,hD3⟩:=ls_tk Fh
   rw [List.length_map] at hD3 ⊢
   have hrow:∀ z∈Aj s'.t,In64 z.id:=fun z hz=>(hok.PL hz).1
   clear hs
   have hs:=St.nil sQ
   refine Jc ?_
   refine BS (fun (_:Unit)=>[(8,.pointer (some ⟨sa,0,none⟩)),(10,.pointer (some ⟨sb,0,none⟩)),(63,.slice (some ⟨b0,off,none⟩) xs.length cap),(64,.int .i64 (xs.length:Nat)),(65,.int .i64 (i:Nat))]) (fun _ w=>AA [] sQ w) ?_ ?_
   ·refine BG (fun (j:Nat)=>[(8,.pointer (some ⟨sa,0,none⟩)),(10,.pointer (some ⟨sb,0,none⟩)),(63,.slice (some ⟨b0,off,none⟩) xs.length cap),(64,.int .i64 (xs.length:Nat)),(65,.int .i64 (i:Nat)),(123,.slice at3 (Aj s'.t).length ct3),(124,.int .i64 ((Aj s'.t).length:Nat)),(125,.int .i64 (j:Nat))])
     (fun j w=>j≤(Aj s'.t).length∧AA [] sQ w) (fun j=>(Aj s'.t).length - j) 0 Ae ⟨Nat.zero_le _,hs.AD rfl⟩ fun j env wj ⟨hj,PW⟩=>?_
    clear hs
    have hs:=St.nil wj
    repeat' (first|refine Sa ?_|refine Ax rfl (fun hc=>?_) fun hc=>?_|fail)
    ·have hjl:j < (Aj s'.t).length:=by omega
     obtain ⟨bt,aC5,cst,fzt,rfl,_,EK,aCb⟩:=hD3 (fun h=>by have:=congrArg List.length h;rw [List.length_map,List.length_nil] at this;omega)
     have hpt:=aCb j (Tk.cells (Aj s'.t)[j]) (by rw [List.getElem?_map,List.getElem?_eq_getElem hjl];rfl)
     have ej:=Dl (m:=(Aj s'.t).length) hjl om
     have hzi:=hrow _ (List.getElem_mem hjl)
     generalize (Aj s'.t)[j]=z at *
     refine ix (h0:=(by omega)) (h1:=(by omega)) (k:=?_)
     refine JQ (vs:=z.cells) (PW.block EK (by simp)) hpt (k:=?_)
     refine al hs (k:=?_);clear hs;intro b21 w16 aC7 hs
     refine AU hs (k:=?_);clear hs;intro w17 hs
     refine Ja ?_
     have aAk:=hs.AD rfl
     have T17:=(T15.keep PW).keep aAk
     have h21:=hs.get (b:=b21) (by repeat (first | exact At.head | (with_reducible apply At.tail)))
     refine cl (h:=by exact Vx sa s' F' z.id _ T17.a hzi) (k:=?_)
     rintro v18 w18 ⟨rfl,rA⟩
     have yX:=rA.block h21 (by simp)
     have T18:=T17.keep rA
     clear hs
     have hs:=(St.nil w18).AE yX
     repeat' (first|refine Sa ?_|(refine AU hs (k:=?_);intro w hs)|(refine al hs (k:=?_);intro b w hz hs)|fail)
     have aCZ:=hs.AB [] (by simp [yX]) (by simp [D0])
     have k24:=hs.get At.head
     refine cl (h:=by exact Vx sb (DU tt o s') G' z.id _ (T18.keep aCZ).b hzi) (k:=?_)
     rw [uW tt o IK.inv]
     rintro v20 OH ⟨rfl,El⟩;replace hs:=hs.AN El
     repeat' (first|refine Sb ?_|(refine AU hs (k:=?_);intro w hs)|(refine al hs (k:=?_);intro b w hz hs)|fail)
     refine Ao ?_
     refine vs (k:=?_)
     refine vs (k:=?_)
     refine vs (k:=?_)
     refine Mw 145 (v := .bool false) (congrArg Value.bool (aBD (Ti s' z.id))) ?_
     refine Jd ?_
     have hoR:=hs.AB [] (by simp [yX]) (by simp [D0])
     exact A4 (j+1) (by show (Aj s'.t).length - (j+1) < (Aj s'.t).length - j;omega) (by (repeat (first | exact Ak | (apply Ac;first | exact rfl | exact congrArg (Value.int .i64) ej)))) ⟨by show j+1≤_;omega,((PW.trans aAk).trans rA).trans hoR⟩
    ·exact Au () Ae PW
   ·rintro _ env w PW
    clear hs
    have hs:=St.nil w
    refine Ja ?_
    have hoR:=hs.AD rfl
    exact A4 (i+1,s',F',G') (by show xs.length - (i+1) < xs.length - i;omega) (by (repeat (first | exact Ak | (apply Ac;first | exact rfl | exact congrArg (Value.int .i64) ei)))) ⟨by show i+1≤_;omega,IK,(T15.keep PW).keep hoR⟩
  ·exact Au () Ae hT.o
 ·rintro _ env w ho
  clear hs
  have hs:=St.nil w
  refine Ja ?_
  refine AG ?_
  exact ⟨rfl,ho.trans (hs.AD rfl)⟩
end Go.Proofs.Q0
namespace Go.Proofs.Q0
open Go Go.RowKit Go.ChangeShapes Go.WideShapes Go.ChangeAt
theorem OL (os:Os) (started:os.Started) (H:Type) (enc:TypeId × Value→H) :
 ReturnsInHanded {} Tryz.checked os 6 .any (fun w args => (YtjiiakjheghcoaaGreatDoor.Rows.schedOriginsSpec.pre enc Tryz.prog Tryz.f6 [] false w args ∧ laidMetH Tryz.prog [("math/bits.deBruijn32tab", YtjiiakjheghcoaaGreatDoor.Rows.laid_math_bits_deBruijn32tab), ("math/bits.deBruijn64tab", YtjiiakjheghcoaaGreatDoor.Rows.laid_math_bits_deBruijn64tab), ("internal/strconv.uint64pow10", YtjiiakjheghcoaaGreatDoor.Rows.laid_internal_strconv_uint64pow10)] w) ∧ sizedMet enc Tryz.prog Tryz.f6 (OpenSpec.ofChange YtjiiakjheghcoaaGreatDoor.Rows.schedOriginsSpec) false w args) (YtjiiakjheghcoaaGreatDoor.Rows.schedOriginsSpec.post enc Tryz.prog Tryz.f6 false true false false) := by
 refine returnsInHanded_of_change_and (C := Tryz.checked) (X := fun w _ => laidMetH Tryz.prog [("math/bits.deBruijn32tab", YtjiiakjheghcoaaGreatDoor.Rows.laid_math_bits_deBruijn32tab), ("math/bits.deBruijn64tab", YtjiiakjheghcoaaGreatDoor.Rows.laid_math_bits_deBruijn64tab), ("internal/strconv.uint64pow10", YtjiiakjheghcoaaGreatDoor.Rows.laid_internal_strconv_uint64pow10)] w) (fun _ _ _ hh h => h.of_heap hh) own started (by kernel_rfl) Tryz.func6
  (ChangeSpec.witness_shaped (enc := enc) (C := Tryz.checked) (os := os) (X := fun w _ => laidMetH Tryz.prog [("math/bits.deBruijn32tab", YtjiiakjheghcoaaGreatDoor.Rows.laid_math_bits_deBruijn32tab), ("math/bits.deBruijn64tab", YtjiiakjheghcoaaGreatDoor.Rows.laid_math_bits_deBruijn64tab), ("internal/strconv.uint64pow10", YtjiiakjheghcoaaGreatDoor.Rows.laid_internal_strconv_uint64pow10)] w) false (World.doorLaid Tryz.prog 24 os) #[.agg #[.int .i64 0, .int .i64 0, .int .u64 0, .int .u64 0, .int .u64 0], .int .u64 0, .slice none 0 0] 8 rfl (World.shaped_of_RefB (by kernel_rfl) (by kernel_rfl)) (by kernel_rfl) (by kernel_rfl) (by kernel_rfl) (door_met os _)) ?_
 intro W base args ds gs before sY hW aCv aCA hL _
 have hP:=xJ hL
 have hval:∀ (j:Nat) t v,Tryz.f6.params[j]?=some t→args[j]?=some v→Value.okWide Tryz.prog W .any base t v:=sY
 have hW':=hW
 obtain ⟨p,q,mS,hV,rfl,hfz,hnd⟩:=hW
 have hA:DataW.TrodAll enc Tryz.prog W 0 (fun _=>true) true Tryz.f6.params.toList args.toList ds p:=mS
 rw [Tryz.params6] at hA hval
 obtain ⟨v0,vs0,d0,ds0,p0,q0,hargs,rfl,rfl,h0,r0⟩:=trodAll_cons hA
 obtain ⟨v1,vs1,d1,ds1,p1,q1,rfl,rfl,rfl,h1,r1⟩:=trodAll_cons r0
 obtain ⟨v2,vs2,d2,ds2,p2,q2,rfl,rfl,rfl,h2,r2⟩:=trodAll_cons r1
 obtain ⟨rfl,rfl,rfl⟩:=trodAll_nil r2
 obtain rfl:args=#[v0,v1,v2]:=by cases args;simp_all
 obtain ⟨rfl,rfl⟩:=trodVars_none hV
 have lt0:∀ x∈p0,x.block < W.heap.size:=by obtain ⟨m,hm⟩:=h0;exact DataW.trod_lt m _ _ _ hm
 have k0:=h0
 obtain ⟨x0,hx0,rfl⟩:=qL (hval 0 _ v0 rfl rfl) k0
 have YB:∀ x∈p1,x.block < W.heap.size:=by obtain ⟨m,hm⟩:=h1;exact DataW.trod_lt m _ _ _ hm
 have k1:=h1
 obtain ⟨x1,rfl,_,_,w1⟩:=open_int (t:=22) (k := .u64) (by kernel_rfl) (hval 1 _ v1 rfl rfl) k1
 have b1:(0:Int)≤x1∧x1 < 18446744073709551616:=by
  have h:=aAb w1
  have e1:IntKind.u64.min=0:=rfl
  have e2:IntKind.u64.max=18446744073709551615:=rfl
  omega
 have ZT:∀ x∈p2,x.block < W.heap.size:=by obtain ⟨m,hm⟩:=h2;exact DataW.trod_lt m _ _ _ hm
 have k2:=h2
 obtain ⟨x2,uA,hx2⟩:=Yy (hval 2 _ v2 rfl rfl) k2
 clear mS sY aCA
 refine (ret_calls (by kernel_rfl) (Rl x0 x1 x2 _ hx0 b1 hx2 W uA hP)).mono fun e W' ⟨v,he,hv,ho⟩=>?_
 subst he hv
 have rR:=ho.below
 exact ⟨_,rfl,_,_,_,[],_,[],hW',trodAll_mk1 (shut_bool (by kernel_rfl) _),(trodAll_cons_mk (Below.trod laidOut (by kernel_rfl) (of_decide_eq_true (by kernel_rfl)) h0 rR lt0) (trodAll_cons_mk (Below.trod laidOut (by kernel_rfl) (of_decide_eq_true (by kernel_rfl)) h1 rR YB) (trodAll_cons_mk (Below.trod laidOut (by kernel_rfl) (of_decide_eq_true (by kernel_rfl)) h2 rR ZT) trodAll_mk0))),rfl,rR.frame _,fun h=>by cases h⟩
end Go.Proofs.Q0
namespace Go.Proofs.YtjiiakjheghcoaaGreatDoor
open Go Go.RowKit Go.ChangeShapes Go.WideShapes Go.ChangeAt
theorem Lw : Tryz.prog.funcNamed "turnstone/turnstonelaw21.SchedOrigins" = some 6 := by kernel_rfl
theorem Su:(Rows.schedOriginsRow.inPlace == Tryz.prog.inPlace 6)=true:=by kernel_rfl
theorem SI:(Rows.schedOriginsRow.unfollowed == Tryz.prog.unfollowed 6)=true:=by kernel_rfl
theorem SB:(Rows.schedOriginsRow.recurses == Tryz.prog.recurses 6)=true:=by kernel_rfl
theorem TR:(Rows.schedOriginsRow.named == Tryz.prog.varsNamed 6)=true:=by kernel_rfl
theorem Od:Rows.SchedOriginsSaid :=
 OpenClaim.holds_of_wide 6 Tryz.f6 rfl rfl rfl rfl rfl rfl rfl ⟨rfl,rfl,rfl,rfl,rfl⟩ rfl rfl rfl rfl rfl Lw Tryz.func6
  (by unfold joinedFacts;exact (and_mk (and_mk (and_mk (and_mk (and_mk (and_mk (and_mk (and_mk (and_mk (and_mk (and_mk (and_mk (and_mk (and_mk (and_mk (and_mk (and_mk (and_mk (and_mk (and_mk (and_mk (and_mk (and_mk (and_mk (and_mk (and_mk (and_mk (and_mk (and_mk (and_mk (and_mk (by kernel_rfl) uS) xK) (by kernel_rfl)) (by kernel_rfl)) (by kernel_rfl)) (by kernel_rfl)) (by kernel_rfl)) (by kernel_rfl)) Su) SI) SB) TR) (by kernel_rfl)) (by kernel_rfl)) (by kernel_rfl)) (by kernel_rfl)) (by kernel_rfl)) (by kernel_rfl)) (by kernel_rfl)) (by kernel_rfl)) (by kernel_rfl)) vR) (by kernel_rfl)) rL) nX) v7) wX) (by kernel_rfl)) (by kernel_rfl)) (by kernel_rfl)) (by kernel_rfl)))
  (of_decide_eq_true (by kernel_rfl)) (by unfold Func.isWrapper;first | (rw [if_pos (by decide +kernel)];kernel_rfl) | (rw [if_neg (by decide +kernel)];exact ⟨rfl,rfl⟩))
  (fun os started H enc _=>Q0.OL os started H enc)
theorem UN:Rows.schedOriginsRow.wfByText (OpenSpec.ofChange Rows.schedOriginsSpec)=true:=by kernel_rfl
theorem TK:Tryz.prog.mainIs=some (Rows.schedOriginsCard.stood.harness.1,Rows.schedOriginsCard.stood.harness.2.toList):=by kernel_rfl
theorem Sw:Rows.schedOriginsCard.stood.looks=Tryz.prog.looks []:=by kernel_rfl
theorem TC:false=Rows.schedOriginsRow.goesBy Tryz.prog:=by kernel_rfl
theorem schedOrigins_card:Rows.SchedOriginsCardSaid :=
 Claim7.holds_tied_plain_at .later [] [.data,.data,.data] true Rows.schedOriginsCard.stood.harness Rows.schedOriginsCard.stood.looks
  Od (fun _ h=>by cases h) UN (fun _ h=>by cases h) schedOrigins_row_tie rfl ⟨rfl,rfl⟩ TK rfl
  (fun f fn hf hfn=>by
   obtain rfl:f=6:=Option.some.inj (Lw.symm.trans hf) |>.symm
   obtain rfl:fn=Tryz.f6:=(Option.some.inj (Tryz.func6.symm.trans hfn)).symm
   exact ⟨Sw,fun j t ht=>by
    rw [Tryz.params6] at ht
    have hm:t∈[24,22,25]:=by simpa using Array.mem_of_getElem? ht
    have hall:([24,22,25].all fun u=>!Tryz.prog.wantsStandIn u)=true:=by kernel_rfl
    exact (show Tryz.prog.wantsStandIn t=false by simpa using List.all_eq_true.1 hall t hm)⟩)
  TC
end Go.Proofs.YtjiiakjheghcoaaGreatDoor
