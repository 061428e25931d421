/- A part of the proof: what its functions compute. -/
import Derived.Test.YtjiiakjheghcoaaGreatDoorFd9
import Derived.Test.YtjiiakjheghcoaaGreatDoorRows
import Derived.JoinedOf
import Derived.Test.YtjiiakjheghcoaaGreatDoorTie
import Derived.Lib.LaidTab
import Derived.Stop.LaidErr
import Derived.MakeChecks
import Derived.LaidMore
import Derived.LaidLaws
set_option linter.unusedVariables false
set_option linter.unusedSimpArgs false
set_option maxRecDepth 100000
set_option maxHeartbeats 64000000
set_option linter.unusedSectionVars false
namespace Go.Proofs.Q0
open Go Go.RowKit Tryz
attribute [local irreducible] XS XC XA AY AR A9 A1 A0 Aa Ae AW SE
theorem lK {c:Cs} (h:Bw c) (id:Int):Ac (CA c id).2:=by
 obtain ⟨s,hs⟩:=h;have h1:=ND hs id;unfold CA;cases Al c.A.l id with
 | none=>exact Ot
 | some a =>
   show Ac (if a.1.asleep=true then (false,(0:Int)) else if Dm c.A id < 0 then (false,C2 c.A id) else (true,C2 c.A id)).2;split
   ·exact Ot
   ·split <;> exact h1
theorem YI (b2 hb:Nat) (s:Sy) (F:List Nat) (x:Tk) (id:Int) (w0:World) (h:De w0 hb ⟨s,[]⟩ F) (hid:In64 id) (B2:w0.heap[b2]?=some (.cells #[.int .i64 id] 3 (0,0))) (hx:CP s.cf.cores x) (hn:x.st≠0) :
 AO prog 68 #[.pointer (some ⟨hb,0,none⟩),KM x,.pointer (some ⟨b2,0,none⟩)] w0 fun v w'=>v = .int .i64 (Fz ⟨s,[]⟩ x id).1∧KF w0 hb (Fz ⟨s,[]⟩ x id).1 (Fz ⟨s,[]⟩ x id).2 F w':=by
 obtain ⟨sb,tb,rb,v,ve,L,G,Ge,rfl,hO⟩:=h.FA;have Zj:=hO.s.t.SP.2;obtain ⟨n,e,g,cap,cur,Fa,hlt,he,hC,hce,rfl,hg,GI,WD,hR,_,_,_,hcb⟩:=hO.place hx hn;have J4:AK s n=e.c:=hce;have eX:Fz ⟨s,[]⟩ x id=if x.st≠1 then (6,⟨s,[]⟩) else DY ⟨s,[]⟩ (if (CA (AK s x.core) id).1=true then { x with st:=3,lag:=GK s.cf (CA (AK s x.core) id).2 x.slice } else { x with st:=2 }) ((Bk (AK s x.core) id).1,(Bk (AK s x.core) id).2,.none):=rfl
 rw [eX]
 have eC:∀ y:Tk,y.core=(n:Int)→DY ⟨s,[]⟩ y ((Bk e.c id).1,(Bk e.c id).2,.none)=if (Bk e.c id).1=0 then (0,BJ ⟨Bz (BX s n (CU e.c (Bk e.c id).1 (Bk e.c id).2)) y,[]⟩ n (BO (Bk e.c id).1 (Bk e.c id).2 .none)) else ((Bk e.c id).1,⟨s,[]⟩):=fun y hy=>by
  unfold DY;rw [hy,← J4]
 have hs:=(((St.nil w0).AF B2).AF hg).AF hO.s.o |>.AF hO.h
 have Ap:AB (CC hb sb tb rb L G Ge) w0 w0:=(AB.refl [] w0).weaken AA;refine AS func68 ntmps68 ?_;refine Ah ?_;refine Aq ?_;refine Gv hs ?_;clear hs;intro b4 w1 AL z1 hs;replace hO:=hO.only AL;replace Ap:=Ap.step AL AA;replace hC:=hC.only AL;replace hcb:=AL.block hcb AA;have GD:b4≠rb:=by omega
 obtain ⟨xi,xt,xc,xw,Cd,xl⟩:=x;simp only at Fa hn;subst Fa;simp only;by_cases s1:xt≠1
 ·rw [if_pos s1]
  repeat' (first|refine Sa ?_|refine xc_cond rfl (fun hc=>?_) fun hc=>?_|fail)
  ·refine AG ?_;exact ⟨rfl,fun z=>absurd z (show ¬ (6:Int)=0 by decide),Ap.step (hs.AD [] (fun e he => .inr (.inr (hs.hold e he))) sD) AA⟩
  ·exact absurd (by simpa using hc) s1
 obtain rfl:xt=1:=by omega
 rw [if_neg AA,J4];have GZ:Cj (BO (Bk e.c id).1 (Bk e.c id).2 .none):=Cj.none.try (Ky hR id)
 have hkn:=HI (e:=(Bk e.c id).1) (r1 := .none) (Ky hR id);have hsx:=lK hR id;rw [eC _ (by split <;> rfl)];generalize hrp:BO (Bk e.c id).1 (Bk e.c id).2 .none=rp at GZ hkn;refine Jd ?_
 refine B9 (fun (y:Nat × Nat × Value × Value × List Ce)=>[(0,.pointer (some ⟨hb,0,none⟩)),(4,.pointer (some ⟨b4,0,none⟩)),(6,.bool (CA e.c id).1),(7,.pointer (some ⟨y.1,0,none⟩)),(8,.pointer (some ⟨y.2.1,0,none⟩)),(9,.int .i64 (Bk e.c id).1)])
  (fun y w=>w.heap[b4]?=some (Nf ⟨xi,1,n,xw,Cd,xl⟩)∧w.heap[y.1]?=some (Gr (CA e.c id).2)∧w.heap[y.2.1]?=some (K7 y.2.2.1 y.2.2.2.1)∧Af w1 w hb sb tb rb (.slice (some ⟨g,0,none⟩) L.length cap) ve ⟨BX s n (CU e.c (Bk e.c id).1 (Bk e.c id).2),[]⟩ L y.2.2.2.2 G Ge (.agg #[y.2.2.1,y.2.2.2.1]) rp) ?_ ?_
 ·refine Hy [] hs ?_;clear hs;intro hX w BD hs;refine tks 0 9 ?_;refine tk 9 hX (hr:=fun w' hH=>BA AJ rfl rfl rfl (by show (0:Int)≤(n:Int);omega) (by show (n:Int) < _;omega)) (k:=?_);refine tk 10 hX (hr:=fun w' hH=>r_load AJ rfl rfl (hH rfl) AX (by simpa using GI)) ?_;refine tk 11 hX ?_;refine jS 12 18 19 hX (h1:=?_) (h2:=?_) (h3:=?_)
  ·skip
   refine cl (h:=by exact JR e.cb e.c e.F id _ (hC.only BD) hid) ?_;rintro v1 w2 ⟨rv,rfl,T⟩;have hf:=T.form;rw [hrp] at hf;obtain ⟨ag,cg,ap,cp,rfl⟩:=hf;obtain ⟨L',hA⟩:=CX (hO.only BD) he T BD;rw [hrp] at hA;replace hs:=hs.Dj T.2.2 (fun k hk=>by obtain rfl:=List.mem_singleton.1 hk;exact hs.Ec (BD.block hcb AA));refine Jn ?_;refine tks 13 5 ?_;refine HR 18 19 hX (h1:=?_) (h2:=?_)
   ·skip
    refine FK hs ?_;clear hs;intro b5 w5 BL z5 hs;have y5:(w1).heap.size≤b5:=aC9 (AB.size hA.o) z5;replace hA:=hA.keep BL;refine Jn ?_;refine dt 19 hX ?_;refine FK hs ?_;clear hs;intro b6 w6 Ao z6 hs;have y6:(w1).heap.size≤b6:=aC9 (AB.size hA.o) z6;replace hA:=hA.keep Ao;refine Jn ?_;refine tk 20 hX ?_;refine dt 21 hX ?_;have q5:=hs.get (b:=b5) AX;refine D2 hs ?_;clear hs;intro Mm E3 hs;replace hA:=hA.store E3 q5 rfl (by decide) (by decide) y5;refine Jn ?_;refine dt 22 hX ?_;have q6:=hs.get (b:=b6) AX;refine D2 hs ?_;clear hs;intro JI CT hs;replace hA:=hA.store CT q6 rfl (by decide) (by decide) y6;refine Jn ?_;refine tk 23 hX ?_;refine en ?_;have r3:=hs.get (b:=b4) AX;have r5:=hs.get (b:=b5) AX;have r6:=hs.get (b:=b6) AX;exact AQ (b5,b6,.slice ag rp.g.length cg,.slice ap rp.p.length cp,L') Ad ⟨r3,r5,r6,hA⟩
   ·skip
    refine FK hs ?_;clear hs;intro b6 w6 Ao z6 hs;have y6:(w1).heap.size≤b6:=aC9 (AB.size hA.o) z6;replace hA:=hA.keep Ao;refine Jn ?_;refine dt 18 hX ?_;refine FK hs ?_;clear hs;intro b5 w5 BL z5 hs;have y5:(w1).heap.size≤b5:=aC9 (AB.size hA.o) z5;replace hA:=hA.keep BL;refine Jn ?_;refine tk 20 hX ?_;refine dt 21 hX ?_;have q5:=hs.get (b:=b5) AX;refine D2 hs ?_;clear hs;intro Mm E3 hs;replace hA:=hA.store E3 q5 rfl (by decide) (by decide) y5;refine Jn ?_;refine dt 22 hX ?_;have q6:=hs.get (b:=b6) AX;refine D2 hs ?_;clear hs;intro JI CT hs;replace hA:=hA.store CT q6 rfl (by decide) (by decide) y6;refine Jn ?_;refine tk 23 hX ?_;refine en ?_;have r3:=hs.get (b:=b4) AX;have r5:=hs.get (b:=b5) AX;have r6:=hs.get (b:=b6) AX;exact AQ (b5,b6,.slice ag rp.g.length cg,.slice ap rp.p.length cp,L') Ad ⟨r3,r5,r6,hA⟩
  ·skip
   refine FK hs ?_;clear hs;intro b5 w5 BL z5 hs;have y5:(w1).heap.size≤b5:=aC9 (AB.size BD) z5;replace BD:=BD.trans BL;refine Jn ?_;refine HR 12 19 hX (h1:=?_) (h2:=?_)
   ·skip
    refine cl (h:=by exact JR e.cb e.c e.F id _ (hC.only BD) hid) ?_;rintro v1 w2 ⟨rv,rfl,T⟩;have hf:=T.form;rw [hrp] at hf;obtain ⟨ag,cg,ap,cp,rfl⟩:=hf;obtain ⟨L',hA⟩:=CX (hO.only BD) he T BD;rw [hrp] at hA;replace hs:=hs.Dj T.2.2 (fun k hk=>by obtain rfl:=List.mem_singleton.1 hk;exact hs.Ec (BD.block hcb AA));refine Jn ?_;refine tks 13 5 ?_;refine dt 19 hX ?_;refine FK hs ?_;clear hs;intro b6 w6 Ao z6 hs;have y6:(w1).heap.size≤b6:=aC9 (AB.size hA.o) z6;replace hA:=hA.keep Ao;refine Jn ?_;refine tk 20 hX ?_;refine dt 21 hX ?_;have q5:=hs.get (b:=b5) AX;refine D2 hs ?_;clear hs;intro Mm E3 hs;replace hA:=hA.store E3 q5 rfl (by decide) (by decide) y5;refine Jn ?_;refine dt 22 hX ?_;have q6:=hs.get (b:=b6) AX;refine D2 hs ?_;clear hs;intro JI CT hs;replace hA:=hA.store CT q6 rfl (by decide) (by decide) y6;refine Jn ?_;refine tk 23 hX ?_;refine en ?_;have r3:=hs.get (b:=b4) AX;have r5:=hs.get (b:=b5) AX;have r6:=hs.get (b:=b6) AX;exact AQ (b5,b6,.slice ag rp.g.length cg,.slice ap rp.p.length cp,L') Ad ⟨r3,r5,r6,hA⟩
   ·skip
    refine FK hs ?_;clear hs;intro b6 w6 Ao z6 hs;have y6:(w1).heap.size≤b6:=aC9 (AB.size BD) z6;replace BD:=BD.trans Ao;refine Jn ?_;refine dt 12 hX ?_;refine cl (h:=by exact JR e.cb e.c e.F id _ (hC.only BD) hid) ?_;rintro v1 w2 ⟨rv,rfl,T⟩;have hf:=T.form;rw [hrp] at hf;obtain ⟨ag,cg,ap,cp,rfl⟩:=hf;obtain ⟨L',hA⟩:=CX (hO.only BD) he T BD;rw [hrp] at hA;replace hs:=hs.Dj T.2.2 (fun k hk=>by obtain rfl:=List.mem_singleton.1 hk;exact hs.Ec (BD.block hcb AA));refine Jn ?_;refine tks 13 5 ?_;refine tk 20 hX ?_;refine dt 21 hX ?_;have q5:=hs.get (b:=b5) AX;refine D2 hs ?_;clear hs;intro Mm E3 hs;replace hA:=hA.store E3 q5 rfl (by decide) (by decide) y5;refine Jn ?_;refine dt 22 hX ?_;have q6:=hs.get (b:=b6) AX;refine D2 hs ?_;clear hs;intro JI CT hs;replace hA:=hA.store CT q6 rfl (by decide) (by decide) y6;refine Jn ?_;refine tk 23 hX ?_;refine en ?_;have r3:=hs.get (b:=b4) AX;have r5:=hs.get (b:=b5) AX;have r6:=hs.get (b:=b6) AX;exact AQ (b5,b6,.slice ag rp.g.length cg,.slice ap rp.p.length cp,L') Ad ⟨r3,r5,r6,hA⟩
  ·skip
   refine FK hs ?_;clear hs;intro b6 w6 Ao z6 hs;have y6:(w1).heap.size≤b6:=aC9 (AB.size BD) z6;replace BD:=BD.trans Ao;refine Jn ?_;refine HR 12 18 hX (h1:=?_) (h2:=?_)
   ·skip
    refine cl (h:=by exact JR e.cb e.c e.F id _ (hC.only BD) hid) ?_;rintro v1 w2 ⟨rv,rfl,T⟩;have hf:=T.form;rw [hrp] at hf;obtain ⟨ag,cg,ap,cp,rfl⟩:=hf;obtain ⟨L',hA⟩:=CX (hO.only BD) he T BD;rw [hrp] at hA;replace hs:=hs.Dj T.2.2 (fun k hk=>by obtain rfl:=List.mem_singleton.1 hk;exact hs.Ec (BD.block hcb AA));refine Jn ?_;refine tks 13 5 ?_;refine dt 18 hX ?_;refine FK hs ?_;clear hs;intro b5 w5 BL z5 hs;have y5:(w1).heap.size≤b5:=aC9 (AB.size hA.o) z5;replace hA:=hA.keep BL;refine Jn ?_;refine tk 20 hX ?_;refine dt 21 hX ?_;have q5:=hs.get (b:=b5) AX;refine D2 hs ?_;clear hs;intro Mm E3 hs;replace hA:=hA.store E3 q5 rfl (by decide) (by decide) y5;refine Jn ?_;refine dt 22 hX ?_;have q6:=hs.get (b:=b6) AX;refine D2 hs ?_;clear hs;intro JI CT hs;replace hA:=hA.store CT q6 rfl (by decide) (by decide) y6;refine Jn ?_;refine tk 23 hX ?_;refine en ?_;have r3:=hs.get (b:=b4) AX;have r5:=hs.get (b:=b5) AX;have r6:=hs.get (b:=b6) AX;exact AQ (b5,b6,.slice ag rp.g.length cg,.slice ap rp.p.length cp,L') Ad ⟨r3,r5,r6,hA⟩
   ·skip
    refine FK hs ?_;clear hs;intro b5 w5 BL z5 hs;have y5:(w1).heap.size≤b5:=aC9 (AB.size BD) z5;replace BD:=BD.trans BL;refine Jn ?_;refine dt 12 hX ?_;refine cl (h:=by exact JR e.cb e.c e.F id _ (hC.only BD) hid) ?_;rintro v1 w2 ⟨rv,rfl,T⟩;have hf:=T.form;rw [hrp] at hf;obtain ⟨ag,cg,ap,cp,rfl⟩:=hf;obtain ⟨L',hA⟩:=CX (hO.only BD) he T BD;rw [hrp] at hA;replace hs:=hs.Dj T.2.2 (fun k hk=>by obtain rfl:=List.mem_singleton.1 hk;exact hs.Ec (BD.block hcb AA));refine Jn ?_;refine tks 13 5 ?_;refine tk 20 hX ?_;refine dt 21 hX ?_;have q5:=hs.get (b:=b5) AX;refine D2 hs ?_;clear hs;intro Mm E3 hs;replace hA:=hA.store E3 q5 rfl (by decide) (by decide) y5;refine Jn ?_;refine dt 22 hX ?_;have q6:=hs.get (b:=b6) AX;refine D2 hs ?_;clear hs;intro JI CT hs;replace hA:=hA.store CT q6 rfl (by decide) (by decide) y6;refine Jn ?_;refine tk 23 hX ?_;refine en ?_;have r3:=hs.get (b:=b4) AX;have r5:=hs.get (b:=b5) AX;have r6:=hs.get (b:=b6) AX;exact AQ (b5,b6,.slice ag rp.g.length cg,.slice ap rp.p.length cp,L') Ad ⟨r3,r5,r6,hA⟩
 ·rintro ⟨b5,b6,vg,vp,L'⟩ env My ⟨k3,k5,k6,hA⟩;simp only at k5 k6 hA;clear hs hO;have rD:=Ap.size;have hp:=hA.p;obtain ⟨_,_,_,_,EG,_,_⟩:=hA.p;cases EG;have hO:=hA.c;replace Ap:=Ap.step hA.o (fun k hk => .inl hk)
  have X1:∀ k∈CC hb sb tb rb L' G Ge,k∈CC hb sb tb rb L G Ge∨w0.heap.size≤k:=fun k hk=>by
   rcases hA.f k hk with q | q
   ·exact .inl q
   ·exact .inr om
  generalize Bk e.c id=J at *;have hs:=(((((St.nil My).AF k5).AF k6).AF hO.s.o).AF hO.h).AF k3;by_cases hJ:J.1=0
  ·rw [if_pos hJ];rw [hJ] at hO ⊢;have aBH:=Ap.size;have hH:=hs.hold;have EV:=hs.get At.head;cases hsy:(CA e.c id).1 with
   | false =>
     rw [if_neg AA];have hy:CP s.cf.cores { id:=xi,st:=2,core:=n,w:=xw,slice:=Cd,lag:=xl }:=hx.st hn om
     repeat' (first|refine Sd ?_|(refine st hs ?_;intro w hs)|fail)
     have AU:=hs.AD [b4] (fun e he=>by
      rcases aCu.1 he with rfl | he
      ·exact .inr (.inl AA)
      ·exact .inr (.inr (hH e (aCy _ he)))) sD
     replace hs:=hs.En;simp only [aC2,aDD] at hs;replace hO:=hO.Es AU EV GD;replace Ap:=Ap.step AU (fun k hk => .inr (by obtain rfl:=List.mem_singleton.1 hk;omega));replace hp:=hp.Fi AU (fun k hk=>⟨_,_,_,by obtain rfl:=List.mem_singleton.1 hk;exact EV,by decide,by decide⟩);clear hH EV;refine Hy [] hs ?_;clear hs;intro hX w CG hs;replace hO:=hO.only CG;replace Ap:=Ap.step CG AA;refine tks 0 8 ?_;refine dt 8 hX ?_;refine cl (h:=by exact FV tb rb _ (({ id:=xi,st:=2,core:=n,w:=xw,slice:=Cd,lag:=xl }:Tk)) _ hO.s.t hy.1) ?_;rintro v12 I6 ⟨rfl,FZ,Bl⟩;have IC:=hO.s.t;obtain ⟨KE,Hz,MU,Ed,_⟩:=IC;replace hs:=hs.Dj Bl (fun k hk=>by obtain rfl:=List.mem_singleton.1 hk;exact hs.IE GD Ed);replace hO:=hO.JD FZ Bl (hO.s.ok.CM hy);replace Ap:=Ap.step Bl (fun k hk => .inl (by obtain rfl:=List.mem_singleton.1 hk;simp [CC]));refine Jn ?_;refine en ?_;replace hp:=(hp.Fi CG AA).Fi Bl (fun k hk=>⟨_,_,_,by obtain rfl:=List.mem_singleton.1 hk;exact Ed,by decide,by decide⟩);refine Ja ?_;have Vf:=Ap.size;refine cl (h:=by exact GM hb _ _ n _ rp _ hO.at hp GZ (by have:=hkn.1;have:=hkn.2;have e1:Rp.none.p.length=0:=rfl;have e2:Rp.none.g.length=0:=rfl;have e3:([]:List Ev).length=0:=rfl;simp only at *;omega)) (k:=?_);rintro v25 w25 ⟨qP,NN,Ns,J6⟩;replace Ap:=Ap.step J6 X1;have NC:=IV X1 Ns Vf;clear hs;have hs:=St.nil w25;refine Ja ?_;refine AG ?_;have Cp:=hs.AE rfl;exact ⟨rfl,fun _=>⟨_,NN.only Cp,NC⟩,Ap.step Cp AA⟩
   | true =>
     rw [if_pos rfl];have hy:CP s.cf.cores { id:=xi,st:=3,core:=n,w:=xw,slice:=Cd,lag:=GK s.cf (CA e.c id).2 Cd }:=⟨hx.1,(by decide:(0:Int)≤3∧(3:Int) < 256),hx.2.2.1,hx.2.2.2.1,hx.2.2.2.2.1,LW _ _ _,fun _=>hx.core (by decide:(1:Int)≠0)⟩
     repeat' (first|refine vs ?_|refine Aq ?_|refine Nx.h ?_|refine FP ?_|refine Eb ?_|(refine st hs ?_;intro w hs)|fail)
     have AU:=hs.AD [b4] (fun e he=>by
      rcases aCu.1 he with rfl | he
      ·exact .inr (.inl AA)
      ·exact .inr (.inr (hH e (aCy _ he)))) sD
     replace hs:=hs.En;simp only [aC2,aDD] at hs;replace hO:=hO.Es AU EV GD;replace Ap:=Ap.step AU (fun k hk => .inr (by obtain rfl:=List.mem_singleton.1 hk;omega));replace hp:=hp.Fi AU (fun k hk=>⟨_,_,_,by obtain rfl:=List.mem_singleton.1 hk;exact EV,by decide,by decide⟩);clear hH EV;have hH:=hs.hold;have EV:=hs.get At.head;refine drT [] hs ?_;intro hX w hs;refine tks 0 9 ?_;refine dt 9 hX ?_;refine Jc ?_;refine dn ?_;refine tk 11 hX ?_;refine dt 10 hX ?_;refine AZ hs (h:=by exact RJ s.cf (CA e.c id).2 Cd hO.s.ok.cf hsx hx.2.2.2.2.1 _) ?_;intro w' ho hs;refine Jn ?_;refine dt 12 hX ?_
     repeat' (first|refine Nx.h ?_|(refine st hs ?_;intro w hs)|fail)
     refine dn ?_;refine tk 13 hX ?_;refine dt 14 hX ?_
     repeat' (first|refine Nx.h ?_|(refine st hs ?_;intro w hs)|fail)
     refine dn ?_;refine en ?_;refine Jb ?_
     have AU:=hs.AD [b4] (fun e he=>by
      rcases aCu.1 he with rfl | he
      ·exact .inr (.inl AA)
      ·exact .inr (.inr (hH e (aCy _ he)))) sD
     replace hs:=hs.En;simp only [aC2,aDD] at hs;replace hO:=hO.Es AU EV GD;replace Ap:=Ap.step AU (fun k hk => .inr (by obtain rfl:=List.mem_singleton.1 hk;omega));replace hp:=hp.Fi AU (fun k hk=>⟨_,_,_,by obtain rfl:=List.mem_singleton.1 hk;exact EV,by decide,by decide⟩);clear hH EV;refine Hy [] hs ?_;clear hs;intro hX w CG hs;replace hO:=hO.only CG;replace Ap:=Ap.step CG AA;refine tks 0 8 ?_;refine dt 8 hX ?_;refine cl (h:=by exact FV tb rb _ (({ id:=xi,st:=3,core:=n,w:=xw,slice:=Cd,lag:=GK s.cf (CA e.c id).2 Cd }:Tk)) _ hO.s.t hy.1) ?_;rintro v12 I6 ⟨rfl,FZ,Bl⟩;have IC:=hO.s.t;obtain ⟨KE,Hz,MU,Ed,_⟩:=IC;replace hs:=hs.Dj Bl (fun k hk=>by obtain rfl:=List.mem_singleton.1 hk;exact hs.IE GD Ed);replace hO:=hO.JD FZ Bl (hO.s.ok.CM hy);replace Ap:=Ap.step Bl (fun k hk => .inl (by obtain rfl:=List.mem_singleton.1 hk;simp [CC]));refine Jn ?_;refine en ?_;replace hp:=(hp.Fi CG AA).Fi Bl (fun k hk=>⟨_,_,_,by obtain rfl:=List.mem_singleton.1 hk;exact Ed,by decide,by decide⟩);refine Ja ?_;have Vf:=Ap.size;refine cl (h:=by exact GM hb _ _ n _ rp _ hO.at hp GZ (by have:=hkn.1;have:=hkn.2;have e1:Rp.none.p.length=0:=rfl;have e2:Rp.none.g.length=0:=rfl;have e3:([]:List Ev).length=0:=rfl;simp only at *;omega)) (k:=?_);rintro v25 w25 ⟨qP,NN,Ns,J6⟩;replace Ap:=Ap.step J6 X1;have NC:=IV X1 Ns Vf;clear hs;have hs:=St.nil w25;refine Ja ?_;refine AG ?_;have Cp:=hs.AE rfl;exact ⟨rfl,fun _=>⟨_,NN.only Cp,NC⟩,Ap.step Cp AA⟩
  ·rw [if_neg hJ];generalize J.1=ee at *
   repeat' (first|refine Sa ?_|(refine st hs ?_;intro w hs)|refine xc_cond rfl (fun hc=>?_) fun hc=>?_|fail)
   ·refine AG ?_;have Cp:=hs.AD [] (fun e he => .inr (.inr (hs.hold e he))) sD;exact ⟨rfl,fun q=>absurd q hJ,Ap.step Cp AA⟩
   all_goals exact absurd (by simpa using ‹(ee != 0)=false›) hJ
def RC (s:Ch) (k:Nat) (ns:Int):Ch:=BJ ⟨BX s.s k (CU (AK s.s k) (A7 (AK s.s k) ns).1 (A7 (AK s.s k) ns).2.1),s.ev⟩ k (BO (A7 (AK s.s k) ns).1 (A7 (AK s.s k) ns).2.1 (A7 (AK s.s k) ns).2.2)
theorem gV {n k:Nat} {s:Ch} {ns:Int} (h:(A7 (AK s.s k) ns).1=0):Ca (n+1) k s ns=Ca n (k+1) (RC s k ns) ns:=by
 have h':(A7 (AK s.s k) ns).fst=0:=h;rw [Ca];exact if_pos h'
theorem bL {n k:Nat} {s:Ch} {ns:Int} (h:(A7 (AK s.s k) ns).1≠0):Ca (n+1) k s ns=((A7 (AK s.s k) ns).1,s):=by
 have h':¬ (A7 (AK s.s k) ns).fst=0:=h;rw [Ca];exact if_neg h'
theorem dQ (b1 hb:Nat) (s:Sy) (ns:Int) (wb w0:World) (Dd:BY ns) (hw0:AB [] wb w0) (zR:wb.heap[b1]?=some (.cells #[.int .u64 ns] 22 (0,0))) (hbd:ns≤1099511627776→∀ k:Nat,k < s.k.length→(A7 (AK s k) ns).2.2.p.length≤1000000) :
 q8 wb w0 57 [.pointer (some ⟨b1,0,none⟩)] [] (fun _=>True) s (EI ⟨s,[]⟩ ns):=by
 intro hb F h hF;have B1:=hw0.block zR AA;have FB:=h;obtain ⟨sb,tb,rb,v,ve,L,G,Ge,rfl,hO⟩:=h.FA;have hhi:=hO.s.ok.hi;have hlen:=hO.s.ok.len;have hlo:=hO.s.ok.lo;have WD:=hO.s.c.len;have h0:0 < (Ch.s ⟨s,[]⟩).k.length:=by show 0 < s.k.length;have:((s.k.length:Nat):Int)=s.cf.cores:=hlen;have:1≤s.cf.cores:=hlo;omega
 obtain ⟨x0,hx0,_,_⟩:=hO.s.c.at h0;obtain ⟨g,cap,aCl,rfl,_,_⟩:=hO.s.c.ptr hx0;have hh:=hO.h;have os:=hO.s.o;have hs:=((St.nil w0).AF B1).AF os |>.AF hh
 have eX:EI ⟨s,[]⟩ ns=if BC ns (D7 s.cf.tick)≠0 then (BC ns (D7 s.cf.tick),⟨s,[]⟩) else Ca s.k.length 0 ⟨s,[]⟩ ns:=rfl
 rw [eX];refine AS func57 ntmps57 ?_;refine Ja ?_;refine dr [] hs ?_;intro hX w hs;refine tks 0 8 ?_;refine dt 8 hX ?_;refine AZ hs (h:=by exact lP s.cf ns _) ?_;intro w' ho hs;refine Jn ?_;refine tk 9 hX ?_;refine en ?_;by_cases he:BC ns (D7 s.cf.tick)≠0
 ·rw [if_pos he];generalize BC ns (D7 s.cf.tick)=ee at *
  repeat' (first|refine Sa ?_|refine xc_cond rfl (fun hc=>?_) fun hc=>?_|fail)
  ·refine AG ?_;exact ⟨rfl,trivial,fun z=>absurd z he,(hs.AD [] (by simp [B1,os,hh]) sD).weaken AA⟩
  ·exact absurd (by simpa using hc) he
 have KP:ns≤1099511627776:=by
  have:=(within_lo he).2;unfold D7 at this;split at this <;> omega
 replace hbd:=hbd KP
 have lW:BC ns (D7 s.cf.tick)=0:=by
  rcases Classical.em (BC ns (D7 s.cf.tick)=0) with z | z
  ·exact z
  ·exact absurd z he
 rw [if_neg he,lW];refine Jd ?_;have BF:=hs.AD [] (by simp [B1,os,hh]) sD;have hlS:s.k.length≤8:=by have:((s.k.length:Nat):Int)=s.cf.cores:=hlen;have:s.cf.cores≤8:=hhi;omega
 have hLs:L.length=s.k.length:=WD;refine BM (fun (_:Ch × List Ce × Value × List Nat)=>[]) (fun y w=>Ca s.k.length 0 ⟨s,[]⟩ ns=(0,y.1)∧CY w hb sb tb rb (.slice (some ⟨g,0,none⟩) L.length cap) y.2.2.1 y.1 y.2.1 G y.2.2.2∧(∀ i∈CC hb sb tb rb y.2.1 G y.2.2.2,i∈CC hb sb tb rb L G Ge∨w0.heap.size≤i)∧AB (CC hb sb tb rb L G Ge) w0 w) ?_ ?_
 ·refine BH (fun (x:Nat × Ch × List Ce × Value × List Nat)=>[(0,.pointer (some ⟨hb,0,none⟩)),(1,.pointer (some ⟨b1,0,none⟩)),(27,.slice (some ⟨g,0,none⟩) L.length cap),(28,.int .i64 (L.length:Nat)),(29,.int .i64 (x.1:Nat))])
   (fun x w=>x.1≤L.length∧Ca s.k.length 0 ⟨s,[]⟩ ns=Ca (s.k.length - x.1) x.1 x.2.1 ns∧w.heap[b1]?=some (.cells #[.int .u64 ns] 22 (0,0))∧CY w hb sb tb rb (.slice (some ⟨g,0,none⟩) L.length cap) x.2.2.2.1 x.2.1 x.2.2.1 G x.2.2.2.2∧(∀ i∈CC hb sb tb rb x.2.2.1 G x.2.2.2.2,i∈CC hb sb tb rb L G Ge∨w0.heap.size≤i)∧AB (CC hb sb tb rb L G Ge) w0 w∧x.2.1.s.k.length=s.k.length∧(∀ j:Nat,x.1≤j→AK x.2.1.s j=AK s j)∧x.2.1.ev.length≤x.1*2000000)
   (fun x=>L.length - x.1) (0,⟨s,[]⟩,L,ve,Ge) Ad ⟨aC7 _,rfl,BF.block B1 AA,hO.only BF,fun i hi => .inl hi,BF.weaken AA,rfl,fun _ _=>rfl,aC7 _⟩ fun x env wl ⟨hi,hT,hB,hC,UK,Tt,GZ,JY,Yq⟩=>?_
  obtain ⟨i,S,Li,vi,Gi⟩:=x;simp only at hi hT hC UK GZ JY Yq;clear hs;have hs:=((St.nil wl).AF hB).AF hC.h
  repeat' (first|refine Sa ?_|refine Aw rfl (fun hc=>?_) fun hc=>?_|fail)
  ·have hlt:i < L.length:=by omega
   have aBV:i < S.s.k.length:=by omega
   obtain ⟨x,hx,vV,hce⟩:=hC.s.c.at aBV;obtain ⟨g',cap',cur,ev',hg,GI⟩:=hC.s.c.ptr hx
   have hg':g'=g∧L.length=Li.length:=by
    simp only [Value.slice.injEq,aDd,Addr.mk.injEq] at ev';exact ⟨ev'.1.1.symm,ev'.2.1⟩
   obtain ⟨hgg,hLL⟩:=hg';rw [hgg] at hg;have ei:=DP (m:=L.length) hlt om;have hR:Bw x.c:=vV.bS;have ec:AK S.s i=x.c:=hce.symm;have ecs:AK s i=x.c:=by rw [← JY i (aC5 _)];exact ec
   have Tv:=hbd i om;rw [ecs] at Tv;obtain ⟨_,_,_,_,_,hcb,_⟩:=vV.FA;have hgk:Cj (BO (A7 x.c ns).1 (A7 x.c ns).2.1 (A7 x.c ns).2.2):=(YV hR ns).try (O1 hR ns)
   have hkn:=HI (e:=(A7 x.c ns).1) (r1:=(A7 x.c ns).2.2) (O1 hR ns);have hkg:(A7 x.c ns).2.2.g.length≤32:=by obtain ⟨s1,hs1⟩:=hR;exact (tick_bounds hs1 ns).2
   have Q6:RC S i ns=BJ ⟨BX S.s i (CU x.c (A7 x.c ns).1 (A7 x.c ns).2.1),S.ev⟩ i (BO (A7 x.c ns).1 (A7 x.c ns).2.1 (A7 x.c ns).2.2):=by unfold RC;rw [ec]
   have hst:s.k.length - i=(s.k.length - (i+1))+1:=by omega
   rw [hst] at hT;have hgw:wl.heap[g]?=some (.cells cur.toArray T3 (0,0)):=hg;replace hs:=hs.AF hgw;refine ix (h0:=(by omega)) (h1:=(by omega)) ?_;refine lb (hc:=(by simpa using GI)) ?_;refine Ja ?_;have BD:=hs.AD [] (by simp [hB,hC.h,hgw]) sD;refine cl (h:=by exact iN x.cb x.c x.F ns _ (vV.only BD) Dd) ?_;rintro v2 w2 ⟨rv,rfl,T⟩;have hf:=T.form;obtain ⟨ag,cg,ap,cp,rfl⟩:=hf;obtain ⟨L',hA⟩:=CX (hC.only BD) hx T BD;have iG:=T.2.2.block (BD.block hB AA) (by simpa using A3 (BD.block hB AA) (BD.block hcb AA) (by decide));clear hs;have hs:=((St.nil w2).AF iG).AF hA.c.h;by_cases hJ:(A7 x.c ns).1=0
   ·rw [gV (by rw [ec];exact hJ),Q6] at hT;rw [hJ] at hA hT hgk hkn ⊢
    have aCT:(BJ ⟨BX S.s i (CU x.c 0 (A7 x.c ns).2.1),S.ev⟩ i (BO 0 (A7 x.c ns).2.1 (A7 x.c ns).2.2)).ev.length≤(i+1)*2000000:=by
     rw [Il];simp only [aCv,aC0];have:=hkn.1;have:=hkn.2;omega
    have hk2:=(absorb_k ⟨BX S.s i (CU x.c 0 (A7 x.c ns).2.1),S.ev⟩ i (BO 0 (A7 x.c ns).2.1 (A7 x.c ns).2.2)).1;generalize hrp:BO 0 (A7 x.c ns).2.1 (A7 x.c ns).2.2=rp at *;generalize CU x.c 0 (A7 x.c ns).2.1=c' at *
    repeat' (first|refine Sd ?_|(refine AV hs ?_;intro w hs)|(refine al hs ?_;intro b w hz hs)|fail)
    have hoq:=hs.AD [] (by simp [iG,hA.c.h]) sD;refine cl (h:=by exact QJ hb sb tb rb _ vi _ L' G Gi i _ rp _ (hA.c.only hoq) (hA.p.Fi hoq AA) hgk (by have:=hkn.1;have:=hkn.2;show S.ev.length+_+_≤_;omega)) (k:=?_);rintro v5 w5 ⟨ve5,Ge5,Oo,aBp,BL⟩;have hB5:=BL.block (hoq.block iG AA) ((hA.c.only hoq).at.not (hoq.block iG AA) rfl);have Ob:=hA.o.size;have hzL:=Tt.size;have EB:=Tt.step ((hA.o.step hoq AA).step BL hA.f) UK;clear hs;have hs:=St.nil w5;refine Ja ?_;have Ao:=hs.AE rfl;refine A2 (i+1,_,L',ve5,Ge5) (by show L.length - (i+1) < L.length - i;omega) (by (repeat (first | exact Ag | (apply A8;first | exact rfl | exact congrArg (Value.int .i64) ei)))) ⟨by show i+1≤_;omega,hT,Ao.block hB5 AA,Oo.only Ao,fun j hj=>?_,EB.step Ao AA,?_,fun j hj=>?_,aCT⟩
    ·have key:j∈CC hb sb tb rb L' G Gi∨w0.heap.size≤j:=by
      simp only [CC,aCu,aC4] at hj ⊢;rcases hj with hj | hj | hj
      ·exact .inl (.inl hj)
      ·exact .inl (.inr (.inl hj))
      ·rcases aBp j hj with q | q
       ·exact .inl (.inr (.inr q))
       ·exact .inr (by have:=hoq.size;omega)
     rcases key with q | q
     ·rcases hA.f j q with z | z
      ·exact UK j z
      ·exact .inr om
     ·exact .inr q
    ·show (BJ _ i rp).s.k.length=_;rw [hk2];show (S.s.k.set _ _).length=_;rw [aDN];exact GZ
    ·show AK (BJ _ i rp).s j=_;have hj':i+1≤j:=hj;rw [NA hk2,LJ (k:=(i:Int)) om (show ((j:Nat):Int)≠(i:Int) by omega)];exact JY j om
   ·rw [bL (by rw [ec];exact hJ),ec] at hT;rw [hT];generalize (A7 x.c ns).1=ee at *
    repeat' (first|refine Sa ?_|(refine AV hs ?_;intro w hs)|(refine al hs ?_;intro b w hz hs)|refine xc_cond rfl (fun hc=>?_) fun hc=>?_|fail)
    ·refine AG ?_;have Ao:=hs.AD [] (by simp [iG,hA.c.h]) sD;exact ⟨rfl,trivial,fun q=>absurd q hJ,((Tt.step (hA.o.step Ao AA) UK)).weaken AA⟩
    ·exact absurd (by simpa using hc) hJ
  ·have e:i=s.k.length:=by omega
   subst e;rw [Nat.sub_self] at hT;exact Au (S,Li,vi,Gi) Ad ⟨hT,hC,UK,Tt⟩
 ·rintro ⟨S,Li,vi,Gi⟩ env w ⟨hT,hC,UK,Tt⟩;simp only at hT hC UK;rw [hT];clear hs;have hs:=St.nil w;refine Ja ?_;refine AG ?_;have Ao:=hs.AE rfl;exact ⟨rfl,trivial,fun _=>⟨_,(hC.only Ao).at,UK⟩,(Tt.step Ao AA).weaken AA⟩
theorem fG (b2 hb:Nat) (s:Sy) (F:List Nat) (x:Tk) (core:Int) (w0:World) (h:De w0 hb ⟨s,[]⟩ F) (Fg:In64 core) (B2:w0.heap[b2]?=some (.cells #[.int .i64 core] 3 (0,0))) (hx:CP s.cf.cores x) (hn:x.st≠0) :
 AO prog 78 #[.pointer (some ⟨hb,0,none⟩),KM x,.pointer (some ⟨b2,0,none⟩)] w0 fun v w'=>v = .int .i64 (C5 ⟨s,[]⟩ x core).1∧KF w0 hb (C5 ⟨s,[]⟩ x core).1 (C5 ⟨s,[]⟩ x core).2 F w':=by
 have FB:=h;have Vp:=h.lt;have RW:EE s:=by obtain ⟨_,_,_,_,_,_,_,_,_,hO⟩:=h.FA;exact hO.s.ok
 obtain ⟨sb,tb,rb,v,ve,L,G,Ge,eF,hO⟩:=h.FA;have hs:=((St.nil w0).AF B2).AF hO.s.o |>.AF hO.h
 refine AS func78 ntmps78 ?_;refine Ah ?_;refine Aq ?_;refine Gv hs ?_;clear hs;intro b4 w1 AL z1 hs;have Zk:b4∉F:=fun hm=>by have:=Vp _ hm;omega
 refine Jc ?_;refine Hy [] hs ?_;clear hs;intro hX w CG hs;refine tks 0 8 ?_;refine dt 8 hX ?_;refine cl (h:=by exact Lw s.cf core _) ?_;rintro v2 w2 ⟨rfl,AN⟩;replace hs:=hs.JL AN;have BF:=(AL.trans CG).trans AN;refine Jn ?_;refine tk 9 hX ?_;refine en ?_
 have WM:∀ w',AB [] w2 w'→(CS s.cf core≠0∨core=x.core)→Value.int .i64 (CS s.cf core) = .int .i64 (C5 ⟨s,[]⟩ x core).1∧KF w0 hb (C5 ⟨s,[]⟩ x core).1 (C5 ⟨s,[]⟩ x core).2 F w':=fun w' ho hb'=>by
  rw [Gd (s:=⟨s,[]⟩) hb'];exact ⟨rfl,fun _=>⟨F,FB.only (BF.trans ho),fun k hk => .inl hk⟩,(BF.trans ho).weaken AA⟩
 by_cases c0:CS s.cf core≠0
 ·have Ds:=fun w' ho=>WM w' ho (.inl c0);clear WM;generalize CS s.cf core=ee at *
  repeat' (first|refine Se ?_|((with_reducible apply BV);exact rfl;exact rfl;intro c hc;(fail_if_success have:true=c:=hc);(fail_if_success have:false=c:=hc);cases c)|refine Aw rfl (fun hc=>?_) fun hc=>?_|fail)
  ·exact absurd (by simpa using ‹(ee != 0)=false›) c0
  ·exact absurd (by simpa using ‹(ee != 0)=false›) c0
  ·refine AG ?_;exact Ds _ (hs.AD [] (fun e he => .inr (.inr (hs.hold e he))) sD)
 have kD:CS s.cf core=0:=by
  rcases Classical.em (CS s.cf core=0) with z | z
  ·exact z
  ·exact absurd z c0
 by_cases c1:core=x.core
 ·have Ds:=fun w' ho=>WM w' ho (.inr c1);clear WM;rw [kD] at Ds ⊢;subst c1
  repeat' (first|refine Sa ?_|refine Aw rfl (fun hc=>?_) fun hc=>?_|fail)
  ·refine AG ?_;exact Ds _ (hs.AD [] (fun e he => .inr (.inr (hs.hold e he))) sD)
  ·exact absurd hc AA
 have c2:¬ (CS s.cf core≠0∨core=x.core):=fun z=>z.elim c0 c1
 have eM:C5 ⟨s,[]⟩ x core=E6 (if BR x=true then (B0 ⟨s,[]⟩ x).2 else ⟨s,[]⟩) x core (if BR x=true then (B0 ⟨s,[]⟩ x).1 else x.lag):=by
  rw [Hh (s:=⟨s,[]⟩) c2];split <;> rfl
 rw [eM,kD];clear WM eM
 have JY:0≤core∧core < s.cf.cores:=by
  unfold CS at kD;split at kD
  ·cases kD
  ·omega
 have hlv:=ok_leave (s:=⟨s,[]⟩) RW x
 have hU:EE (if BR x=true then (B0 ⟨s,[]⟩ x).2 else (⟨s,[]⟩:Ch)).s∧(if BR x=true then (B0 ⟨s,[]⟩ x).2 else (⟨s,[]⟩:Ch)).s.cf=s.cf:=by
  split
  ·exact hlv
  ·exact ⟨RW,rfl⟩
 have hlg:In64 (if BR x=true then (B0 ⟨s,[]⟩ x).1 else x.lag):=by
  split
  ·exact leave_in _ _
  ·exact hx.2.2.2.2.2.1
 have aBf:(if BR x=true then (B0 ⟨s,[]⟩ x).2 else (⟨s,[]⟩:Ch)).ev.length≤1000000:=by
  split
  ·have hR:(Da (Az (AK s x.core) x.id).2).length≤64:=by
    have h1:(Da (Az (AK s x.core) x.id).2).length≤(Az (AK s x.core) x.id).2.A.l.length:=NS _ _;obtain ⟨n,e,_,_,_,Fa,_,_,hC,hce,_,_,_,_,hR,_⟩:=hO.place hx hn;have h2:=Ud (FI hR x.id);have J4:AK s n=e.c:=hce;rw [Fa,J4];omega
   show (BJ _ x.core (BO _ _ .none)).ev.length≤_;rw [Il];simp only [aCv,aC0,Rt,aDA]
   have:(BO (Az (AK s x.core) x.id).1 (Az (AK s x.core) x.id).2 .none).g.length≤64:=by
    unfold BO;split
    ·show ([] ++ Da (Az (AK s x.core) x.id).2).length≤64;rw [aDV];exact hR
    ·exact aC7 _
   have h9:(BO (Az (AK (Ch.s ⟨s,[]⟩) x.core) x.id).1 (Az (AK (Ch.s ⟨s,[]⟩) x.core) x.id).2 .none).g.length≤64:=this;omega
  ·exact aC7 _
 repeat' (first|refine Sa ?_|refine Aw rfl (fun hc=>?_) fun hc=>?_|fail)
 ·exact absurd hc (by simpa using c1)
 refine cl (h:=by exact JT x _) ?_;rintro v3 w3 ⟨rfl,AU⟩;have Bd:=hs.AD [] (fun e he => .inr (.inr (hs.hold e he))) sD;have T4:=(BF.trans Bd).trans AU;have hs1:=hs.En;simp only [aC2,aDD] at hs1;clear hs;have hs:=hs1.JL AU;clear hs1;refine XS.nil ?_;refine Dw ?_;have kP:=T4.size;refine B9 (fun (_:List Nat)=>[(0,.pointer (some ⟨hb,0,none⟩)),(2,.pointer (some ⟨b2,0,none⟩)),(4,.pointer (some ⟨b4,0,none⟩))]) (fun F1 w=>w.heap[b2]?=some (.cells #[.int .i64 core] 3 (0,0))∧w.heap[b4]?=some (Nf { x with lag:=if BR x=true then (B0 ⟨s,[]⟩ x).1 else x.lag })∧De w hb (if BR x=true then (B0 ⟨s,[]⟩ x).2 else (⟨s,[]⟩:Ch)) F1∧b4∉F1∧(∀ k∈F1,k∈F∨w0.heap.size≤k)∧AB F w0 w) ?_ ?_
 ·cases Zl:BR x with
  | false =>
    rw [if_neg AA,if_neg AA];refine Jg ?_;exact AQ F Ad ⟨hs.get (b:=b2) AX,hs.get (b:=b4) AX,FB.only T4,Zk,fun k hk => .inl hk,T4.weaken AA⟩
  | true =>
    rw [if_pos rfl,if_pos rfl];refine Ji ?_;refine cl (h:=by exact SB hb ⟨s,[]⟩ F x _ (FB.only T4) hx hn AA) ?_;rintro v4 w4 ⟨rfl,F3,V5,Md,Ar⟩;have k2:=Ar.block (hs.get (b:=b2) AX) ((FB.only T4).not (hs.get (b:=b2) AX) rfl);have k4:=Ar.block (hs.get (b:=b4) AX) Zk;have l4:=lt_of_block (hs.get (b:=b4) AX)
    have n43:b4∉F3:=fun hm=>by
     rcases Md _ hm with q | q
     ·exact Zk q
     ·omega
    clear hs;have hs:=((St.nil w4).AF k2).AF k4;generalize (B0 ⟨s,[]⟩ x).1=lg at *;refine vs ?_;refine iA hs ?_;clear hs;intro w5 BL hs;refine XS.nil ?_;have Oo:=V5.Ai BL (fun k hk hm=>by obtain rfl:=List.mem_singleton.1 hm;exact n43 hk)
    exact AQ F3 Ad ⟨hs.get (b:=b2) AX,hs.get (b:=b4) AX,Oo,n43,fun k hk=>by
     rcases Md k hk with q | q
     ·exact .inl q
     ·exact .inr om,((T4.weaken AA).step Ar (fun k hk => .inl hk)).step BL (fun k hk => .inr (by obtain rfl:=List.mem_singleton.1 hk;omega))⟩
 ·rintro F1 env My ⟨k2,k4,M6,n41,Cq,QB⟩;generalize (if BR x=true then (B0 ⟨s,[]⟩ x).2 else (⟨s,[]⟩:Ch))=U at *;generalize (if BR x=true then (B0 ⟨s,[]⟩ x).1 else x.lag)=lg at *;clear hs hO;obtain ⟨sb,tb,rb,v,ve,L,G,Ge,rfl,hO⟩:=M6.FA;have GD:b4≠rb:=fun e=>n41 (by rw [e];simp [CC]);have XZ:=hU.2;have hs:=(((St.nil My).AF k2).AF hO.s.o).AF hO.h |>.AF k4
  have Ap:AB (b4 :: CC hb sb tb rb L G Ge) My My:=(AB.refl [] My).weaken AA;have hH:=hs.hold;have EV:=hs.get At.head;obtain ⟨xi,xt,xc,xw,Cd,xl⟩:=x
  have dR:∀ w',AB (b4 :: CC hb sb tb rb L G Ge) My w'→AB F w0 w':=fun w' ho=>QB.step ho (fun k hk=>by
   rcases aCu.1 hk with rfl | hk
   ·exact .inr om
   ·exact Cq k hk)
  have aBH:=QB.size;have eE:∀ y:Tk,Dv ⟨xi,xt,xc,xw,Cd,xl⟩ core lg=y→E6 U ⟨xi,xt,xc,xw,Cd,xl⟩ core lg=if y.st=1 then FM ⟨Bz U.s y,U.ev⟩ y y.lag else (0,⟨Bz U.s y,U.ev⟩):=fun y hy=>by subst hy;rfl
  have wC:∀ z:Int,0≤z∧z < 256→CP U.s.cf.cores { id:=xi,st:=z,core:=core,w:=xw,slice:=Cd,lag:=lg }:=fun z hz=>by
   rw [XZ];exact ⟨hx.1,hz,Fg,hx.2.2.2.1,hx.2.2.2.2.1,hlg,fun _=>JY⟩
  by_cases t1:xt=1
  ·subst t1;rw [eE { id:=xi,st:=1,core:=core,w:=xw,slice:=Cd,lag:=lg } rfl,if_pos rfl];have hy:=wC 1 om
   repeat' (first|refine Sd ?_|(refine st hs ?_;intro w hs)|fail)
   have AU:=hs.AD [b4] (fun e he=>by
    rcases aCu.1 he with rfl | he
    ·exact .inr (.inl AA)
    ·exact .inr (.inr (hH e (aCy _ he)))) sD
   replace hs:=hs.En;simp only [aC2,aDD] at hs;replace hO:=hO.Es AU EV GD;replace Ap:=Ap.step AU (fun k hk => .inl (by obtain rfl:=List.mem_singleton.1 hk;simp));clear hH EV;refine Hy [] hs ?_;clear hs;intro hX w CG hs;replace hO:=hO.only CG;replace Ap:=Ap.step CG AA;refine tks 0 8 ?_;refine dt 8 hX ?_;refine cl (h:=by exact FV tb rb _ (({ id:=xi,st:=1,core:=core,w:=xw,slice:=Cd,lag:=lg }:Tk)) _ hO.s.t hy.1) ?_;rintro v12 I6 ⟨rfl,FZ,Bl⟩;have IC:=hO.s.t;obtain ⟨KE,Hz,MU,Ed,_⟩:=IC;replace hs:=hs.Dj Bl (fun k hk=>by obtain rfl:=List.mem_singleton.1 hk;exact hs.IE GD Ed);replace hO:=hO.JD FZ Bl (hO.s.ok.CM hy);replace Ap:=Ap.step Bl (fun k hk => .inl (by obtain rfl:=List.mem_singleton.1 hk;simp [CC]));refine Jn ?_;refine en ?_;refine Je ?_;refine cl (h:=by exact ON hb ⟨Bz U.s { id:=xi,st:=1,core:=core,w:=xw,slice:=Cd,lag:=lg },U.ev⟩ _ { id:=xi,st:=1,core:=core,w:=xw,slice:=Cd,lag:=lg } lg _ hO.at hy (by decide:(1:Int)≠0) hlg aBf) ?_;rintro v25 w25 ⟨rfl,oX,J6⟩;have yB:=Ap.size;replace Ap:=Ap.step J6 (fun k hk => .inl (by simp [hk]));clear hs;have hs:=St.nil w25;refine Jc ?_;refine AG ?_;have Cp:=hs.AE rfl;refine ⟨rfl,fun e0=>?_,dR _ (Ap.step Cp AA)⟩;obtain ⟨F',h1,h2⟩:=oX e0
   exact ⟨F',h1.only Cp,fun k hk=>by
    rcases h2 k hk with q | q
    ·exact Cq k q
    ·exact .inr om⟩
  by_cases t2:xt=2
  ·subst t2;rw [eE { id:=xi,st:=3,core:=core,w:=xw,slice:=Cd,lag:=lg } rfl,if_neg (by decide:¬ (3:Int)=1)];have hy:=wC 3 om
   repeat' (first|refine Sc ?_|(refine st hs ?_;intro w hs)|fail)
   have AU:=hs.AD [b4] (fun e he=>by
    rcases aCu.1 he with rfl | he
    ·exact .inr (.inl AA)
    ·exact .inr (.inr (hH e (aCy _ he)))) sD
   replace hs:=hs.En;simp only [aC2,aDD] at hs;replace hO:=hO.Es AU EV GD;replace Ap:=Ap.step AU (fun k hk => .inl (by obtain rfl:=List.mem_singleton.1 hk;simp));clear hH EV;refine Hy [] hs ?_;clear hs;intro hX w CG hs;replace hO:=hO.only CG;replace Ap:=Ap.step CG AA;refine tks 0 8 ?_;refine dt 8 hX ?_;refine cl (h:=by exact FV tb rb _ (({ id:=xi,st:=3,core:=core,w:=xw,slice:=Cd,lag:=lg }:Tk)) _ hO.s.t hy.1) ?_;rintro v12 I6 ⟨rfl,FZ,Bl⟩;have IC:=hO.s.t;obtain ⟨KE,Hz,MU,Ed,_⟩:=IC;replace hs:=hs.Dj Bl (fun k hk=>by obtain rfl:=List.mem_singleton.1 hk;exact hs.IE GD Ed);replace hO:=hO.JD FZ Bl (hO.s.ok.CM hy);replace Ap:=Ap.step Bl (fun k hk => .inl (by obtain rfl:=List.mem_singleton.1 hk;simp [CC]));refine Jn ?_;refine en ?_;refine Jd ?_;refine AG ?_;have Cp:=hs.AD [] (fun e he => .inr (.inr (hs.hold e he))) sD;exact ⟨rfl,fun _=>⟨_,(hO.only Cp).at,Cq⟩,dR _ (Ap.step Cp AA)⟩
  ·have ey:Dv ⟨xi,xt,xc,xw,Cd,xl⟩ core lg={ id:=xi,st:=xt,core:=core,w:=xw,slice:=Cd,lag:=lg }:=by
    show ({ id:=xi,st:=if xt=2 then 3 else xt,core:=core,w:=xw,slice:=Cd,lag:=lg }:Tk)=_;rw [if_neg t2]
   rw [eE _ ey,if_neg t1];have hy:=wC xt hx.2.1
   repeat' (first|refine Sa ?_|(refine st hs ?_;intro w hs)|refine Aw rfl (fun hc=>?_) fun hc=>?_|fail)
   ·exact absurd (by simpa using hc) t2
   have AU:=hs.AD [b4] (fun e he=>by
    rcases aCu.1 he with rfl | he
    ·exact .inr (.inl AA)
    ·exact .inr (.inr (hH e (aCy _ he)))) sD
   replace hs:=hs.En;simp only [aC2,aDD] at hs;replace hO:=hO.Es AU EV GD;replace Ap:=Ap.step AU (fun k hk => .inl (by obtain rfl:=List.mem_singleton.1 hk;simp));clear hH EV;refine Hy [] hs ?_;clear hs;intro hX w CG hs;replace hO:=hO.only CG;replace Ap:=Ap.step CG AA;refine tks 0 8 ?_;refine dt 8 hX ?_;refine cl (h:=by exact FV tb rb _ (({ id:=xi,st:=xt,core:=core,w:=xw,slice:=Cd,lag:=lg }:Tk)) _ hO.s.t hy.1) ?_;rintro v12 I6 ⟨rfl,FZ,Bl⟩;have IC:=hO.s.t;obtain ⟨KE,Hz,MU,Ed,_⟩:=IC;replace hs:=hs.Dj Bl (fun k hk=>by obtain rfl:=List.mem_singleton.1 hk;exact hs.IE GD Ed);replace hO:=hO.JD FZ Bl (hO.s.ok.CM hy);replace Ap:=Ap.step Bl (fun k hk => .inl (by obtain rfl:=List.mem_singleton.1 hk;simp [CC]));refine Jn ?_;refine en ?_
   repeat' (first|refine Sa ?_|refine Aw rfl (fun hc=>?_) fun hc=>?_|fail)
   ·exact absurd (by simpa using hc) t1
   refine AG ?_;have Cp:=hs.AD [] (fun e he => .inr (.inr (hs.hold e he))) sD;exact ⟨rfl,fun _=>⟨_,(hO.only Cp).at,Cq⟩,dR _ (Ap.step Cp AA)⟩
abbrev VN (x:Int):Obj := .cells #[.int .i64 x] 3 (0,0)
theorem tY {l:List Tk} (h:l.length≤32) (x:Tk):In64 (Eu l x):=by
 unfold Eu;cases Ba x with
 | false=>exact (by decide:In64 0)
 | true =>
   cases e:Dc l with
   | none=>exact (by decide:In64 0)
   | some i =>
     have:=LN e;show In64 ((i:Int)+1);unfold In64;omega
theorem Y7 (b1 b2 b3 b4 hb:Nat) (s:Sy) (core q ns:Int) (wb w0:World) (Fg:In64 core) (hq:BY q) (Dd:BY ns) (hw0:AB [] wb w0) (n14:b1≠b4) (n23:b2≠b3)
 (zR:wb.heap[b1]?=some (VN core)) (B2w:wb.heap[b2]?=some (.cells #[.int .u64 q] 22 (0,0))) (B3w:wb.heap[b3]?=some (.cells #[.int .u64 ns] 22 (0,0))) (B4w:wb.heap[b4]?=some (VN 0)) :
 q8 wb w0 51 [.pointer (some ⟨b1,0,none⟩),.pointer (some ⟨b2,0,none⟩),.pointer (some ⟨b3,0,none⟩),.pointer (some ⟨b4,0,none⟩)] [b4] (fun w=>w.heap[b4]?=some (VN (Bc ⟨s,[]⟩ core q ns).2.1)) s ((Bc ⟨s,[]⟩ core q ns).1,(Bc ⟨s,[]⟩ core q ns).2.2):=by
 intro hb F h hF;have B1:=hw0.block zR AA;have B2:=hw0.block B2w AA;have B3:=hw0.block B3w AA;have B4:=hw0.block B4w AA;have l4:=lt_of_block B4w;have zw:=hw0.size;have FB:=h;have Vp:=h.lt;have RW:EE s:=by obtain ⟨_,_,_,_,_,_,_,_,_,hO⟩:=h.FA;exact hO.s.ok
 obtain ⟨sb,tb,rb,v,ve,L,G,Ge,eF,hO⟩:=h.FA;have Zj:=hO.s.t.SP.2;have Zk:b4∉F:=fun hm=>by have:=hF _ hm;omega
 have hh:=hO.h;have os:=hO.s.o
 have hs:=((((St.nil w0).AF B1).AF B2).AH B3 (by
  have:=A3 B3 B1 (by decide);simp;exact ⟨Ne.symm n23,this⟩)).AF os |>.AF hh
 refine AS func51 ntmps51 ?_;refine Ja ?_;refine Hy [] hs ?_;clear hs;intro hX w CG hs;refine tks 0 8 ?_;refine tks 9 8 ?_;refine tks 18 8 ?_;refine dt 8 hX ?_;refine cl (h:=by exact Lw s.cf core _) ?_;rintro v2 w2 ⟨rfl,AN⟩;replace hs:=hs.JL AN;refine Jn ?_;refine dt 17 hX ?_;refine cl (h:=by exact Oq s.cf q _) ?_;rintro v3 w3 ⟨rfl,AU⟩;replace hs:=hs.JL AU;refine Jn ?_;refine dt 26 hX ?_;refine cl (h:=by exact Ow s.cf ns _) ?_;rintro v4 w4 ⟨rfl,Ar⟩;replace hs:=hs.JL Ar;refine Jn ?_;refine dt 27 hX ?_;refine bs1 hs ?_;clear hs;intro b27 w5 BL z5 hs;refine Jn ?_;refine dt 28 hX ?_;refine cl (h:=by exact ZG [CS s.cf core,BC q 1048576,BC ns (D7 s.cf.slice)] _ AA _ (lit_ls (n:=3) (hs.get At.head) rfl (fun x hx=>by obtain ⟨e,_,rfl⟩:=List.mem_map.1 hx;rfl) rfl).x) (k:=?_);rintro v6 w6 ⟨rfl,Ao⟩;replace hs:=hs.JL Ao;refine Jn ?_;refine tk 29 hX ?_;refine en ?_;have BF:=((((CG.trans AN).trans AU).trans Ar).trans BL).trans Ao;have zA:=BF.size;rw [show F8 [CS s.cf core,BC q 1048576,BC ns (D7 s.cf.slice)]=Cx s core q ns from rfl];by_cases c1:Cx s core q ns≠0
 ·rw [Kv (s:=⟨s,[]⟩) c1];generalize Cx s core q ns=ee at *
  repeat' (first|refine Sa ?_|(refine AV hs ?_;intro w hs)|(refine al hs ?_;intro b w hz hs)|refine xc_cond rfl (fun hc=>?_) fun hc=>?_|fail)
  ·refine AG ?_;have C8:=hs.AD [] (fun e he => .inr (.inr (hs.hold e he))) sD;exact ⟨rfl,(BF.trans C8).block B4 AA,fun z=>absurd z c1,(BF.trans C8).weaken AA⟩
  ·exact absurd (by simpa using hc) c1
 have rA:Cx s core q ns=0:=by
  rcases Classical.em (Cx s core q ns=0) with z | z
  ·exact z
  ·exact absurd z c1
 rw [rA]
 have JY:0≤core∧core < s.cf.cores:=by
  unfold Cx F8 CS at rA;by_cases k:core < 0∨core≥s.cf.cores
  ·rw [if_pos k] at rA;cases rA
  ·omega
 have HO:CP s.cf.cores (B8 core q ns):=⟨(by decide:In64 0),(by decide:(0:Int)≤1∧(1:Int) < 256),Fg,Mt _,Dd,(by decide:In64 0),fun _=>JY⟩;have k1:=hs.get (b:=b1) AX;have k2:=hs.get (b:=b2) AX;have k3:=hs.get (b:=b3) AX;have hO6:=hO.only BF;have o6h:=hO6.h;have o6s:=hO6.s.o;clear hs
 have hs:=((((St.nil w6).AF k1).AF k2).AH k3 (by
  have:=A3 k3 k1 (by decide);simp;exact ⟨Ne.symm n23,this⟩)).AF o6s |>.AF o6h
 have hH:=hs.hold
 repeat' (first|refine Sd ?_|(refine AV hs ?_;intro w hs)|(refine al hs ?_;intro b w hz hs)|fail)
 obtain ⟨b8,rfl⟩:∃ z,z=b:=⟨_,rfl⟩;have z8:w6.heap.size≤b8:=hs.new (b8,true) AA rfl
 have C8:=hs.AD [] (fun e he=>by
  rcases aCu.1 he with rfl | he
  ·exact .inl rfl
  ·exact .inr (.inr (hH e he))) sD
 replace hs:=hs.En;simp only [aC2,aDD] at hs;have hO7:=hO6.only C8;have GD:b8≠rb:=by omega
 have Ap:=(BF.trans C8).weaken (G:=F) AA;refine Hy [] hs ?_;clear hs;intro hX w EB hs;have yI:=hO7.only EB;replace Ap:=Ap.step EB AA;refine tks 0 8 ?_;refine dt 8 hX ?_;refine cl (h:=by exact LP tb rb s.t (B8 core q ns) _ yI.s.t) ?_;rintro v8 w8 ⟨rfl,hT8,E9⟩;have IC:=yI.s.t;obtain ⟨KE,Hz,MU,Ed,_⟩:=IC;replace hs:=hs.Dj E9 (fun k hk=>by obtain rfl:=List.mem_singleton.1 hk;exact hs.IE GD Ed);have hO9:=yI.JD hT8 E9 (RW.rows (ZM RW.row RW.tl HO) (VS _ _));replace Ap:=Ap.step E9 (fun k hk => .inl (by obtain rfl:=List.mem_singleton.1 hk;rw [eF];simp [CC]));have B48:w8.heap[b4]?=some (VN 0):=Ap.block B4 Zk;refine Jn ?_;refine tks 9 5 ?_;refine en ?_;by_cases c2:Ef s.t (B8 core q ns)≠0
 ·rw [Km (s:=⟨s,[]⟩) c1 c2];have WW:Ef (Ch.s ⟨s,[]⟩).t (B8 core q ns)≠0:=c2;generalize Ef (Ch.s ⟨s,[]⟩).t (B8 core q ns)=ee at *;generalize Ef s.t (B8 core q ns)=ee2 at *
  repeat' (first|refine Sa ?_|(refine st hs ?_;intro w hs)|refine xc_cond rfl (fun hc=>?_) fun hc=>?_|fail)
  ·refine AG ?_;have C8:=hs.AD [] (fun e he => .inr (.inr (hs.hold e he))) sD;exact ⟨rfl,C8.block B48 AA,fun z=>absurd z c2,(Ap.step C8 AA).weaken (by intro k hk;exact aDC _ hk)⟩
  ·exact absurd (by simpa using hc) c2
 have WW:Ef s.t (B8 core q ns)=0:=by
  rcases Classical.em (Ef s.t (B8 core q ns)=0) with z | z
  ·exact z
  ·exact absurd z c2
 rw [Nq (s:=⟨s,[]⟩) c1 c2,WW];have hn:=tY RW.tl (B8 core q ns);have eJ:KX ⟨s,[]⟩ core q ns=FM ⟨{ s with t:=D4 s.t (B8 core q ns) },[]⟩ { B8 core q ns with id:=Eu s.t (B8 core q ns) } 0:=rfl;have eN:Eu (Ch.s ⟨s,[]⟩).t (B8 core q ns)=Eu s.t (B8 core q ns):=rfl;rw [eN];have hy2:CP s.cf.cores { B8 core q ns with id:=Eu s.t (B8 core q ns) }:=⟨hn,HO.2⟩;generalize KX ⟨s,[]⟩ core q ns=J at *;generalize Eu s.t (B8 core q ns)=n at *;have hH:=hs.hold;have EV:=hs.get At.head
 repeat' (first|refine Sd ?_|(refine st hs ?_;intro w hs)|fail)
 have FE:=hs.AD [b8] (fun e he=>by
  rcases aCu.1 he with rfl | he
  ·exact .inr (.inl AA)
  ·exact .inr (.inr (hH e (aCy _ he)))) sD
 have aCK:=hO9.Es FE EV GD;have n84:b4≠b8:=by omega
 replace Ap:=Ap.step FE (fun k hk => .inr (by obtain rfl:=List.mem_singleton.1 hk;omega));have aCD:=FE.block B48 (by simpa using n84);refine cl (h:=by exact ON hb ⟨{ s with t:=D4 s.t (B8 core q ns) },[]⟩ _ { B8 core q ns with id:=n } 0 _ aCK.at hy2 (by decide:(1:Int)≠0) (by decide:In64 0) AA) ?_;rw [← eJ];rintro v11 Za ⟨rfl,aBl,GC⟩;have rD:=Ap.size;have aB:=GC.block aCD (by rw [← eF];exact Zk);replace Ap:=Ap.step GC (fun k hk => .inl (by rw [eF];exact hk));clear hs;have hs:=(St.nil Za).AF aB;by_cases c3:J.1=0
 ·rw [if_pos c3];have hL:=aBl c3;rw [c3]
  repeat' (first|refine Sd ?_|(refine st hs ?_;intro w hs)|fail)
  refine AG ?_;have Bl:=hs.AD [b4] AA sD;obtain ⟨F',h1,h2⟩:=hL;refine ⟨rfl,hs.get (b:=b4) AX,fun _=>⟨F',h1.Ai Bl (fun k hk hm=>by obtain rfl:=List.mem_singleton.1 hm;exact h1.not aB rfl hk),fun k hk=>?_⟩,(Ap.weaken (by intro k hk;exact aDC _ hk)).step Bl (fun k hk => .inl (aDE _ hk))⟩;rcases h2 k hk with q | q
  ·exact .inl (by rw [eF];exact q)
  ·exact .inr om
 ·rw [if_neg c3];generalize J.1=ee at *
  repeat' (first|refine Sa ?_|(refine st hs ?_;intro w hs)|refine xc_cond rfl (fun hc=>?_) fun hc=>?_|fail)
  ·refine AG ?_;have C8:=hs.AD [] (by simp [aB]) sD;exact ⟨rfl,C8.block aB AA,fun z=>absurd z c3,(Ap.step C8 AA).weaken (by intro k hk;exact aDC _ hk)⟩
  ·exact absurd (by simpa using hc) c3
theorem EN.fin {w0 w1 w2 w3:World} {sb:Nat} {F:List Nat} {ve:Value} {s:Sy} {l:Int × Ch} (T:EN w1 sb F [] ve s l w2) (ho:AB [] w0 w1) (AU:AB [] w2 w3):EN w0 sb F [] ve s l w3:=by
 obtain ⟨⟨G,hG⟩,⟨F',hS,hF⟩,hT⟩:=T;have hz:=ho.size
 exact ⟨⟨G,hG.keep AU AA⟩,⟨F',hS.only AU,fun k hk=>by
  rcases hF k hk with q | q
  ·exact .inl q
  ·exact .inr om⟩,((ho.weaken AA).step hT (fun k hk => .inl hk)).step AU AA⟩
theorem EN.form {w0 w1:World} {sb:Nat} {F E:List Nat} {ve:Value} {s:Sy} {l:Int × Ch} (T:EN w0 sb F E ve s l w1):∃ a c,ve = .slice a (Dt s l).1.length c:=by
 obtain ⟨⟨G,hG⟩,_⟩:=T;exact BU hG
theorem iS (sb:Nat) (s:Sy) (F:List Nat) (id:Int) (w0:World) (h:C9 w0 sb s F) (hid:In64 id) :
 AO prog 32 #[.pointer (some ⟨sb,0,none⟩),.int .i64 id] w0 fun v w'=>∃ ve,v = .tuple #[ve,.int .i64 (By ⟨s,[]⟩ id (fun s x=>FQ s x id)).1]∧EN w0 sb F [] ve s (By ⟨s,[]⟩ id (fun s x=>FQ s x id)) w':=by
 have hs:=St.nil w0;refine AS func32 ntmps32 ?_;refine Ah ?_;refine Aq ?_;refine Gv hs ?_;clear hs;intro b3 w3 AU z3 hs;refine Ja ?_;have k3:=hs.get (b:=b3) AX;have Bd:=AU;refine cl (h:=by exact Ie sb s F id 65 [.pointer (some ⟨b3,0,none⟩)] (fun s x=>FQ s x id) _ (h.only Bd) hid (fun wb w h1 h2=>Pu.of fun hb F' hC he hx hn=>gS b3 hb s F' (Ay s.t id) id w hC hid ((h1.trans h2).block k3 AA) hx hn)) ?_;rintro v w9 ⟨ve,rfl,T⟩;obtain ⟨ae,ce,rfl⟩:=T.form;clear hs;have hs:=St.nil w9;refine Jc ?_;refine AG ?_;exact ⟨_,rfl,T.fin Bd (hs.AE rfl)⟩
theorem Ro (sb:Nat) (s:Sy) (F:List Nat) (id:Int) (w0:World) (h:C9 w0 sb s F) (hid:In64 id) :
 AO prog 33 #[.pointer (some ⟨sb,0,none⟩),.int .i64 id] w0 fun v w'=>∃ ve,v = .tuple #[ve,.int .i64 (By ⟨s,[]⟩ id (fun s x=>Fz s x id)).1]∧EN w0 sb F [] ve s (By ⟨s,[]⟩ id (fun s x=>Fz s x id)) w':=by
 have hs:=St.nil w0;refine AS func33 ntmps33 ?_;refine Ah ?_;refine Aq ?_;refine Gv hs ?_;clear hs;intro b3 w3 AU z3 hs;refine Ja ?_;have k3:=hs.get (b:=b3) AX;have Bd:=AU;refine cl (h:=by exact Ie sb s F id 68 [.pointer (some ⟨b3,0,none⟩)] (fun s x=>Fz s x id) _ (h.only Bd) hid (fun wb w h1 h2=>Pu.of fun hb F' hC he hx hn=>YI b3 hb s F' (Ay s.t id) id w hC hid ((h1.trans h2).block k3 AA) hx hn)) ?_;rintro v w9 ⟨ve,rfl,T⟩;obtain ⟨ae,ce,rfl⟩:=T.form;clear hs;have hs:=St.nil w9;refine Jc ?_;refine AG ?_;exact ⟨_,rfl,T.fin Bd (hs.AE rfl)⟩
theorem U5 (sb:Nat) (s:Sy) (F:List Nat) (id:Int) (w0:World) (h:C9 w0 sb s F) (hid:In64 id) :
 AO prog 34 #[.pointer (some ⟨sb,0,none⟩),.int .i64 id] w0 fun v w'=>∃ ve,v = .tuple #[ve,.int .i64 (By ⟨s,[]⟩ id (fun s x=>EX s x id)).1]∧EN w0 sb F [] ve s (By ⟨s,[]⟩ id (fun s x=>EX s x id)) w':=by
 have hs:=St.nil w0;refine AS func34 ntmps34 ?_;refine Ah ?_;refine Aq ?_;refine Gv hs ?_;clear hs;intro b3 w3 AU z3 hs;refine Ja ?_;have k3:=hs.get (b:=b3) AX;have Bd:=AU;refine cl (h:=by exact Ie sb s F id 72 [.pointer (some ⟨b3,0,none⟩)] (fun s x=>EX s x id) _ (h.only Bd) hid (fun wb w h1 h2=>Pu.of fun hb F' hC he hx hn=>bH b3 hb s F' (Ay s.t id) id w hC hid ((h1.trans h2).block k3 AA) hx hn)) ?_;rintro v w9 ⟨ve,rfl,T⟩;obtain ⟨ae,ce,rfl⟩:=T.form;clear hs;have hs:=St.nil w9;refine Jc ?_;refine AG ?_;exact ⟨_,rfl,T.fin Bd (hs.AE rfl)⟩
theorem YZ (sb:Nat) (s:Sy) (F:List Nat) (id q:Int) (w0:World) (h:C9 w0 sb s F) (hid:In64 id) :
 AO prog 35 #[.pointer (some ⟨sb,0,none⟩),.int .i64 id,.int .u64 q] w0 fun v w'=>∃ ve,v = .tuple #[ve,.int .i64 (By ⟨s,[]⟩ id (fun s x=>DM s x id q)).1]∧EN w0 sb F [] ve s (By ⟨s,[]⟩ id (fun s x=>DM s x id q)) w':=by
 have hs:=St.nil w0;refine AS func35 ntmps35 ?_;refine Ah ?_;refine Aq ?_;refine Gv hs ?_;clear hs;intro b4 w4 Ar z4 hs;refine Gv hs ?_;clear hs;intro b5 w5 BL z5 hs;refine Ja ?_;have k4:=hs.get (b:=b4) AX;have k5:=hs.get (b:=b5) AX;have Bd:=(Ar.trans BL);refine cl (h:=by exact Ie sb s F id 74 [.pointer (some ⟨b5,0,none⟩),.pointer (some ⟨b4,0,none⟩)] (fun s x=>DM s x id q) _ (h.only Bd) hid (fun wb w h1 h2=>Pu.of fun hb F' hC he hx hn=>Y6 b5 b4 hb s F' (Ay s.t id) id q w hC hid ((h1.trans h2).block k5 AA) ((h1.trans h2).block k4 AA) hx hn)) ?_;rintro v w9 ⟨ve,rfl,T⟩;obtain ⟨ae,ce,rfl⟩:=T.form;clear hs;have hs:=St.nil w9;refine Jc ?_;refine AG ?_;exact ⟨_,rfl,T.fin Bd (hs.AE rfl)⟩
theorem aR (sb:Nat) (s:Sy) (F:List Nat) (id q:Int) (w0:World) (h:C9 w0 sb s F) (hid:In64 id) (hq:BY q) :
 AO prog 36 #[.pointer (some ⟨sb,0,none⟩),.int .i64 id,.int .u64 q] w0 fun v w'=>∃ ve,v = .tuple #[ve,.int .i64 (By ⟨s,[]⟩ id (fun s x=>Dp s x id q)).1]∧EN w0 sb F [] ve s (By ⟨s,[]⟩ id (fun s x=>Dp s x id q)) w':=by
 have hs:=St.nil w0;refine AS func36 ntmps36 ?_;refine Ah ?_;refine Aq ?_;refine Gv hs ?_;clear hs;intro b4 w4 Ar z4 hs;refine Gv hs ?_;clear hs;intro b5 w5 BL z5 hs;refine Ja ?_;have k4:=hs.get (b:=b4) AX;have k5:=hs.get (b:=b5) AX;have Bd:=(Ar.trans BL);refine cl (h:=by exact Ie sb s F id 76 [.pointer (some ⟨b5,0,none⟩),.pointer (some ⟨b4,0,none⟩)] (fun s x=>Dp s x id q) _ (h.only Bd) hid (fun wb w h1 h2=>Pu.of fun hb F' hC he hx hn=>Yf b5 b4 hb s F' (Ay s.t id) id q w hC hid hq ((h1.trans h2).block k5 AA) ((h1.trans h2).block k4 AA) hx hn)) ?_;rintro v w9 ⟨ve,rfl,T⟩;obtain ⟨ae,ce,rfl⟩:=T.form;clear hs;have hs:=St.nil w9;refine Jc ?_;refine AG ?_;exact ⟨_,rfl,T.fin Bd (hs.AE rfl)⟩
theorem Xe (sb:Nat) (s:Sy) (F:List Nat) (id core:Int) (w0:World) (h:C9 w0 sb s F) (hid:In64 id) (Fg:In64 core) :
 AO prog 37 #[.pointer (some ⟨sb,0,none⟩),.int .i64 id,.int .i64 core] w0 fun v w'=>∃ ve,v = .tuple #[ve,.int .i64 (By ⟨s,[]⟩ id (fun s x=>C5 s x core)).1]∧EN w0 sb F [] ve s (By ⟨s,[]⟩ id (fun s x=>C5 s x core)) w':=by
 have hs:=St.nil w0;refine AS func37 ntmps37 ?_;refine Ah ?_;refine Aq ?_;refine Gv hs ?_;clear hs;intro b5 w5 BL z5 hs;refine Ja ?_;have k5:=hs.get (b:=b5) AX;have Bd:=BL;refine cl (h:=by exact Ie sb s F id 78 [.pointer (some ⟨b5,0,none⟩)] (fun s x=>C5 s x core) _ (h.only Bd) hid (fun wb w h1 h2=>Pu.of fun hb F' hC he hx hn=>fG b5 hb s F' (Ay s.t id) core w hC Fg ((h1.trans h2).block k5 AA) hx hn)) ?_;rintro v w9 ⟨ve,rfl,T⟩;obtain ⟨ae,ce,rfl⟩:=T.form;clear hs;have hs:=St.nil w9;refine Jc ?_;refine AG ?_;exact ⟨_,rfl,T.fin Bd (hs.AE rfl)⟩
theorem Om (sb:Nat) (s:Sy) (F:List Nat) (ns:Int) (w0:World) (h:C9 w0 sb s F) (Dd:BY ns) (hbd:ns≤1099511627776→∀ k:Nat,k < s.k.length→(A7 (AK s k) ns).2.2.p.length≤1000000) :
 AO prog 27 #[.pointer (some ⟨sb,0,none⟩),.int .u64 ns] w0 fun v w'=>∃ ve,v = .tuple #[ve,.int .i64 (EI ⟨s,[]⟩ ns).1]∧EN w0 sb F [] ve s (EI ⟨s,[]⟩ ns) w':=by
 have hs:=St.nil w0;refine AS func27 ntmps27 ?_;refine Ah ?_;refine Aq ?_;refine Gv hs ?_;clear hs;intro b3 w3 AU z3 hs;refine Ja ?_;have k3:=hs.get (b:=b3) AX;refine cl (h:=by exact Rg sb s F _ (h.only AU) 57 [.pointer (some ⟨b3,0,none⟩)] [] (fun _=>True) (EI ⟨s,[]⟩ ns) (fun _ _ _ _ _ _=>trivial) AA (fun w hw hb F' hC C0=>dQ b3 hb s ns _ w Dd hw k3 hbd hb F' hC C0)) ?_;rintro v w9 ⟨ve,rfl,_,T⟩;obtain ⟨ae,ce,rfl⟩:=T.form;clear hs;have hs:=St.nil w9;refine Jc ?_;refine AG ?_;exact ⟨_,rfl,T.fin AU (hs.AE rfl)⟩
theorem Ku (sb:Nat) (s:Sy) (F:List Nat) (core q ns:Int) (w0:World) (h:C9 w0 sb s F) (Fg:In64 core) (hq:BY q) (Dd:BY ns) :
 AO prog 26 #[.pointer (some ⟨sb,0,none⟩),.int .i64 core,.int .u64 q,.int .u64 ns] w0 fun v w'=>∃ ve,v = .tuple #[.int .i64 (Bc ⟨s,[]⟩ core q ns).2.1,ve,.int .i64 (Bc ⟨s,[]⟩ core q ns).1]∧EN w0 sb F [] ve s ((Bc ⟨s,[]⟩ core q ns).1,(Bc ⟨s,[]⟩ core q ns).2.2) w':=by
 have Vp:=h.lt;have hs:=St.nil w0;refine AS func26 ntmps26 ?_;refine Ah ?_;refine Aq ?_;refine Gv hs ?_;clear hs;intro b5 w5 BL z5 hs;refine Gv hs ?_;clear hs;intro b6 w6 Ao z6 hs;refine Gv hs ?_;clear hs;intro b7 w7 C8 z7 hs
 iterate 3 refine vs ?_
 refine XS.nil ?_;refine Dw ?_;refine Ah ?_;refine Aq ?_;refine FK hs ?_;clear hs;intro Ig w8 E9 z8 hs;refine iA hs ?_;clear hs;intro w9 Me hs;refine Ja ?_;have k5:=hs.get (b:=b5) AX;have k6:=hs.get (b:=b6) AX;have k7:=hs.get (b:=b7) AX;have sA:=hs.get (b:=Ig) AX;have e5:=BL.size;have e6:=Ao.size;have e7:=C8.size;have e8:=E9.size;have l5:=lt_of_block k5;have BF:AB [] w0 w9:=(((BL.trans Ao).trans C8).trans E9).step Me (fun k hk => .inr (by obtain rfl:=List.mem_singleton.1 hk;simp at *;omega))
 have n57:b5≠Ig:=by
  have:=hs.nd;simp only [aC2,aDD,aC6,aCu,not_or] at this;exact fun e=>this.1.2.2.1 e.symm
 have n67:b6≠b7:=by
  have:=hs.nd;simp only [aC2,aDD,aC6,aCu,not_or] at this;exact fun e=>this.2.1.1 e.symm
 refine cl (h:=by exact Rg sb s F _ (h.only BF) 51 [.pointer (some ⟨b5,0,none⟩),.pointer (some ⟨b6,0,none⟩),.pointer (some ⟨b7,0,none⟩),.pointer (some ⟨Ig,0,none⟩)] [Ig] (fun w=>w.heap[Ig]?=some (VN (Bc ⟨s,[]⟩ core q ns).2.1)) ((Bc ⟨s,[]⟩ core q ns).1,(Bc ⟨s,[]⟩ core q ns).2.2) (fun w w' G hq ho hG=>ho.block hq (hG _ AA)) (fun k hk=>by obtain rfl:=List.mem_singleton.1 hk;exact ⟨fun hm=>by have:=Vp _ hm;simp at *;omega,lt_of_block sA⟩) (fun w hw hb F' hC C0=>Y7 b5 b6 b7 Ig hb s core q ns _ w Fg hq Dd hw n57 n67 k5 k6 k7 sA hb F' hC C0)) (k:=?_);rintro v Uh ⟨ve,rfl,hQ,T⟩;obtain ⟨ae,ce,rfl⟩:=T.form;clear hs;have hs:=(St.nil Uh).AF hQ;obtain ⟨⟨Gt,rB⟩,⟨F',hS',C0⟩,V7⟩:=T;refine Ja ?_;refine AG ?_;have GC:=hs.AD [] (by simp [hQ]) sD;have zA:=BF.size;refine ⟨_,rfl,⟨Gt,rB.keep GC AA⟩,⟨F',hS'.only GC,fun k hk=>?_⟩,((BF.weaken AA).step V7 (fun k hk=>?_)).step GC AA⟩
 ·rcases C0 k hk with z | z
  ·exact .inl z
  ·exact .inr om
 ·simp only [aCu,aC1,or_false] at hk;rcases hk with rfl | rfl
  ·exact .inl AA
  ·exact .inr (by simp at *;omega)
abbrev aBc (a:CK):Value := .agg #[.int .u8 a.d,.int .i64 a.id,.int .i64 a.core,.int .u64 a.w,.int .u64 a.ns]
def XV (s:Sy) (a:CK):Prop:=9 < a.d % 12→a.ns≤1099511627776→∀ k:Nat,k < s.k.length→(A7 (AK s k) a.ns).2.2.p.length≤1000000
theorem fR (sb:Nat) (s:Sy) (F:List Nat) (a:CK) (ha:a.In) (w0:World) (h:C9 w0 sb s F) (hfew:XV s a) :
 AO prog 11 #[.pointer (some ⟨sb,0,none⟩),aBc a] w0 fun v w'=>∃ ve,v = .tuple #[.int .i64 (JS s a),ve,.int .i64 (CO s a).1]∧EN w0 sb F [] ve s (CO s a) w':=by
 have hs:=St.nil w0;obtain ⟨d0,hid,Fg,hw,Dd⟩:=ha;refine AS func11 ntmps11 ?_;refine Ah ?_;refine Aq ?_;refine Gv hs ?_;clear hs;intro b3 w1 AL z1 hs;refine Ja ?_;refine wK (b:=12) d0.1 (by decide) ?_;have aCo:0≤a.d % 12∧a.d % 12 < 12:=by omega
 by_cases k0:a.d % 12=0
 ·rw [k0];have eD:CO s a=((Bc ⟨s,[]⟩ a.core a.w a.ns).1,(Bc ⟨s,[]⟩ a.core a.w a.ns).2.2):=by unfold CO;rw [if_pos (show a.d % 12 < 2 by omega)]
  have eI:JS s a=(Bc ⟨s,[]⟩ a.core a.w a.ns).2.1:=if_pos (show a.d % 12 < 2 by omega);rw [eD,eI];refine Je ?_;have ho:=AL.trans (hs.AD [] (fun e he => .inr (.inr (hs.hold e he))) sD);refine cl (h:=by exact Ku sb s F a.core a.w a.ns _ (h.only ho) Fg hw Dd) ?_;rintro v w5 ⟨ve,rfl,T⟩;obtain ⟨ae,ce,rfl⟩:=T.form;clear hs;have hs:=St.nil w5;refine Jc ?_;refine AG ?_;exact ⟨_,rfl,T.fin ho (hs.AE rfl)⟩
 by_cases k1:a.d % 12=1
 ·rw [k1];have eD:CO s a=((Bc ⟨s,[]⟩ a.core a.w a.ns).1,(Bc ⟨s,[]⟩ a.core a.w a.ns).2.2):=by unfold CO;rw [if_pos (show a.d % 12 < 2 by omega)]
  have eI:JS s a=(Bc ⟨s,[]⟩ a.core a.w a.ns).2.1:=if_pos (show a.d % 12 < 2 by omega);rw [eD,eI]
  repeat' (first|refine vs ?_|refine Aq ?_|refine Nx.h ?_|refine FP ?_|refine Eb ?_|fail)
  have ho:=AL.trans (hs.AD [] (fun e he => .inr (.inr (hs.hold e he))) sD);refine cl (h:=by exact Ku sb s F a.core a.w a.ns _ (h.only ho) Fg hw Dd) ?_;rintro v w5 ⟨ve,rfl,T⟩;obtain ⟨ae,ce,rfl⟩:=T.form;clear hs;have hs:=St.nil w5;refine Jc ?_;refine AG ?_;exact ⟨_,rfl,T.fin ho (hs.AE rfl)⟩
 by_cases k2:a.d % 12=2
 ·rw [k2];have eD:CO s a=By ⟨s,[]⟩ a.id fun s x=>FQ s x a.id:=by unfold CO;rw [if_neg (show ¬ a.d % 12 < 2 by omega),if_pos (show a.d % 12=2 by omega)]
  have eI:JS s a=0:=if_neg (show ¬ a.d % 12 < 2 by omega);rw [eD,eI]
  repeat' (first|refine vs ?_|refine Aq ?_|refine Nx.h ?_|refine FP ?_|refine Eb ?_|fail)
  have ho:=AL.trans (hs.AD [] (fun e he => .inr (.inr (hs.hold e he))) sD);refine cl (h:=by exact iS sb s F a.id _ (h.only ho) hid) ?_;rintro v w5 ⟨ve,rfl,T⟩;obtain ⟨ae,ce,rfl⟩:=T.form;clear hs;have hs:=St.nil w5;refine Ja ?_;refine AG ?_;exact ⟨_,rfl,T.fin ho (hs.AE rfl)⟩
 by_cases k3:a.d % 12=3
 ·rw [k3];have eD:CO s a=By ⟨s,[]⟩ a.id fun s x=>Fz s x a.id:=by unfold CO;rw [if_neg (show ¬ a.d % 12 < 2 by omega),if_neg (show ¬ a.d % 12=2 by omega),if_pos (show a.d % 12 < 5 by omega)]
  have eI:JS s a=0:=if_neg (show ¬ a.d % 12 < 2 by omega);rw [eD,eI]
  repeat' (first|refine vs ?_|refine Aq ?_|refine Nx.h ?_|refine FP ?_|refine Eb ?_|fail)
  have ho:=AL.trans (hs.AD [] (fun e he => .inr (.inr (hs.hold e he))) sD);refine cl (h:=by exact Ro sb s F a.id _ (h.only ho) hid) ?_;rintro v w5 ⟨ve,rfl,T⟩;obtain ⟨ae,ce,rfl⟩:=T.form;clear hs;have hs:=St.nil w5;refine Ja ?_;refine AG ?_;exact ⟨_,rfl,T.fin ho (hs.AE rfl)⟩
 by_cases k4:a.d % 12=4
 ·rw [k4];have eD:CO s a=By ⟨s,[]⟩ a.id fun s x=>Fz s x a.id:=by unfold CO;rw [if_neg (show ¬ a.d % 12 < 2 by omega),if_neg (show ¬ a.d % 12=2 by omega),if_pos (show a.d % 12 < 5 by omega)]
  have eI:JS s a=0:=if_neg (show ¬ a.d % 12 < 2 by omega);rw [eD,eI]
  repeat' (first|refine vs ?_|refine Aq ?_|refine Nx.h ?_|refine FP ?_|refine Eb ?_|fail)
  have ho:=AL.trans (hs.AD [] (fun e he => .inr (.inr (hs.hold e he))) sD);refine cl (h:=by exact Ro sb s F a.id _ (h.only ho) hid) ?_;rintro v w5 ⟨ve,rfl,T⟩;obtain ⟨ae,ce,rfl⟩:=T.form;clear hs;have hs:=St.nil w5;refine Ja ?_;refine AG ?_;exact ⟨_,rfl,T.fin ho (hs.AE rfl)⟩
 by_cases k5:a.d % 12=5
 ·rw [k5];have eD:CO s a=By ⟨s,[]⟩ a.id fun s x=>EX s x a.id:=by unfold CO;rw [if_neg (show ¬ a.d % 12 < 2 by omega),if_neg (show ¬ a.d % 12=2 by omega),if_neg (show ¬ a.d % 12 < 5 by omega),if_pos (show a.d % 12 < 7 by omega)]
  have eI:JS s a=0:=if_neg (show ¬ a.d % 12 < 2 by omega);rw [eD,eI]
  repeat' (first|refine vs ?_|refine Aq ?_|refine Nx.h ?_|refine FP ?_|refine Eb ?_|fail)
  have ho:=AL.trans (hs.AD [] (fun e he => .inr (.inr (hs.hold e he))) sD);refine cl (h:=by exact U5 sb s F a.id _ (h.only ho) hid) ?_;rintro v w5 ⟨ve,rfl,T⟩;obtain ⟨ae,ce,rfl⟩:=T.form;clear hs;have hs:=St.nil w5;refine Ja ?_;refine AG ?_;exact ⟨_,rfl,T.fin ho (hs.AE rfl)⟩
 by_cases k6:a.d % 12=6
 ·rw [k6];have eD:CO s a=By ⟨s,[]⟩ a.id fun s x=>EX s x a.id:=by unfold CO;rw [if_neg (show ¬ a.d % 12 < 2 by omega),if_neg (show ¬ a.d % 12=2 by omega),if_neg (show ¬ a.d % 12 < 5 by omega),if_pos (show a.d % 12 < 7 by omega)]
  have eI:JS s a=0:=if_neg (show ¬ a.d % 12 < 2 by omega);rw [eD,eI]
  repeat' (first|refine vs ?_|refine Aq ?_|refine Nx.h ?_|refine FP ?_|refine Eb ?_|fail)
  have ho:=AL.trans (hs.AD [] (fun e he => .inr (.inr (hs.hold e he))) sD);refine cl (h:=by exact U5 sb s F a.id _ (h.only ho) hid) ?_;rintro v w5 ⟨ve,rfl,T⟩;obtain ⟨ae,ce,rfl⟩:=T.form;clear hs;have hs:=St.nil w5;refine Ja ?_;refine AG ?_;exact ⟨_,rfl,T.fin ho (hs.AE rfl)⟩
 by_cases k7:a.d % 12=7
 ·rw [k7];have eD:CO s a=By ⟨s,[]⟩ a.id fun s x=>DM s x a.id a.w:=by unfold CO;rw [if_neg (show ¬ a.d % 12 < 2 by omega),if_neg (show ¬ a.d % 12=2 by omega),if_neg (show ¬ a.d % 12 < 5 by omega),if_neg (show ¬ a.d % 12 < 7 by omega),if_pos (show a.d % 12=7 by omega)]
  have eI:JS s a=0:=if_neg (show ¬ a.d % 12 < 2 by omega);rw [eD,eI]
  repeat' (first|refine vs ?_|refine Aq ?_|refine Nx.h ?_|refine FP ?_|refine Eb ?_|fail)
  have ho:=AL.trans (hs.AD [] (fun e he => .inr (.inr (hs.hold e he))) sD);refine cl (h:=by exact YZ sb s F a.id a.w _ (h.only ho) hid) ?_;rintro v w5 ⟨ve,rfl,T⟩;obtain ⟨ae,ce,rfl⟩:=T.form;clear hs;have hs:=St.nil w5;refine Ja ?_;refine AG ?_;exact ⟨_,rfl,T.fin ho (hs.AE rfl)⟩
 by_cases k8:a.d % 12=8
 ·rw [k8];have eD:CO s a=By ⟨s,[]⟩ a.id fun s x=>Dp s x a.id a.ns:=by unfold CO;rw [if_neg (show ¬ a.d % 12 < 2 by omega),if_neg (show ¬ a.d % 12=2 by omega),if_neg (show ¬ a.d % 12 < 5 by omega),if_neg (show ¬ a.d % 12 < 7 by omega),if_neg (show ¬ a.d % 12=7 by omega),if_pos (show a.d % 12=8 by omega)]
  have eI:JS s a=0:=if_neg (show ¬ a.d % 12 < 2 by omega);rw [eD,eI]
  repeat' (first|refine vs ?_|refine Aq ?_|refine Nx.h ?_|refine FP ?_|refine Eb ?_|fail)
  have ho:=AL.trans (hs.AD [] (fun e he => .inr (.inr (hs.hold e he))) sD);refine cl (h:=by exact aR sb s F a.id a.ns _ (h.only ho) hid Dd) ?_;rintro v w5 ⟨ve,rfl,T⟩;obtain ⟨ae,ce,rfl⟩:=T.form;clear hs;have hs:=St.nil w5;refine Ja ?_;refine AG ?_;exact ⟨_,rfl,T.fin ho (hs.AE rfl)⟩
 by_cases k9:a.d % 12=9
 ·rw [k9];have eD:CO s a=By ⟨s,[]⟩ a.id fun s x=>C5 s x a.core:=by unfold CO;rw [if_neg (show ¬ a.d % 12 < 2 by omega),if_neg (show ¬ a.d % 12=2 by omega),if_neg (show ¬ a.d % 12 < 5 by omega),if_neg (show ¬ a.d % 12 < 7 by omega),if_neg (show ¬ a.d % 12=7 by omega),if_neg (show ¬ a.d % 12=8 by omega),if_pos (show a.d % 12=9 by omega)]
  have eI:JS s a=0:=if_neg (show ¬ a.d % 12 < 2 by omega);rw [eD,eI]
  repeat' (first|refine vs ?_|refine Aq ?_|refine Nx.h ?_|refine FP ?_|refine Eb ?_|fail)
  have ho:=AL.trans (hs.AD [] (fun e he => .inr (.inr (hs.hold e he))) sD);refine cl (h:=by exact Xe sb s F a.id a.core _ (h.only ho) hid Fg) ?_;rintro v w5 ⟨ve,rfl,T⟩;obtain ⟨ae,ce,rfl⟩:=T.form;clear hs;have hs:=St.nil w5;refine Ja ?_;refine AG ?_;exact ⟨_,rfl,T.fin ho (hs.AE rfl)⟩
 by_cases rM:a.d % 12=10
 ·rw [rM];have eD:CO s a=EI ⟨s,[]⟩ a.ns:=by unfold CO;rw [if_neg (show ¬ a.d % 12 < 2 by omega),if_neg (show ¬ a.d % 12=2 by omega),if_neg (show ¬ a.d % 12 < 5 by omega),if_neg (show ¬ a.d % 12 < 7 by omega),if_neg (show ¬ a.d % 12=7 by omega),if_neg (show ¬ a.d % 12=8 by omega),if_neg (show ¬ a.d % 12=9 by omega)]
  have eI:JS s a=0:=if_neg (show ¬ a.d % 12 < 2 by omega);rw [eD,eI];refine Jd ?_;have ho:=AL.trans (hs.AD [] (fun e he => .inr (.inr (hs.hold e he))) sD);refine cl (h:=by exact Om sb s F a.ns _ (h.only ho) Dd (hfew om)) ?_;rintro v w5 ⟨ve,rfl,T⟩;obtain ⟨ae,ce,rfl⟩:=T.form;clear hs;have hs:=St.nil w5;refine Ja ?_;refine AG ?_;exact ⟨_,rfl,T.fin ho (hs.AE rfl)⟩
 by_cases sA:a.d % 12=11
 ·rw [sA];have eD:CO s a=EI ⟨s,[]⟩ a.ns:=by unfold CO;rw [if_neg (show ¬ a.d % 12 < 2 by omega),if_neg (show ¬ a.d % 12=2 by omega),if_neg (show ¬ a.d % 12 < 5 by omega),if_neg (show ¬ a.d % 12 < 7 by omega),if_neg (show ¬ a.d % 12=7 by omega),if_neg (show ¬ a.d % 12=8 by omega),if_neg (show ¬ a.d % 12=9 by omega)]
  have eI:JS s a=0:=if_neg (show ¬ a.d % 12 < 2 by omega);rw [eD,eI];refine Jd ?_;have ho:=AL.trans (hs.AD [] (fun e he => .inr (.inr (hs.hold e he))) sD);refine cl (h:=by exact Om sb s F a.ns _ (h.only ho) Dd (hfew om)) ?_;rintro v w5 ⟨ve,rfl,T⟩;obtain ⟨ae,ce,rfl⟩:=T.form;clear hs;have hs:=St.nil w5;refine Ja ?_;refine AG ?_;exact ⟨_,rfl,T.fin ho (hs.AE rfl)⟩
 omega
theorem aH (p q:Ev):(DQ (.int .i64 p.core) (.int .i64 q.core) && (DQ (.int .i64 p.id) (.int .i64 q.id) && (DQ (.int .u64 p.ns) (.int .u64 q.ns) && (DQ (.bool p.done) (.bool q.done) && DQ (.bool p.gone) (.bool q.gone)))))=decide (p=q):=by
 obtain ⟨a,b,c,d,e⟩:=p;obtain ⟨a',b',c',d',e'⟩:=q;show ((a == a') && ((b == b') && ((c == c') && ((d == d') && (e == e')))))=_;rw [Bool.eq_iff_iff];simp
theorem pN (va vb:Value) (A B:List Ev) (hm:A.length≤9223372036854775807) (w0:World) (hA:Cu w0 41 5 va (A.map Ev.cells)) (hB:Cu w0 41 5 vb (B.map Ev.cells)) :
 AO prog 22 #[va,vb] w0 fun v w'=>v = .bool (decide (A=B))∧AB [] w0 w':=by
 obtain ⟨WL,ca,rfl,hA⟩:=hA;obtain ⟨XT,cb,rfl,hB⟩:=hB;rw [aC0] at *;rw [aC0] at *;have hs:=St.nil w0;refine AS func22 ntmps22 ?_
 repeat' (first|refine Sa ?_|refine xc_cond rfl (fun hc=>?_) fun hc=>?_|fail)
 ·refine AG ?_;refine ⟨congrArg Value.bool ?_,hs.AE rfl⟩;have hne:A≠B:=fun e=>by subst e;simp at hc
  exact (decide_eq_false hne).symm
 ·have Mf:A.length=B.length:=by
   have h:((A.length:Nat):Int)=B.length:=by simpa using hc
   omega
  refine BM (fun _:Unit=>[]) (fun _ w=>A=B∧AB [] w0 w) ?_ ?_
  ·refine BH (fun (i:Nat)=>[(0,.slice WL A.length ca),(1,.slice XT B.length cb),(12,.int .i64 (A.length:Nat)),(13,.int .i64 (i:Nat))])
    (fun i w=>i≤A.length∧A.take i=B.take i∧AB [] w0 w)
    (fun i=>A.length - i) 0 Ad ⟨aC7 _,by simp,hs.AE rfl⟩ fun i env w ⟨hi,ht,ho⟩=>?_
   clear hs;have hs:=St.nil w
   repeat' (first|refine Sa ?_|refine Aw rfl (fun hc=>?_) fun hc=>?_|fail)
   ·have hlt:i < A.length:=by omega
    have K5:i < B.length:=by omega
    obtain ⟨ba,oa,rI,fa,rfl,a2,a3,a4⟩:=hA (fun h=>by have:=congrArg List.length h;rw [aC0,aDA] at this;omega);obtain ⟨bb,ob,r7,fb,rfl,b2,b3,b4⟩:=hB (fun h=>by have:=congrArg List.length h;rw [aC0,aDA] at this;omega);have ga:=a4 i _ (by rw [aC8,aC3 hlt];rfl);have gb:=b4 i _ (by rw [aC8,aC3 K5];rfl);have a3:=ho.block a3 AA;have b3:=ho.block b3 AA;have key:A[i]=B[i]→A.take (i+1)=B.take (i+1):=fun he=>by rw [aDt,aDt,ht,aC3 hlt,aC3 K5,he]
    have LZ:A[i]≠B[i]→A≠B:=fun h e=>h (by subst e;rfl);have ei:=DP hlt hm;generalize A[i]=x at *;generalize B[i]=y at *;by_cases e:ba=bb
    ·subst e;rw [a3] at b3;cases b3;replace hs:=hs.AH a3 AA;refine dr [] hs ?_;intro hX w hs;refine tks 0 2 ?_;refine tk 2 hX (hr:=fun w' hH=>BA AJ rfl rfl rfl om om) ?_;refine tk 3 hX (hr:=fun w' hH=>Fm AJ rfl rfl (hH rfl) At.head ga) ?_;refine tks 4 2 ?_;refine tk 6 hX (hr:=fun w' hH=>BA AJ rfl rfl rfl om om) ?_;refine tk 7 hX (hr:=fun w' hH=>Fm AJ rfl rfl (hH rfl) At.head gb) ?_;refine tk 8 hX ?_;refine en ?_
     repeat' (first|refine Sa ?_|refine xc_cond rfl (fun hc=>?_) fun hc=>?_|fail)
     ·rw [aH] at hc;refine AG ?_;exact ⟨congrArg Value.bool (decide_eq_false (LZ (by simpa using hc))).symm,ho.step (hs.AD [] (by simp [a3]) sD) AA⟩
     ·rw [aH] at hc;exact A2 (i+1) om (by (repeat (first | exact Ag | (apply A8;first | exact rfl | exact congrArg (Value.int .i64) ei)))) ⟨by omega,key (by simpa using hc),ho.step (hs.AD [] (by simp [a3]) sD) AA⟩
    ·replace hs:=(hs.AH a3 AA).AH b3 (by simpa using Ne.symm e);refine dr [] hs ?_;intro hX w hs;refine tks 0 2 ?_;refine tk 2 hX (hr:=fun w' hH=>BA AJ rfl rfl rfl om om) ?_;refine tk 3 hX (hr:=fun w' hH=>Fm AJ rfl rfl (hH rfl) (At.tail At.head) ga) ?_;refine tks 4 2 ?_;refine tk 6 hX (hr:=fun w' hH=>BA AJ rfl rfl rfl om om) ?_;refine tk 7 hX (hr:=fun w' hH=>Fm AJ rfl rfl (hH rfl) At.head gb) ?_;refine tk 8 hX ?_;refine en ?_
     repeat' (first|refine Sa ?_|refine xc_cond rfl (fun hc=>?_) fun hc=>?_|fail)
     ·rw [aH] at hc;refine AG ?_;exact ⟨congrArg Value.bool (decide_eq_false (LZ (by simpa using hc))).symm,ho.step (hs.AD [] (by simp [a3,b3]) sD) AA⟩
     ·rw [aH] at hc;exact A2 (i+1) om (by (repeat (first | exact Ag | (apply A8;first | exact rfl | exact congrArg (Value.int .i64) ei)))) ⟨by omega,key (by simpa using hc),ho.step (hs.AD [] (by simp [a3,b3]) sD) AA⟩
   ·have e:i=A.length:=by omega
    have Xp:A=B:=by
     have h1:A.take i=A:=aDM om;have h2:B.take i=B:=aDM om;rw [← h1,ht,h2]
    exact Au () Ad ⟨Xp,ho.step (hs.AE rfl) AA⟩
  ·rintro _ env w ⟨rfl,ho⟩;clear hs;have hs:=St.nil w;refine Ja ?_;refine AG ?_;exact ⟨congrArg Value.bool (decide_eq_true rfl).symm,ho.step (hs.AE rfl) AA⟩
def aAY (m:Int) (a:CK):Prop:=9 < a.d % 12→a.ns≤1099511627776→a.ns≤m
structure HC (least ticks:Int) (A:List CK):Prop where
 l1:1≤least
 l2:least≤1099511627776
 t1:0≤ticks
 t2:ticks≤A.length*1099511627776
 a:∀ x∈A,aW least x
 t:∀ x∈A,aAY ticks x
theorem HC.tick {l t:Int} {A:List CK} (h:HC l t A) {q:CK} (h0:0≤q.ns) (h1:9 < q.d % 12) (h2:q.ns≤1099511627776):HC l (t+q.ns) (A ++ [q]):=by
 have hl:((A ++ [q]).length:Int)=A.length+1:=by simp
 refine ⟨h.l1,h.l2,by have:=h.t1;omega,by rw [hl];have:=h.t2;omega,fun x hx=>?_,fun x hx=>?_⟩
 ·rcases aC4.1 hx with k | k
  ·exact h.a x k
  ·obtain rfl:=List.mem_singleton.1 k;intro z;omega
 ·rcases aC4.1 hx with k | k
  ·intro a b;have:=h.t x k a b;omega
  ·obtain rfl:=List.mem_singleton.1 k;intro _ _;have:=h.t1;omega
theorem qD (a b:Int):EJ a b≤a∧EJ a b≤b∧(EJ a b=a∨EJ a b=b):=by unfold EJ;split <;> omega
theorem HC.ask {l t:Int} {A:List CK} (h:HC l t A) {q:CK} (h1:¬ (9 < q.d % 12∧q.ns≤1099511627776)) (h2:1≤q.ns):HC (EJ l q.ns) t (A ++ [q]):=by
 have hl:((A ++ [q]).length:Int)=A.length+1:=by simp
 obtain ⟨k1,k2,k3⟩:=qD l q.ns;refine ⟨by have:=h.l1;omega,by have:=h.l2;omega,h.t1,by rw [hl];have:=h.t2;omega,fun x hx=>?_,fun x hx=>?_⟩
 ·rcases aC4.1 hx with k | k
  ·intro a b;have:=h.a x k a b;omega
  ·obtain rfl:=List.mem_singleton.1 k;intro _ _;omega
 ·rcases aC4.1 hx with k | k
  ·exact h.t x k
  ·obtain rfl:=List.mem_singleton.1 k;intro a b;exact absurd ⟨a,b⟩ h1
theorem HC.skip {l t:Int} {A:List CK} (h:HC l t A) {q:CK} (h1:¬ (9 < q.d % 12∧q.ns≤1099511627776)) (h2:¬ ((q.d % 12 < 2∨q.d % 12=8)∧1≤q.ns)):HC l t (A ++ [q]):=by
 have hl:((A ++ [q]).length:Int)=A.length+1:=by simp
 refine ⟨h.l1,h.l2,h.t1,by rw [hl];have:=h.t2;omega,fun x hx=>?_,fun x hx=>?_⟩
 ·rcases aC4.1 hx with k | k
  ·exact h.a x k
  ·obtain rfl:=List.mem_singleton.1 k;intro a b;exact absurd ⟨a,b⟩ h2
 ·rcases aC4.1 hx with k | k
  ·exact h.t x k
  ·obtain rfl:=List.mem_singleton.1 k;intro a b;exact absurd ⟨a,b⟩ h1
def wF (xs:List CK):Prop:=xs.length≤40∧∃ m,1≤m∧(∀ a∈xs,aW m a)∧∀ a∈xs,9 < a.d % 12→a.ns≤1099511627776→a.ns / m≤300
theorem Yd (c:Cf) (xs:List CK) (sl:Value) (hx:∀ a∈xs,a.In) (w0:World) (hL:Sj w0 5 sl (xs.map CK.cells)):AO prog 8 #[Q2 c,sl] w0 fun v w'=>(∃ b,v = .bool b∧(b=true→wF xs))∧AB [] w0 w':=by
 obtain ⟨ad,cap,rfl,hD⟩:=hL;rw [aC0];have hs:=St.nil w0;refine AS func8 ntmps8 ?_
 repeat' (first|refine Sa ?_|(refine bx hs ?_;intro b w hz hs)|refine Aw rfl (fun hc=>?_) fun hc=>?_|fail)
 ·refine AG ?_;exact ⟨⟨false,rfl,fun h=>by cases h⟩,hs.AE rfl⟩
 have hm:xs.length≤40:=by omega
 have BP:=hs.AE rfl;refine BM (fun (x:Int × Int)=>[(5,.int .u64 x.1),(6,.int .u64 x.2)]) (fun x w=>HC x.1 x.2 xs∧AB [] w0 w) ?_ ?_
 ·refine BH (fun (x:Nat × Int × Int)=>[(5,.int .u64 x.2.1),(6,.int .u64 x.2.2),(13,.slice ad xs.length cap),(14,.int .i64 (xs.length:Nat)),(15,.int .i64 (x.1:Nat))])
   (fun x w=>x.1≤xs.length∧HC x.2.1 x.2.2 (xs.take x.1)∧AB [] w0 w) (fun x=>xs.length - x.1) (0,1099511627776,0) Ad ⟨aC7 _,⟨by decide,by decide,by decide,by simp,by simp,by simp⟩,BP⟩ fun x env wl ⟨hi,hI,ho⟩=>?_
  obtain ⟨i,least,ticks⟩:=x;simp only at hi hI;clear hs;have hs:=St.nil wl
  repeat' (first|refine Sa ?_|refine Aw rfl (fun hc=>?_) fun hc=>?_|fail)
  ·have hlt:i < xs.length:=by omega
   obtain ⟨b,off,cs,E,fz,rfl,hb,hcs⟩:=hD (fun h=>by have:=congrArg List.length h;rw [aC0,aDA] at this;omega);have hpk:=hcs i (CK.cells xs[i]) (by rw [aC8,aC3 hlt];rfl);have ei:=DP (m:=xs.length) hlt om;have et:xs.take (i+1)=xs.take i ++ [xs[i]]:=CH hlt;have Mf:((xs.take i).length:Int)≤40:=by rw [aDg];omega
   obtain ⟨d0,hid,Fg,hw,Dd⟩:=hx xs[i] (aDS hlt);generalize xs[i]=q at *;have aA5:0≤q.ns∧q.ns < 18446744073709551616:=Dd;have ht2:=hI.t2;have ht1:=hI.t1;have KU:=hI.l1;have hl2:=hI.l2;have ew:q.ns≤1099511627776→IntKind.u64.wrap (ticks+q.ns)=ticks+q.ns:=fun h=>by rw [wrap_u64];omega
   have nA:=fun h1 h2=>hI.tick (q:=q) aA5.1 h1 h2;have nB:=fun h1 h2=>hI.ask (q:=q) h1 h2;have nC:=fun h1 h2=>hI.skip (q:=q) h1 h2;rw [← et] at nA nB nC;refine ix (h0:=(by omega)) (h1:=(by omega)) ?_;refine Ia (vs:=q.cells) (ho.block hb AA) hpk ?_;refine al hs ?_;clear hs;intro Ig w3 Nz hs;refine AV hs ?_;clear hs;intro w4 hs;refine Ja ?_;refine wK (b:=12) d0.1 (by decide) ?_;generalize q.d % 12=m at *
   repeat' (first|refine vs ?_|refine ps ?_|refine Aq ?_|refine Nx.h ?_|refine Eb ?_|((with_reducible apply BV);exact rfl;exact rfl;intro c hc;(fail_if_success have:true=c:=hc);(fail_if_success have:false=c:=hc);cases c)|refine Aw rfl (fun hc=>?_) fun hc=>?_|fail)
   all_goals (first
    | (have hq : m > 9 ∧ q.ns ≤ 1099511627776 := (by simp only [decide_eq_true_eq, decide_eq_false_iff_not, ge_iff_le, beq_iff_eq, beq_eq_false_iff_ne, ne_eq] at *; omega)
       refine A2 (i+1,least,ticks+q.ns) (by show xs.length - (i+1) < xs.length - i;omega) ?_ ⟨by show i+1≤_;omega,nA om hq.2,ho.trans (hs.AE rfl)⟩;(repeat (first | exact Ag | (apply A8;first | exact rfl | exact congrArg (Value.int .i64) ei | exact congrArg (Value.int .u64) (ew hq.2) | exact congrArg (Value.int .u64) (ew hq.2))));done)
    | (have hq : ¬ (9 < m ∧ q.ns ≤ 1099511627776) ∧ 1 ≤ q.ns := (by simp only [decide_eq_true_eq, decide_eq_false_iff_not, ge_iff_le, beq_iff_eq, beq_eq_false_iff_ne, ne_eq] at *; omega)
       refine A2 (i+1,EJ least q.ns,ticks) (by show xs.length - (i+1) < xs.length - i;omega) ?_ ⟨by show i+1≤_;omega,nB hq.1 hq.2,ho.trans (hs.AE rfl)⟩;(repeat (first | exact Ag | (apply A8;first | exact rfl | exact congrArg (Value.int .i64) ei)));done)
    | (have hq : ¬ (9 < m ∧ q.ns ≤ 1099511627776) ∧ ¬ ((m < 2 ∨ m = 8) ∧ 1 ≤ q.ns) := (by simp only [decide_eq_true_eq, decide_eq_false_iff_not, ge_iff_le, beq_iff_eq, beq_eq_false_iff_ne, ne_eq] at *; omega)
       refine A2 (i+1,least,ticks) (by show xs.length - (i+1) < xs.length - i;omega) ?_ ⟨by show i+1≤_;omega,nC hq.1 hq.2,ho.trans (hs.AE rfl)⟩;(repeat (first | exact Ag | (apply A8;first | exact rfl | exact congrArg (Value.int .i64) ei)));done))
  ·have e:i=xs.length:=by omega
   subst e;rw [aDK] at hI;exact Au (least,ticks) Ad ⟨hI,ho⟩
 ·rintro ⟨least,ticks⟩ env w ⟨hI,ho⟩;simp only at hI;have KU:=hI.l1;have hl2:=hI.l2;have ht1:=hI.t1;have ht2:=hI.t2;clear hs;have hs:=St.nil w;refine Ja ?_;refine AG ?_;refine ⟨⟨_,rfl,fun hb=>⟨hm,least,KU,hI.a,fun a ha h1 h2=>?_⟩⟩,ho.trans (hs.AE rfl)⟩;have hq:ticks / least≤300:=by simpa using hb
  have:=Int.ediv_le_ediv (show 0 < least by omega) (hI.t a ha h1 h2);omega
theorem wW {s:Sy} {a:CK} {m:Int} (hI:C3 s) (hl:Bj m s.t) (hm:1≤m) (ha:a.In) (ht:9 < a.d % 12→a.ns≤1099511627776→a.ns / m≤300):XV s a:=fun h1 h2 k hk=>by
 have:=fO hI hl hm ha.2.2.2.2.1 (ht h1 h2) hk;omega
theorem tL (va vb:Value) (A B:List Int) (hm:A.length≤9223372036854775807) (w0:World) (hA:Cu w0 3 1 va (A.map Jq)) (hB:Cu w0 3 1 vb (B.map Jq)) :
 AO prog 23 #[va,vb] w0 fun v w'=>v = .bool (decide (A=B))∧AB [] w0 w':=by
 obtain ⟨WL,ca,rfl,hA⟩:=hA;obtain ⟨XT,cb,rfl,hB⟩:=hB;rw [aC0] at *;rw [aC0] at *;have hs:=St.nil w0;refine AS func23 ntmps23 ?_
 repeat' (first|refine Sa ?_|refine xc_cond rfl (fun hc=>?_) fun hc=>?_|fail)
 ·refine AG ?_;refine ⟨congrArg Value.bool ?_,hs.AE rfl⟩;have hne:A≠B:=fun e=>by subst e;simp at hc
  exact (decide_eq_false hne).symm
 ·have Mf:A.length=B.length:=by
   have h:((A.length:Nat):Int)=B.length:=by simpa using hc
   omega
  refine BM (fun _:Unit=>[]) (fun _ w=>A=B∧AB [] w0 w) ?_ ?_
  ·refine BH (fun (i:Nat)=>[(0,.slice WL A.length ca),(1,.slice XT B.length cb),(12,.int .i64 (A.length:Nat)),(13,.int .i64 (i:Nat))])
    (fun i w=>i≤A.length∧A.take i=B.take i∧AB [] w0 w)
    (fun i=>A.length - i) 0 Ad ⟨aC7 _,by simp,hs.AE rfl⟩ fun i env w ⟨hi,ht,ho⟩=>?_
   clear hs;have hs:=St.nil w
   repeat' (first|refine Sa ?_|refine Aw rfl (fun hc=>?_) fun hc=>?_|fail)
   ·have hlt:i < A.length:=by omega
    have K5:i < B.length:=by omega
    obtain ⟨ba,oa,rI,fa,rfl,a2,a3,a4⟩:=hA (fun h=>by have:=congrArg List.length h;rw [aC0,aDA] at this;omega);obtain ⟨bb,ob,r7,fb,rfl,b2,b3,b4⟩:=hB (fun h=>by have:=congrArg List.length h;rw [aC0,aDA] at this;omega);have ga:=a4 i _ (by rw [aC8,aC3 hlt];rfl);have gb:=b4 i _ (by rw [aC8,aC3 K5];rfl);have a3:=ho.block a3 AA;have b3:=ho.block b3 AA;have key:A[i]=B[i]→A.take (i+1)=B.take (i+1):=fun he=>by rw [aDt,aDt,ht,aC3 hlt,aC3 K5,he]
    have LZ:A[i]≠B[i]→A≠B:=fun h e=>h (by subst e;rfl);have ei:=DP hlt hm;generalize A[i]=x at *;generalize B[i]=y at *;by_cases e:ba=bb
    ·subst e;rw [a3] at b3;cases b3;replace hs:=hs.AH a3 AA;refine dr [] hs ?_;intro hX w hs;refine tks 0 2 ?_;refine tk 2 hX (hr:=fun w' hH=>BA AJ rfl rfl rfl om om) ?_;refine tk 3 hX (hr:=fun w' hH=>r_load AJ rfl rfl (hH rfl) At.head (by cases ga;assumption)) (k:=?_);refine tks 4 2 ?_;refine tk 6 hX (hr:=fun w' hH=>BA AJ rfl rfl rfl om om) ?_;refine tk 7 hX (hr:=fun w' hH=>r_load AJ rfl rfl (hH rfl) At.head (by cases gb;assumption)) (k:=?_);refine tk 8 hX ?_;refine en ?_
     repeat' (first|refine Sa ?_|refine xc_cond rfl (fun hc=>?_) fun hc=>?_|fail)
     ·refine AG ?_;exact ⟨congrArg Value.bool (decide_eq_false (LZ (by simpa using hc))).symm,ho.step (hs.AD [] (by simp [a3]) sD) AA⟩
     ·exact A2 (i+1) om (by (repeat (first | exact Ag | (apply A8;first | exact rfl | exact congrArg (Value.int .i64) ei)))) ⟨by omega,key (by simpa using hc),ho.step (hs.AD [] (by simp [a3]) sD) AA⟩
    ·replace hs:=(hs.AH a3 AA).AH b3 (by simpa using Ne.symm e);refine dr [] hs ?_;intro hX w hs;refine tks 0 2 ?_;refine tk 2 hX (hr:=fun w' hH=>BA AJ rfl rfl rfl om om) ?_;refine tk 3 hX (hr:=fun w' hH=>r_load AJ rfl rfl (hH rfl) (At.tail At.head) (by cases ga;assumption)) (k:=?_);refine tks 4 2 ?_;refine tk 6 hX (hr:=fun w' hH=>BA AJ rfl rfl rfl om om) ?_;refine tk 7 hX (hr:=fun w' hH=>r_load AJ rfl rfl (hH rfl) At.head (by cases gb;assumption)) (k:=?_);refine tk 8 hX ?_;refine en ?_
     repeat' (first|refine Sa ?_|refine xc_cond rfl (fun hc=>?_) fun hc=>?_|fail)
     ·refine AG ?_;exact ⟨congrArg Value.bool (decide_eq_false (LZ (by simpa using hc))).symm,ho.step (hs.AD [] (by simp [a3,b3]) sD) AA⟩
     ·exact A2 (i+1) om (by (repeat (first | exact Ag | (apply A8;first | exact rfl | exact congrArg (Value.int .i64) ei)))) ⟨by omega,key (by simpa using hc),ho.step (hs.AD [] (by simp [a3,b3]) sD) AA⟩
   ·have e:i=A.length:=by omega
    have Xp:A=B:=by
     have h1:A.take i=A:=aDM om;have h2:B.take i=B:=aDM om;rw [← h1,ht,h2]
    exact Au () Ad ⟨Xp,ho.step (hs.AE rfl) AA⟩
  ·rintro _ env w ⟨rfl,ho⟩;clear hs;have hs:=St.nil w;refine Ja ?_;refine AG ?_;exact ⟨congrArg Value.bool (decide_eq_true rfl).symm,ho.step (hs.AE rfl) AA⟩
def QC:Cf:=⟨1,2,9,9,0⟩
def Qp:Sy:=(Dt (IS QC) ((Bc ⟨IS QC,[]⟩ 0 1 5).1,(Bc ⟨IS QC,[]⟩ 0 1 5).2.2)).2
def MS:Sy:=(Dt Qp ((Bc ⟨Qp,[]⟩ 0 1 5).1,(Bc ⟨Qp,[]⟩ 0 1 5).2.2)).2
def nM:Sy:=(Dt MS (EI ⟨MS,[]⟩ 5)).2
theorem zJ:QC.In:=by unfold QC;exact ⟨by decide,by decide,by decide,by decide,by decide⟩
theorem aAe:FH QC=0:=by decide
theorem sY:(Bc ⟨IS QC,[]⟩ 0 1 5).1=0:=by kernel_rfl
theorem aAq:(Bc ⟨IS QC,[]⟩ 0 1 5).2.1=1:=by kernel_rfl
theorem rV:(Bc ⟨Qp,[]⟩ 0 1 5).1=0:=by kernel_rfl
theorem aAi:(Bc ⟨Qp,[]⟩ 0 1 5).2.1=2:=by kernel_rfl
theorem aAf:(EI ⟨MS,[]⟩ 5).1=0:=by kernel_rfl
theorem aAo:(Dt MS (EI ⟨MS,[]⟩ 5)).1=[⟨0,1,5,true,false⟩]:=by kernel_rfl
theorem aAn:nM.k.map Cs.run=[2]:=by kernel_rfl
theorem aAx:MS.k.length=1:=by kernel_rfl
theorem aAc:(A7 (AK MS 0) 5).2.2.p.length=1:=by kernel_rfl
theorem Y1 (w0:World) (ht:DJ w0):AO prog 28 #[] w0 fun v w'=>v = .bool true∧AB [] w0 w':=by
 have hs:=St.nil w0;refine AS func28 ntmps28 ?_;refine Ja ?_;refine AZ hs (h:=by exact YR _ (tab_only ht (hs.AE rfl))) ?_;intro w' ho hs;refine Jc ?_;refine AG ?_;exact ⟨rfl,hs.AE rfl⟩
theorem Xz (w0:World) (ht:DJ w0):AO prog 7 #[] w0 fun v w'=>v = .bool true∧AB [] w0 w':=by
 have hs:=St.nil w0;refine AS func7 ntmps7 ?_;refine Ja ?_;refine cl (h:=by exact Tu QC zJ _) ?_;rintro v w1 ⟨h | ⟨-,sb,F0,rfl,hS,Dx⟩,AL⟩
 ·exact absurd aAe h.1
 have BF:=(hs.AE rfl).trans AL;have oM:∀ k∈F0,w0.heap.size≤k:=fun k hk=>by have:=Dx k hk;have:=(hs.AE rfl).size;omega
 have hcb:w0.heap.size≤sb:=oM sb hS.mem;clear hs;have hs:=St.nil w1;refine Jd ?_;refine cl (h:=by exact Ku sb (IS QC) F0 0 1 5 _ (hS.only (hs.AE rfl)) (by decide) (by decide) (by decide)) ?_;rw [sY,aAq];rintro v w2 ⟨ve,rfl,T⟩;obtain ⟨ae,ce,rfl⟩:=T.form;obtain ⟨-,⟨F1,GB,Cq⟩,AN⟩:=T;rw [← sY] at GB;have GB:C9 w2 sb Qp F1:=GB;have Bd:AB [] w0 w2:=(BF.trans (hs.AE rfl)).step AN (fun k hk => .inr (by obtain rfl:=List.mem_singleton.1 hk;exact hcb));clear hs;have hs:=St.nil w2;refine Ja ?_;refine cl (h:=by exact Ku sb Qp F1 0 1 5 _ (GB.only (hs.AE rfl)) (by decide) (by decide) (by decide)) ?_;rw [rV,aAi];rintro v w3 ⟨ve,rfl,T⟩;obtain ⟨ae,ce,rfl⟩:=T.form;obtain ⟨-,⟨F2,E7,D6⟩,AU⟩:=T;rw [← rV] at E7;have E7:C9 w3 sb MS F2:=E7;have EM:AB [] w0 w3:=(Bd.trans (hs.AE rfl)).step AU (fun k hk => .inr (by obtain rfl:=List.mem_singleton.1 hk;exact hcb));clear hs;have hs:=St.nil w3;refine Ja ?_;refine cl (h:=by exact Om sb MS F2 5 _ (E7.only (hs.AE rfl)) (by decide) (fun _ k hk=>by rw [aAx] at hk;obtain rfl:k=0:=(by omega);have e:=aAc;show (A7 (AK MS ((0:Nat):Int)) 5).2.2.p.length≤1000000;rw [show ((0:Nat):Int)=0 from rfl,e];decide)) (k:=?_);rw [aAf];rintro v w4 ⟨ve,rfl,T⟩;obtain ⟨⟨Ge,hE⟩,⟨F3,JQ,Md⟩,Ar⟩:=T;have JQ:C9 w4 sb nM F3:=JQ;rw [aAo] at hE;obtain ⟨ae,ce,rfl⟩:=BU hE;have CG:AB [] w0 w4:=(EM.trans (hs.AE rfl)).step Ar (fun k hk => .inr (by obtain rfl:=List.mem_singleton.1 hk;exact hcb));clear hs;have hs:=St.nil w4;refine Ja ?_;have EB:=CG.trans (hs.AE rfl);refine AZ hs (h:=by exact Y1 _ (tab_only ht EB)) ?_;intro w' ho hs;repeat' (first|refine vs ?_|(refine bs hs ?_;intro b w hz hs)|fail)
 have nD:=lit_ls (xs:=[Ev.cells ⟨0,1,5,true,false⟩]) (k:=5) (hs.get At.head) rfl (by decide) rfl;have hE':Cu w4 41 5 (.slice ae 1 ce) ([⟨0,1,5,true,false⟩].map Ev.cells):=B6.ls hE rfl AA (fun x hx=>by obtain ⟨p,_,rfl⟩:=List.mem_map.1 hx;rfl);refine cl (h:=by exact pN _ _ [⟨0,1,5,true,false⟩] [⟨0,1,5,true,false⟩] (by decide) _ (hE'.only (hs.AE rfl)) nD) ?_;rw [show decide ([(⟨0,1,5,true,false⟩:Ev)]=[⟨0,1,5,true,false⟩])=true by decide];rintro v w' ⟨rfl,ho⟩;replace hs:=hs.AP ho;refine Jf ?_;refine cl (h:=by exact Qt sb nM F3 _ (JQ.only (hs.AE rfl))) ?_;rw [aAn];rintro v w5 ⟨⟨G5,hR,hG5⟩,BL⟩;obtain ⟨ar,cr,rfl⟩:=BU hR;have hoF:=(CG.trans (hs.AE rfl)).trans BL;clear hs;have hs:=St.nil w5
 repeat' (first|(refine bs hs ?_;intro b w hz hs)|fail)
 have aAr:=lit_ls (xs:=[Jq 2]) (k:=1) (hs.get At.head) rfl (by decide) rfl;have hR':Cu w5 3 1 (.slice ar 1 cr) ([(2:Int)].map Jq):=B6.ls (xs:=[(2:Int)].map Jq) hR rfl AA (fun x hx=>by obtain ⟨p,_,rfl⟩:=List.mem_map.1 hx;rfl);refine cl (h:=by exact tL _ _ [2] [2] (by decide) _ (hR'.only (hs.AE rfl)) aAr) ?_;rw [show decide ([(2:Int)]=[2])=true by decide];rintro v w' ⟨rfl,ho⟩;replace hs:=hs.AP ho;refine Jc ?_;refine AG ?_;exact ⟨rfl,hoF.trans (hs.AE rfl)⟩
theorem ints_flat:∀ l:List Int,ints l=(l.map Jq).flatten
 | []=>rfl
 | a :: l=>congrArg (Value.int .i64 a :: ·) (ints_flat l)
theorem WI {w:World} {v:Value} {l:List Int} {G:List Nat} (h:B6 w 3 1 v l.length (ints l) G):Cu w 3 1 v (l.map Jq):=B6.ls (xs:=l.map Jq) h (ints_flat l) AA (fun x hx=>by obtain ⟨p,_,rfl⟩:=List.mem_map.1 hx;rfl)
theorem aAh {w:World} {v:Value} {l:List Tk} {G:List Nat} (h:B6 w 51 6 v l.length (CR l) G):Cu w 51 6 v (l.map Tk.cells):=B6.ls (xs:=l.map Tk.cells) h rfl AA (fun x hx=>by obtain ⟨p,_,rfl⟩:=List.mem_map.1 hx;rfl)
end Go.Proofs.Q0
namespace Go.Proofs.Q0
open Go Go.RowKit Tryz
structure Dy (B:Nat) (s s':Ch):Prop where
 l:s'.ev.length≤s.ev.length+B
 r:Hr s.s→Hr s'.s
theorem Dy.refl (s:Ch):Dy 0 s s:=⟨aC5 _,id⟩
theorem Dy.trans {B B':Nat} {s s1 s2:Ch} (h:Dy B s s1) (h':Dy B' s1 s2):Dy (B+B') s s2:=⟨by have:=h.l;have:=h'.l;omega,fun e=>h'.r (h.r e)⟩
theorem Dy.mono {B B':Nat} {s s':Ch} (h:Dy B s s') (k:B≤B'):Dy B' s s':=⟨by have:=h.l;omega,h.r⟩
theorem evl_rows {s:Ch} (t:List Tk):Dy 0 s ⟨{ s.s with t:=t },s.ev⟩:=⟨aC5 _,id⟩
theorem mN {s:Sy} (h:Hr s) (k:Int) {c:Cs} (hc:Bw c) (t:List Tk):Hr (BX { s with t:=t } k c):=fun x hx=>by
 rcases aD8 hx with q | rfl
 ·exact h x q
 ·exact hc
theorem mU {c c1:Cs} {e:Int} (h:Bw c) (h1:Bw c1):Bw (CU c e c1):=by
 unfold CU;split
 ·exact Jr h1
 ·exact h
theorem Zn (s:Ch) (k:Int) (r:Rp):(BJ s k r).ev.length=s.ev.length+r.p.length+r.g.length:=by rw [Il,aCv,aCv,aC0,aC0]
theorem zP {s s':Sy} (h:s'.k=s.k) (hr:Hr s):Hr s':=fun c hc=>hr c (h ▸ hc)
theorem evl_try {s:Ch} (hR:Hr s.s) (t:List Tk) (k:Int) {e:Int} {c1:Cs} {r1:Rp} (hc:Bw c1) {g:Nat} (hg:r1.g.length≤g):Dy (r1.p.length+g+32) s (BJ ⟨BX { s.s with t:=t } k (CU (AK s.s k) e c1),s.ev⟩ k (BO e c1 r1)):=by
 obtain ⟨h1,h2⟩:=HI (e:=e) (r1:=r1) hc;refine ⟨?_,fun _=>zP (absorb_k _ _ _).1 (mN hR k (mU (hR.at k) hc) t)⟩;rw [Zn];show s.ev.length+_+_≤_;omega
theorem Io {s:Ch} (hR:Hr s.s) (k:Int) (l:Int × Cs) (h:Bw l.2):Dy 32 s (DX s k (l.1,l.2,.none)).2:=by
 unfold DX;split
 ·exact (evl_try hR s.s.t k (r1 := .none) h (g:=0) (aC5 _)).mono (by decide)
 ·exact (Dy.refl s).mono om
theorem SO {s:Ch} (hR:Hr s.s) (y:Tk) (l:Int × Cs) (h:Bw l.2):Dy 32 s (DY s y (l.1,l.2,.none)).2:=by
 unfold DY;split
 ·exact (evl_try hR (ES s.s.t y) y.core (r1 := .none) h (g:=0) (aC5 _)).mono (by decide)
 ·exact (Dy.refl s).mono om
theorem evl_leave {s:Ch} (hR:Hr s.s) (x:Tk):Dy 32 s (B0 s x).2:=(evl_try hR s.s.t x.core (r1 := .none) (FI (hR.at x.core) x.id) (g:=0) (aC5 _)).mono (by decide)
theorem evl_with {s:Ch} {B:Nat} (id:Int) (f:Ch→Tk→Int × Ch) (hf:∀ x,Dy B s (f s x).2):Dy B s (By s id f).2:=by
 unfold By;split
 ·exact (Dy.refl s).mono om
 ·exact hf _
theorem UH {ns:Int} {P:Nat}:∀ (n k:Nat) (s:Ch),Hr s.s→(∀ j:Nat,k≤j→j < k+n→(A7 (AK s.s j) ns).2.2.p.length≤P)→Dy (n*(P+64)) s (Ca n k s ns).2
 | 0,k,s,h,_=>(Dy.refl s).mono om
 | n+1,k,s,h,hp=>by
   unfold Ca;dsimp only;split
   ·have e1:=evl_try h s.s.t k (e:=(A7 (AK s.s k) ns).1) (r1:=(A7 (AK s.s k) ns).2.2) (O1 (h.at k) ns) (g:=32) (by obtain ⟨s1,hs1⟩:=h.at k;exact (tick_bounds hs1 ns).2)
    have e2:=UH n (k+1) _ (e1.r h) (P:=P) (ns:=ns) (fun j h1 h2=>by
     rw [NA (absorb_k _ _ _).1,LJ om om];exact hp j om om)
    refine (e1.trans e2).mono ?_;have:=hp k (aC5 _) om;rw [Nat.succ_mul];omega
   ·exact (Dy.refl s).mono (aC7 _)
theorem uQ {s:Sy} (hR:Hr s) {a:CK} (hf:XV s a) (hk:s.k.length≤8) (ht:9 < a.d % 12→(CO s a).1=0→a.ns≤1099511627776) (h0:(CO s a).1=0):(CO s a).2.ev.length≤100000000:=by
 have key:Dy 64 ⟨s,[]⟩ (CO s a).2∨9 < a.d % 12:=by
  unfold CO;by_cases c1:a.d % 12 < 2
  ·rw [if_pos c1];left;show Dy 64 ⟨s,[]⟩ (Bc ⟨s,[]⟩ a.core a.w a.ns).2.2;unfold Bc;dsimp only;split
   ·exact (Dy.refl _).mono om
   split
   ·exact (Dy.refl _).mono om
   split
   ·exact ((evl_rows (s:=⟨s,[]⟩) _).trans (Io hR _ _ (I5 (hR.at _) _ _ _ _))).mono om
   ·exact (Dy.refl _).mono om
  rw [if_neg c1];by_cases c2:a.d % 12=2
  ·rw [if_pos c2];refine .inl (evl_with (s:=⟨s,[]⟩) a.id _ fun x=>?_);unfold FQ;dsimp only;split
   ·exact ((evl_leave (s:=⟨s,[]⟩) hR x).trans (evl_rows _)).mono om
   ·exact (evl_rows (s:=⟨s,[]⟩) _).mono om
  rw [if_neg c2];by_cases c3:a.d % 12 < 5
  ·rw [if_pos c3];refine .inl (evl_with (s:=⟨s,[]⟩) a.id _ fun x=>?_);unfold Fz;split
   ·exact (Dy.refl _).mono om
   ·exact (SO (s:=⟨s,[]⟩) hR _ _ (Ky (hR.at _) _)).mono om
  rw [if_neg c3];by_cases c4:a.d % 12 < 7
  ·rw [if_pos c4];refine .inl (evl_with (s:=⟨s,[]⟩) a.id _ fun x=>?_);unfold EX;split
   ·exact (Dy.refl _).mono om
   split
   ·exact ((evl_rows (s:=⟨s,[]⟩) _).trans (Io hR _ _ (I5 (hR.at _) _ _ _ _))).mono om
   ·exact (SO (s:=⟨s,[]⟩) hR _ _ (MN (hR.at _) _)).mono om
  rw [if_neg c4];by_cases c5:a.d % 12=7
  ·rw [if_pos c5];refine .inl (evl_with (s:=⟨s,[]⟩) a.id _ fun x=>?_);unfold DM;split
   ·exact (Dy.refl _).mono om
   dsimp only;split
   ·exact (evl_rows (s:=⟨s,[]⟩) _).mono om
   ·exact ((evl_rows (s:=⟨s,[]⟩) _).trans (Io hR _ _ (Kk (hR.at _) _ _))).mono om
  rw [if_neg c5];by_cases c6:a.d % 12=8
  ·rw [if_pos c6];refine .inl (evl_with (s:=⟨s,[]⟩) a.id _ fun x=>?_);unfold Dp;split
   ·exact (Dy.refl _).mono om
   dsimp only;split
   ·exact (evl_rows (s:=⟨s,[]⟩) _).mono om
   ·exact ((evl_rows (s:=⟨s,[]⟩) _).trans (Io hR _ _ (Kx (hR.at _) _ _))).mono om
  rw [if_neg c6];by_cases c7:a.d % 12=9
  ·rw [if_pos c7];refine .inl (evl_with (s:=⟨s,[]⟩) a.id _ fun x=>?_);show Dy 64 ⟨s,[]⟩ (C5 ⟨s,[]⟩ x a.core).2;by_cases q:CS s.cf a.core≠0∨a.core=x.core
   ·rw [Gd (s:=⟨s,[]⟩) q];exact (Dy.refl _).mono om
   rw [Hh (s:=⟨s,[]⟩) q]
   have fin:∀ (u:Ch) (lag:Int),Dy 32 ⟨s,[]⟩ u→Dy 64 ⟨s,[]⟩ (E6 u x a.core lag).2:=fun u lag hu=>by
    have J1:=hu.r hR;unfold E6;split
    ·exact Dy.mono (B:=32+0+32) ((hu.trans (evl_rows (ES u.s.t (Dv x a.core lag)))).trans (Io (s:=⟨{ u.s with t:=ES u.s.t (Dv x a.core lag) },u.ev⟩) J1 a.core _ (I5 (J1.at _) _ _ _ _))) om
    ·exact Dy.mono (B:=32+0) (hu.trans (evl_rows (ES u.s.t (Dv x a.core lag)))) om
   split
   ·exact fin _ _ (evl_leave (s:=⟨s,[]⟩) hR x)
   ·exact fin _ _ ((Dy.refl _).mono om)
  ·exact .inr om
 rcases key with q | q
 ·have:=q.l;have e:([]:List Ev).length=0:=rfl;simp only at this;omega
 ·have hn:=ht q h0;have hp:=hf q hn;unfold CO at h0 ⊢;rw [if_neg om,if_neg om,if_neg om,if_neg om,if_neg om,if_neg om,if_neg om] at h0 ⊢;unfold EI at h0 ⊢;dsimp only at h0 ⊢;split
  ·exact aC7 _
  have:=(UH (P:=1000000) s.k.length 0 ⟨s,[]⟩ hR (fun j _ h2=>hp j (by simpa using h2)) (ns:=a.ns)).l;have e:([]:List Ev).length=0:=rfl;have h8:s.k.length*(1000000+64)≤8*(1000000+64):=Nat.mul_le_mul_right _ hk;simp only at this;omega
theorem tU {s:Sy} {a:CK} (h:9 < a.d % 12) (h0:(CO s a).1=0) (hd:a.d % 12 < 12):a.ns≤1099511627776:=by
 unfold CO at h0;rw [if_neg om,if_neg om,if_neg om,if_neg om,if_neg om,if_neg om,if_neg om] at h0;unfold EI at h0;dsimp only at h0;split at h0
 ·rename_i k;exact absurd h0 k
 ·rename_i k;have k1:BC a.ns (D7 s.cf.tick)=0:=by simpa using k
  unfold BC at k1;split at k1
  ·cases k1
  ·unfold D7 at *;split at * <;> omega
def Ko (s:Sy) (a:CK):Sy:=(Dt s (CO s a)).2
theorem ZV {s:Sy} {a:CK} (h:(CO s a).1=0):Ko s a=(CO s a).2.s:=by unfold Ko Dt;rw [if_pos h]
theorem ZJ {s:Sy} {a:CK} (h:(CO s a).1≠0):Ko s a=s:=by unfold Ko Dt;rw [if_neg h]
structure Good (m:Int) (s:Sy):Prop where
 inv:C3 s
 least:Bj m s.t
theorem Good.next {m:Int} {s:Sy} (h:Good m s) {a:CK} (ha:a.In) (hm:aW m a):Good m (Ko s a):=by
 by_cases e:(CO s a).1=0
 ·rw [ZV e];exact ⟨uA h.inv ha e,kR h.inv.ids h.least hm⟩
 ·rw [ZJ e];exact h
theorem Good.new {m:Int} {c:Cf} (hc:c.In) (h:FH c=0):Good m (IS c):=⟨inv_new hc h,fun x hx=>by
 obtain ⟨h1,j,hj⟩:=GP hx;have:=aDJ hj;rw [List.eq_of_mem_replicate this] at h1;exact absurd h1 (by decide)⟩
theorem Good.few {m:Int} {s:Sy} (h:Good m s) {a:CK} (hm:1≤m) (ha:a.In) (ht:9 < a.d % 12→a.ns≤1099511627776→a.ns / m≤300):XV s a:=wW h.inv h.least hm ha ht
theorem vO {s:Sy} (h:C3 s) {a:CK} (hf:XV s a):(Dt s (CO s a)).1.length≤100000000:=by
 unfold Dt;split
 ·rename_i e;exact uQ h.rep hf (by have:=h.ok.len;have:=h.ok.hi;omega) (fun q e=>tU q e om) e
 ·exact aC7 _
theorem vW {w:World} {v:Value} {l:List Ev} {G:List Nat} (h:B6 w 41 5 v l.length (NF l) G):Cu w 41 5 v (l.map Ev.cells):=B6.ls (xs:=l.map Ev.cells) h rfl AA (fun x hx=>by obtain ⟨p,_,rfl⟩:=List.mem_map.1 hx;rfl)
theorem VV (ns:Int):∀ (n k:Nat) (s:Ch),(Ca n k s ns).2.s.cf=s.s.cf
 | 0,_,_=>rfl
 | n+1,k,s=>by
   unfold Ca;dsimp only;split
   ·exact (VV ns n (k+1) _).trans (absorb_k _ _ _).2
   ·rfl
theorem next_cf {s:Sy} (h:C3 s) (a:CK):(Ko s a).cf=s.cf:=by
 by_cases e:(CO s a).1=0
 ·rw [ZV e];by_cases hd:a.d % 12 < 10
  ·exact (Wi h.ok h.ids hd (K:=[a.core,(Ay s.t a.id).core]) AA (fun _ _=>by simp)).cf
  ·unfold CO;rw [if_neg om,if_neg om,if_neg om,if_neg om,if_neg om,if_neg om,if_neg om];unfold EI;split
   ·rfl
   ·exact VV a.ns s.k.length 0 ⟨s,[]⟩
 ·rw [ZJ e]
section
variable {w0 w w' : World} {sa sb : Nat} {s t : Sy} {F G : List Nat}
end
end Go.Proofs.Q0
namespace Go.Proofs.YtjiiakjheghcoaaGreatDoor
open Go
theorem tW:laidOutB Tryz.prog=true:=by kernel_rfl
theorem uS:mapsRowed Tryz.prog=true:=by kernel_rfl
theorem vD:(true == Tryz.prog.plainKeys)=true:=by kernel_rfl
theorem mR:Tryz.prog.stopsHeard=true:=by kernel_rfl
theorem oI:Tryz.prog.mayEnter=true:=by kernel_rfl
theorem uY:(false == Tryz.prog.liftsFinal)=true:=by kernel_rfl
theorem tE:(Tryz.prog.make == some .cut)=true:=by kernel_rfl
theorem and_mk {a b:Bool} (h:a=true) (k:b=true):(a && b)=true:=by rw [h,k];rfl
end Go.Proofs.YtjiiakjheghcoaaGreatDoor
namespace Go.Proofs.Q0
open Go
theorem door_met (os : Os) (args : Array Value) : laidMetH Tryz.prog [("math/bits.deBruijn32tab", YtjiiakjheghcoaaGreatDoor.Rows.laid_math_bits_deBruijn32tab), ("math/bits.deBruijn64tab", YtjiiakjheghcoaaGreatDoor.Rows.laid_math_bits_deBruijn64tab), ("internal/strconv.uint64pow10", YtjiiakjheghcoaaGreatDoor.Rows.laid_internal_strconv_uint64pow10)] ((World.doorLaid Tryz.prog 24 os).forCall (fun _ _ => 0) ⟨#[], args, []⟩).memory :=
 laidMetH_of_parts3 (fuel:=8) (laidMet_of_run' 8 (by kernel_rfl) (by kernel_rfl)) (by kernel_rfl) (by kernel_rfl)
theorem vI {W : World} (h : laidMetH Tryz.prog [("math/bits.deBruijn32tab", YtjiiakjheghcoaaGreatDoor.Rows.laid_math_bits_deBruijn32tab), ("math/bits.deBruijn64tab", YtjiiakjheghcoaaGreatDoor.Rows.laid_math_bits_deBruijn64tab), ("internal/strconv.uint64pow10", YtjiiakjheghcoaaGreatDoor.Rows.laid_internal_strconv_uint64pow10)] W) : DJ W := by
 rw [MakeChecks.laidMetH_plain _ _ _ (by kernel_rfl)] at h;have h2:=h.tail.tail;exact Lib.tabIs_of_head (g := (Tryz.prog.globalNamed "internal/strconv.uint64pow10").getD 0) (t := 315) (e := 22) (n := 20) (by kernel_rfl) (by kernel_rfl) (by kernel_rfl) (by kernel_rfl) (by kernel_rfl) (by kernel_rfl) h2
end Go.Proofs.Q0
namespace Go.Proofs.Q0
open Go Go.RowKit Tryz
def Dl (n:Nat) (l:List Ev):Prop:=∀ x∈l,0≤x.core∧x.core < (n:Int)
theorem Dl.nil (n:Nat):Dl n []:=fun x hx=>by cases hx
theorem coin_abs {n:Nat} {t:Sy} {ev:List Ev} {k:Int} (h0:0≤k) (h1:k < (n:Int)) (h:Dl n ev) (r:Rp):Dl n (BJ ⟨t,ev⟩ k r).ev:=by
 rw [Il];intro x hx;rcases aC4.1 hx with hx | hx
 ·rcases aC4.1 hx with hx | hx
  ·exact h x hx
  ·obtain ⟨p,_,rfl⟩:=List.mem_map.1 hx;exact ⟨h0,h1⟩
 ·obtain ⟨p,_,rfl⟩:=List.mem_map.1 hx;exact ⟨h0,h1⟩
theorem Hw {n:Nat} {t:Sy} {ev:List Ev} {k:Int} (h0:0≤k) (h1:k < (n:Int)) (h:Dl n ev) (l:Int × Cs × Rp):Dl n (DX ⟨t,ev⟩ k l).2.ev:=by
 unfold DX;split
 ·exact coin_abs h0 h1 h _
 ·exact h
theorem QS {n:Nat} {s:Ch} {y:Tk} (h0:0≤y.core) (h1:y.core < (n:Int)) (h:Dl n s.ev) (l:Int × Cs × Rp):Dl n (DY s y l).2.ev:=by
 unfold DY;split
 ·exact coin_abs h0 h1 h _
 ·exact h
theorem coin_leave {n:Nat} {s:Ch} {x:Tk} (h0:0≤x.core) (h1:x.core < (n:Int)) (h:Dl n s.ev):Dl n (B0 s x).2.ev:=coin_abs h0 h1 h _
theorem Ii {n:Nat} {s:Ch} (id:Int) (f:Ch→Tk→Int × Ch) (h:Dl n s.ev) (hf:Df (BK s.s.t id)=0→Dl n (f s (Ay s.s.t id)).2.ev):Dl n (By s id f).2.ev:=by
 unfold By;split
 ·exact h
 ·rename_i e;exact hf om
theorem TB {N:Nat} {ns:Int}:∀ (n k:Nat) (s:Ch),k+n≤N→Dl N s.ev→Dl N (Ca n k s ns).2.ev
 | 0,_,_,_,h=>h
 | n+1,k,s,hk,h=>by
   unfold Ca;dsimp only;split
   ·exact TB n (k+1) _ om (coin_abs om om h _)
   ·exact h
theorem mI {s:Sy} (h:C3 s) (a:CK):Dl s.k.length (CO s a).2.ev:=by
 have hlen:=h.ok.len
 have hx:Df (BK s.t a.id)=0→0≤(Ay s.t a.id).core∧(Ay s.t a.id).core < (s.k.length:Int):=fun e=>by
  obtain ⟨k1,_⟩:=task_live h.ids e;obtain ⟨k,hk,hk2⟩:=h.ok.Fy k1;omega
 have z:Dl s.k.length (Ch.ev ⟨s,[]⟩):=Dl.nil _;unfold CO;by_cases c1:a.d % 12 < 2
 ·rw [if_pos c1];show Dl _ (Bc ⟨s,[]⟩ a.core a.w a.ns).2.2.ev;unfold Bc;dsimp only;split
  ·exact z
  rename_i q1
  have h0:0≤a.core∧a.core < s.cf.cores:=by
   unfold Cx F8 at q1;split at q1
   ·rename_i z;exact absurd z q1
   ·rename_i z;unfold CS at z;split at z
    ·exact absurd (by decide) z
    ·omega
  split
  ·exact z
  split
  ·exact Hw (k:=a.core) h0.1 om z _
  ·exact z
 rw [if_neg c1];by_cases c2:a.d % 12=2
 ·rw [if_pos c2];refine Ii (s:=⟨s,[]⟩) a.id _ z fun e=>?_;obtain ⟨k1,k2⟩:=hx e;show Dl _ (FQ ⟨s,[]⟩ (Ay s.t a.id) a.id).2.ev;unfold FQ;dsimp only;split
  ·exact coin_leave k1 k2 z
  ·exact z
 rw [if_neg c2];by_cases c3:a.d % 12 < 5
 ·rw [if_pos c3];refine Ii (s:=⟨s,[]⟩) a.id _ z fun e=>?_;obtain ⟨k1,k2⟩:=hx e;show Dl _ (Fz ⟨s,[]⟩ (Ay s.t a.id) a.id).2.ev;unfold Fz;split
  ·exact z
  ·have ec:(ED ⟨s,[]⟩ (Ay s.t a.id) a.id).core=(Ay s.t a.id).core:=by unfold ED;dsimp only;split <;> rfl
   exact QS (y:=ED ⟨s,[]⟩ (Ay s.t a.id) a.id) (by rw [ec];exact k1) (by rw [ec];exact k2) z _
 rw [if_neg c3];by_cases c4:a.d % 12 < 7
 ·rw [if_pos c4];refine Ii (s:=⟨s,[]⟩) a.id _ z fun e=>?_;obtain ⟨k1,k2⟩:=hx e;show Dl _ (EX ⟨s,[]⟩ (Ay s.t a.id) a.id).2.ev;unfold EX;split
  ·exact z
  split
  ·exact Hw k1 k2 z _
  ·exact QS (y:={ Ay s.t a.id with st:=1 }) k1 k2 z _
 rw [if_neg c4];by_cases c5:a.d % 12=7
 ·rw [if_pos c5];refine Ii (s:=⟨s,[]⟩) a.id _ z fun e=>?_;obtain ⟨k1,k2⟩:=hx e;show Dl _ (DM ⟨s,[]⟩ (Ay s.t a.id) a.id a.w).2.ev;unfold DM;split
  ·exact z
  dsimp only;split
  ·exact z
  ·exact Hw k1 k2 z _
 rw [if_neg c5];by_cases c6:a.d % 12=8
 ·rw [if_pos c6];refine Ii (s:=⟨s,[]⟩) a.id _ z fun e=>?_;obtain ⟨k1,k2⟩:=hx e;show Dl _ (Dp ⟨s,[]⟩ (Ay s.t a.id) a.id a.ns).2.ev;unfold Dp;split
  ·exact z
  dsimp only;split
  ·exact z
  ·exact Hw k1 k2 z _
 rw [if_neg c6];by_cases c7:a.d % 12=9
 ·rw [if_pos c7];refine Ii (s:=⟨s,[]⟩) a.id _ z fun e=>?_;obtain ⟨k1,k2⟩:=hx e;show Dl _ (C5 ⟨s,[]⟩ (Ay s.t a.id) a.core).2.ev;by_cases q:CS s.cf a.core≠0∨a.core=(Ay s.t a.id).core
  ·rw [Gd (s:=⟨s,[]⟩) q];exact z
  rw [Hh (s:=⟨s,[]⟩) q]
  have h0:0≤a.core∧a.core < s.cf.cores:=by
   have z:CS s.cf a.core=0:=by
    rcases Classical.em (CS s.cf a.core=0) with z | z
    ·exact z
    ·exact absurd (.inl z) q
   unfold CS at z;split at z
   ·cases z
   ·omega
  have fin:∀ (u:Ch) (lag:Int),Dl s.k.length u.ev→Dl s.k.length (E6 u (Ay s.t a.id) a.core lag).2.ev:=fun u lag hu=>by
   unfold E6;split
   ·exact Hw (k:=a.core) h0.1 om hu _
   ·exact hu
  split
  ·exact fin _ _ (coin_leave k1 k2 z)
  ·exact fin _ _ z
 rw [if_neg c7];show Dl _ (EI ⟨s,[]⟩ a.ns).2.ev;unfold EI;split
 ·exact z
 ·exact TB _ _ _ (by show 0+s.k.length≤s.k.length;omega) z
def HQ (n:Nat) (l:List Ev):List Value:=(List.range n).map fun (k:Nat) => .int .u64 (IntKind.u64.wrap (CW l (k:Int)))
theorem Nn (n:Nat) (l:List Ev):(HQ n l).length=n:=by unfold HQ;rw [aC0,List.length_range]
theorem Lf {n k:Nat} (h:k < n) (l:List Ev):(HQ n l)[k]?=some (.int .u64 (IntKind.u64.wrap (CW l (k:Int)))):=by
 unfold HQ;rw [aC8,List.getElem?_range h];rfl
theorem nY (n:Nat):HQ n []=List.replicate n (.int .u64 0):=by
 unfold HQ;rw [List.eq_replicate_iff];refine ⟨by simp,fun b hb=>?_⟩;obtain ⟨k,_,rfl⟩:=List.mem_map.1 hb;rfl
theorem pH {n k:Nat} (h:k < n) (l:List Ev) (x:Ev) (hx:x.core=(k:Int)):(HQ n l).set k (.int .u64 (IntKind.u64.wrap (IntKind.u64.wrap (CW l (k:Int))+x.ns)))=HQ n (l ++ [x]):=by
 apply List.ext_getElem?;intro j;rw [aDj,Nn];by_cases e:k=j
 ·subst e;rw [if_pos rfl,if_pos h,Lf h,QD,if_pos hx];have e:IntKind.u64.wrap (IntKind.u64.wrap (CW l (k:Int))+x.ns)=IntKind.u64.wrap (CW l (k:Int)+x.ns):=by simp only [wrap_u64];omega
  rw [e]
 ·rw [if_neg e];by_cases hj:j < n
  ·rw [Lf hj,Lf hj,QD,if_neg om,Int.add_zero]
  ·rw [aDY (by rw [Nn];omega),aDY (by rw [Nn];omega)]
def FU (k st:Int) (l:List Tk):Nat:=(l.filter fun x=>decide (x.core=k) && decide (x.st=st)).length
theorem fJ (k st:Int) (l:List Tk) (x:Tk):FU k st (l ++ [x])=FU k st l+if x.core=k∧x.st=st then 1 else 0:=by
 unfold FU;rw [List.filter_append,aCv,aD1,List.filter_nil];by_cases h:x.core=k∧x.st=st
 ·rw [if_pos h,decide_eq_true h.1,decide_eq_true h.2];rfl
 ·rw [if_neg h]
  have:(decide (x.core=k) && decide (x.st=st))=false:=by
   by_cases h1:x.core=k
   ·rw [decide_eq_false (fun e=>h ⟨h1,e⟩),aDw]
   ·rw [decide_eq_false h1,Bool.false_and]
  rw [this];rfl
theorem Qr {k st:Int} {l:List Tk}:0 < FU k st l↔∃ x∈l,x.core=k∧x.st=st:=by
 unfold FU;rw [List.length_pos_iff_exists_mem];constructor
 ·rintro ⟨x,hx⟩;obtain ⟨h1,h2⟩:=List.mem_filter.1 hx;rw [aDB] at h2;exact ⟨x,h1,of_decide_eq_true h2.1,of_decide_eq_true h2.2⟩
 ·rintro ⟨x,h1,h2,h3⟩;exact ⟨x,List.mem_filter.2 ⟨h1,by rw [decide_eq_true h2,decide_eq_true h3];rfl⟩⟩
theorem tT (k st:Int) (l:List Tk):FU k st l≤l.length:=aD6 _ _
theorem aK {s:Sy} (h:C3 s) {a:CK} (ha:a.In) {j:Nat} (hj:j < s.k.length):CW (Dt s (CO s a)).1 (j:Int)=if (CO s a).1=0∧9 < a.d % 12∧(AK s j).run≠0 then a.ns else 0:=by
 unfold Dt;by_cases e:(CO s a).1=0
 ·rw [if_pos e];by_cases hd:9 < a.d % 12
  ·show CW (CO s a).2.ev (j:Int)=_;rw [Ye h ha hd e hj];by_cases hr:(AK s j).run≠0
   ·rw [if_pos hr,if_pos ⟨e,hd,hr⟩]
   ·rw [if_neg hr,if_neg (fun q=>hr q.2.2)]
  ·rw [if_neg (fun q=>hd q.2.1)];exact PE ((Wi h.ok h.ids om (K:=[a.core,(Ay s.t a.id).core]) AA (fun _ _=>by simp)).e (fun x hx=>by cases hx)) _
 ·rw [if_neg e,if_neg (fun q=>e q.1)];rfl
theorem oZ {s:Sy} (h:C3 s) (a:CK):Dl s.k.length (Dt s (CO s a)).1:=by
 unfold Dt;split
 ·exact mI h a
 ·exact Dl.nil _
end Go.Proofs.Q0
namespace Go.Proofs.Q0
open Go Go.RowKit Go.Maps Tryz
def UB (i:Int):Prop:=0≤i∧i < 256
def Nk (i:Int):Lit := .int .u8 i
def GO (w:World) (b:Nat) (f:Int→Option Value) (c:Nat):Prop :=
 ∃ D:DataW Value,w.ownsMap prog 5 Mu b c D∧Maps.size D=c∧∀ i,UB i→Maps.has D (Nk i)=(f i).isSome∧∀ z,D.atKey (Nk i) (.held z) = .held ((f i).getD z)
theorem sM:Keyed prog 5:=int_keyed (q := .u8) (by kernel_rfl)
theorem T6 {i:Int} (h:UB i):keyOf prog 5 (.int .u8 i)=some (Nk i):=keyOf_int_mk (q := .u8) (by kernel_rfl) (by
 show (decide (IntKind.u8.min≤i) && decide (i≤IntKind.u8.max))=true;have e1:IntKind.u8.min=0:=rfl;have e2:IntKind.u8.max=255:=rfl;obtain ⟨h1,h2⟩:=h;rw [e1,e2,decide_eq_true h1,decide_eq_true (show i≤255 by omega)];rfl)
theorem GO.keep {w w':World} {b c:Nat} {f:Int→Option Value} {F:List Nat} (h:GO w b f c) (ho:AB F w w') (hb:b∉F):GO w' b f c:=by
 obtain ⟨D,⟨es,clock,h1,h2⟩,h3⟩:=h;exact ⟨D,⟨es,clock,ho.block h1 hb,h2⟩,h3⟩
theorem GO.ne {w:World} {b c:Nat} {f:Int→Option Value} (h:GO w b f c) {b':Nat} {cs:Array Value} {t:Nat} {fz:Nat × Nat} (hb:w.heap[b']?=some (.cells cs t fz)):b'≠b:=fun e=>by
 subst e;obtain ⟨D,⟨es,clock,h1,h2⟩,h3⟩:=h;rw [h1] at hb;cases hb
theorem GO.made (w:World):GO (w.alloc (.map #[] 0)) w.heap.size (fun _=>none) 0 :=
 ⟨.map [],World.ownsMap_made _ _ _ _,rfl,fun i hi=>⟨rfl,fun z=>rfl⟩⟩
theorem ZT {i j:Int} (h:j≠i):Nk j≠Nk i:=fun e=>by
 unfold Nk at e
 injection e with _ e
 exact h e
theorem jE (i:Int) (h:UB i):WideAt.IsKeyLit (Nk i):=(sM.key (T6 h))
section
variable {w : World} {b c : Nat} {f : Int → Option Value} {t e : Nat} {z v : Value} {i : Int}
theorem GO.dN (h:GO w b f c) (ht:prog.underlying t=some (.map 5 e)) (hz:(zeroValue e).run prog w = .ok z w) (hi:UB i):(Instr.lookup t (.map (some b)) (.int .u8 i) false).run prog w = .ok ((f i).getD z) w:=by
 obtain ⟨D,h1,h2,h3⟩:=h;obtain ⟨v,ps,hr,hv⟩:=h1.lookup sM ht hz (zd := .held z) (zp:=[]) rfl (T6 hi);obtain ⟨h4,h5⟩:=h3 i hi
 have e1:DataW.held v=D.atKey (Nk i) (.held z):=by
  unfold Mu at hv;simp only [aDd,Prod.mk.injEq] at hv;exact hv.1
 rw [h5 z] at e1
 injection e1 with e1
 rw [hr,e1]
theorem VP {D:DataW Value} {n:Nat} (h:w.ownsMap prog 5 Mu b n D):w.ownsMap prog 5 Mu b (Maps.size D) D:=by
 obtain ⟨es,clock,h1,h2,h3,h4⟩:=h;refine ⟨es,clock,h1,h2,?_,h4⟩;rw [h4];simp [Maps.size,length_sorted]
theorem GO.store (h:GO w b f c) (ht:prog.underlying t=some (.map 5 e)) (hi:UB i) (hc:c < maxLen):∃ w',(Instr.mapUpdate t (.map (some b)) (.int .u8 i) v).run prog w = .ok () w'∧GO w' b (F4 f i (some v)) (if (f i).isSome then c else c+1)∧AB [b] w w':=by
 obtain ⟨D,h1,h2,h3⟩:=h;obtain ⟨w',hr,h4,h5⟩:=h1.store sM ht hc (d := .held v) (ps:=[]) (val:=v) (T6 hi) rfl;have hT:=h1.tidy sM;have hs:Maps.size (D.put (Nk i) (.held v))=if (f i).isSome then c else c+1:=by rw [size_put hT,(h3 i hi).1,h2]
 refine ⟨w',hr,⟨_,by rw [← hs];exact VP h4,hs,fun j hj=>?_⟩,AB.RH h5.grown⟩;by_cases e1:j=i
 ·subst e1;unfold F4;rw [decide_eq_true rfl,cond_true];exact ⟨has_put_same h1.isMap (jE j hj) _,fun z=>atKey_put_same h1.isMap (jE j hj) _ _⟩
 ·unfold F4;rw [decide_eq_false e1,cond_false,has_put_other (ZT e1)];exact ⟨(h3 j hj).1,fun z=>by rw [atKey_put_other (ZT e1)];exact (h3 j hj).2 z⟩
end
section
variable {ops : Array Oper} {QE : Exit → Env → World → Prop} {n : Nat} {rest : List Oper} {env : Env} {w wb : World} {D : Ctx} {H : List Br} {d : Option Nat} {ty : Nat} {pos : String} {Am : Array Edge} {g : Option (Nat × Bool)}
theorem NY {t e b c:Nat} {f:Int→Option Value} {x y:Operand} {i:Int} {z:Value} (hM:GO w b f c) (hi:UB i) (hz:(prog.info? e).bind (·.zero)=some z) (ht:prog.underlying t=some (.map 5 e)) (k:XS prog ops QE n rest (Bf env d ((f i).getD z)) w) (hw:Ax ops env g=true:=by exact rfl) (hx:ev env x = .map (some b):=by exact rfl) (hy:ev env y = .int .u8 i:=by exact rfl):XS prog ops QE n (⟨d,.lookup t x y false,ty,pos,Am,g⟩ :: rest) env w :=
 xs_val hw (by simp [execOp,hx,hy,aCz,hM.dN ht (zero_run hz w) hi]) k
theorem dH {t e b c:Nat} {f:Int→Option Value} {x y u:Operand} {i:Int} {v:Value} (hM:GO w b f c) (hi:UB i) (hc:c < maxLen) (ht:prog.underlying t=some (.map 5 e)) (k:∀ w',GO w' b (F4 f i (some v)) (if (f i).isSome then c else c+1)→AB [b] w w'→XS prog ops QE n rest (Bf env d undef) w') (hw:Ax ops env g=true:=by exact rfl) (hx:ev env x = .map (some b):=by exact rfl) (hy:ev env y = .int .u8 i:=by exact rfl) (hu:ev env u=v:=by exact rfl):XS prog ops QE n (⟨d,.mapUpdate t x y u,ty,pos,Am,g⟩ :: rest) env w:=by
 obtain ⟨w',hr,h1,h2⟩:=hM.store (v:=v) ht hi hc;exact XS.P8 hw (by simp [execOp,hx,hy,hu,aCz,hr]) (k w' h1 h2)
theorem bX {t:Nat} (k:∀ b w',AB [] w w'→GO w' b (fun _=>none) 0→w.heap.size≤b→XS prog ops QE n rest (Bf env d (.map (some b))) w') (hw:Ax ops env g=true:=by exact rfl):XS prog ops QE n (⟨d,.makeMap t none,ty,pos,Am,g⟩ :: rest) env w :=
 XS.value hw (v := .map (some w.heap.size)) (w':=w.alloc (.map #[] 0)) (by simp [execOp,aCz,run_makeMap]) (k _ _ (((St.nil w).alloc _).AE rfl) (GO.made w) (aC5 _))
end
end Go.Proofs.Q0
namespace Go.Proofs.Q0
open Go Go.RowKit Tryz
attribute [local irreducible] XS XC XA AY AR A9 A1 A0 Aa Ae AW SE
def WS (f:Int→Option Value) (S:Int→Nat):Prop:=∀ i,(f i).getD (.int .i64 0) = .int .i64 (S i:Nat)
theorem WS.put {f:Int→Option Value} {S S':Int→Nat} (h:WS f S) {i x:Int} (hx:x=((S' i:Nat):Int)) (hS:∀ j,j≠i→S' j=S j):WS (F4 f i (some (.int .i64 x))) S':=fun j=>by
 unfold F4;by_cases e:j=i
 ·subst e;rw [decide_eq_true rfl,hx];rfl
 ·rw [decide_eq_false e,hS j e];exact h j
theorem N0:(prog.info? 3).bind (·.zero)=some (.int .i64 0):=by kernel_rfl
theorem Mr:prog.underlying 42=some (.map 5 3):=by kernel_rfl
theorem RA {s:Sy} {k:Nat} (h:k < s.k.length):(s.k.map Cs.run)[k]'(by rw [aC0];exact h)=(AK s k).run:=by
 rw [List.getElem_map];unfold AK;rw [aDI,show ((k:Nat):Int).toNat=k from rfl,aC3 h];rfl
theorem T1 (c:Cf) (xs:List CK) (sl:Value) (hc0:c.In) (hx:∀ a∈xs,a.In) (w0:World) (hL:Sj w0 5 sl (xs.map CK.cells)) (ht:DJ w0):AO prog 3 #[Q2 c,sl] w0 fun v w'=>v = .bool true∧AB [] w0 w':=by
 have hL0:=hL;obtain ⟨ad,cap,rfl,hD⟩:=hL;rw [aC0] at hL0 ⊢;have hs:=St.nil w0;refine AS func3 ntmps3 ?_;refine Ah ?_;refine Aq ?_;refine bx hs ?_;clear hs;intro b2 w9 xM hs;refine Ja ?_;refine AZ hs (h:=by exact Xz _ (tab_only ht (hs.AE rfl))) ?_;intro w' ho hs;refine Jd ?_;refine cl (h:=by exact Yd c xs _ hx _ (hL0.only (hs.AE rfl))) ?_;rintro v w1 ⟨⟨bl,rfl,J3⟩,AL⟩;replace hs:=hs.AP AL;cases bl with
 | false =>
   refine Je ?_;refine AG ?_;exact ⟨rfl,hs.AE rfl⟩
 | true =>
 obtain ⟨hm,m,hm1,aCL,hfew⟩:=J3 rfl;refine Jd ?_;have Bd:=hs.AE rfl;have k2:=hs.get (b:=b2) AX;refine cl (h:=by exact Tu c hc0 _) ?_;rintro v w2 ⟨⟨h0,rfl⟩ | ⟨h0,sb,F1,rfl,GB,Cq⟩,AN⟩
 ·replace hs:=hs.AP AN;generalize FH c=e at *
  repeat' (first|refine Sa ?_|refine xc_cond rfl (fun hc=>?_) fun hc=>?_|fail)
  ·refine AG ?_;exact ⟨rfl,hs.AE rfl⟩
  ·exact absurd (by simpa using hc) h0
 have BF:=Bd.trans AN;have qQ:=Bd.size;have Qf:∀ k∈F1,w0.heap.size≤k:=fun k hk=>by have:=Cq k hk;omega
 replace k2:=AN.block k2 AA;clear hs;have hs:=(St.nil w2).AF k2;refine Jd ?_;have EM:=hs.AD [] (by simp [k2]) sD;have vZ:c.cores=(c.cores.toNat:Nat):=by have:=GB.ok.lo;have e:(IS c).cf.cores=c.cores:=rfl;omega
 rw [vZ] at k2;generalize hnc:c.cores.toNat=nc at *;generalize hcv:(Obj.cells #[.int .i64 ((nc:Nat):Int),.int .i64 c.tasks,.int .u64 c.tick,.int .u64 c.slice,.int .u64 c.origin] 24 (0,0))=cO at *;refine BM (fun (_:Unit)=>[]) (fun _ w=>AB [] w0 w) ?_ ?_
 ·refine BH (fun (x:Nat × Sy × List Nat)=>[(2,.pointer (some ⟨b2,0,none⟩)),(5,.pointer (some ⟨sb,0,none⟩)),(38,.slice ad xs.length cap),(39,.int .i64 (xs.length:Nat)),(40,.int .i64 (x.1:Nat))])
   (fun x w=>x.1≤xs.length∧Good m x.2.1∧x.2.1.cf=c∧C9 w sb x.2.1 x.2.2∧(∀ k∈x.2.2,w0.heap.size≤k)∧w.heap[b2]?=some cO∧AB [] w0 w) (fun x=>xs.length - x.1) (0,IS c,F1) Ad ⟨aC7 _,Good.new hc0 h0,rfl,GB.only EM,Qf,EM.block k2 AA,BF.trans EM⟩ fun x env wl ⟨hi,hG,XZ,hS,hF,k2,ho⟩=>?_
  obtain ⟨i,s,F⟩:=x;simp only at hi hG hS hF XZ;subst hcv;clear hs;have hs:=(St.nil wl).AF k2
  repeat' (first|refine Sa ?_|refine Aw rfl (fun hc=>?_) fun hc=>?_|fail)
  ·have hlt:i < xs.length:=by omega
   obtain ⟨b0,off,cs,E,fz,rfl,hb,hcs⟩:=hD (fun h=>by have:=congrArg List.length h;rw [aC0,aDA] at this;omega);have hpk:=hcs i (CK.cells xs[i]) (by rw [aC8,aC3 hlt];rfl);have ei:=DP (m:=xs.length) hlt om;have hq:=hx xs[i] (aDS hlt);have fX:=aCL xs[i] (aDS hlt);have hqt:=hfew xs[i] (aDS hlt);generalize xs[i]=q at *;have G0:=hG.next hq fX
   have hfw:=hG.few hm1 hq hqt;have p8:=(next_cf hG.inv q).trans XZ;have KP:s.k.length=nc:=by have:=hS.ok.len;rw [XZ] at this;omega
   have hn2:(Ko s q).k.length=nc:=by have:=G0.inv.ok.len;rw [p8] at this;omega
   have hn8:nc≤8:=by have:=hS.ok.len;have:=hS.ok.hi;omega
   have hn0:1≤nc:=by have:=hS.ok.len;have:=hS.ok.lo;omega
   refine ix (h0:=(by omega)) (h1:=(by omega)) ?_;refine Ia (vs:=q.cells) (ho.block hb AA) hpk ?_;refine al hs ?_;clear hs;intro b7 w3 Nz hs;refine AV hs ?_;clear hs;intro w4 hs;refine Ja ?_;have Ar:=hs.AD [] (by simp [k2]) sD;have Qc:=hS.only Ar;have h7:=hs.get (b:=b7) AX;have k4:=Ar.block k2 AA;have n72:b7≠b2:=A3 h7 k4 (by decide);refine cl (h:=by exact Qt sb s F _ Qc) ?_;rintro v w5 ⟨⟨G5,VQ,hG5⟩,BL⟩;have k7:=BL.block h7 AA;have k5:=BL.block k4 AA;have W9:=Qc.only BL;clear hs;have hs:=((St.nil w5).AF k5).AH k7 (by simp [n72]);refine Ja ?_;have Ao:=hs.AD [] (by simp [k7,k5]) sD;have KV:=W9.only Ao;have k7:=Ao.block k7 AA;have k6:=Ao.block k5 AA;refine cl (h:=by exact fR sb s F q hq _ KV hfw) ?_;rintro v w7 ⟨ve,rfl,T⟩;obtain ⟨F',kN,hF7⟩:=T.2.1;have n7:b7∉F:=KV.not k7 rfl;have n2:b2∉F:=KV.not k6 rfl;have k8:=T.2.2.block k7 (fun h=>n7 (List.mem_singleton.1 h ▸ KV.mem));have k9:=T.2.2.block k6 (fun h=>n2 (List.mem_singleton.1 h ▸ KV.mem));obtain ⟨tbs,rbs,vbs,Lbs,Gbs,-,O6⟩:=id KV;have jT:=VQ.keep Ao AA;have zM:=jT.keep T.2.2 (fun k hk hm=>by obtain rfl:=List.mem_singleton.1 hm;exact BQ jT O6.o (by decide) hk);obtain ⟨Ge,hE0⟩:=T.1;obtain ⟨ae,ce,rfl,hE⟩:=vW hE0;rw [aC0];have Yq:=vO hG.inv hfw;have hco:=oZ hG.inv q;have Tz:=fun {j:Nat} (hj:j < s.k.length)=>aK hG.inv hq hj;rw [KP] at hco Tz;have kN:C9 w7 sb (Ko s q) F':=kN;have kP:=((ho.trans Ar).trans (BL.trans Ao)).size
   have C0:∀ k∈F',w0.heap.size≤k:=fun k hk=>by
    rcases hF7 k hk with h | h
    ·exact hF k h
    ·omega
   have QB:AB [] w0 w7:=((ho.trans Ar).trans (BL.trans Ao)).step T.2.2 (fun k hk => .inr (by obtain rfl:=List.mem_singleton.1 hk;exact hF _ KV.mem));have hrl:=fun (j:Nat) (h:j < nc)=>RA (s:=s) (k:=j) om;have hrn:(s.k.map Cs.run).length=nc:=by rw [aC0,KP]
   clear T O6 hE0 VQ jT KV W9 Qc hS k4 k5 k6 k7 k2 n7 n2 h7 hF7;obtain ⟨s',Q6⟩:∃ z,z=Ko s q:=⟨_,rfl⟩;rw [← Q6] at G0 p8 hn2 kN;generalize (Dt s (CO s q)).1=EG at *;generalize JS s q=nid at *;generalize hed:(CO s q).1=er at *;obtain ⟨aw,cw,rfl,hW⟩:=WI zM;rw [aC0] at hW ⊢;rw [hrn];clear hs;have hs:=((St.nil w7).AF k9).AH k8 (by simp [n72]);refine Ja ?_;refine mkS hs (hb:=by omega) (hm:=by omega) ?_;clear hs;intro bs Uh yY hs;refine Ja ?_;have OX:=hs.get (b:=bs) AX;have gbs:=hs.new (bs,true) AA rfl;simp only at gbs;have FE:=hs.AD [] (by simp [k8,k9]) sD;have j7:=FE.block k8 AA;have j2:=FE.block k9 AA;rw [← nY] at OX;have ns7:b7≠bs:=A3 j7 OX (by decide);have ns2:b2≠bs:=A3 j2 OX (by decide)
   refine BM (fun (_:Unit)=>[(2,.pointer (some ⟨b2,0,none⟩)),(5,.pointer (some ⟨sb,0,none⟩)),(38,.slice (some ⟨b0,off,none⟩) xs.length cap),(39,.int .i64 (xs.length:Nat)),(40,.int .i64 (i:Nat)),(8,.pointer (some ⟨b7,0,none⟩)),(9,.slice aw nc cw),(12,.int .i64 er),(13,.slice (some ⟨bs,0,none⟩) nc nc)])
    (fun _ w'=>w'.heap[bs]?=some (.cells (HQ nc EG).toArray 22 (0,0))∧AB [bs] Uh w') ?_ ?_
   ·refine BH (fun (j:Nat)=>[(2,.pointer (some ⟨b2,0,none⟩)),(5,.pointer (some ⟨sb,0,none⟩)),(38,.slice (some ⟨b0,off,none⟩) xs.length cap),(39,.int .i64 (xs.length:Nat)),(40,.int .i64 (i:Nat)),(8,.pointer (some ⟨b7,0,none⟩)),(9,.slice aw nc cw),(12,.int .i64 er),(13,.slice (some ⟨bs,0,none⟩) nc nc),(56,.slice ae EG.length ce),(57,.int .i64 (EG.length:Nat)),(58,.int .i64 (j:Nat))])
     (fun j w'=>j≤EG.length∧w'.heap[bs]?=some (.cells (HQ nc (EG.take j)).toArray 22 (0,0))∧AB [bs] Uh w') (fun j=>EG.length - j) 0 Ad ⟨aC7 _,OX,AB.refl _ _⟩ fun j env wj ⟨hj,rZ,M9⟩=>?_
    clear hs;have hs:=(St.nil wj).AF rZ
    repeat' (first|refine Sa ?_|refine Aw rfl (fun hc=>?_) fun hc=>?_|fail)
    ·have hjl:j < EG.length:=by omega
     obtain ⟨be,ofe,cse,fze,rfl,_,rG,aCS⟩:=hE (fun h=>by have:=congrArg List.length h;rw [aC0,aDA] at this;omega);have hpe:=aCS j (Ev.cells EG[j]) (by rw [aC8,aC3 hjl];rfl);have ej:=DP (m:=EG.length) hjl om;have etk:=CH hjl;have ZZ:=hco _ (aDS hjl);have rG:=M9.block (FE.block rG AA) (by have:=A3 (FE.block rG AA) OX (by decide);simpa using this);generalize EG[j]=x at *;obtain ⟨xc,xi,xn,xd,xg⟩:=x;simp only at ZZ;obtain ⟨kx,rfl⟩:∃ k:Nat,xc=k:=⟨xc.toNat,by omega⟩;have kV:kx < nc:=by omega
     have aBw:(HQ nc (EG.take j))[0+((kx:Nat):Int).toNat*1]?=some (.int .u64 (IntKind.u64.wrap (CW (EG.take j) (kx:Nat)))):=by
      rw [show 0+((kx:Nat):Int).toNat*1=kx by omega];exact Lf kV _
     have hput:Ak (HQ nc (EG.take j)) (0+((kx:Nat):Int).toNat*1) [.int .u64 (IntKind.u64.wrap (IntKind.u64.wrap (CW (EG.take j) (kx:Nat))+xn))] (HQ nc (EG.take (j+1))):=by
      rw [show 0+((kx:Nat):Int).toNat*1=kx by omega,etk,← pH kV (EG.take j) ⟨(kx:Nat),xi,xn,xd,xg⟩ rfl];exact V3 (by rw [Nn];exact kV)
     refine ix (h0:=(by omega)) (h1:=(by omega)) ?_;refine Ia (vs:=Ev.cells ⟨(kx:Nat),xi,xn,xd,xg⟩) rG hpe ?_;refine al hs ?_;clear hs;intro b15 I6 yB hs;refine AV hs ?_;clear hs;intro J2 hs;refine Jb ?_;refine dr [9] hs ?_;intro hX w hs;refine tks 0 3 ?_;refine tk 3 hX (hr:=fun w' hH=>BA AJ rfl rfl rfl (show (0:Int)≤((kx:Nat):Int) by omega) (show ((kx:Nat):Int) < ((nc:Nat):Int) by omega)) ?_;refine tk 4 hX (hr:=fun w' hH=>r_load AJ rfl rfl (hH rfl) AX aBw) ?_;refine tks 5 3 ?_;refine tk 8 hX (hr:=fun w' hH=>BA AJ rfl rfl rfl (show (0:Int)≤((kx:Nat):Int) by omega) (show ((kx:Nat):Int) < ((nc:Nat):Int) by omega)) ?_;refine dt 9 hX ?_;refine st hs (hA:=by repeat (first | exact At.head | (with_reducible apply At.tail))) (hc:=hput) ?_;intro vX hs;refine Jn ?_;refine en ?_;refine Ja ?_;exact A2 (j+1) (by show EG.length - (j+1) < EG.length - j;omega) (by (repeat (first | exact Ag | (apply A8;first | exact rfl | exact congrArg (Value.int .i64) ej)))) ⟨by show j+1≤_;omega,hs.get (b:=bs) AX,M9.step (hs.AD [bs] (by simp [rZ]) sD) (fun k hk => .inl hk)⟩
    ·obtain rfl:j=EG.length:=by omega
     rw [aDK] at rZ;exact Au () Ad ⟨rZ,M9⟩
   ·rintro _ env Za ⟨aBI,GC⟩;have j7':=GC.block j7 (by simpa using ns7);have j2':=GC.block j2 (by simpa using ns2);have aBo:=(zM.keep FE AA).keep GC (fun k hk hm=>by obtain rfl:=List.mem_singleton.1 hm;exact BQ (zM.keep FE AA) OX (by decide) hk);obtain ⟨_,_,e9,hW⟩:=WI aBo;cases e9;have qH:C9 Za sb s' F':=(kN.only FE).Ai GC (fun k hk hm=>by obtain rfl:=List.mem_singleton.1 hm;exact (kN.only FE).not OX rfl hk);have aCW:=FE.size;have hzT:=QB.size;have aBQ:w0.heap.size≤bs:=by omega
    have Bd:AB [] w0 Za:=(QB.trans FE).step GC (fun k hk => .inr (by obtain rfl:=List.mem_singleton.1 hk;exact aBQ));clear hs;have hs:=St.nil Za;refine Ja ?_;have Bl:=hs.AE rfl;refine cl (h:=by exact Qt sb s' F' _ (qH.only Bl)) ?_;rintro v I6 ⟨⟨G12,aB2,aCg⟩,J8⟩;obtain ⟨ar,cr,rfl,hV⟩:=WI aB2;rw [aC0] at hV ⊢;have aBz:(s'.k.map Cs.run).length=nc:=by rw [aC0,hn2]
    rw [aBz];have Hp:=Bl.trans J8;have TQ:=qH.only Hp;clear hs;have hs:=St.nil I6;refine Jc ?_;refine BM (fun (_:Unit)=>[(2,.pointer (some ⟨b2,0,none⟩)),(5,.pointer (some ⟨sb,0,none⟩)),(38,.slice (some ⟨b0,off,none⟩) xs.length cap),(39,.int .i64 (xs.length:Nat)),(40,.int .i64 (i:Nat))]) (fun _ w'=>AB [] I6 w') ?_ ?_
    ·refine BH (fun (k:Nat)=>[(2,.pointer (some ⟨b2,0,none⟩)),(5,.pointer (some ⟨sb,0,none⟩)),(38,.slice (some ⟨b0,off,none⟩) xs.length cap),(39,.int .i64 (xs.length:Nat)),(40,.int .i64 (i:Nat)),(8,.pointer (some ⟨b7,0,none⟩)),(9,.slice aw nc cw),(12,.int .i64 er),(13,.slice (some ⟨bs,0,none⟩) nc nc),(73,.slice ar nc cr),(74,.int .i64 (nc:Nat)),(75,.int .i64 (k:Nat))])
      (fun k w'=>k≤nc∧AB [] I6 w') (fun k=>nc - k) 0 Ad ⟨aC7 _,hs.AE rfl⟩ fun k env wk ⟨hk,hok⟩=>?_
     clear hs;have hs:=St.nil wk
     repeat' (first|refine Sa ?_|refine Aw rfl (fun hc=>?_) fun hc=>?_|fail)
     ·have GZ:k < nc:=by omega
      have ek:=DP (m:=nc) GZ om;have hl2:k < (s'.k.map Cs.run).length:=by omega
      have KU:k < (s.k.map Cs.run).length:=by omega
      obtain ⟨br,qZ,csr,fzr,rfl,_,hbr,aCF⟩:=hV (fun h=>by have:=congrArg List.length h;rw [aC0,aDA] at this;omega);have xB:=aCF k (Jq (AK s' k).run) (by rw [aC8,aC3 hl2,RA (s:=s') (k:=k) om];rfl);obtain ⟨bw,qU,csw,fzw,rfl,_,Bv,aBt⟩:=hW (fun h=>by have:=congrArg List.length h;rw [aC0,aDA] at this;omega);have hpw:=aBt k (Jq (AK s k).run) (by rw [aC8,aC3 KU,RA (s:=s) (k:=k) om];rfl);obtain ⟨u1,u2,u3⟩:=tD G0.inv (k:=k) om;have aA6:=Tz GZ;refine ix (h0:=(by omega)) (h1:=(by omega)) ?_;have epr:csr[qZ+k*1]?=some (.int .i64 (AK s' k).run):=by cases xB;assumption
      have gN:csw[qU+k*1]?=some (.int .i64 (AK s k).run):=by cases hpw;assumption
      refine lh (cs:=csr) (hok.block hbr AA) epr ?_;refine Ja ?_
      have hrI:In64 (AK s' k).run:=by
       obtain ⟨_,_,_,_,_,_,hO⟩:=TQ;obtain ⟨e,_,hC,hce⟩:=hO.c.at (i:=k) om;have:AK s' k=e.c:=hce.symm;rw [this];obtain ⟨_,_,_,_,_,_,hr⟩:=hC;exact hr
      generalize Us:(AK s' k).run=r at *;refine bX ?_;intro mb Mm E3 xO hmb;have hoM:=hs.AE rfl;have hSk:=TQ.only (hok.trans hoM);have CT:=(hok.trans (hs.AE rfl)).trans E3;have xF:=TQ.only CT;obtain ⟨tb,rb,vb,Lb,Gb,eF,OB⟩:=id xF;have ks:=OB.o;have nms:sb≠mb:=xO.ne ks;clear hs;have hs:=(St.nil Mm).AF ks;refine Ja ?_;have xD:=hs.AD [] (by simp [ks]) sD;refine cl (h:=by exact fV tb rb s'.t _ (OB.t.only xD)) ?_;rintro v w23 ⟨⟨G23,aBF,aCq⟩,aB4⟩;obtain ⟨at3,ct3,rfl,hD3⟩:=aAh aBF;rw [aC0] at hD3 ⊢;have TJ:=xD.trans aB4;have Vy:=xO.keep TJ AA;have nW:(A6 s'.t).length≤32:=aC9 (aD6 _ _) G0.inv.ok.tl;have hrow:∀ z∈A6 s'.t,CP s'.cf.cores z:=fun z hz=>G0.inv.ok.TZ hz;clear hs;have hs:=St.nil w23;refine Jc ?_
      refine BM (fun (_:Int→Option Value)=>[(2,.pointer (some ⟨b2,0,none⟩)),(5,.pointer (some ⟨sb,0,none⟩)),(38,.slice (some ⟨b0,off,none⟩) xs.length cap),(39,.int .i64 (xs.length:Nat)),(40,.int .i64 (i:Nat)),(8,.pointer (some ⟨b7,0,none⟩)),(9,.slice (some ⟨bw,qU,none⟩) nc cw),(12,.int .i64 er),(13,.slice (some ⟨bs,0,none⟩) nc nc),(73,.slice (some ⟨br,qZ,none⟩) nc cr),(74,.int .i64 (nc:Nat)),(75,.int .i64 (k:Nat)),(16,.int .i64 (k:Nat)),(17,.int .i64 r),(18,.map (some mb))])
       (fun f w'=>(∃ c,GO w' mb f c)∧WS f (fun st=>FU (k:Nat) st (A6 s'.t))∧AB [mb] w23 w') ?_ ?_
      ·refine BH (fun (x:Nat × (Int→Option Value) × Nat)=>[(2,.pointer (some ⟨b2,0,none⟩)),(5,.pointer (some ⟨sb,0,none⟩)),(38,.slice (some ⟨b0,off,none⟩) xs.length cap),(39,.int .i64 (xs.length:Nat)),(40,.int .i64 (i:Nat)),(8,.pointer (some ⟨b7,0,none⟩)),(9,.slice (some ⟨bw,qU,none⟩) nc cw),(12,.int .i64 er),(13,.slice (some ⟨bs,0,none⟩) nc nc),(73,.slice (some ⟨br,qZ,none⟩) nc cr),(74,.int .i64 (nc:Nat)),(75,.int .i64 (k:Nat)),(16,.int .i64 (k:Nat)),(17,.int .i64 r),(18,.map (some mb)),(85,.slice at3 (A6 s'.t).length ct3),(86,.int .i64 ((A6 s'.t).length:Nat)),(87,.int .i64 (x.1:Nat))])
        (fun x w'=>x.1≤(A6 s'.t).length∧GO w' mb x.2.1 x.2.2∧x.2.2≤x.1∧WS x.2.1 (fun st=>FU (k:Nat) st ((A6 s'.t).take x.1))∧AB [mb] w23 w') (fun x=>(A6 s'.t).length - x.1) (0,(fun _=>none),0) Ad ⟨aC7 _,Vy.keep (hs.AE rfl) AA,aC5 _,fun st=>rfl,(hs.AE rfl).weaken AA⟩ fun x env wt ⟨hj,lC,hcj,Z0,M9⟩=>?_
       obtain ⟨j,f,cn⟩:=x;simp only at hj lC hcj Z0;clear hs;have hs:=St.nil wt
       repeat' (first|refine Sa ?_|refine Aw rfl (fun hc=>?_) fun hc=>?_|fail)
       ·have hjl:j < (A6 s'.t).length:=by omega
        obtain ⟨bt,aCY,cst,fzt,rfl,_,Dq,aCI⟩:=hD3 (fun h=>by have:=congrArg List.length h;rw [aC0,aDA] at this;omega);have hpt:=aCI j (Tk.cells (A6 s'.t)[j]) (by rw [aC8,aC3 hjl];rfl);have ej:=DP (m:=(A6 s'.t).length) hjl om;have hzr:=hrow _ (aDS hjl);have Kh:∀ st,FU (k:Nat) st ((A6 s'.t).take (j+1))=FU (k:Nat) st ((A6 s'.t).take j)+if (A6 s'.t)[j].core=(k:Nat)∧(A6 s'.t)[j].st=st then 1 else 0:=fun st=>by rw [CH hjl];exact fJ _ _ _ _
        have hle:=fun st=>aC9 (tT (k:Nat) st ((A6 s'.t).take j)) (by rw [aDg];exact Nat.min_le_left j _);have nbt:bt≠mb:=Vy.ne Dq;generalize (A6 s'.t)[j]=z at *;refine ix (h0:=(by omega)) (h1:=(by omega)) ?_;refine Ia (vs:=z.cells) (M9.block Dq (by simpa using nbt)) hpt ?_;refine al hs ?_;clear hs;intro b20 w31 aCp hs;refine AV hs ?_;clear hs;intro w32 hs
        repeat' (first|refine Sa ?_|refine Aw rfl (fun hc=>?_) fun hc=>?_|fail)
        ·have ec:z.core=(k:Nat):=by simpa using hc
         have aBn:=hs.AE rfl;refine NY (lC.keep aBn AA) hzr.2.1 N0 Mr ?_;rw [Z0];have ec1:=DP (i:=FU (k:Nat) z.st ((A6 s'.t).take j)) (m:=100) (by have:=hle z.st;omega) om;refine Jf ?_;rw [ec1];refine dH (lC.keep (hs.AE rfl) AA) hzr.2.1 (by show cn < 9223372036854775807;omega) (e:=3) Mr (k:=?_);intro w34 aBN aBY;have aBx:=(M9.step (hs.AE rfl) AA).step aBY (fun k hk => .inl hk);clear hs;have hs:=St.nil w34;refine Ja ?_;have Sk:=hs.AE rfl;exact A2 (j+1,F4 f z.st (some (.int .i64 ((FU (k:Nat) z.st ((A6 s'.t).take j)+1:Nat):Int))),_) (by show (A6 s'.t).length - (j+1) < (A6 s'.t).length - j;omega) (by (repeat (first | exact Ag | (apply A8;first | exact rfl | exact congrArg (Value.int .i64) ej)))) ⟨by show j+1≤_;omega,aBN.keep Sk AA,by show (if (f z.st).isSome then cn else cn+1)≤j+1;split <;> omega,Z0.put (by show _=((FU (k:Nat) z.st ((A6 s'.t).take (j+1)):Nat):Int);rw [Kh,if_pos ⟨ec,rfl⟩]) (fun st hst=>by show FU (k:Nat) st ((A6 s'.t).take (j+1))=_;rw [Kh,if_neg (fun e=>hst e.2.symm)];rfl),aBx.step Sk AA⟩
        ·have ec:¬ z.core=(k:Nat):=by simpa using hc
         have Sk:=hs.AE rfl;exact A2 (j+1,f,cn) (by show (A6 s'.t).length - (j+1) < (A6 s'.t).length - j;omega) (by (repeat (first | exact Ag | (apply A8;first | exact rfl | exact congrArg (Value.int .i64) ej)))) ⟨by show j+1≤_;omega,lC.keep Sk AA,by show cn≤j+1;omega,fun st=>by show _=Value.int .i64 ((FU (k:Nat) st ((A6 s'.t).take (j+1)):Nat):Int);rw [Kh,if_neg (fun e=>ec e.1)];exact Z0 st,M9.step Sk AA⟩
       ·obtain rfl:j=(A6 s'.t).length:=by omega
        rw [aDK] at Z0;exact Au f Ad ⟨⟨_,lC⟩,Z0,M9⟩
      ·rintro f env w30 ⟨⟨cn,aBZ⟩,hnf,VW⟩;have aA7:C9 w30 sb s' F':=(xF.only TJ).Ai VW (fun x hx hm=>by obtain rfl:=List.mem_singleton.1 hm;have:=hSk.lt _ hx;omega);obtain ⟨iZ,gL,vb3,Lb3,Gb3,-,O30⟩:=id aA7;have ks3:=O30.o;have pE:∀ st,(f st).getD (.int .i64 0) = .int .i64 ((FU (k:Nat) st (A6 s'.t):Nat):Int):=hnf;clear hs;have hs:=(St.nil w30).AF ks3;refine Jb ?_;refine Aq ?_;refine Jf ?_;have aBy:=hs.AD [] (by simp [ks3]) sD;refine cl (h:=by exact OM iZ gL s'.t r _ (O30.t.only aBy) hrI) ?_;rintro v w37 ⟨rfl,aA3⟩;replace hs:=hs.AP aA3;generalize Ay s'.t r=y at *;generalize Df (BK s'.t r)=ey at *;refine vs ?_;refine vs ?_;refine vs ?_;refine al hs ?_;clear hs;intro b21 w38 aCh hs;refine AV hs ?_;clear hs;intro w39 hs;refine vs ?_;have yO:=hs.AD [] (by simp [ks3]) sD;have Z9:=hs.get (b:=b21) AX;have nU:=aBZ.keep yO AA;refine XS.nil ?_;refine Dw ?_;refine Ah ?_;refine B9 (fun (_:Unit)=>[(2,.pointer (some ⟨b2,0,none⟩)),(5,.pointer (some ⟨sb,0,none⟩)),(38,.slice (some ⟨b0,off,none⟩) xs.length cap),(39,.int .i64 (xs.length:Nat)),(40,.int .i64 (i:Nat)),(8,.pointer (some ⟨b7,0,none⟩)),(9,.slice (some ⟨bw,qU,none⟩) nc cw),(12,.int .i64 er),(13,.slice (some ⟨bs,0,none⟩) nc nc),(73,.slice (some ⟨br,qZ,none⟩) nc cr),(74,.int .i64 (nc:Nat)),(75,.int .i64 (k:Nat)),(16,.int .i64 (k:Nat))]) (fun _ w'=>AB [] w39 w') ?_ ?_
       ·clear hs;have hs:=(St.nil w39).AF Z9;refine Ah ?_;refine Aq ?_;by_cases Hj:r=0
        ·subst Hj
         have c1:FU (k:Nat) 1 (A6 s'.t)=0:=by
          rcases aD2 (FU (k:Nat) 1 (A6 s'.t)) with h | h
          ·exact h
          ·obtain ⟨z,z1,z2,z3⟩:=Qr.1 h;exact absurd rfl (u1.2 ⟨z,z1,z2,z3⟩)
         have c2:FU (k:Nat) 2 (A6 s'.t)=0:=by
          rcases aD2 (FU (k:Nat) 2 (A6 s'.t)) with h | h
          ·exact h
          ·obtain ⟨z,z1,z2,z3⟩:=Qr.1 h;have:=u3 rfl z z1 z2;rw [LS.2 (.inr z3)] at this;cases this
         refine vs ?_;refine vs ?_;refine vs ?_;refine NY (nU.keep (hs.AD [] (by simp [Z9]) sD) AA) (i:=1) (by unfold UB;decide) N0 Mr (k:=?_);rw [pE,c1]
         repeat' (first|refine vs ?_|refine ps ?_|fail)
         refine NY (nU.keep (hs.AD [] (by simp [Z9]) sD) AA) (i:=2) (by unfold UB;decide) N0 Mr (k:=?_);rw [pE,c2];refine Jl ?_;exact AQ () Ad (hs.AD [] (by simp [Z9]) sD)
        ·obtain ⟨z,z1,z2,z3⟩:=u1.1 Hj;have c1:0 < FU (k:Nat) 1 (A6 s'.t):=Qr.2 ⟨z,z1,z2,z3⟩;obtain ⟨v1,v2,v3,-⟩:=u2 Hj;subst v1;obtain ⟨yi,yst,yc,yw,ys,yl⟩:=y;simp only at v2 v3;subst v2 v3;refine vs ?_;refine vs ?_;refine K2 111 (v := .bool true) (congrArg Value.bool (by simpa using Hj)) ?_;refine vs ?_;refine NY (nU.keep (hs.AD [] (by simp [Z9]) sD) AA) (i:=1) (by unfold UB;decide) N0 Mr (k:=?_);rw [pE];refine vs ?_;refine K2 114 (v := .bool true) (congrArg Value.bool (decide_eq_true om)) ?_;refine vs ?_;refine vs ?_;refine vs ?_;refine vs ?_;refine K2 118 (v := .bool true) (congrArg Value.bool (by simpa using Hj)) ?_
         iterate 13 refine vs ?_
         refine K2 131 (v := .bool false) (congrArg Value.bool AA) ?_
         iterate 6 refine vs ?_
         refine K2 137 (v := .bool false) (congrArg Value.bool (by simpa using Hj)) ?_
         repeat' (first|refine vs ?_|refine ps ?_|refine Nx.h ?_|refine Eb ?_|fail)
         exact AQ () Ad (hs.AD [] (by simp [Z9]) sD)
       ·rintro _ env w40 ho40;have f7a:=(Hp.trans (CT.trans TJ)).block j7' AA;have fsa:=(Hp.trans (CT.trans TJ)).block aBI AA;have fwa:=(Hp.trans (CT.trans TJ)).block Bv AA;have EB:=yO.trans ho40;have f7:=EB.block (VW.block f7a (by simpa using Vy.ne f7a)) AA;have fs:=EB.block (VW.block fsa (by simpa using Vy.ne fsa)) AA;have fw:=EB.block (VW.block fwa (by simpa using Vy.ne fwa)) AA;have hzk:=hok.size;have jA:AB [] I6 w40:=((CT.trans TJ).step VW (fun x hx => .inr (by obtain rfl:=List.mem_singleton.1 hx;have:=(hok.trans hoM).size;omega))).trans EB;clear hs;have hs:=(((St.nil w40).AF f7).AF fs).AF fw;have kW:=Lf GZ EG;rw [aA6] at kW;refine Jb ?_;refine dr [] hs ?_;intro hX w hs;by_cases he:er=0
        ·subst he;refine tks 0 5 ?_;refine tk 5 hX (v := .int .u8 (q.d % 12)) (hr:=fun w' hH=>by rw [Lx (by decide) rfl rfl,aDv hq.1.1]) ?_;by_cases UP:9 < q.d % 12
         ·by_cases hw0:(AK s k).run=0
          ·rw [hw0] at gN;have VZ:(HQ nc EG)[0+k*1]?=some (.int .u64 0):=by rw [show 0+k*1=k by omega,kW,if_neg (fun h=>h.2.2 hw0)];rfl
           refine tk 6 hX ?_;refine E4 150 (v := .bool true) (congrArg Value.bool (by simpa using UP)) ?_;refine tks 7 4 ?_;refine tk 11 hX (hr:=fun w' hH=>BA AJ rfl rfl rfl (show (0:Int)≤((k:Nat):Int) by omega) (show ((k:Nat):Int) < ((nc:Nat):Int) by omega)) ?_;refine tk 12 hX (hr:=fun w' hH=>r_load AJ rfl rfl (hH rfl) AX gN) ?_;refine tks 13 2 ?_;refine pt 15 hX ?_;refine pt 16 hX ?_;refine pt 17 hX ?_;refine pt 18 hX ?_;refine pt 19 hX ?_;refine pt 20 hX ?_;refine pt 21 hX ?_;refine tks 22 4 ?_;refine tk 26 hX (hr:=fun w' hH=>BA AJ rfl rfl rfl (show (0:Int)≤((k:Nat):Int) by omega) (show ((k:Nat):Int) < ((nc:Nat):Int) by omega)) ?_;refine tk 27 hX (hr:=fun w' hH=>r_load AJ rfl rfl (hH rfl) AX gN) ?_;refine tks 28 4 ?_;refine tk 32 hX (hr:=fun w' hH=>BA AJ rfl rfl rfl (show (0:Int)≤((k:Nat):Int) by omega) (show ((k:Nat):Int) < ((nc:Nat):Int) by omega)) ?_;refine tk 33 hX (hr:=fun w' hH=>r_load AJ rfl rfl (hH rfl) AX VZ) ?_;refine tks 34 7 ?_;refine tk 41 hX (v := .int .u8 (q.d % 12)) (hr:=fun w' hH=>by rw [Lx (by decide) rfl rfl,aDv hq.1.1]) ?_;refine tk 42 hX ?_;refine E4 186 (v := .bool false) (congrArg Value.bool (decide_eq_false om)) ?_;refine tk 43 hX ?_;refine pt 44 hX ?_;refine pt 45 hX ?_;refine pt 46 hX ?_;refine pt 47 hX ?_;refine pt 48 hX ?_;refine tks 49 2 ?_;refine en ?_;refine Jd ?_;exact A2 (k+1) (by show nc - (k+1) < nc - k;omega) (by (repeat (first | exact Ag | (apply A8;first | exact rfl | exact congrArg (Value.int .i64) ek)))) ⟨by show k+1≤_;omega,jA.trans (hs.AD [] (by simp [f7,fs,fw]) sD)⟩
          ·have VZ:(HQ nc EG)[0+k*1]?=some (.int .u64 q.ns):=by rw [show 0+k*1=k by omega,kW,if_pos ⟨rfl,UP,hw0⟩,gT hq.2.2.2.2]
           generalize (AK s k).run=rw0 at *;refine tk 6 hX ?_;refine E4 150 (v := .bool true) (congrArg Value.bool (by simpa using UP)) ?_;refine tks 7 4 ?_;refine tk 11 hX (hr:=fun w' hH=>BA AJ rfl rfl rfl (show (0:Int)≤((k:Nat):Int) by omega) (show ((k:Nat):Int) < ((nc:Nat):Int) by omega)) ?_;refine tk 12 hX (hr:=fun w' hH=>r_load AJ rfl rfl (hH rfl) AX gN) ?_;refine tk 13 hX ?_;refine E4 157 (v := .bool true) (congrArg Value.bool (by simpa using hw0)) ?_;refine tks 14 3 ?_;refine tk 17 hX (hr:=fun w' hH=>BA AJ rfl rfl rfl (show (0:Int)≤((k:Nat):Int) by omega) (show ((k:Nat):Int) < ((nc:Nat):Int) by omega)) ?_;refine tk 18 hX (hr:=fun w' hH=>r_load AJ rfl rfl (hH rfl) AX VZ) ?_;refine tks 19 3 ?_;refine E4 165 (v := .bool false) (congrArg Value.bool AA) ?_;refine tks 22 4 ?_;refine tk 26 hX (hr:=fun w' hH=>BA AJ rfl rfl rfl (show (0:Int)≤((k:Nat):Int) by omega) (show ((k:Nat):Int) < ((nc:Nat):Int) by omega)) ?_;refine tk 27 hX (hr:=fun w' hH=>r_load AJ rfl rfl (hH rfl) AX gN) ?_;refine tk 28 hX ?_;refine E4 172 (v := .bool false) (congrArg Value.bool (by simpa using hw0)) ?_;refine tk 29 hX ?_;refine pt 30 hX ?_;refine pt 31 hX ?_;refine pt 32 hX ?_;refine pt 33 hX ?_;refine pt 34 hX ?_;refine tks 35 6 ?_;refine tk 41 hX (v := .int .u8 (q.d % 12)) (hr:=fun w' hH=>by rw [Lx (by decide) rfl rfl,aDv hq.1.1]) ?_;refine tk 42 hX ?_;refine E4 186 (v := .bool false) (congrArg Value.bool (decide_eq_false om)) ?_;refine tk 43 hX ?_;refine pt 44 hX ?_;refine pt 45 hX ?_;refine pt 46 hX ?_;refine pt 47 hX ?_;refine pt 48 hX ?_;refine tks 49 2 ?_;refine en ?_;refine Jd ?_;exact A2 (k+1) (by show nc - (k+1) < nc - k;omega) (by (repeat (first | exact Ag | (apply A8;first | exact rfl | exact congrArg (Value.int .i64) ek)))) ⟨by show k+1≤_;omega,jA.trans (hs.AD [] (by simp [f7,fs,fw]) sD)⟩
         ·have VZ:(HQ nc EG)[0+k*1]?=some (.int .u64 0):=by rw [show 0+k*1=k by omega,kW,if_neg (fun h=>UP h.2.1)];rfl
          refine tk 6 hX ?_;refine E4 150 (v := .bool false) (congrArg Value.bool (by simpa using UP)) ?_;refine tks 7 2 ?_;refine pt 9 hX ?_;refine pt 10 hX ?_;refine pt 11 hX ?_;refine pt 12 hX ?_;refine pt 13 hX ?_;refine pt 14 hX ?_;refine pt 15 hX ?_;refine pt 16 hX ?_;refine pt 17 hX ?_;refine pt 18 hX ?_;refine pt 19 hX ?_;refine pt 20 hX ?_;refine pt 21 hX ?_;refine pt 22 hX ?_;refine pt 23 hX ?_;refine pt 24 hX ?_;refine pt 25 hX ?_;refine pt 26 hX ?_;refine pt 27 hX ?_;refine pt 28 hX ?_;refine pt 29 hX ?_;refine pt 30 hX ?_;refine pt 31 hX ?_;refine pt 32 hX ?_;refine pt 33 hX ?_;refine pt 34 hX ?_;refine pt 35 hX ?_;refine pt 36 hX ?_;refine tks 37 4 ?_;refine tk 41 hX (v := .int .u8 (q.d % 12)) (hr:=fun w' hH=>by rw [Lx (by decide) rfl rfl,aDv hq.1.1]) ?_;refine tk 42 hX ?_;refine E4 186 (v := .bool true) (congrArg Value.bool (decide_eq_true om)) ?_;refine tks 43 3 ?_;refine tk 46 hX (hr:=fun w' hH=>BA AJ rfl rfl rfl (show (0:Int)≤((k:Nat):Int) by omega) (show ((k:Nat):Int) < ((nc:Nat):Int) by omega)) ?_;refine tk 47 hX (hr:=fun w' hH=>r_load AJ rfl rfl (hH rfl) AX VZ) ?_;refine tks 48 3 ?_;refine en ?_;refine Jd ?_;exact A2 (k+1) (by show nc - (k+1) < nc - k;omega) (by (repeat (first | exact Ag | (apply A8;first | exact rfl | exact congrArg (Value.int .i64) ek)))) ⟨by show k+1≤_;omega,jA.trans (hs.AD [] (by simp [f7,fs,fw]) sD)⟩
        ·have VZ:(HQ nc EG)[0+k*1]?=some (.int .u64 0):=by rw [show 0+k*1=k by omega,kW,if_neg (fun h=>he h.1)];rfl
         refine tks 0 2 ?_;refine E4 145 (v := .bool false) (congrArg Value.bool (by simpa using he)) ?_;refine tk 2 hX ?_;refine pt 3 hX ?_;refine pt 4 hX ?_;refine pt 5 hX ?_;refine pt 6 hX ?_;refine tks 7 2 ?_;refine pt 9 hX ?_;refine pt 10 hX ?_;refine pt 11 hX ?_;refine pt 12 hX ?_;refine pt 13 hX ?_;refine pt 14 hX ?_;refine pt 15 hX ?_;refine pt 16 hX ?_;refine pt 17 hX ?_;refine pt 18 hX ?_;refine pt 19 hX ?_;refine pt 20 hX ?_;refine pt 21 hX ?_;refine pt 22 hX ?_;refine pt 23 hX ?_;refine pt 24 hX ?_;refine pt 25 hX ?_;refine pt 26 hX ?_;refine pt 27 hX ?_;refine pt 28 hX ?_;refine pt 29 hX ?_;refine pt 30 hX ?_;refine pt 31 hX ?_;refine pt 32 hX ?_;refine pt 33 hX ?_;refine pt 34 hX ?_;refine pt 35 hX ?_;refine pt 36 hX ?_;refine tks 37 4 ?_;refine tk 41 hX (v := .int .u8 (q.d % 12)) (hr:=fun w' hH=>by rw [Lx (by decide) rfl rfl,aDv hq.1.1]) ?_;refine tk 42 hX ?_;by_cases UP:q.d % 12 < 10
         ·refine E4 186 (v := .bool true) (congrArg Value.bool (decide_eq_true UP)) ?_;refine tks 43 3 ?_;refine tk 46 hX (hr:=fun w' hH=>BA AJ rfl rfl rfl (show (0:Int)≤((k:Nat):Int) by omega) (show ((k:Nat):Int) < ((nc:Nat):Int) by omega)) ?_;refine tk 47 hX (hr:=fun w' hH=>r_load AJ rfl rfl (hH rfl) AX VZ) ?_;refine tks 48 3 ?_;refine en ?_;refine Jd ?_;exact A2 (k+1) (by show nc - (k+1) < nc - k;omega) (by (repeat (first | exact Ag | (apply A8;first | exact rfl | exact congrArg (Value.int .i64) ek)))) ⟨by show k+1≤_;omega,jA.trans (hs.AD [] (by simp [f7,fs,fw]) sD)⟩
         ·refine E4 186 (v := .bool false) (congrArg Value.bool (decide_eq_false UP)) ?_;refine tk 43 hX ?_;refine pt 44 hX ?_;refine pt 45 hX ?_;refine pt 46 hX ?_;refine pt 47 hX ?_;refine pt 48 hX ?_;refine tks 49 2 ?_;refine en ?_;refine Jd ?_;exact A2 (k+1) (by show nc - (k+1) < nc - k;omega) (by (repeat (first | exact Ag | (apply A8;first | exact rfl | exact congrArg (Value.int .i64) ek)))) ⟨by show k+1≤_;omega,jA.trans (hs.AD [] (by simp [f7,fs,fw]) sD)⟩
     ·exact Au () Ad hok
    ·rintro _ env w99 ho99;clear hs;have hs:=St.nil w99;refine Ja ?_;have hoR:=hs.AE rfl;have Sk:=(Hp.trans ho99).trans hoR;exact A2 (i+1,s',F') (by show xs.length - (i+1) < xs.length - i;omega) (by (repeat (first | exact Ag | (apply A8;first | exact rfl | exact congrArg (Value.int .i64) ei)))) ⟨by show i+1≤_;omega,G0,p8,qH.only Sk,C0,Sk.block j2' AA,Bd.trans Sk⟩
  ·exact Au () Ad ho
 ·rintro _ env w ho;clear hs;have hs:=St.nil w;refine Ja ?_;refine AG ?_;exact ⟨rfl,ho.trans (hs.AE rfl)⟩
end Go.Proofs.Q0
