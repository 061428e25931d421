/- A part of the proof: what its functions compute. -/
import Derived.Test.YtjiiakjheghcoaaGreatDoorFd7
set_option linter.unusedVariables false
set_option linter.unusedSimpArgs false
set_option maxRecDepth 100000
set_option maxHeartbeats 64000000
set_option linter.unusedSectionVars false
namespace Go.Proofs.Q0
open Go Go.RowKit Tryz
attribute [local irreducible] XS XC XA AY AR A9 A1 A0 Aa Ae AW SE
theorem cP (b2 b3:Nat) (c:Cs) (id q:Int) (wb w0:World) (hid:In64 id) (hq:Fb q) (B2:w0.heap[b2]?=some (.cells #[.int .i64 id] 3 (0,0))) (B3:w0.heap[b3]?=some (.cells #[.int .u32 q] 49 (0,0))) :
 OK wb w0 110 [.pointer (some ⟨b2,0,none⟩),.pointer (some ⟨b3,0,none⟩)] [] (fun _=>True) c (Bp c id q).1 (Bp c id q).2 .none:=by
 intro cb rb F hC hR ZL hrb;have FB:=hC;have Mg:=hR;obtain ⟨sb,Fs,rfl,h1,hS,h3,h4⟩:=hC;obtain ⟨qb,mb,m,tb,QK,cq,g1,g2,gin,gQ,gpl,gm,_,_⟩:=hS.Gk;obtain ⟨x,bs,ex,eb,NK,hcs⟩:=S8 c.A.l id;generalize hJ:Bp c id q=J;have hs:=(((((St.nil w0).AF h1).AF g1).AF g2).AF B2).AF B3;refine AS func110 ntmps110 ?_;refine Ja ?_;refine dr [] hs ?_;intro hX w hs;refine tks 0 5 ?_;refine Gq 9 7 hs ?_;intro f X w hp;have hs:=hp.st;apply BI 5 9 (f:=f) (X:=X) hX hp;exact rfl;exact rfl;(apply AT AJ;exact rfl);kernel_rfl;kernel_rfl;kernel_rfl;kernel_rfl;(intro X Y;(repeat (first | exact A4 | refine A5 ?_ (by exact rfl))));(intro w' hs;first|exact AI hs.hold|exact AI hs.hold.tail|exact Ab rfl);intro f X w hp;have hs:=hp.st;have ho:=hs.AD [] (by simp [h1,g1,g2,B2,B3]) sD;refine cl (h:=by exact J7 sb c.A Fs id _ (hS.only ho) hid) ?_;rw [ex,eb];rintro v w' ⟨rfl,ho⟩;replace hp:=hp.only ho;replace hs:=hp.st;refine Jn ?_;refine tk 6 hX (hc:=by cases f <;> kernel_rfl) (k:=?_);refine tk 7 hX (hc:=by cases f <;> kernel_rfl) (k:=?_);refine tk 8 hX (hc:=by cases f <;> kernel_rfl) (k:=?_);apply Bb 9 (f:=f) (X:=X) hX hp;exact rfl;(apply AT AJ;exact rfl);kernel_rfl;kernel_rfl;(intro X Y;(repeat (first | exact A4 | refine A5 ?_ (by exact rfl))));(intro w' hs;first|exact AI hs.hold|exact AI hs.hold.tail|exact Ab rfl);intro b w hI hs;refine dt 10 hX ?_
 repeat' (first|refine Nx.h ?_|(refine AV hs ?_;intro w hs)|fail)
 refine dn ?_;refine tk 11 hX ?_;refine en ?_;refine Ja ?_;refine cl (h:=by exact Pw q _) ?_;cases c2:Eo q
 ·rintro v w' ⟨rfl,ho⟩;replace hs:=hs.AP ho;refine Je ?_;refine AG ?_;exact HA (n:=2) (by rw [← hJ];unfold Bp;rw [if_pos c2]) (by decide) trivial (hs.AD [] (by simp [h1,g1,g2,B2,B3]) sD)
 rcases hcs with ⟨hb,e⟩ | ⟨a,hb,e,hx⟩
 ·subst hb
  rintro v w' ⟨rfl,ho⟩;replace hs:=hs.AP ho;repeat' (first|refine vs ?_|refine Aq ?_|refine Nx.h ?_|refine FP ?_|refine Eb ?_|fail)
  refine AG ?_;exact HA (n:=14) (by rw [← hJ];unfold Bp;rw [if_neg (by rw [c2];decide),e]) (by decide) trivial (hs.AD [] (by simp [h1,g1,g2,B2,B3]) sD)
 subst hb
 have eJ:J=Mh c id ((Ga m x.i.p q).bind fun p=>JV x p):=by
  rw [← hJ];unfold Bp;rw [if_neg (by rw [c2];decide),e,hx,gm (List.ne_nil_of_mem (Bu e).1)];rfl
 rintro v w' ⟨rfl,ho⟩;replace hs:=hs.AP ho;refine Jd ?_;refine dr [] hs ?_;intro hX w hs;refine tks 0 14 ?_;refine Gq 18 9 hs ?_;intro f X w hp;have hs:=hp.st;apply BI 14 18 (f:=f) (X:=X) hX hp;exact rfl;exact rfl;(apply AT AJ;exact rfl);kernel_rfl;kernel_rfl;kernel_rfl;kernel_rfl;(intro X Y;(repeat (first | exact A4 | refine A5 ?_ (by exact rfl))));(intro w' hs;first|exact AI hs.hold|exact AI hs.hold.tail|exact Ab rfl);intro f X w hp;have hs:=hp.st;refine cl (h:=by exact UD m x.i.p q gin NK.1.1 hq _) ?_;have mZ:∀ p,Ga m x.i.p q=some p→p.In:=fun p h=>zT h;generalize Ga m x.i.p q=op at *;cases op with
 | none =>
   rintro v w' ⟨rfl,ho⟩;replace hp:=hp.only ho;replace hs:=hp.st;refine Jn ?_;refine tk 15 hX (hc:=by cases f <;> kernel_rfl) (k:=?_);refine tk 16 hX (hc:=by cases f <;> kernel_rfl) (k:=?_);refine tk 17 hX (hc:=by cases f <;> kernel_rfl) (k:=?_);apply Bb 18 (f:=f) (X:=X) hX hp;exact rfl;(apply AT AJ;exact rfl);kernel_rfl;kernel_rfl;(intro X Y;(repeat (first | exact A4 | refine A5 ?_ (by exact rfl))));(intro w' hs;first|exact AI hs.hold|exact AI hs.hold.tail|exact Ab rfl);intro b w hI hs;refine dt 19 hX ?_
   repeat' (first|refine Nx.h ?_|(refine AV hs ?_;intro w hs)|fail)
   refine dn ?_;refine tk 20 hX ?_;refine en ?_;refine Ja ?_;refine cl (h:=by exact SQ x .zero NK (by decide) _) ?_;generalize JV x .zero=o;cases o
   ·rintro v w' ⟨rfl,ho⟩;replace hs:=hs.AP ho;repeat' (first|refine Se ?_|(refine AV hs ?_;intro w hs)|(refine al hs ?_;intro b w hz hs)|fail)
    refine AG ?_;exact HA (n:=8) eJ (by decide) trivial (hs.AD [] (by simp [h1,g1,g2,B2,B3]) sD)
   ·rintro v w' ⟨rfl,ho⟩;replace hs:=hs.AP ho;repeat' (first|refine Se ?_|(refine AV hs ?_;intro w hs)|(refine al hs ?_;intro b w hz hs)|fail)
    refine AG ?_;exact HA (n:=8) eJ (by decide) trivial (hs.AD [] (by simp [h1,g1,g2,B2,B3]) sD)
 | some p =>
   have Nl:=mZ p rfl;rintro v w' ⟨rfl,ho⟩;replace hp:=hp.only ho;replace hs:=hp.st;refine Jn ?_;refine tk 15 hX (hc:=by cases f <;> kernel_rfl) (k:=?_);refine tk 16 hX (hc:=by cases f <;> kernel_rfl) (k:=?_);refine tk 17 hX (hc:=by cases f <;> kernel_rfl) (k:=?_);apply Bb 18 (f:=f) (X:=X) hX hp;exact rfl;(apply AT AJ;exact rfl);kernel_rfl;kernel_rfl;(intro X Y;(repeat (first | exact A4 | refine A5 ?_ (by exact rfl))));(intro w' hs;first|exact AI hs.hold|exact AI hs.hold.tail|exact Ab rfl);intro b w hI hs;refine dt 19 hX ?_
   repeat' (first|refine Nx.h ?_|(refine AV hs ?_;intro w hs)|fail)
   refine dn ?_;refine tk 20 hX ?_;refine en ?_;refine Ja ?_;refine cl (h:=by exact SQ x p NK Nl _) ?_;have eJ:J=Mh c id (JV x p):=eJ;cases hr:JV x p with
   | none =>
     rw [hr] at eJ
     rintro v w' ⟨rfl,ho⟩;replace hs:=hs.AP ho;repeat' (first|refine Sc ?_|(refine AV hs ?_;intro w hs)|(refine al hs ?_;intro b w hz hs)|fail)
     refine AG ?_;exact HA (n:=8) eJ (by decide) trivial (hs.AD [] (by simp [h1,g1,g2,B2,B3]) sD)
   | some y =>
     have yF:=uZ NK Nl hr;rw [hr] at eJ;have eJ:J=(Dz c.A (CQ y),⟨GR c.A (CQ y),c.run,Ea c.carr (C2 c.A id)⟩):=eJ;rw [show CQ y=⟨y,yF⟩ from dif_pos yF] at eJ
     rintro v w' ⟨rfl,ho⟩;replace hs:=hs.AP ho;repeat' (first|refine Sd ?_|(refine AV hs ?_;intro w hs)|(refine al hs ?_;intro b w hz hs)|fail)
     have ho:=hs.AD [] (by simp [h1,g1,g2,B2,B3]) sD;obtain ⟨s0,OF⟩:=hS.rep;refine AZ hs (h:=by exact MP cb c _ id _ (FB.only ho) hid) ?_;intro w' ho hs;skip;have Ar:=hs.AD [] (by simp [h1,g1,g2,B2,B3]) sD;have xb:=hs.get (b:=b) AX;have hb:=hs.new _ aCw rfl;simp only at hb;have Qc:=hS.only Ar;have x1:=Ar.block h1 AA;refine cl (h:=by exact Lz cb sb c.run c.carr _ _ x1 h3 (ND OF id)) ?_;rintro v w5 ⟨kC,BL⟩;have n5:cb∉Fs:=Bh.Ny h1 hS;have nb:b≠cb:=by have:=lt_of_block h1;omega
     have qL:=BL.block xb (by simp [nb]);have W9:=Qc.Ai BL (fun k hk hm=>by obtain rfl:=List.mem_singleton.1 hm;exact n5 hk)
     have VQ:DS w5 rb .none [rb]:=(hR.only Ar).Ai BL (fun k hk hm=>by
      obtain rfl:=List.mem_singleton.1 hk;obtain rfl:=List.mem_singleton.1 hm;exact Mg.apart FB k AA AA)
     have Bd:AB (rb :: (cb :: Fs) ++ []) w0 w5:=(Ar.weaken AA).step BL (fun k hk => .inl (by obtain rfl:=List.mem_singleton.1 hk;simp));have qQ:=Bd.size;clear hs;have hs:=((St.nil w5).AF kC).AF qL;refine Jb ?_;refine dr [] hs ?_;intro hX w hs;refine tks 0 5 ?_;refine dt 5 hX ?_;have AL:=hs.AD [] (by simp [kC,qL]) sD;refine cl (h:=by exact RK sb c.A Fs ⟨y,yF⟩ _ (W9.only AL)) ?_;rintro v w2 ⟨rfl,F2,E7,D6,AN⟩;have O2:=AL.size;have y1:=AN.block (AL.block kC AA) n5;have nbF:b∉Fs:=W9.not qL rfl;have yb:=AN.block (AL.block qL AA) nbF
     have LR:DS w2 rb .none [rb]:=(VQ.only AL).Ai AN (fun k hk hm=>by
      obtain rfl:=List.mem_singleton.1 hk;exact Mg.apart FB k AA (by simp [hm]))
     clear hs;have hs:=((St.nil w2).AF y1).AF yb;refine Jn ?_;refine tk 6 hX ?_;refine en ?_;refine Jb ?_;refine AG ?_;have AU:=hs.AD [] (by simp [y1,yb]) sD;subst eJ;refine ⟨rfl,trivial,fun _=>⟨cb :: F2,[rb],⟨sb,F2,rfl,AU.block y1 AA,E7.only AU,MF _ _,h4⟩,LR.only AU,fun k hk=>?_,fun k hk => .inl (by simpa using hk)⟩,((Bd.step AL AA).step AN (fun k hk => .inl (by simp [hk]))).step AU AA⟩;rcases aCu.1 hk with rfl | hk
     ·simp
     ·rcases D6 k hk with h | h
      ·simp [h]
      ·exact .inr om
theorem S2 (cb:Nat) (c:Cs) (F:List Nat) (id q:Int) (w0:World) (h:Bh w0 cb c F) (hid:In64 id) (hq:Fb q) :
 AO prog 75 #[.pointer (some ⟨cb,0,none⟩),.int .i64 id,.int .u32 q] w0 fun v w'=>∃ rv,v = .tuple #[rv,.int .i64 (Bp c id q).1]∧HS w0 cb F rv (Bp c id q).1 c (Bp c id q).2 .none w':=by
 have hs:=St.nil w0;refine AS func75 ntmps75 ?_;refine Ah ?_;refine Aq ?_;refine bx hs ?_;intro b6 w _ hs;refine bx hs ?_;intro b7 w _ hs;refine al hs ?_;intro Ew w hz hs;refine Ja ?_;have ho:=hs.AE rfl;have hz:=ho.size;have x6:=hs.get (b:=b6) AX;have x7:=hs.get (b:=b7) AX;have IJ:=hs.get (b:=Ew) AX;have Ej:=h.only ho;have hb:=hs.new _ aCw rfl;simp only at hb;refine cl (h:=by exact Jw cb c F _ Ej 110 [.pointer (some ⟨b6,0,none⟩),.pointer (some ⟨b7,0,none⟩)] [] (fun _=>True) (Bp c id q).1 (Bp c id q).2 .none (fun _ _ _ _ _ _=>trivial) AA (by simp [Rp.none]) (fun w1 AL=>cP b6 b7 c id q _ w1 hid hq (AL.block x6 AA) (AL.block x7 AA))) ?_;rintro v w2 ⟨rv,rfl,_,IG,⟨F',hC',C0⟩,AN⟩;obtain ⟨vg,vp,Gg,Gp,rfl,p1,p2⟩:=IG;obtain ⟨ag,cg,rfl⟩:=BU p1;obtain ⟨ap,cp,rfl⟩:=BU p2;have x2:=AN.block IJ (fun hm=>by obtain rfl:=List.mem_singleton.1 hm;exact Ej.not IJ rfl (by obtain ⟨_,_,rfl,_⟩:=Ej;simp));clear hs;have hs:=(St.nil w2).AF x2
 repeat' (first|refine Sb ?_|(refine AV hs ?_;intro w hs)|fail)
 refine AG ?_;have AU:AB [Ew] w2 _:=hs.AD [Ew] AA sD
 exact ⟨_,rfl,LY p1 p2 AU (fun b hm=>by obtain rfl:=List.mem_singleton.1 hm;exact ⟨_,_,_,x2,by decide,by decide⟩),⟨F',hC'.Ai AU (fun k hk hm=>by obtain rfl:=List.mem_singleton.1 hm;exact hC'.not x2 rfl hk),fun k hk=>by
  rcases C0 k hk with h | h
  ·exact .inl h
  ·exact .inr om⟩,((ho.weaken AA).step AN (fun k hk => .inl hk)).step AU (fun k hk => .inr (by obtain rfl:=List.mem_singleton.1 hk;exact hb))⟩
abbrev Gr (x:Int):Obj := .cells #[.int .i64 (x / 18446744073709551616),.int .u64 (x % 18446744073709551616)] 70 (0,0)
theorem fT {A:As} {id:Int} (e:Al A.l id=none):C2 A id=0:=by unfold C2;rw [e]
theorem Rz (cb:Nat) (c:Cs) (F:List Nat) (id:Int) (w0:World) (h:Bh w0 cb c F) (hid:In64 id) :
 AO prog 106 #[.pointer (some ⟨cb,0,none⟩),.int .i64 id] w0 fun v w'=>v = .tuple #[wv (C2 c.A id),.int .i64 (Az c id).1]∧∃ F',Bh w' cb (Az c id).2 F'∧(∀ k∈F',k∈F∨w0.heap.size≤k)∧AB F w0 w':=by
 have hC:=h;obtain ⟨sb,Fs,rfl,h1,hS,h3,h4⟩:=h;have hs:=(St.nil w0).AF h1;refine AS func106 ntmps106 ?_;refine Ah ?_;refine Aq ?_;refine al hs ?_;intro b4 w1 J0 hs;have g4:=hs.new (b4,true) AA rfl;simp only at g4;refine Ja ?_;have ho:=hs.AD [] (by simp [h1]) sD;refine cl (h:=by exact MP cb c _ id _ (hC.only ho) hid) ?_;generalize Hu:C2 c.A id=lag
 rintro v w' ⟨rfl,ho⟩;replace hs:=hs.AP ho;repeat' (first|refine Sa ?_|(refine AV hs ?_;intro w hs)|(refine al hs ?_;intro b w hz hs)|fail)
 have AU:=hs.AD [] (by simp [h1]) sD;have gb:=hs.new _ aCw rfl;simp only at gb;have x1:=hs.get (b:=cb) (o:=Ez sb c.run c.carr) AX;have x4:=hs.get (b:=b4) AX;have xb:=hs.get (b:=b) AX
 have nb:b≠b4:=by
  have nd:=hs.nd;simp only [aC2,aDD,aC6,aCu,aC1,or_false,not_or] at nd;exact nd.1.1
 have Gw:=hS.only AU;obtain ⟨s0,OF⟩:=hS.rep;have hin:Ac lag:=by rw [← Hu];exact ND OF id
 have n1:cb∉Fs:=Bh.Ny h1 hS;have n4:b4∉Fs:=Gw.not x4 rfl;have nB:b∉Fs:=Gw.not xb rfl;have Nz:=AU.size;refine cl (h:=by exact lR sb c.A Fs id _ Gw hid) ?_;rintro v w4 ⟨rfl,F2,E7,D6,Ar⟩;have y1:=Ar.block x1 n1;have y4:=Ar.block x4 n4;have yb:=Ar.block xb nB;have BF:AB (cb :: Fs) w0 w4:=(AU.weaken AA).step Ar (fun k hk => .inl (by simp [hk]))
 have Kb:∀ k∈F2,k∈Fs∨w0.heap.size≤k:=fun k hk=>by
  rcases D6 k hk with h | h
  ·exact .inl h
  ·exact .inr om
 have lcb:=lt_of_block h1;clear hs;have hs:=(((St.nil w4).AF y1).AF y4).AH yb (by simp [nb];omega);cases e:Al c.A.l id with
 | none =>
   have eA:Fl c.A id=c.A:=by unfold Fl;rw [e];rfl
   have eL:Az c id=(14,c):=by unfold Az;rw [e];rfl
   rw [eA] at E7;rw [eL];have l0:lag=0:=by rw [← Hu];exact fT e
   repeat' (first|refine Sc ?_|(refine AV hs ?_;intro w hs)|(refine al hs ?_;intro b w hz hs)|fail)
   refine AG ?_;have BL:=hs.AD [b4] (by simp [y1,yb]) sD;subst l0;refine ⟨rfl,cb :: F2,⟨sb,F2,rfl,BL.block y1 (by simp;omega),E7.Ai BL (fun k hk hm=>by obtain rfl:=List.mem_singleton.1 hm;exact E7.not y4 rfl hk),h3,h4⟩,fun k hk=>?_,BF.step BL (fun k hk => .inr (by obtain rfl:=List.mem_singleton.1 hk;exact g4))⟩;rcases aCu.1 hk with rfl | hk
   ·simp
   ·rcases Kb k hk with h | h
    ·simp [h]
    ·exact .inr h
 | some a =>
   have eL:Az c id=(0,⟨Fl c.A id,c.run,Ea c.carr lag⟩):=by unfold Az;rw [e,Hu];rfl
   rw [eL]
   repeat' (first|refine Sd ?_|(refine AV hs ?_;intro w hs)|(refine al hs ?_;intro b w hz hs)|fail)
   have BL:=hs.AD [] (by simp [y1,y4,yb]) sD;refine cl (h:=by exact Lz cb sb c.run c.carr lag _ (BL.block y1 AA) h3 hin) ?_;rintro v w6 ⟨vS,Ao⟩;have z4:=Ao.block (BL.block y4 AA) (by simp;omega);have zb:=Ao.block (BL.block yb AA) (by simp;omega);have n6:cb∉F2:=Bh.Ny y1 E7;have KV:=(E7.only BL).Ai Ao (fun k hk hm=>by obtain rfl:=List.mem_singleton.1 hm;exact n6 hk);have Bd:AB (cb :: Fs) w0 w6:=(BF.step BL AA).step Ao (fun k hk => .inl (by obtain rfl:=List.mem_singleton.1 hk;simp));clear hs;have hs:=(((St.nil w6).AF vS).AF z4).AH zb (by simp [nb];omega)
   repeat' (first|refine Sa ?_|(refine AV hs ?_;intro w hs)|fail)
   refine AG ?_;have C8:=hs.AD [b4] (by simp [vS,zb]) sD;refine ⟨rfl,cb :: F2,⟨sb,F2,rfl,C8.block vS (by simp;omega),KV.Ai C8 (fun k hk hm=>by obtain rfl:=List.mem_singleton.1 hm;exact KV.not z4 rfl hk),MF _ _,h4⟩,fun k hk=>?_,Bd.step C8 (fun k hk => .inr (by obtain rfl:=List.mem_singleton.1 hk;exact g4))⟩;rcases aCu.1 hk with rfl | hk
   ·simp
   ·rcases Kb k hk with h | h
    ·simp [h]
    ·exact .inr h
theorem DS.ne {w:World} {rb:Nat} {r:Rp} {F:List Nat} (h:DS w rb r F) {b:Nat} {cs:Array Value} {ty:Nat} {fz:Nat × Nat} (hb:w.heap[b]?=some (.cells cs ty fz)) (hne:ty≠131):rb≠b:=by
 obtain ⟨vg,vp,Gg,Gp,_,p1,_⟩:=h;exact A3 p1 hb (fun e=>hne e.symm)
theorem cX (b2 b3:Nat) (c:Cs) (id:Int) (wb w0:World) (hid:In64 id) (B2:w0.heap[b2]?=some (.cells #[.int .i64 id] 3 (0,0))) (B3:w0.heap[b3]?=some (Gr 0)) :
 OK wb w0 137 [.pointer (some ⟨b2,0,none⟩),.pointer (some ⟨b3,0,none⟩)] [b3] (fun w=>w.heap[b3]?=some (Gr (C2 c.A id))) c (Az c id).1 (Az c id).2 .none:=by
 intro cb rb F hC hR ZL hrb;have hs:=((St.nil w0).AF B2).AF B3;refine AS func137 ntmps137 ?_;refine Ja ?_;have ho:=hs.AD [] (by simp [B2,B3]) sD;refine cl (h:=by exact Rz cb c F id _ (hC.only ho) hid) ?_;rintro v w2 ⟨rfl,F2,L8,D6,AN⟩;have hz:=ho.size;have y3:=AN.block (ho.block B3 AA) (hC.not B3 rfl);have LR:DS w2 rb .none [rb]:=(hR.only ho).Ai AN (fun k hk hm=>hR.apart hC k hk hm);have BF:AB (rb :: F ++ [b3]) w0 w2:=(ho.weaken AA).step AN (fun k hk => .inl (by simp [hk]));have WX:rb≠b3:=hR.ne B3 (by decide);generalize Az c id=J at *;generalize C2 c.A id=lag at *;clear hs;have hs:=(St.nil w2).AF y3
 repeat' (first|refine Sa ?_|(refine AV hs ?_;intro w hs)|(refine al hs ?_;intro b w hz hs)|fail)
 refine AG ?_;have AU:=hs.AD [b3] AA sD;refine ⟨rfl,hs.get (b:=b3) AX,fun _=>⟨F2,[rb],L8.Ai AU (fun k hk hm=>by obtain rfl:=List.mem_singleton.1 hm;exact L8.not y3 rfl hk),LR.Ai AU (fun k hk hm=>by obtain rfl:=List.mem_singleton.1 hk;exact WX (List.mem_singleton.1 hm)),fun k hk=>?_,fun k hk => .inl (by simpa using hk)⟩,BF.step AU (fun k hk => .inl (by simp [List.mem_singleton.1 hk]))⟩;rcases D6 k hk with h | h
 ·exact .inl h
 ·exact .inr om
theorem JM (cb:Nat) (c:Cs) (F:List Nat) (id:Int) (w0:World) (h:Bh w0 cb c F) (hid:In64 id) :
 AO prog 100 #[.pointer (some ⟨cb,0,none⟩),.int .i64 id] w0 fun v w'=>∃ rv,v = .tuple #[wv (C2 c.A id),rv,.int .i64 (Az c id).1]∧HS w0 cb F rv (Az c id).1 c (Az c id).2 .none w':=by
 have hs:=St.nil w0;refine AS func100 ntmps100 ?_;refine Ah ?_;refine Aq ?_;refine bx hs ?_;intro b6 w _ hs;refine al hs ?_;intro Ew w yY hs;refine al hs ?_;intro Ig w aBa hs;refine Jc ?_;refine Aq ?_;refine al hs ?_;intro b7 w ZC hs;refine Ja ?_;have ho:=hs.AE rfl;have hz:=ho.size;have x6:=hs.get (b:=b6) AX;have x7:=hs.get (b:=b7) AX;have IJ:=hs.get (b:=Ew) AX;have UA:=hs.get (b:=Ig) AX;have Ej:=h.only ho
 have Vj:b7≠Ew:=by
  have nd:=hs.nd;simp only [aC2,aDD,aC6,aCu,aC1,or_false,not_or] at nd;exact nd.1.2.1
 have g7:=hs.new (b7,true) AA rfl;have g10:=hs.new (Ew,true) AA rfl;have g11:=hs.new (Ig,true) AA rfl;simp only at g7 g10 g11
 have ncb:∀ {b:Nat} {cs:Array Value} {ty:Nat} {fz:Nat × Nat},w0.heap.size≤b→b≠cb:=fun hb he=>by
  have:=h.lt cb (by obtain ⟨_,_,rfl,_⟩:=h;simp);omega
 refine cl (h:=by exact Jw cb c F _ Ej 137 [.pointer (some ⟨b6,0,none⟩),.pointer (some ⟨b7,0,none⟩)] [b7] (fun w=>w.heap[b7]?=some (Gr (C2 c.A id))) (Az c id).1 (Az c id).2 .none (fun _ _ _ hx r9 hn=>r9.block hx (hn b7 AA)) (fun k hk=>by obtain rfl:=List.mem_singleton.1 hk;exact ⟨Ej.not x7 rfl,lt_of_block x7⟩) (by simp [Rp.none]) (fun w1 AL=>cX b6 b7 c id _ w1 hid (AL.block x6 AA) (AL.block x7 AA))) (k:=?_);rintro v w2 ⟨rv,rfl,fH,IG,⟨F',hC',C0⟩,AN⟩;obtain ⟨vg,vp,Gg,Gp,rfl,p1,p2⟩:=IG;obtain ⟨ag,cg,rfl⟩:=BU p1;obtain ⟨ap,cp,rfl⟩:=BU p2;have jM:cb∈F:=by obtain ⟨_,_,rfl,_⟩:=h;simp
 have VR:=AN.block IJ (fun hm=>by
  simp only [aCu,aC1,or_false] at hm;rcases hm with rfl | rfl
  ·exact Ej.not IJ rfl jM
  ·exact Vj rfl)
 have n117:Ig≠b7:=A3 UA x7 (by decide)
 have WA:=AN.block UA (fun hm=>by
  simp only [aCu,aC1,or_false] at hm;rcases hm with rfl | rfl
  ·exact Ej.not UA rfl jM
  ·exact n117 rfl)
 generalize Az c id=J at *;generalize C2 c.A id=lag at *;clear hs;have hs:=(((St.nil w2).AF WA).AF VR).AH fH (by simp [Vj,n117.symm])
 repeat' (first|refine Sb ?_|(refine AV hs ?_;intro w hs)|(refine al hs ?_;intro b w hz hs)|fail)
 have hR:∀ {w'':World} {o o':Obj},St w2 D0 [(b,.cells #[.slice ag (BO J.1 J.2 .none).g.length cg,.slice ap (BO J.1 J.2 .none).p.length cp] 131 (0,0),true),(b7,Gr lag,false),(Ew,o,false),(Ig,o',false)] w''→True=True→FC [(b,.cells #[.slice ag (BO J.1 J.2 .none).g.length cg,.slice ap (BO J.1 J.2 .none).p.length cp] 131 (0,0),true),(b7,Gr lag,false)] w'':=fun hs _ e he=>hs.at_ e (by
  simp only [aCu,aC1,or_false] at he ⊢;rcases he with he | he
  ·exact .inl he
  ·exact .inr (.inl he))
 refine sW [4] [(b,.cells #[.slice ag (BO J.1 J.2 .none).g.length cg,.slice ap (BO J.1 J.2 .none).p.length cp] 131 (0,0),true),(b7,Gr lag,false)] hs ?_;intro hX w hs;refine tks 0 3 ?_;refine dt 3 hX ?_
 repeat' (first|refine Nx.h ?_|(refine AV hs ?_;intro w hs)|fail)
 refine dn ?_;refine dt 4 hX ?_
 repeat' (first|refine Nx.h ?_|(refine AV hs ?_;intro w hs)|fail)
 refine dn ?_;refine tk 5 hX ?_;refine en ?_;refine Jb ?_;refine AG ?_;have AU:=hs.AD [Ew,Ig] (by simp [fH]) sD
 exact ⟨_,rfl,LY p1 p2 AU (fun b hm=>by
  simp only [aCu,aC1,or_false] at hm;rcases hm with rfl | rfl
  ·exact ⟨_,_,_,VR,by decide,by decide⟩
  ·exact ⟨_,_,_,WA,by decide,by decide⟩),⟨F',hC'.Ai AU (fun k hk hm=>by
  simp only [aCu,aC1,or_false] at hm;rcases hm with rfl | rfl
  ·exact hC'.not VR rfl hk
  ·exact hC'.not WA rfl hk),fun k hk=>by
  rcases C0 k hk with h | h
  ·exact .inl h
  ·exact .inr om⟩,((ho.weaken AA).step AN (fun k hk=>by
   simp only [aCu,aC1,or_false] at hk;rcases hk with rfl | rfl
   ·exact .inl AA
   ·exact .inr g7)).step AU (fun k hk=>by
   simp only [aCu,aC1,or_false] at hk;rcases hk with rfl | rfl
   ·exact .inr g10
   ·exact .inr g11)⟩
def CA (c:Cs) (id:Int):Bool × Int:=match Al c.A.l id with
 | none=>(false,0)
 | some a=>if a.1.asleep=true then (false,0) else if Dm c.A id < 0 then (false,C2 c.A id) else (true,C2 c.A id)
abbrev Gz (x:Bool):Obj := .cells #[.bool x] 4 (0,0)
theorem bC (b2 b3 b4:Nat) (c:Cs) (id:Int) (wb w0:World) (hid:In64 id) (B2:w0.heap[b2]?=some (.cells #[.int .i64 id] 3 (0,0))) (B3:w0.heap[b3]?=some (Gr 0)) (B4:w0.heap[b4]?=some (Gz false)) :
 OK wb w0 101 [.pointer (some ⟨b2,0,none⟩),.pointer (some ⟨b3,0,none⟩),.pointer (some ⟨b4,0,none⟩)] [b3,b4] (fun w=>w.heap[b3]?=some (Gr (CA c id).2)∧w.heap[b4]?=some (Gz (CA c id).1)) c (Bk c id).1 (Bk c id).2 .none:=by
 intro cb rb F hC hR ZL hrb;have FB:=hC;have Mg:=hR;obtain ⟨sb,Fs,rfl,h1,hS,h3,h4⟩:=hC;obtain ⟨qb,mb,g1,gQ⟩:=hS.FA;obtain ⟨x,bs,ex,eb,NK,hcs⟩:=S8 c.A.l id;have n1:cb∉Fs:=Bh.Ny h1 hS;have n2:b2∉Fs:=hS.not B2 rfl;have n3:b3∉Fs:=hS.not B3 rfl;have n4:b4∉Fs:=hS.not B4 rfl;have c3:b3∉cb :: Fs:=FB.not B3 rfl;have c4:b4∉cb :: Fs:=FB.not B4 rfl;have r3:rb≠b3:=hR.ne B3 (by decide);have r4:rb≠b4:=hR.ne B4 (by decide);have d34:b3≠b4:=A3 B3 B4 (by decide);have d23:b2≠b3:=A3 B2 B3 (by decide)
 have hs0:sb∈Fs:=by
  obtain ⟨_,_,_,_,_,_,_,_,_,_,_,_,m1,_⟩:=hS.Gk;exact m1
 have ds3:sb≠b3:=fun e=>n3 (e ▸ hs0);have dc3:cb≠b3:=fun e=>c3 (by simp [e]);generalize hJ:Bk c id=J;generalize hK:CA c id=K;have hs:=(((((St.nil w0).AF h1).AF g1).AF B2).AF B3).AF B4;refine AS func101 ntmps101 ?_;refine Ja ?_;refine dr [] hs ?_;intro hX w hs;refine tks 0 5 ?_;refine Gq 9 8 hs ?_;intro f X w hp;have hs:=hp.st;apply BI 5 9 (f:=f) (X:=X) hX hp;exact rfl;exact rfl;(apply AT AJ;exact rfl);kernel_rfl;kernel_rfl;kernel_rfl;kernel_rfl;(intro X Y;(repeat (first | exact A4 | refine A5 ?_ (by exact rfl))));(intro w' hs;first|exact AI hs.hold|exact AI hs.hold.tail|exact Ab rfl);intro f X w hp;have hs:=hp.st;have ho:=hs.AD [] (by simp [h1,g1,B2,B3,B4]) sD;refine cl (h:=by exact J7 sb c.A Fs id _ (hS.only ho) hid) ?_;rw [ex,eb];rintro v w' ⟨rfl,ho⟩;replace hp:=hp.only ho;replace hs:=hp.st;refine Jn ?_;refine tk 6 hX (hc:=by cases f <;> kernel_rfl) (k:=?_);refine tk 7 hX (hc:=by cases f <;> kernel_rfl) (k:=?_);refine tk 8 hX (hc:=by cases f <;> kernel_rfl) (k:=?_);apply Bb 9 (f:=f) (X:=X) hX hp;exact rfl;(apply AT AJ;exact rfl);kernel_rfl;kernel_rfl;(intro X Y;(repeat (first | exact A4 | refine A5 ?_ (by exact rfl))));(intro w' hs;first|exact AI hs.hold|exact AI hs.hold.tail|exact Ab rfl);intro b w hI hs;refine dt 10 hX ?_
 repeat' (first|refine Nx.h ?_|(refine AV hs ?_;intro w hs)|fail)
 refine dn ?_;refine tk 11 hX ?_;refine en ?_;rcases hcs with ⟨hb,e⟩ | ⟨a,hb,e,hx⟩
 ·subst hb;have eK:K=(false,0):=by rw [← hK];unfold CA;rw [e]
  refine Je ?_;refine AG ?_;exact HA (n:=14) (by rw [← hJ];unfold Bk;rw [e]) (by decide) ⟨by rw [eK];exact hs.get (b:=b3) AX,by rw [eK];exact hs.get (b:=b4) AX⟩ (hs.AD [] (by simp [h1,g1,B2,B3,B4]) sD)
 subst hb
 repeat' (first|refine Sd ?_|refine xc_cond rfl (fun hc=>?_) fun hc=>?_|fail)
 ·refine AG ?_;have k:x.asleep=true:=by simpa using hc
  have eK:K=(false,0):=by rw [← hK];unfold CA;rw [e];show (if a.1.asleep=true then _ else _)=_;rw [← hx,k];rfl
  exact HA (n:=6) (by rw [← hJ];unfold Bk;rw [e];show (if a.1.asleep=true then _ else _)=_;rw [← hx,k];rfl) (by decide) ⟨by rw [eK];exact hs.get (b:=b3) AX,by rw [eK];exact hs.get (b:=b4) AX⟩ (hs.AD [] (by simp [h1,g1,B2,B3,B4]) sD)
 have k:x.asleep=false:=by simpa using hc
 have eJ:J=if Dm c.A id < 0 then (0,(⟨Gl c.A id true,c.run,c.carr⟩:Cs)) else Az c id:=by
  rw [← hJ];unfold Bk;rw [e];show (if a.1.asleep=true then _ else _)=_;rw [← hx,k];rfl
 have eK:K=if Dm c.A id < 0 then (false,C2 c.A id) else (true,C2 c.A id):=by
  rw [← hK];unfold CA;rw [e];show (if a.1.asleep=true then _ else _)=_;rw [← hx,k];rfl
 have ho:=hs.AD [] (by simp [h1,g1,B2,B3,B4]) sD;refine cl (h:=by exact MP cb c _ id _ (FB.only ho) hid) ?_;generalize C2 c.A id=lag at *
 rintro v w' ⟨rfl,ho⟩;replace hs:=hs.AP ho;repeat' (first|refine Nx.h ?_|(refine AV hs ?_;intro w hs)|fail)
 refine dr [] hs ?_;intro hX w hs;refine tks 0 8 ?_;refine dt 8 hX ?_;have AL:=hs.AD [b3] (by simp [h1,g1,B2,B4]) sD;have GB:=hS.Ai AL (fun k hk hm=>by obtain rfl:=List.mem_singleton.1 hm;exact n3 hk);obtain ⟨qb',QK,Z6,gQ'⟩:=GB.FA
 have eqb:qb'=qb:=by
  have:=AL.block g1 (by simpa using ds3);rw [this] at Z6
  injection Z6 with Z6
  unfold Wn at Z6;simp at Z6;exact Z6.1.symm
 subst eqb;refine AZ hs (h:=by exact jG qb' c.A id _ gQ' hid) ?_;intro w' ho hs;refine Jn ?_;refine tks 9 5 ?_;refine en ?_
 repeat' (first|refine Sa ?_|(refine st hs ?_;intro w hs)|refine Aw rfl (fun hc=>?_) fun hc=>?_|fail)
 ·have kk:Dm c.A id < 0:=by simpa using hc
  rw [if_pos kk] at eJ eK;have ho:=hs.AD [b3] (by simp [h1,g1,B2,B4]) sD;have x1:=hs.get (b:=cb) AX;have x2:=hs.get (b:=b2) AX;have x3:=hs.get (b:=b3) AX;have x4:=hs.get (b:=b4) AX;clear hs;have hs:=((((St.nil _).AF x1).AF x2).AF x3).AF x4;refine dr [] hs ?_;intro hX w hs;refine tks 0 5 ?_;refine dt 5 hX ?_;have ho':=hs.AD [] (by simp [x1,x2,x3,x4]) sD;have AL:=ho.step ho' AA;have Gw:=hS.Ai AL (fun k hk hm=>by obtain rfl:=List.mem_singleton.1 hm;exact n3 hk);refine cl (h:=by exact SY sb c.A Fs id true _ Gw hid) ?_;rw [eb];rintro v w2 ⟨rfl,F2,E7,D6,AN⟩;have y1:=AN.block (ho'.block x1 AA) n1;have y2:=AN.block (ho'.block x2 AA) n2;have y3:=AN.block (ho'.block x3 AA) n3;have y4:=AN.block (ho'.block x4 AA) n4;have O2:=AL.size
  have LR:DS w2 rb .none [rb]:=(hR.Ai AL (fun k hk hm=>by obtain rfl:=List.mem_singleton.1 hk;exact r3 (List.mem_singleton.1 hm))).Ai AN (fun k hk hm=>by
   obtain rfl:=List.mem_singleton.1 hk;exact Mg.apart FB k AA (by simp [hm]))
  clear hs;have hs:=((((St.nil w2).AF y1).AF y2).AF y3).AF y4;refine Jn ?_;refine tk 6 hX ?_;refine en ?_;refine Jb ?_;refine AG ?_;have AU:=hs.AD [] (by simp [y1,y2,y3,y4]) sD;subst eJ;subst eK;refine ⟨rfl,⟨AU.block y3 AA,AU.block y4 AA⟩,fun _=>⟨cb :: F2,[rb],⟨sb,F2,rfl,AU.block y1 AA,E7.only AU,h3,h4⟩,LR.only AU,fun k hk=>?_,fun k hk => .inl (by simpa using hk)⟩,((AL.weaken (G:=rb :: (cb :: Fs) ++ [b3,b4]) AA).step AN (fun k hk => .inl (by simp [hk]))).step AU AA⟩;rcases aCu.1 hk with rfl | hk
  ·simp
  ·rcases D6 k hk with h | h
   ·simp [h]
   ·exact .inr om
 ·have kk:¬ Dm c.A id < 0:=by simpa using hc
  rw [if_neg kk] at eJ eK;have ho:=hs.AD [b3,b4] (by simp [h1,g1,B2]) sD;have x1:=hs.get (b:=cb) (o:=Ez sb c.run c.carr) AX;have x2:=hs.get (b:=b2) AX;have x3:=hs.get (b:=b3) AX;have x4:=hs.get (b:=b4) AX
  have Gw:=hS.Ai ho (fun k hk hm=>by
   simp only [aCu,aC1,or_false] at hm;rcases hm with rfl | rfl
   ·exact n3 hk
   ·exact n4 hk)
  have Ej:Bh _ cb c (cb :: Fs):=⟨sb,Fs,rfl,x1,Gw,h3,h4⟩;refine cl (h:=by exact Rz cb c _ id _ Ej hid) ?_;rintro v w2 ⟨rfl,F2,L8,D6,AN⟩;have hz:=ho.size;have y3:=AN.block x3 c3;have y4:=AN.block x4 c4
  have LR:DS w2 rb .none [rb]:=(hR.Ai ho (fun k hk hm=>by
   obtain rfl:=List.mem_singleton.1 hk;simp only [aCu,aC1,or_false] at hm;rcases hm with h | h
   ·exact r3 h
   ·exact r4 h)).Ai AN (fun k hk hm=>hR.apart FB k hk hm)
  have BF:AB (rb :: (cb :: Fs) ++ [b3,b4]) w0 w2:=(ho.weaken AA).step AN (fun k hk => .inl (aC4.2 (.inl (aCy _ hk))));clear hs;have hs:=((St.nil w2).AF y3).AF y4
  repeat' (first|refine Sa ?_|(refine AV hs ?_;intro w hs)|(refine al hs ?_;intro b w hz hs)|fail)
  refine AG ?_;have AU:=hs.AD [] (by simp [y3,y4]) sD;subst eJ;subst eK;refine ⟨rfl,⟨AU.block y3 AA,AU.block y4 AA⟩,fun _=>⟨F2,[rb],L8.only AU,LR.only AU,fun k hk=>?_,fun k hk => .inl (by simpa using hk)⟩,BF.step AU AA⟩;rcases D6 k hk with h | h
  ·exact .inl h
  ·exact .inr om
theorem JR (cb:Nat) (c:Cs) (F:List Nat) (id:Int) (w0:World) (h:Bh w0 cb c F) (hid:In64 id) :
 AO prog 69 #[.pointer (some ⟨cb,0,none⟩),.int .i64 id] w0 fun v w'=>∃ rv,v = .tuple #[.bool (CA c id).1,wv (CA c id).2,rv,.int .i64 (Bk c id).1]∧HS w0 cb F rv (Bk c id).1 c (Bk c id).2 .none w':=by
 have hs:=St.nil w0;refine AS func69 ntmps69 ?_;refine Ah ?_;refine Aq ?_;refine bx hs ?_;intro b6 w _ hs;refine vs ?_;refine al hs ?_;intro Ew w yY hs;refine al hs ?_;intro Ig w aBa hs;refine Jc ?_;refine Aq ?_;refine al hs ?_;intro b7 w ZC hs;refine Jb ?_;refine Aq ?_;refine al hs ?_;intro b9 w xM hs
 repeat' (first|refine Sa ?_|(refine st hs ?_;intro w hs)|fail)
 have ho:=hs.AE rfl;have hz:=ho.size;have x6:=hs.get (b:=b6) AX;have x7:=hs.get (b:=b7) AX;have x9:=hs.get (b:=b9) AX;have IJ:=hs.get (b:=Ew) AX;have UA:=hs.get (b:=Ig) AX;have Ej:=h.only ho
 have Vj:b7≠Ew:=by
  have nd:=hs.nd;simp only [aC2,aDD,aC6,aCu,aC1,or_false,not_or] at nd;exact nd.2.1.2.1
 have g7:=hs.new (b7,true) AA rfl;have g9:=hs.new (b9,true) AA rfl;have g10:=hs.new (Ew,true) AA rfl;have g11:=hs.new (Ig,true) AA rfl;simp only at g7 g9 g10 g11
 (with_reducible apply Kz);exact rfl;exact rfl;exact Jw cb c F _ Ej 101 [.pointer (some ⟨b6,0,none⟩),.pointer (some ⟨b7,0,none⟩),.pointer (some ⟨b9,0,none⟩)] [b7,b9] (fun w=>w.heap[b7]?=some (Gr (CA c id).2)∧w.heap[b9]?=some (Gz (CA c id).1)) (Bk c id).1 (Bk c id).2 .none (fun _ _ _ hx r9 hn=>⟨r9.block hx.1 (hn b7 AA),r9.block hx.2 (hn b9 AA)⟩) (fun k hk=>by
  simp only [aCu,aC1,or_false] at hk;rcases hk with rfl | rfl
  ·exact ⟨Ej.not x7 rfl,lt_of_block x7⟩
  ·exact ⟨Ej.not x9 rfl,lt_of_block x9⟩) (by simp [Rp.none]) (fun w1 AL=>bC b6 b7 b9 c id _ w1 hid (AL.block x6 AA) (AL.block x7 AA) (AL.block x9 AA))
 rintro v w2 ⟨rv,rfl,⟨fH,hXc⟩,IG,⟨F',hC',C0⟩,AN⟩;obtain ⟨vg,vp,Gg,Gp,rfl,p1,p2⟩:=IG;obtain ⟨ag,cg,rfl⟩:=BU p1;obtain ⟨ap,cp,rfl⟩:=BU p2;have jM:cb∈F:=by obtain ⟨_,_,rfl,_⟩:=h;simp
 have VR:=AN.block IJ (fun hm=>by
  simp only [aCu,aC1,or_false] at hm;rcases hm with rfl | rfl | rfl
  ·exact Ej.not IJ rfl jM
  ·exact Vj rfl
  ·exact A3 IJ x9 (by decide) rfl)
 have n117:Ig≠b7:=A3 UA x7 (by decide);have n119:Ig≠b9:=A3 UA x9 (by decide);have n79:b7≠b9:=A3 x7 x9 (by decide)
 have WA:=AN.block UA (fun hm=>by
  simp only [aCu,aC1,or_false] at hm;rcases hm with rfl | rfl | rfl
  ·exact Ej.not UA rfl jM
  ·exact n117 rfl
  ·exact n119 rfl)
 generalize Bk c id=J at *;generalize CA c id=K at *;clear hs;have hs:=((((St.nil w2).AF WA).AF VR).AH fH (by simp [Vj,n117.symm])).AF hXc
 repeat' (first|refine Sb ?_|(refine AV hs ?_;intro w hs)|(refine al hs ?_;intro b w hz hs)|fail)
 have hR:∀ {w'':World} {o o':Obj},St w2 D0 [(b,.cells #[.slice ag (BO J.1 J.2 .none).g.length cg,.slice ap (BO J.1 J.2 .none).p.length cp] 131 (0,0),true),(b9,Gz K.1,false),(b7,Gr K.2,false),(Ew,o,false),(Ig,o',false)] w''→True=True→FC [(b,.cells #[.slice ag (BO J.1 J.2 .none).g.length cg,.slice ap (BO J.1 J.2 .none).p.length cp] 131 (0,0),true),(b9,Gz K.1,false),(b7,Gr K.2,false)] w'':=fun hs _ e he=>hs.at_ e (by
  simp only [aCu,aC1,or_false] at he ⊢;rcases he with he | he | he
  ·exact .inl he
  ·exact .inr (.inl he)
  ·exact .inr (.inr (.inl he)))
 refine sW [6] [(b,.cells #[.slice ag (BO J.1 J.2 .none).g.length cg,.slice ap (BO J.1 J.2 .none).p.length cp] 131 (0,0),true),(b9,Gz K.1,false),(b7,Gr K.2,false)] hs ?_;intro hX w hs;refine tks 0 5 ?_;refine dt 5 hX ?_
 repeat' (first|refine Nx.h ?_|(refine AV hs ?_;intro w hs)|fail)
 refine dn ?_;refine dt 6 hX ?_
 repeat' (first|refine Nx.h ?_|(refine AV hs ?_;intro w hs)|fail)
 refine dn ?_;refine tk 7 hX ?_;refine en ?_;refine Jb ?_;refine AG ?_;have AU:=hs.AD [Ew,Ig] (by simp [fH,hXc]) sD
 exact ⟨_,rfl,LY p1 p2 AU (fun b hm=>by
  simp only [aCu,aC1,or_false] at hm;rcases hm with rfl | rfl
  ·exact ⟨_,_,_,VR,by decide,by decide⟩
  ·exact ⟨_,_,_,WA,by decide,by decide⟩),⟨F',hC'.Ai AU (fun k hk hm=>by
  simp only [aCu,aC1,or_false] at hm;rcases hm with rfl | rfl
  ·exact hC'.not VR rfl hk
  ·exact hC'.not WA rfl hk),fun k hk=>by
  rcases C0 k hk with h | h
  ·exact .inl h
  ·exact .inr om⟩,((ho.weaken AA).step AN (fun k hk=>by
   simp only [aCu,aC1,or_false] at hk;rcases hk with rfl | rfl | rfl
   ·exact .inl AA
   ·exact .inr g7
   ·exact .inr g9)).step AU (fun k hk=>by
   simp only [aCu,aC1,or_false] at hk;rcases hk with rfl | rfl
   ·exact .inr g10
   ·exact .inr g11)⟩
end Go.Proofs.Q0
namespace Go.Proofs.Q0
open IB (IT)
def Sn (m:Mn):List It→Int
 | []=>0
 | x :: l=>Hl m x.p+Sn m l
theorem VT (m:Mn):∀ l:List It,Sn m l=m.a*CI l - m.w*C4 m.b l
 | []=>by show (0:Int)=m.a*0 - m.w*0;simp
 | x :: l=>by
   show Hl m x.p+Sn m l=m.a*(x.p.w+CI l) - m.w*(dist x.p m.b+C4 m.b l);rw [VT m l];unfold Hl;rw [Int.mul_add,Int.mul_add,aDU (dist x.p m.b) m.w];omega
theorem Uo (m:Mn):∀ {l:List It},l≠[]→(∀ x∈l,Hl m x.p < 0)→Sn m l < 0
 | [],h,_=>absurd rfl h
 | x :: l,_,h=>by
   show Hl m x.p+Sn m l < 0;have h1:=h x aCw;by_cases e:l=[]
   ·subst e;show Hl m x.p+0 < 0;omega
   ·have:=Uo m e fun y hy=>h y (aCy _ hy);omega
theorem BN.aAZ {s:Ss} {A:As} (h:BN s A) (e:A.l≠[]):∃ a∈A.l,0≤NI A a:=by
 have hc:=h.cen e;rw [h.Gk e] at hc;refine Classical.byContradiction fun hn=>?_
 have hneg:=Uo (JN (its A.l)) (its_ne e) fun x hx=>by
  obtain ⟨a,ha,rfl⟩:=List.mem_map.1 hx;rcases Int.lt_or_le (Hl (JN (its A.l)) a.1.i.p) 0 with k | k
  ·exact k
  ·exact absurd ⟨a,ha,k⟩ hn
 rw [VT,← hc.is.a,← hc.is.w,aDU] at hneg;omega
theorem cG:∀ {l:List RT},l≠[]→∃ a∈l,Qy l=some a
 | [],h=>absurd rfl h
 | a :: l,_=>by
   suffices H:∀ (l:List RT) (a:RT) (L:List RT),a∈L→(∀ x∈l,x∈L)→l.foldl (fun a b=>bif due b.1.i a.1.i then b else a) a∈L from
    ⟨_,H l a (a :: l) aCw (fun x hx=>aCy _ hx),rfl⟩
   intro l
   induction l with
   | nil=>intro a L ha _;exact ha
   | cons b l ih =>
     intro a L ha hl;rw [aDZ];refine ih _ L ?_ fun x hx=>hl x (aCy _ hx);cases due b.1.i a.1.i with
     | true=>exact hl b aCw
     | false=>exact ha
theorem BN.oW {s:Ss} {A:As} (h:BN s A) (e:A.l≠[]):∃ a∈A.l,H6 A=some a∧0≤NI A a:=by
 obtain ⟨b,hb,hb0⟩:=h.aAZ e
 have hne:MH A≠[]:=fun k=>by
  have:b∈MH A:=List.mem_filter.2 ⟨hb,by simpa using hb0⟩;rw [k] at this;cases this
 obtain ⟨a,ha,hf⟩:=cG hne;obtain ⟨h1,h2⟩:=List.mem_filter.1 ha;exact ⟨a,h1,hf,by simpa using h2⟩
theorem oO {A:As} (e:A.l=[]):H6 A=none:=by unfold H6 MH;rw [e];rfl
theorem BN.aAp {s:Ss} {A:As} (h:BN s A) (e:A.l≠[]):0 < (mA A).w:=by
 have hc:=h.cen e;rw [h.Gk e] at hc;have:=hc.a0;have:=hc.a1;unfold mA;omega
theorem rC {A:As} {a:RT} (hf:Al A.l (BB a)=some a):(Fl A (BB a)).l=Dn (BB a) A.l:=by
 unfold Fl;rw [hf];rfl
theorem del_sub {i:Int} {l:List RT}:∀ x∈Dn i l,x∈l∧BB x≠i:=fun x hx=>by
 obtain ⟨h1,h2⟩:=List.mem_filter.1 hx;exact ⟨h1,by simpa using h2⟩
structure Pb (A:As) (G:List Gn) (B:As):Prop where
 none:B.l.find? (GJ B)=none
 sub:∀ x∈B.l,x∈A.l
 gone:∀ g∈G,g.r.asleep=true∧0≤g.lag∧g.id∈A.l.map BB∧∀ x∈B.l,BB x≠g.id
 len:B.l.length+G.length=A.l.length
 awake:∀ x∈A.l,x.1.asleep=false→x∈B.l
theorem BN.Zi:∀ {n:Nat} {s:Ss} {A:As},BN s A→A.l.length≤n→Pb A (Go.Proofs.Q0.Cr n A).1 (Go.Proofs.Q0.Cr n A).2
 | 0,s,A,h,hn=>by
   have e:A.l=[]:=aDp (Nat.le_zero.1 hn);exact ⟨(by show A.l.find? _=_;rw [e];rfl),fun x hx=>hx,fun g hg=>(by cases hg),(by show A.l.length+0=_;omega),fun x hx _=>hx⟩
 | n+1,s,A,h,hn=>by
   unfold Go.Proofs.Q0.Cr;cases e:A.l.find? (GJ A) with
   | none=>exact ⟨e,fun x hx=>hx,fun g hg=>(by cases hg),(by show A.l.length+0=_;omega),fun x hx _=>hx⟩
   | some a =>
     have ha:=aD5 e;have hgo:=List.find?_some e;have hf:=Cl h.o ha;obtain ⟨_,_,e3⟩:=h.exit hf;have hl:=(del_perm h.o hf).length_eq;have hx:=rC hf;simp only [aCx] at hl;have ih:=e3.Zi (n:=n) (by rw [hx];omega);unfold GJ at hgo;rw [aDB,decide_eq_true_iff] at hgo;have hw:=h.aAp (fun k=>by rw [k] at ha;cases ha);refine ⟨ih.none,fun x hx'=>?_,fun g hg=>?_,?_,fun x hx' hs=>ih.awake x ?_ hs⟩
     ·have:=ih.sub x hx';rw [hx] at this;exact (del_sub x this).1
     ·rcases aCu.1 hg with rfl | hg
      ·refine ⟨hgo.1,aDc hgo.2 om,aDF ha,fun x hx'=>?_⟩;have:=ih.sub x hx';rw [hx] at this;exact (del_sub x this).2
      ·obtain ⟨k1,k2,k3,k4⟩:=ih.gone g hg;refine ⟨k1,k2,?_,k4⟩;obtain ⟨y,hy,ZF⟩:=List.mem_map.1 k3;rw [hx] at hy;exact List.mem_map.2 ⟨y,(del_sub y hy).1,ZF⟩
     ·have:=ih.len;rw [hx] at this;simp only [aCx];omega
     ·rw [hx];refine List.mem_filter.2 ⟨hx',?_⟩;simp only [decide_eq_true_eq];intro k;have:x=a:=h.o.inj x hx' a ha k;subst this;rw [hs] at hgo;cases hgo.1
theorem BN.L4 {s:Ss} {A:As} (h:BN s A):Pb A (DR A).1 (DR A).2:=h.Zi (aC5 _)
theorem Pb.low {A B:As} {G:List Gn} (h:Pb A G B):∀ x∈B.l,x.1.asleep=true→NI B x < 0:=fun x hx hs=>by
 have:=List.find?_eq_none.1 h.none x hx;unfold GJ at this;rw [hs] at this;simpa using this
theorem bB {s:Ss} {A:As} (h:BN s A):∀ a∈A.l,0 < BB a:=fun a ha=>(iright_all a.2.1 (rright_i (h.r a ha))).2.2.2.1
theorem BN.runs {s:Ss} {A:As} (h:BN s A):(K4 A=0∧(DR A).2.l=[])∨∃ a∈(DR A).2.l,K4 A=BB a∧0 < BB a∧a.1.asleep=false∧0≤NI (DR A).2 a∧H6 (DR A).2=some a:=by
 have hF:=h.L4;obtain ⟨s',_,h'⟩:=h.flush;unfold K4;by_cases e:(DR A).2.l=[]
 ·exact .inl ⟨by rw [oO e];rfl,e⟩
 ·obtain ⟨a,ha,hs,h0⟩:=h'.oW e;refine .inr ⟨a,ha,by rw [hs];rfl,bB h' a ha,?_,h0,hs⟩;cases k:a.1.asleep with
  | false=>rfl
  | true=>have:=hF.low a ha k;omega
theorem pV {l:List RT} {a:RT} (ha:a∈l) (h:a.1.asleep=false):0 < runN l:=by
 unfold runN
 exact List.length_pos_iff.2 fun e=>by
  have:a∈l.filter fun a=>!a.1.asleep:=List.mem_filter.2 ⟨ha,by rw [h];rfl⟩;rw [e] at this;cases this
def HP (c:Cs):Prop:=(c.run=0∧c.A.l=[])∨∃ a∈c.A.l,c.run=BB a∧0 < BB a∧a.1.asleep=false∧0≤NI c.A a
theorem HP.new (k:Int):HP (EY k) := .inl ⟨rfl,rfl⟩
theorem inv_set {s:Ss} {c:Cs} (h:BN s c.A):HP (DN c):=by
 rcases h.runs with ⟨h1,h2⟩ | ⟨a,h1,h2,h3,h4,h5,_⟩
 ·exact .inl ⟨h1,h2⟩
 ·exact .inr ⟨a,h1,h2,h3,h4,h5⟩
theorem HP.runs {c:Cs} (h:HP c):(c.run≠0↔0 < runN c.A.l)∧(c.run=0→c.A.l=[]):=by
 rcases h with ⟨h1,h2⟩ | ⟨a,h1,h2,h3,h4,h5⟩
 ·refine ⟨⟨fun k=>absurd h1 k,fun k=>?_⟩,fun _=>h2⟩;rw [h2] at k;exact absurd k (by decide)
 ·exact ⟨⟨fun _=>pV h1 h4,fun _=>by omega⟩,fun k=>by omega⟩
def Hq (l:List Pr):Int:=(l.map Pr.ns).foldl (·+·) 0
theorem foldl_add (l:List Int):∀ x:Int,l.foldl (·+·) x=x+l.foldl (·+·) 0:=by
 induction l with
 | nil=>intro x;simp
 | cons a l ih=>intro x;rw [aDZ,aDZ,ih (x+a),ih (0+a)];omega
theorem qC (l:List Pr) (p:Pr):Hq (l ++ [p])=Hq l+p.ns:=by
 unfold Hq;rw [aDa,aDh];show List.foldl (·+·) _ [p.ns]=_;rfl
theorem Sl:∀ (k:Nat) (left:Int) (c:Cs) (r:Rp),0≤left→left≤1099511627776→(((DB k left c r).2.2.p.length:Nat):Int)≤r.p.length+left
 | 0,left,c,r,h0,_=>by show ((r.p.length:Nat):Int)≤_;omega
 | k+1,left,c,r,h0,hl=>by
   unfold DB;split
   ·split
    ·rename_i hs;have h1:=L9 (c:=c) (most:=left) ⟨h0,by omega⟩ hs;have ih:=Sl k (left - BW c left) (DN (DL c left)) (Hv c left r) om om;have e:(Hv c left r).p.length=r.p.length+1:=by show (r.p ++ [La c left]).length=_;simp
     rw [e] at ih;omega
    ·show ((r.p.length:Nat):Int)≤_;omega
   ·show ((r.p.length:Nat):Int)≤_;omega
theorem cB {A:As} {r:RT} (h:Dz A r=0):r.1.right=true∧∃ a,Al A.l (BB r)=some a:=by
 unfold Dz GS at h;cases hr:r.1.right with
 | false=>rw [hr] at h;cases h
 | true =>
   rw [hr] at h;have h:LC A r.1.i=0:=h;unfold LC at h;rw [rright_i hr] at h;refine ⟨rfl,?_⟩;cases e:Al A.l (BB r) with
   | some a=>exact ⟨a,rfl⟩
   | none =>
     rw [show r.1.i.id=BB r from rfl,e] at h;cases h
theorem Rr {A:As} {r:RT} (h:Dz A r=0):(GR A r).l=CJ r A.l:=by unfold GR;rw [if_pos h]
theorem tO {s:Ss} {A:As} (h:BN s A) (r:RT):(GR A r).l.length=A.l.length:=by
 by_cases e:Dz A r=0
 ·obtain ⟨_,a,ha⟩:=cB e;rw [Rr e,(KS h.o).length_eq,(del_perm h.o ha).length_eq];rfl
 ·unfold GR;rw [if_neg e]
theorem rep_srv {s:Ss} {c:Cs} (h:BN s c.A) (m:Int):∃ s',BN s' (DL c m).A:=⟨_,(h.put (DG c m)).2.1⟩
theorem tick_gone:∀ (k:Nat) (left:Int) (c:Cs) (r:Rp),(∃ s,BN s c.A)→(DB k left c r).2.2.g.length+(DB k left c r).2.1.A.l.length=r.g.length+c.A.l.length∧∃ s,BN s (DB k left c r).2.1.A
 | 0,left,c,r,h=>⟨rfl,h⟩
 | k+1,left,c,r,h=>by
   unfold DB;split
   ·split
    ·obtain ⟨s,hs⟩:=h;obtain ⟨s1,h1⟩:=rep_srv hs left;obtain ⟨s2,_,h2⟩:=h1.flush;have hF:=h1.L4.len;have hp:(DL c left).A.l.length=c.A.l.length:=tO hs _;obtain ⟨i1,i2⟩:=tick_gone k (left - BW c left) (DN (DL c left)) (Hv c left r) ⟨s2,h2⟩;refine ⟨?_,i2⟩;rw [i1];show (r.g ++ Da (DL c left)).length+(DR (DL c left).A).2.l.length=_;rw [aCv];show r.g.length+(DR (DL c left).A).1.length+(DR (DL c left).A).2.l.length=_;omega
    ·exact ⟨rfl,h⟩
   ·exact ⟨rfl,h⟩
theorem Zr {r u:Rq} (h:CM r=some u):u.i.id=r.i.id∧u.asleep=r.asleep:=by
 unfold CM at h;cases k:(EC r).right with
 | false=>rw [k] at h;cases h
 | true =>
   rw [k] at h;cases h;unfold EC;cases EZ r.left <;> exact ⟨rfl,rfl⟩
theorem Ng {c:Cs} {m:Int} {u:Rq × Bool} (h:Fk c m=some u):u.1.i.id=(DI c.A.l c.run).i.id∧u.1.asleep=(DI c.A.l c.run).asleep:=by
 unfold Fk DH at h;split at h
 ·split at h
  ·cases h
  ·rename_i p hp;cases e:CM (Cz (DI c.A.l c.run) p (BW c m)) with
   | none=>rw [e] at h;cases h
   | some q =>
     rw [e] at h;cases h;obtain ⟨a1,a2⟩:=Zr e;exact ⟨a1,a2⟩
 ·cases h
theorem lV {s:Ss} {c:Cs} {m:Int} (h:BN s c.A) (hi:HP c) (hr:c.run≠0) (hm:0≤m) (he:E0 c m=0):HP (DN (DL c m))∧(DN (DL c m)).run≠0:=by
 rcases hi with ⟨h1,_⟩ | ⟨a,ha,Vx,hpos,OD,_⟩
 ·exact absurd h1 hr
 obtain ⟨s1,hs1⟩:=rep_srv h m;have hI:=inv_set hs1;refine ⟨hI,fun k=>?_⟩;have cL:=hI.runs.2 k;have hg:DI c.A.l c.run=a.1:=by unfold DI;rw [Vx,Cl h.o ha]
 cases e:Fk c m with
 | none =>
   have:E0 c m=2:=by unfold E0 DG;rw [e];exact (put_zero _).1
   omega
 | some u =>
   have hu:=Pk hm e;obtain ⟨k1,k2⟩:=Ng e;have hy:DG c m=CQ u.1:=by unfold DG;rw [e]
   have hy1:(CQ u.1).1=u.1:=Ij hu
   have hmem:CQ u.1∈(DL c m).A.l:=by
    show CQ u.1∈(GR c.A (DG c m)).l;rw [Rr he,hy];exact (Bu (by rw [I8,if_pos rfl])).1
   have:=hs1.L4.awake _ hmem (by rw [hy1,k2,hg];exact OD);have hl:(DN (DL c m)).A.l=(DR (DL c m).A).2.l:=rfl;rw [hl] at cL;rw [cL] at this;cases this
end Go.Proofs.Q0
namespace Go.Proofs.Q0
open Go Go.RowKit Tryz
def Bw (c:Cs):Prop:=∃ s,BN s c.A
theorem Jr {c:Cs} (h:Bw c):Bw (DN c):=by
 obtain ⟨s,hs⟩:=h;obtain ⟨s',_,h'⟩:=hs.flush;exact ⟨s',h'⟩
theorem FI {c:Cs} (h:Bw c) (id:Int):Bw (Az c id).2:=by
 obtain ⟨s,hs⟩:=h;unfold Az;split
 ·rename_i k;cases e:Al c.A.l id with
  | none=>rw [e] at k;cases k
  | some a =>
    obtain ⟨_,_,h3⟩:=hs.exit e;exact ⟨_,h3⟩
 ·exact ⟨s,hs⟩
theorem Ky {c:Cs} (h:Bw c) (id:Int):Bw (Bk c id).2:=by
 have hl:=FI h id;obtain ⟨s,hs⟩:=h;unfold Bk;cases Al c.A.l id with
 | none=>exact ⟨s,hs⟩
 | some a =>
   show Bw (if a.1.asleep=true then (6,c) else if Dm c.A id < 0 then (0,(⟨Gl c.A id true,c.run,c.carr⟩:Cs)) else Az c id).2;split
   ·exact ⟨s,hs⟩
   ·split
    ·exact ⟨_,hs.Zx id true⟩
    ·exact hl
theorem MN {c:Cs} (h:Bw c) (id:Int):Bw (CN c id).2:=by
 obtain ⟨s,hs⟩:=h;unfold CN;cases Al c.A.l id with
 | none=>exact ⟨s,hs⟩
 | some a =>
   show Bw (if a.1.asleep=true then (0,(⟨Gl c.A id false,c.run,c.carr⟩:Cs)) else (6,c)).2;split
   ·exact ⟨_,hs.Zx id false⟩
   ·exact ⟨s,hs⟩
theorem Kk {c:Cs} (h:Bw c) (id q:Int):Bw (Bp c id q).2:=by
 obtain ⟨s,hs⟩:=h;unfold Bp;split
 ·exact ⟨s,hs⟩
 ·cases Al c.A.l id with
  | none=>exact ⟨s,hs⟩
  | some a =>
    show Bw (Mh c id (Jz c.A a.1 q)).2;cases Jz c.A a.1 q with
    | none=>exact ⟨s,hs⟩
    | some y=>exact ⟨_,(hs.put (CQ y)).2.1⟩
theorem Kx {c:Cs} (h:Bw c) (id ns:Int):Bw (Bq c id ns).2:=by
 obtain ⟨s,hs⟩:=h;unfold Bq;split
 ·exact ⟨s,hs⟩
 ·cases Al c.A.l id with
  | none=>exact ⟨s,hs⟩
  | some a=>exact ⟨_,(hs.put _).2.1⟩
theorem I5 {c:Cs} (h:Bw c) (id q ns lag:Int):Bw (Bn c id q ns lag).2:=by
 obtain ⟨s,hs⟩:=h;unfold Bn;split
 ·exact ⟨s,hs⟩
 ·split
  ·exact ⟨s,hs⟩
  ·split
   ·exact ⟨s,hs⟩
   ·cases IL c id q ns lag with
    | none=>exact ⟨s,hs⟩
    | some r =>
      show Bw (if FT c.A r=0 then (0,(⟨Gj c.A r,c.run,Ea c.carr (C2 (Gj c.A r) id)⟩:Cs)) else (FT c.A r,c)).2;split
      ·exact ⟨_,(hs.enter r).2⟩
      ·exact ⟨s,hs⟩
theorem O1 {c:Cs} (h:Bw c) (ns:Int):Bw (A7 c ns).2.1:=by
 unfold A7;split
 ·exact (tick_gone _ ns c .none h).2
 ·exact h
theorem Qa:∀ (k:Nat) (left:Int) (c:Cs) (r:Rp),Bw c→left≤1099511627776→0≤left→left < k→HP c→c.run≠0→(DB k left c r).1=0→Hq (DB k left c r).2.2.p=Hq r.p+left
 | 0,left,c,r,_,_,h0,hk,_,_,_=>by omega
 | k+1,left,c,r,hR,hl,h0,hk,hi,hrun,he=>by
   unfold DB at he ⊢;by_cases hc:0 < left∧c.run≠0
   ·rw [if_pos hc] at he ⊢;by_cases hs:E0 c left=0
    ·rw [if_pos hs] at he ⊢;have h1:=L9 (c:=c) (most:=left) ⟨h0,by omega⟩ hs;obtain ⟨s,hs'⟩:=hR;obtain ⟨i2,r2⟩:=lV hs' hi hrun h0 hs;have ih:=Qa k (left - BW c left) (DN (DL c left)) (Hv c left r) (Jr (rep_srv hs' left)) om om om i2 r2 he;rw [ih];show Hq (r.p ++ [La c left])+_=_;rw [qC];show Hq r.p+BW c left+(left - BW c left)=_;omega
    ·rw [if_neg hs] at he;exact absurd he hs
   ·have:left=0:=by
     rcases Int.lt_or_le 0 left with k | k
     ·exact absurd ⟨k,hrun⟩ hc
     ·omega
    rw [if_neg hc,this];show Hq r.p=_;omega
structure Ev where
 core:Int
 id:Int
 ns:Int
 done:Bool
 gone:Bool
deriving DecidableEq
abbrev Ev.cells (x:Ev):List Value:=[.int .i64 x.core,.int .i64 x.id,.int .u64 x.ns,.bool x.done,.bool x.gone]
def NF (l:List Ev):List Value:=(l.map Ev.cells).flatten
theorem Yc (l:List Ev) (x:Ev):NF (l ++ [x])=NF l ++ x.cells:=by simp [NF]
structure Sy where
 cf:Cf
 t:List Tk
 k:List Cs
structure Ch where
 s:Sy
 ev:List Ev
def BR (x:Tk):Bool:=x.st == 1 || x.st == 2
def AK (s:Sy) (k:Int):Cs:=s.k.getD k.toNat (EY 0)
def BX (s:Sy) (k:Int) (c:Cs):Sy:={ s with k:=s.k.set k.toNat c }
def Bz (s:Sy) (x:Tk):Sy:={ s with t:=ES s.t x }
def Ke (k:Int) (p:Pr):Ev:=⟨k,p.id,p.ns,p.done,false⟩
def Di (s:Sy) (g:Gn):Tk:={ Ay s.t g.id with st:=3,lag:=GK s.cf g.lag (Ay s.t g.id).slice }
def D3 (k:Int) (s:Ch) (g:Gn):Ch:=⟨Bz s.s (Di s.s g),s.ev ++ [⟨k,g.id,0,false,true⟩]⟩
def HU (k:Int) (s:Ch) (p:Pr):Ch:=⟨s.s,s.ev ++ [Ke k p]⟩
def BJ (s:Ch) (k:Int) (r:Rp):Ch:=r.g.foldl (D3 k) (r.p.foldl (HU k) s)
def B0 (s:Ch) (x:Tk):Int × Ch :=
 let c:=AK s.s x.core
 let l:=Az c x.id
 (GK s.s.cf (C2 c.A x.id) x.slice,BJ ⟨BX s.s x.core (CU c l.1 l.2),s.ev⟩ x.core (BO l.1 l.2 .none))
def DX (s:Ch) (k:Int) (l:Int × Cs × Rp):Int × Ch :=
 if l.1=0 then (0,BJ ⟨BX s.s k (CU (AK s.s k) l.1 l.2.1),s.ev⟩ k (BO l.1 l.2.1 l.2.2)) else (l.1,s)
def FM (s:Ch) (x:Tk) (lag:Int):Int × Ch:=DX s x.core ((Bn (AK s.s x.core) x.id x.w x.slice lag).1,(Bn (AK s.s x.core) x.id x.w x.slice lag).2,.none)
def Cx (s:Sy) (core w slice:Int):Int:=F8 [CS s.cf core,BC w 1048576,BC slice (D7 s.cf.slice)]
def B8 (core w slice:Int):Tk:=⟨0,1,core,IntKind.u32.wrap w,slice,0⟩
def Bc (s:Ch) (core w slice:Int):Int × Int × Ch :=
 if Cx s.s core w slice≠0 then (Cx s.s core w slice,0,s) else
 if Ef s.s.t (B8 core w slice)≠0 then (Ef s.s.t (B8 core w slice),0,s) else
 let n:=Eu s.s.t (B8 core w slice)
 let j:=FM ⟨{ s.s with t:=D4 s.s.t (B8 core w slice) },s.ev⟩ { B8 core w slice with id:=n } 0
 if j.1=0 then (0,n,j.2) else (j.1,0,s)
def FQ (s:Ch) (x:Tk) (id:Int):Int × Ch :=
 let s1:=if BR x=true then (B0 s x).2 else s
 (Df (BK s1.s.t id),⟨{ s1.s with t:=FJ s1.s.t id },s1.ev⟩)
def ED (s:Ch) (x:Tk) (id:Int):Tk :=
 let y:=CA (AK s.s x.core) id
 if y.1=true then { x with st:=3,lag:=GK s.s.cf y.2 x.slice } else { x with st:=2 }
def DY (s:Ch) (x:Tk) (l:Int × Cs × Rp):Int × Ch :=
 if l.1=0 then (0,BJ ⟨Bz (BX s.s x.core (CU (AK s.s x.core) l.1 l.2.1)) x,s.ev⟩ x.core (BO l.1 l.2.1 l.2.2)) else (l.1,s)
def Fz (s:Ch) (x:Tk) (id:Int):Int × Ch :=
 if x.st≠1 then (6,s) else
 let l:=Bk (AK s.s x.core) id
 DY s (ED s x id) (l.1,l.2,.none)
def EX (s:Ch) (x:Tk) (id:Int):Int × Ch :=
 if x.st=1 then (6,s) else
 if x.st=3 then FM ⟨Bz s.s { x with st:=1 },s.ev⟩ { x with st:=1 } x.lag else
 let l:=CN (AK s.s x.core) id
 DY s { x with st:=1 } (l.1,l.2,.none)
def DM (s:Ch) (x:Tk) (id w:Int):Int × Ch :=
 if BC w 1048576≠0 then (BC w 1048576,s) else
 let y:={ x with w:=IntKind.u32.wrap w }
 let s1:Ch:=⟨Bz s.s y,s.ev⟩
 if BR x=false then (0,s1) else
 let l:=Bp (AK s.s x.core) id y.w
 DX s1 x.core (l.1,l.2,.none)
def Dp (s:Ch) (x:Tk) (id ns:Int):Int × Ch :=
 if BC ns (D7 s.s.cf.slice)≠0 then (BC ns (D7 s.s.cf.slice),s) else
 let y:={ x with slice:=ns }
 let s1:Ch:=⟨Bz s.s y,s.ev⟩
 if BR x=false then (0,s1) else
 let l:=Bq (AK s.s x.core) id ns
 DX s1 x.core (l.1,l.2,.none)
def Dv (x:Tk) (core lag:Int):Tk:={ x with core:=core,lag:=lag,st:=if x.st=2 then 3 else x.st }
def C5 (s:Ch) (x:Tk) (core:Int):Int × Ch :=
 if CS s.s.cf core≠0∨core=x.core then (CS s.s.cf core,s) else
 let l:=if BR x=true then B0 s x else (x.lag,s)
 let y:=Dv x core l.1
 let s1:Ch:=⟨Bz l.2.s y,l.2.ev⟩
 if y.st=1 then FM s1 y y.lag else (0,s1)
def Ca:Nat→Nat→Ch→Int→Int × Ch
 | 0,_,s,_=>(0,s)
 | n+1,k,s,ns =>
   let l:=A7 (AK s.s k) ns
   if l.1=0 then Ca n (k+1) (BJ ⟨BX s.s k (CU (AK s.s k) l.1 l.2.1),s.ev⟩ k (BO l.1 l.2.1 l.2.2)) ns else (l.1,s)
def EI (s:Ch) (ns:Int):Int × Ch :=
 if BC ns (D7 s.s.cf.tick)≠0 then (BC ns (D7 s.s.cf.tick),s) else Ca s.s.k.length 0 s ns
def By (s:Ch) (id:Int) (f:Ch→Tk→Int × Ch):Int × Ch:=if Df (BK s.s.t id)≠0 then (Df (BK s.s.t id),s) else f s (Ay s.s.t id)
def Dt (s:Sy) (l:Int × Ch):List Ev × Sy:=if l.1=0 then (l.2.ev,l.2.s) else ([],s)
structure CK where
 d:Int
 id:Int
 core:Int
 w:Int
 ns:Int
abbrev CK.cells (a:CK):List Value:=[.int .u8 a.d,.int .i64 a.id,.int .i64 a.core,.int .u64 a.w,.int .u64 a.ns]
def CK.In (a:CK):Prop:=(0≤a.d∧a.d < 256)∧In64 a.id∧In64 a.core∧BY a.w∧BY a.ns
def CO (s:Sy) (a:CK):Int × Ch :=
 let c:Ch:=⟨s,[]⟩
 if a.d % 12 < 2 then ((Bc c a.core a.w a.ns).1,(Bc c a.core a.w a.ns).2.2)
 else if a.d % 12=2 then By c a.id fun s x=>FQ s x a.id
 else if a.d % 12 < 5 then By c a.id fun s x=>Fz s x a.id
 else if a.d % 12 < 7 then By c a.id fun s x=>EX s x a.id
 else if a.d % 12=7 then By c a.id fun s x=>DM s x a.id a.w
 else if a.d % 12=8 then By c a.id fun s x=>Dp s x a.id a.ns
 else if a.d % 12=9 then By c a.id fun s x=>C5 s x a.core
 else EI c a.ns
def JS (s:Sy) (a:CK):Int:=if a.d % 12 < 2 then (Bc ⟨s,[]⟩ a.core a.w a.ns).2.1 else 0
def IS (c:Cf):Sy:=⟨c,List.replicate (Ey c.tasks) .zero,List.replicate c.cores.toNat (EY c.origin)⟩
def CP (n:Int) (x:Tk):Prop:=In64 x.id∧(0≤x.st∧x.st < 256)∧In64 x.core∧Fb x.w∧BY x.slice∧In64 x.lag∧(x.st≠0→0≤x.core∧x.core < n)
theorem CP.zero (n:Int):CP n .zero:=⟨by decide,by decide,by decide,by decide,by decide,by decide,fun h=>absurd rfl h⟩
structure EE (s:Sy):Prop where
 cf:s.cf.In
 lo:1≤s.cf.cores
 hi:s.cf.cores≤8
 len:(s.k.length:Int)=s.cf.cores
 row:∀ x∈s.t,CP s.cf.cores x
 tl:s.t.length≤32
theorem XG {n:Int} {l:List Tk} (h:∀ x∈l,CP n x) {y:Tk} (hy:CP n y) (i:Nat):∀ x∈l.set i y,CP n x:=fun x hx=>by
 rcases aD8 hx with h1 | rfl
 ·exact h x h1
 ·exact hy
theorem tN {n:Int} {l:List Tk} (h:∀ x∈l,CP n x) {y:Tk} (hy:CP n y):∀ x∈ES l y,CP n x:=by
 unfold ES;cases Ba y with
 | false=>exact h
 | true =>
   cases BK l y.id with
   | none=>exact h
   | some i=>exact XG h hy i
theorem V6 {n:Int} {l:List Tk} (h:∀ x∈l,CP n x) (id:Int):∀ x∈FJ l id,CP n x:=by
 unfold FJ;cases BK l id with
 | none=>exact h
 | some i=>exact XG h (CP.zero n) i
theorem ok_task {n:Int} {l:List Tk} (h:∀ x∈l,CP n x) (id:Int):CP n (Ay l id):=by
 unfold Ay;cases e:BK l id with
 | none=>exact CP.zero n
 | some i =>
   have hi:=(I2 e).1;show CP n (l.getD i .zero);rw [aDI,aC3 hi];exact h _ (aDS hi)
theorem ZM {n:Int} {l:List Tk} (h:∀ x∈l,CP n x) (hl:l.length≤32) {y:Tk} (hy:CP n y):∀ x∈D4 l y,CP n x:=by
 unfold D4;cases Ba y with
 | false=>exact h
 | true =>
   cases e:Dc l with
   | none=>exact h
   | some i =>
     have hi:=LN e;have hn:In64 ((i:Int)+1):=by unfold In64;omega
     exact XG (y:={ y with id:=(i:Int)+1 }) h ⟨hn,hy.2⟩ i
theorem task_st {l:List Tk} {id:Int} (h:Df (BK l id)=0):(Ay l id).st≠0:=by
 cases e:BK l id with
 | none=>rw [e] at h;cases h
 | some i =>
   obtain ⟨x,h1,h2,_⟩:=N6 e;unfold Ay;rw [e];show (l.getD i .zero).st≠0;rw [aDI,h1];exact h2
theorem LW (c:Cf) (x s:Int):In64 (GK c x s):=gK (Yy _ _)
theorem EE.Tp {s:Sy} (h:EE s) (k:Int) (c:Cs):EE (BX s k c):=⟨h.cf,h.lo,h.hi,by show ((s.k.set k.toNat c).length:Int)=_;rw [aDN];exact h.len,h.row,h.tl⟩
theorem EE.rows {s:Sy} (h:EE s) {t:List Tk} (ht:∀ x∈t,CP s.cf.cores x) (hl:t.length=s.t.length):EE { s with t:=t }:=⟨h.cf,h.lo,h.hi,h.len,ht,by show t.length≤32;rw [hl];exact h.tl⟩
theorem EE.CM {s:Sy} (h:EE s) {x:Tk} (hx:CP s.cf.cores x):EE (Bz s x):=h.rows (tN h.row hx) (mL _ _)
theorem CP.sH {s:Sy} (h:EE s) (g:Gn):CP s.cf.cores (Di s g):=by
 have hx:=ok_task h.row g.id;by_cases e:(Ay s.t g.id).st=0
 ·cases k:BK s.t g.id with
  | none =>
    have ez:Ay s.t g.id = .zero:=by unfold Ay;rw [k]
    have:=h.lo;unfold Di;rw [ez];exact ⟨(by decide:In64 0),(by decide:(0:Int)≤3∧(3:Int) < 256),(by decide:In64 0),(by decide:Fb 0),(by decide:BY 0),LW _ _ _,fun _=>⟨Int.le_refl _,by show (0:Int) < _;omega⟩⟩
  | some i=>exact absurd e (task_st (by rw [k];rfl))
 ·exact ⟨hx.1,(by decide:(0:Int)≤3∧(3:Int) < 256),hx.2.2.1,hx.2.2.2.1,hx.2.2.2.2.1,LW _ _ _,fun _=>hx.2.2.2.2.2.2 e⟩
theorem OG (k:Int):∀ (l:List Pr) (s:Ch),(l.foldl (HU k) s).s=s.s∧(l.foldl (HU k) s).ev=s.ev ++ l.map (Ke k)
 | [],s=>⟨rfl,by simp⟩
 | p :: l,s=>by
   obtain ⟨h1,h2⟩:=OG k l (HU k s p);refine ⟨h1,?_⟩;rw [aDZ,h2];simp [HU]
theorem Zb (k:Int):∀ (l:List Gn) (s:Ch),EE s.s→EE (l.foldl (D3 k) s).s∧(l.foldl (D3 k) s).s.cf=s.s.cf∧(l.foldl (D3 k) s).s.k=s.s.k
 | [],s,h=>⟨h,rfl,rfl⟩
 | g :: l,s,h=>Zb k l (D3 k s g) (h.CM (CP.sH h g))
theorem ok_absorb {s:Ch} (h:EE s.s) (k:Int) (r:Rp):EE (BJ s k r).s∧(BJ s k r).s.cf=s.s.cf∧(BJ s k r).s.k=s.s.k:=by
 obtain ⟨e1,_⟩:=OG k r.p s;obtain ⟨h1,h2,h3⟩:=Zb k r.g (r.p.foldl (HU k) s) (by rw [e1];exact h);rw [e1] at h2 h3;exact ⟨h1,h2,h3⟩
theorem Tr (k:Int):∀ (l:List Gn) (s:Ch),(l.foldl (D3 k) s).ev=s.ev ++ l.map (fun g=>⟨k,g.id,0,false,true⟩)
 | [],s=>by simp
 | g :: l,s=>by rw [aDZ,Tr k l];simp [D3]
theorem Il (s:Ch) (k:Int) (r:Rp):(BJ s k r).ev=s.ev ++ r.p.map (Ke k) ++ r.g.map (fun g=>⟨k,g.id,0,false,true⟩):=by
 unfold BJ;rw [Tr,(OG k r.p s).2]
end Go.Proofs.Q0
namespace Go.Proofs.Q0
open Go Go.RowKit Go.ChangeShapes Go.WideShapes Go.ChangeAt Tryz
theorem Un : prog.underlying 24 = some (.struct #[{ name := "Cores", type := 3, offset := 0, embedded := false, tag := "", pkgPath := "", byteOffset := 0 }, { name := "Tasks", type := 3, offset := 1, embedded := false, tag := "", pkgPath := "", byteOffset := 8 }, { name := "Tick", type := 22, offset := 2, embedded := false, tag := "", pkgPath := "", byteOffset := 16 }, { name := "Slice", type := 22, offset := 3, embedded := false, tag := "", pkgPath := "", byteOffset := 24 }, { name := "Origin", type := 22, offset := 4, embedded := false, tag := "", pkgPath := "", byteOffset := 32 }]) := by kernel_rfl
theorem pF {H:Type} {enc:TypeId × Value→H} {W:World} {r:Reach} {b0 base:Nat} {spare:Nat→Bool} {held:Bool} {v:Value} {d:DataW H} {p:List MemPlace} (hv:Value.okWide prog W r b0 24 v)
 (h:DataW.Trod enc prog W base spare held 24 v d p):∃ c:Cf,c.In∧v=Q2 c:=by
 obtain ⟨cs,rfl,hsz⟩:=okWide_struct Un hv;have hC:prog.cellsOf 24=5:=by kernel_rfl
 rw [hC] at hsz;obtain ⟨l⟩:=cs
 match l,hsz with
 | [v0,v1,v2,v3,v4],_ =>
   obtain ⟨fuel,hf⟩:=h;obtain ⟨xs,n,_,_,hl,hlen,hq⟩:=DataW.trod_struct Un hf
   match xs,hlen with
   | [y0,y1,y2,y3,y4],_ =>
     have c1:prog.cellsOf 3=1:=by kernel_rfl
     have c2:prog.cellsOf 22=1:=by kernel_rfl
     have h0:=hq 0 _ rfl;have h1:=hq 1 _ rfl;have h2:=hq 2 _ rfl;have h3:=hq 3 _ rfl;have h4:=hq 4 _ rfl;obtain ⟨a0,e0,_,w0⟩:=DataW.trod_int (t:=3) (k := .i64) (by kernel_rfl) h0;obtain ⟨a1,e1,_,w1⟩:=DataW.trod_int (t:=3) (k := .i64) (by kernel_rfl) h1;obtain ⟨a2,e2,_,w2⟩:=DataW.trod_int (t:=22) (k := .u64) (by kernel_rfl) h2;obtain ⟨a3,e3,_,w3⟩:=DataW.trod_int (t:=22) (k := .u64) (by kernel_rfl) h3;obtain ⟨a4,e4,_,w4⟩:=DataW.trod_int (t:=22) (k := .u64) (by kernel_rfl) h4
     have q0:v0 = .int .i64 a0:=by
      have e:List.take (prog.cellsOf 3) (List.drop 0 [v0,v1,v2,v3,v4])=[.int .i64 a0]:=e0;rw [c1] at e;simpa using e
     have q1:v1 = .int .i64 a1:=by
      have e:List.take (prog.cellsOf 3) (List.drop 1 [v0,v1,v2,v3,v4])=[.int .i64 a1]:=e1;rw [c1] at e;simpa using e
     have q2:v2 = .int .u64 a2:=by
      have e:List.take (prog.cellsOf 22) (List.drop 2 [v0,v1,v2,v3,v4])=[.int .u64 a2]:=e2;rw [c2] at e;simpa using e
     have q3:v3 = .int .u64 a3:=by
      have e:List.take (prog.cellsOf 22) (List.drop 3 [v0,v1,v2,v3,v4])=[.int .u64 a3]:=e3;rw [c2] at e;simpa using e
     have q4:v4 = .int .u64 a4:=by
      have e:List.take (prog.cellsOf 22) (List.drop 4 [v0,v1,v2,v3,v4])=[.int .u64 a4]:=e4;rw [c2] at e;simpa using e
     exact ⟨⟨a0,a1,a2,a3,a4⟩,⟨Pg w0,Pg w1,Mo w2,Mo w3,Mo w4⟩,by rw [q0,q1,q2,q3,q4];rfl⟩
theorem Yb : prog.underlying 33 = some (.struct #[{ name := "Do", type := 5, offset := 0, embedded := false, tag := "", pkgPath := "", byteOffset := 0 }, { name := "ID", type := 3, offset := 1, embedded := false, tag := "", pkgPath := "", byteOffset := 8 }, { name := "Core", type := 3, offset := 2, embedded := false, tag := "", pkgPath := "", byteOffset := 16 }, { name := "W", type := 22, offset := 3, embedded := false, tag := "", pkgPath := "", byteOffset := 24 }, { name := "Ns", type := 22, offset := 4, embedded := false, tag := "", pkgPath := "", byteOffset := 32 }]) := by kernel_rfl
theorem Q4:prog.cellsOf 33=5:=by kernel_rfl
theorem gI {H:Type} {enc:TypeId × Value→H} {W:World} {base:Nat} {spare:Nat→Bool} {held:Bool} (fuel:Nat) (cs:List Value) (x) (h:DataW.trod enc prog W base spare held fuel 33 cs=some x):∃ q:CK,cs=[.int .u8 q.d,.int .i64 q.id,.int .i64 q.core,.int .u64 q.w,.int .u64 q.ns]∧CK.In q:=by
 obtain ⟨xs,n,_,_,hl,hlen,hq⟩:=DataW.trod_struct Yb h;rw [Q4] at hl
 match cs,hl with
 | [v0,v1,v2,v3,v4],_ =>
   match xs,hlen with
   | [y0,y1,y2,y3,y4],_ =>
     have h0:=hq 0 _ rfl;obtain ⟨a0,e0,_,w0⟩:=DataW.trod_int (t:=5) (k := .u8) (by kernel_rfl) h0;replace w0:=aAF w0
     have q0:v0 = .int .u8 a0:=by
      have e:List.take (prog.cellsOf 5) (List.drop 0 [v0,v1,v2,v3,v4])=[.int .u8 a0]:=e0;rw [show prog.cellsOf 5=1 by kernel_rfl] at e;simpa using e
     have h1:=hq 1 _ rfl;obtain ⟨a1,e1,_,w1⟩:=DataW.trod_int (t:=3) (k := .i64) (by kernel_rfl) h1;replace w1:=Pg w1
     have q1:v1 = .int .i64 a1:=by
      have e:List.take (prog.cellsOf 3) (List.drop 1 [v0,v1,v2,v3,v4])=[.int .i64 a1]:=e1;rw [show prog.cellsOf 3=1 by kernel_rfl] at e;simpa using e
     have h2:=hq 2 _ rfl;obtain ⟨a2,e2,_,w2⟩:=DataW.trod_int (t:=3) (k := .i64) (by kernel_rfl) h2;replace w2:=Pg w2
     have q2:v2 = .int .i64 a2:=by
      have e:List.take (prog.cellsOf 3) (List.drop 2 [v0,v1,v2,v3,v4])=[.int .i64 a2]:=e2;rw [show prog.cellsOf 3=1 by kernel_rfl] at e;simpa using e
     have h3:=hq 3 _ rfl;obtain ⟨a3,e3,_,w3⟩:=DataW.trod_int (t:=22) (k := .u64) (by kernel_rfl) h3;replace w3:=Mo w3
     have q3:v3 = .int .u64 a3:=by
      have e:List.take (prog.cellsOf 22) (List.drop 3 [v0,v1,v2,v3,v4])=[.int .u64 a3]:=e3;rw [show prog.cellsOf 22=1 by kernel_rfl] at e;simpa using e
     have h4:=hq 4 _ rfl;obtain ⟨a4,e4,_,w4⟩:=DataW.trod_int (t:=22) (k := .u64) (by kernel_rfl) h4;replace w4:=Mo w4
     have q4:v4 = .int .u64 a4:=by
      have e:List.take (prog.cellsOf 22) (List.drop 4 [v0,v1,v2,v3,v4])=[.int .u64 a4]:=e4;rw [show prog.cellsOf 22=1 by kernel_rfl] at e;simpa using e
     subst q0;subst q1;subst q2;subst q3;subst q4;exact ⟨⟨a0,a1,a2,a3,a4⟩,rfl,⟨w0,w1,w2,w3,w4⟩⟩
instance:Inhabited CK:=⟨⟨0,0,0,0,0⟩⟩
theorem YP {H:Type} {enc:TypeId × Value→H} {W:World} {r:Reach} {b0 base:Nat} {spare:Nat→Bool} {held:Bool} {v:Value} {d:DataW H} {p:List MemPlace} (hv:Value.okWide prog W r b0 25 v)
 (h:DataW.Trod enc prog W base spare held 25 v d p):∃ xs:List CK,Sj W 5 v (xs.map CK.cells)∧∀ a∈xs,a.In :=
 open_rows (cells:=CK.cells) (by kernel_rfl) Q4 (by decide) (fun _=>rfl) gI hv h
end Go.Proofs.Q0
namespace Go.Proofs.Q0
open Go Go.RowKit Tryz
attribute [local irreducible] XS XC XA AY AR A9 A1 A0 Aa Ae AW SE
def Hx:Tk:=⟨0,1,0,0,0,0⟩
def Lq (n:Nat):List Tk:=match n with
 | 0=>List.replicate (Ey 3) .zero
 | 1=>D4 (List.replicate (Ey 3) .zero) Hx
 | 2=>D4 (D4 (List.replicate (Ey 3) .zero) Hx) Hx
 | 3=>D4 (D4 (D4 (List.replicate (Ey 3) .zero) Hx) Hx) Hx
 | _=>FJ (D4 (D4 (D4 (List.replicate (Ey 3) .zero) Hx) Hx) Hx) 2
theorem a20:Eu (Lq 0) Hx=1∧Ef (Lq 0) Hx=0∧Eu (Lq 1) Hx=2∧Ef (Lq 1) Hx=0∧Eu (Lq 2) Hx=3∧Ef (Lq 2) Hx=0∧Df (BK (Lq 3) 2)=0∧Eu (Lq 4) Hx=2∧Ef (Lq 4) Hx=0:=by decide
theorem YR (w0:World) (ht:DJ w0):AO prog 61 #[] w0 fun v w'=>v = .bool true∧AB [] w0 w':=by
 have hs:=St.nil w0;obtain ⟨e1,e2,e3,e4,e5,e6,e7,e8,e9⟩:=a20;refine AS func61 ntmps61 ?_;refine Ja ?_;refine cl (h:=by exact VO 3 _) ?_;rintro v w1 ⟨⟨tb,rb,rfl,hT,g1,g2,hne⟩,AL⟩;have BF:=(hs.AE rfl).trans AL;have kP:=(hs.AE rfl).size;have lr:rb < w1.heap.size:=by obtain ⟨_,_,_,h,_⟩:=hT;exact lt_of_block h
 clear hs;have hs:=St.nil w1
 repeat' (first|refine Sa ?_|(refine AV hs ?_;intro w hs)|(refine al hs ?_;intro b w hz hs)|fail)
 have gb:=hs.new _ aCw rfl;simp only at gb;have hnb:b∉[rb]:=by simp;omega
 have yK:=hs.AD [] AA sD;refine cl (h:=by exact LP tb rb (Lq 0) Hx _ (hT.only yK)) ?_;rw [e1,e2];rintro v w2 ⟨rfl,Bo,zS⟩;have hb0:=zS.block (hs.get (b:=b) AX) hnb;have aB7:=(BF.trans yK).step zS (fun k hk => .inr (by obtain rfl:=List.mem_singleton.1 hk;exact g2));clear hs;have hs:=(St.nil w2).AF hb0;refine Ja ?_;have vU:=hs.AD [] (by simp [hb0]) sD;refine cl (h:=by exact LP tb rb (Lq 1) Hx _ (Bo.only vU)) ?_;rw [e3,e4];rintro v w3 ⟨rfl,MD,yH⟩;have CE:=yH.block (hs.get (b:=b) AX) hnb;have aCJ:=(aB7.trans vU).step yH (fun k hk => .inr (by obtain rfl:=List.mem_singleton.1 hk;exact g2));clear hs;have hs:=(St.nil w3).AF CE;refine Ja ?_;have y7:=hs.AD [] (by simp [CE]) sD;refine cl (h:=by exact LP tb rb (Lq 2) Hx _ (MD.only y7)) ?_;rw [e5,e6];rintro v w4 ⟨rfl,Fv,aAQ⟩;have Ds:=aAQ.block (hs.get (b:=b) AX) hnb;have aBh:=(aCJ.trans y7).step aAQ (fun k hk => .inr (by obtain rfl:=List.mem_singleton.1 hk;exact g2));clear hs;have hs:=(St.nil w4).AF Ds;refine Ja ?_;have wX:=hs.AD [] (by simp [Ds]) sD;refine cl (h:=by exact Ua tb rb (Lq 3) 2 _ (Fv.only wX) (by decide)) ?_;rw [e7];rintro v w5 ⟨rfl,Si,yU⟩;have Gc:=yU.block (hs.get (b:=b) AX) hnb;have aBG:=(aBh.trans wX).step yU (fun k hk => .inr (by obtain rfl:=List.mem_singleton.1 hk;exact g2));clear hs;have hs:=(St.nil w5).AF Gc;refine Ja ?_;have xY:=hs.AD [] (by simp [Gc]) sD;refine cl (h:=by exact LP tb rb (Lq 4) Hx _ (Si.only xY)) ?_;rw [e8,e9];rintro v w6 ⟨rfl,X2,yC⟩;have hb4:=yC.block (hs.get (b:=b) AX) hnb;have xJ:=(aBG.trans xY).step yC (fun k hk => .inr (by obtain rfl:=List.mem_singleton.1 hk;exact g2));clear hs;have hs:=(St.nil w6).AF hb4;refine Ja ?_;have Tt:=hs.AD [] (by simp [hb4]) sD;refine AZ hs (h:=by exact YE _ (tab_only ht (xJ.trans Tt))) ?_;intro w' ho hs;refine Jc ?_;refine AG ?_;exact ⟨rfl,xJ.trans (hs.AD [] (by simp [hb4]) sD)⟩
end Go.Proofs.Q0
namespace Go.Proofs.Q0
open Go Go.RowKit Tryz
section
variable {ops : Array Oper} {QE : Exit → Env → World → Prop} {n : Nat} {rest : List Oper} {env : Env} {w : World} {d : Option Nat} {ty : Nat} {pos : String} {Am : Array Edge} {g : Option (Nat × Bool)}
theorem wK {t t':Nat} {x y:Operand} {a b:Int} (h0:0≤a) (h2:0 < b) (k:XS prog ops QE n rest (Bf env d (.int .u8 (a % b))) w) (hw:Ax ops env g=true:=by exact rfl) (hx:ev env x = .int .u8 a:=by exact rfl) (hy:ev env y = .int .u8 b:=by exact rfl):XS prog ops QE n (⟨d,.binOp .rem t x y t',ty,pos,Am,g⟩ :: rest) env w :=
 xs_val hw (by rw [Lx om hx hy,aDv h0]) k
theorem aA0 {t t' e:Nat} {x y:Operand} {a:Option Addr} {m c:Nat} (ht:prog.underlying t=some (.slice e)) (k:XS prog ops QE n rest (Bf env d (.bool a.isNone)) w) (hw:Ax ops env g=true:=by exact rfl) (hx:ev env x = .slice a m c:=by exact rfl) (hy:ev env y = .slice none 0 0:=by exact rfl):XS prog ops QE n (⟨d,.binOp .eql t x y t',ty,pos,Am,g⟩ :: rest) env w :=
 xs_val hw (LQ (by rw [hx,hy];simp [eqGuard]) (by
  rw [hx,hy];have h:∀ d:Nat,(Op.equalIn (d+1) t (.slice a m c) (.slice none 0 0)).run prog w = .ok a.isNone w:=fun d=>by cases a <;> simp [Op.equalIn,run_underlying ht]
  simp only [binOp];simp [Op.equal,Op.maxDepth,h 9999])) k
end
end Go.Proofs.Q0
namespace Go.Proofs.Q0
open Go Go.RowKit Tryz
attribute [local irreducible] XS XC XA AY AR A9 A1 A0 Aa Ae AW SE
section
variable {ops : Array Oper} {QE : Exit → Env → World → Prop} {n : Nat} {rest : List Oper} {env : Env} {w : World}
 {d:Option Nat} {ty:Nat} {pos:String} {Am:Array Edge} {g:Option (Nat × Bool)}
theorem aN {t e size bytes:Nat} {x y:Operand} {v u:Value} {k:Nat} {xs ys:List Value} {G Gy:List Nat} (hO:B6 w e size v k xs G) (hY:B6 w e size u 0 ys Gy) (hw:Ax ops env g=true:=by exact rfl) (Co:look t GY.sls=some (e,size,bytes):=by exact rfl)
 (hx:ev env x=v:=by exact rfl) (hy:ev env y=u:=by exact rfl) (kk:XS prog ops QE n rest (Bf env d v) w) :
 XS prog ops QE n (⟨d,.call { callee := .builtin .append,args:=#[x,y],argTypes:=#[t,t] },ty,pos,Am,g⟩ :: rest) env w:=by
 obtain ⟨hu,i,hi,hs1,hs2⟩:=GL (AJ.sl Co);have hr:=VM (ty:=ty) hu hi hO hY;refine XS.value hw (v:=v) (w':=w) ?_ kk;simp [execOp,resolve,aCz,invoke,builtin,hx,hy,hr]
end
theorem N2 (l:List Tk):(CR l).length=l.length*6:=by
 induction l with
 | nil=>rfl
 | cons x l ih=>rw [IF,aCv,ih,aCx];simp;omega
theorem bQ (l:List Tk):∀ u∈CR l,u.oneCell'=true:=fun u hu=>by
 unfold CR at hu;obtain ⟨c,hc,hu⟩:=List.mem_flatten.1 hu;obtain ⟨x,_,rfl⟩:=List.mem_map.1 hc;simp only [aCu,aC1,or_false] at hu;rcases hu with rfl | rfl | rfl | rfl | rfl | rfl <;> rfl
theorem R6 (rb cap:Nat) (l:List Tk) (rest:List Value) (w0:World) (hm:l.length≤32) (hc:l.length≤cap) (hl:rest.length+l.length*6=cap*6) (h:w0.heap[rb]?=some (Lr l rest)) :
 AO prog 79 #[.slice (some ⟨rb,0,none⟩) l.length cap] w0 fun v w'=>(∃ rb' cap' rest',v = .slice (some ⟨rb',0,none⟩) l.length cap'∧w'.heap[rb']?=some (Lr l rest')∧l.length≤cap'∧rest'.length+l.length*6=cap'*6∧w0.heap.size≤rb')∧AB [] w0 w':=by
 have hs:=St.nil w0;refine AS func79 ntmps79 ?_;refine Ja ?_;refine aA0 (e:=51) (by kernel_rfl) ?_
 repeat' (first|refine Aq ?_|refine Nx.h ?_|refine Eb ?_|fail)
 refine Mp AJ rfl rfl hs (fun v w1 hO hne=>?_);rcases hO with ⟨rfl,_⟩ | ⟨g,cp,cur,rfl,jH,U0,_,_,hs1⟩
 ·exact absurd rfl hne
 have hg:=hs1.get At.head;have gg:=hs1.new _ aCw rfl;simp only at gg;have AL:=hs1.AE rfl;have hO:B6 w1 51 6 (.slice (some ⟨g,0,none⟩) 0 cp) 0 [] [g] := .inr ⟨g,cp,cur,rfl,rfl,jH,U0,rfl,rfl,hg⟩;have hY:B6 w1 51 6 (.slice (some ⟨rb,0,none⟩) l.length cap) l.length (CR l) [rb] := .inr ⟨rb,cap,CR l ++ rest,rfl,rfl,hc,by rw [aCv,N2];omega,N2 l,by rw [← N2];exact List.take_left,AL.block h AA⟩;clear hs;have hs:=St.nil w1;refine vs ?_;by_cases h0:l.length=0
 ·obtain rfl:=List.length_eq_zero_iff.1 h0;refine aN hO hY (kk:=?_);refine Jc ?_;refine AG ?_;have AN:=hs.AE rfl;exact ⟨⟨g,cp,cur,rfl,AN.block hg AA,aC7 _,by simpa using U0,gg⟩,AL.trans AN⟩
 ·refine SX AJ rfl rfl rfl rfl rfl rfl (bQ l) hO hY om om ?_;rintro v2 w2 ⟨G',G0,DV⟩ AN;rw [aDO,aDV] at G0;rcases G0 with ⟨_,h1,_⟩ | ⟨g2,cp2,aCC,rfl,rfl,k1,k2,k3,k4,k5⟩
  ·exact absurd h1 h0
  clear hs;have hs:=St.nil w2;refine Jc ?_;refine AG ?_;have AU:=hs.AE rfl;have ho:=(AL.step AN (fun k hk => .inr (by obtain rfl:=List.mem_singleton.1 hk;exact gg))).trans AU;refine ⟨⟨g2,cp2,aCC.drop (l.length*6),rfl,?_,k1,by rw [List.length_drop];omega,?_⟩,ho⟩
  ·rw [AU.block k5 AA];unfold Lr;rw [← k4,List.take_append_drop]
  ·have hz:=AL.size;rcases DV g2 AA with h | h
   ·obtain rfl:=List.mem_singleton.1 h;exact gg
   ·omega
theorem aZ (tb rb:Nat) (l:List Tk) (w0:World) (h:DW w0 tb rb l):AO prog 39 #[.pointer (some ⟨tb,0,none⟩)] w0 fun v w'=>(∃ E5 rb',v = .pointer (some ⟨E5,0,none⟩)∧DW w' E5 rb' l∧w0.heap.size≤E5∧w0.heap.size≤rb'∧E5≠rb')∧AB [] w0 w':=by
 obtain ⟨cap,rest,h1,h2,h3,h4,h5⟩:=h;have hs:=(St.nil w0).AF h1;refine AS func39 ntmps39 ?_;refine Jd ?_;have BP:=hs.AD [] (by simp [h1]) sD;refine cl (h:=by exact R6 rb cap l rest _ h3 h4 h5 (BP.block h2 AA)) ?_;rintro v w1 ⟨⟨rb',cap',rest',rfl,k1,k2,k3,k4⟩,AL⟩;have lr:=lt_of_block k1;have hz:=BP.size;clear hs;have hs:=(St.nil w1);refine vs ?_;refine bx hs ?_;intro E5 w2 Mz hs;have g2:=hs.new _ aCw rfl;simp only at g2;have J0:=AL.size;refine Jc ?_;refine AG ?_;have AN:=hs.AE rfl;exact ⟨⟨E5,rb',rfl,⟨cap',rest',hs.get At.head,AN.block k1 AA,h3,k2,k3⟩,by omega,by omega,by omega⟩,(BP.trans AL).trans AN⟩
end Go.Proofs.Q0
namespace Go.Proofs.Q0
open Go Go.RowKit Tryz
theorem tick_bounds {s:Ss} {c:Cs} (h:BN s c.A) (ns:Int):(A7 c ns).2.2.p.length < 2000000000000∧(A7 c ns).2.2.g.length≤32:=by
 unfold A7;split
 ·rename_i hc;have h1:=Sl (ns.toNat+1) ns c .none om hc.2;have h2:=(tick_gone (ns.toNat+1) ns c .none ⟨s,h⟩).1;have h3:=h.le;have e1:Rp.none.p.length=0:=rfl;have e2:Rp.none.g.length=0:=rfl;rw [e1] at h1;rw [e2] at h2;constructor <;> omega
 ·exact ⟨(by show (0:Nat) < 2000000000000;omega),(by show (0:Nat)≤32;omega)⟩
theorem Bh.bS {w:World} {cb:Nat} {c:Cs} {F:List Nat} (h:Bh w cb c F):∃ s,BN s c.A:=by
 obtain ⟨sb,Fs,_,_,hS,_⟩:=h;exact hS.rep
theorem iN (cb:Nat) (c:Cs) (F:List Nat) (ns:Int) (w0:World) (h:Bh w0 cb c F) (Dd:BY ns) :
 AO prog 59 #[.pointer (some ⟨cb,0,none⟩),.int .u64 ns] w0 fun v w'=>∃ rv,v = .tuple #[rv,.int .i64 (A7 c ns).1]∧HS w0 cb F rv (A7 c ns).1 c (A7 c ns).2.1 (A7 c ns).2.2 w':=by
 obtain ⟨s,hs⟩:=h.bS;obtain ⟨h1,h2⟩:=tick_bounds hs ns;exact Xb cb c F ns w0 h Dd h1 om
theorem Cn.mem {w:World} {sb:Nat} {A:As} {F:List Nat} (h:Cn w sb A F):sb∈F:=by
 obtain ⟨s,⟨qb,mb,Fq,rfl,_⟩,_⟩:=h;simp
end Go.Proofs.Q0
namespace Go.Proofs.Q0
open Go Go.RowKit Tryz
attribute [local irreducible] XS XC XA AY AR A9 A1 A0 Aa Ae AW SE
theorem o8 (cb:Nat) (c:Cs) (F:List Nat) (w0:World) (h:Bh w0 cb c F):AO prog 18 #[.pointer (some ⟨cb,0,none⟩)] w0 fun v w'=>v = .int .i64 c.run∧AB [] w0 w':=by
 obtain ⟨sb,Fs,rfl,h1,hS,h3,h4⟩:=h;have hs:=(St.nil w0).AF h1;refine AS func18 ntmps18 ?_;refine Jd ?_;refine AG ?_;exact ⟨rfl,hs.AD [] (by simp [h1]) sD⟩
theorem Bh.mem {w:World} {cb:Nat} {c:Cs} {F:List Nat} (h:Bh w cb c F):cb∈F:=by obtain ⟨_,_,rfl,_⟩:=h;simp
theorem Bh.FA {w:World} {cb:Nat} {c:Cs} {F:List Nat} (h:Bh w cb c F):∃ sb qb mb Fs,F=cb :: Fs∧w.heap[cb]?=some (Ez sb c.run c.carr)∧w.heap[sb]?=some (Wn qb mb)∧Cn w sb c.A Fs∧K6 w qb c.A∧sb∈Fs:=by
 obtain ⟨sb,Fs,rfl,h1,hS,h3,h4⟩:=h;obtain ⟨qb,mb,g1,gQ⟩:=hS.FA;exact ⟨sb,qb,mb,Fs,rfl,h1,g1,hS,gQ,hS.mem⟩
end Go.Proofs.Q0
namespace Go.Proofs.Q0
open Go Go.RowKit Tryz
structure Ce where
 cb:Nat
 c:Cs
 F:List Nat
def ptrs (L:List Ce):List Value:=L.map fun x => .pointer (some ⟨x.cb,0,none⟩)
def EP (L:List Ce):List Nat:=(L.map Ce.F).flatten
theorem Dr {L:List Ce} {k:Nat}:k∈EP L↔∃ x∈L,k∈x.F:=by
 unfold EP;simp only [List.mem_flatten,List.mem_map];constructor
 ·rintro ⟨_,⟨x,hx,rfl⟩,hk⟩;exact ⟨x,hx,hk⟩
 ·rintro ⟨x,hx,hk⟩;exact ⟨_,⟨x,hx,rfl⟩,hk⟩
abbrev T3:Nat:=55
structure CV (w:World) (v:Value) (l:List Cs) (L:List Ce) (G:List Nat):Prop where
 a:B6 w T3 1 v L.length (ptrs L) G
 l:L.map Ce.c=l
 c:∀ x∈L,Bh w x.cb x.c x.F
 d:∀ (i j:Nat) x y,L[i]?=some x→L[j]?=some y→i≠j→∀ k∈x.F,k∉y.F
theorem CV.Ai {w w':World} {v:Value} {l:List Cs} {L:List Ce} {G F:List Nat} (h:CV w v l L G) (ho:AB F w w') (hd:∀ k∈G ++ EP L,k∉F):CV w' v l L G :=
 ⟨h.a.keep ho fun k hk=>hd k (aDC _ hk),h.l,fun x hx=>(h.c x hx).Ai ho fun k hk=>hd k (aDE _ (Dr.2 ⟨x,hx,hk⟩)),h.d⟩
abbrev T7 (tb:Nat) (c:Cf) (v:Value):Obj := .cells #[.pointer (some ⟨tb,0,none⟩),.int .i64 c.cores,.int .i64 c.tasks,.int .u64 c.tick,.int .u64 c.slice,.int .u64 c.origin,v] 48 (0,0)
structure Fj (w:World) (sb tb rb:Nat) (v:Value) (s:Sy) (L:List Ce) (G:List Nat):Prop where
 o:w.heap[sb]?=some (T7 tb s.cf v)
 t:DW w tb rb s.t
 c:CV w v s.k L G
 ok:EE s
def C9 (w:World) (sb:Nat) (s:Sy) (F:List Nat):Prop:=∃ tb rb v L G,F=sb :: tb :: rb :: (G ++ EP L)∧Fj w sb tb rb v s L G
def y8:Obj→Bool
 | .cells cs ty f=>qS (.cells cs ty f) && !(Nat.beq ty 48) && !(Nat.beq ty 97) && !(Nat.beq ty 51) && !(Nat.beq ty T3)
 | _=>false
theorem nbeq {a b:Nat} (h:(!(Nat.beq a b))=true):a≠b:=fun e=>by subst e;simp at h
theorem DW.yX {w:World} {tb rb:Nat} {l:List Tk} (h:DW w tb rb l) {b:Nat} {cs:Array Value} {ty:Nat} {fz:Nat × Nat} (hb:w.heap[b]?=some (.cells cs ty fz)) (h1:ty≠97) (h2:ty≠51):b≠tb∧b≠rb:=by
 obtain ⟨cap,rest,a1,a2,_⟩:=h;exact ⟨A3 hb a1 h1,A3 hb a2 h2⟩
theorem C9.not {w:World} {sb:Nat} {s:Sy} {F:List Nat} (h:C9 w sb s F) {b:Nat} {cs:Array Value} {ty:Nat} {fz:Nat × Nat} (hb:w.heap[b]?=some (.cells cs ty fz)) (ho:y8 (.cells cs ty fz)=true):b∉F:=fun hm=>by
 obtain ⟨tb,rb,v,L,G,rfl,h⟩:=h;simp only [y8,aDB] at ho;obtain ⟨⟨⟨⟨o1,o2⟩,o3⟩,o4⟩,o5⟩:=ho;have n2:=nbeq o2;have n3:=nbeq o3;have n4:=nbeq o4;have n5:=nbeq o5;obtain ⟨n6,n7⟩:=h.t.yX hb n3 n4;rcases aCu.1 hm with rfl | hm
 ·exact A3 hb h.o n2 rfl
 rcases aCu.1 hm with rfl | hm
 ·exact n6 rfl
 rcases aCu.1 hm with rfl | hm
 ·exact n7 rfl
 rcases aC4.1 hm with hm | hm
 ·exact BQ h.c.a hb n5 hm
 ·obtain ⟨x,hx,hk⟩:=Dr.1 hm;exact (h.c.c x hx).not hb o1 hk
theorem C9.Ai {w w':World} {sb:Nat} {s:Sy} {F G:List Nat} (h:C9 w sb s F) (ho:AB G w w') (hd:∀ k∈F,k∉G):C9 w' sb s F:=by
 obtain ⟨tb,rb,v,L,G',rfl,h⟩:=h;exact ⟨tb,rb,v,L,G',rfl,ho.block h.o (hd _ AA),h.t.keep ho (hd _ AA) (hd _ AA),h.c.Ai ho (fun k hk=>hd k (by simp only [aCu];exact .inr (.inr (.inr hk)))),h.ok⟩
theorem C9.only {w w':World} {sb:Nat} {s:Sy} {F:List Nat} (h:C9 w sb s F) (ho:AB [] w w'):C9 w' sb s F:=h.Ai ho AA
theorem DW.SP {w:World} {tb rb:Nat} {l:List Tk} (h:DW w tb rb l):tb < w.heap.size∧rb < w.heap.size:=by
 obtain ⟨cap,rest,a1,a2,_⟩:=h;exact ⟨lt_of_block a1,lt_of_block a2⟩
theorem C9.lt {w:World} {sb:Nat} {s:Sy} {F:List Nat} (h:C9 w sb s F):∀ k∈F,k < w.heap.size:=fun k hm=>by
 obtain ⟨tb,rb,v,L,G,rfl,h⟩:=h;rcases aCu.1 hm with rfl | hm
 ·exact lt_of_block h.o
 rcases aCu.1 hm with rfl | hm
 ·exact h.t.SP.1
 rcases aCu.1 hm with rfl | hm
 ·exact h.t.SP.2
 rcases aC4.1 hm with hm | hm
 ·exact h.c.a.lt k hm
 ·obtain ⟨x,hx,hk⟩:=Dr.1 hm;exact (h.c.c x hx).lt k hk
theorem C9.mem {w:World} {sb:Nat} {s:Sy} {F:List Nat} (h:C9 w sb s F):sb∈F:=by obtain ⟨tb,rb,v,L,G,rfl,h⟩:=h;simp
theorem C9.ok {w:World} {sb:Nat} {s:Sy} {F:List Nat} (h:C9 w sb s F):EE s:=by obtain ⟨tb,rb,v,L,G,rfl,h⟩:=h;exact h.ok
theorem oS (L:List Ce) (i:Nat) {x y:Ce} (hx:L[i]?=some x) (e:y.cb=x.cb):ptrs (L.set i y)=ptrs L:=by
 unfold ptrs;rw [List.map_set,e];apply List.ext_getElem?;intro j;rw [aDj];split
 ·rename_i h;subst h;rw [aC8,hx,aC0];split
  ·rfl
  ·rename_i h;rw [aDY om] at hx;cases hx
 ·rfl
theorem CV.put {w w':World} {v:Value} {l:List Cs} {L:List Ce} {G:List Nat} (h:CV w v l L G) {i:Nat} {x:Ce} (hx:L[i]?=some x) {c':Cs} {F':List Nat} (hc:Bh w' x.cb c' F') (hF:∀ k∈F',k∈x.F∨w.heap.size≤k) (ho:AB [x.cb] w w') :
 CV w' v (l.set i c') (L.set i ⟨x.cb,c',F'⟩) G∧∀ k∈G ++ EP (L.set i ⟨x.cb,c',F'⟩),k∈G ++ EP L∨w.heap.size≤k:=by
 have hxm:=aDJ hx;have hC:=h.c x hxm;obtain ⟨_,_,_,_,_,hcb,_⟩:=hC.FA
 have hmem:∀ y∈L.set i ⟨x.cb,c',F'⟩,y=⟨x.cb,c',F'⟩∨∃ j:Nat,j≠i∧L[j]?=some y:=fun y hy=>by
  obtain ⟨j,hj⟩:=List.getElem?_of_mem hy;rw [aDj] at hj;split at hj
  ·split at hj
   ·exact .inl (aDo hj).symm
   ·cases hj
  ·rename_i hne;exact .inr ⟨j,fun e=>hne e.symm,hj⟩
 have key:∀ (j:Nat) (y:Ce),j≠i→L[j]?=some y→∀ k∈F',k∉y.F:=fun j y hne hy k hk hm=>by
  rcases hF k hk with q | q
  ·exact h.d i j x y hx hy (Ne.symm hne) k q hm
  ·have:=(h.c y (aDJ hy)).lt k hm;omega
 refine ⟨⟨?_,?_,?_,?_⟩,?_⟩
 ·rw [aDN,oS L i (y:=⟨x.cb,c',F'⟩) hx rfl];exact h.a.keep ho fun k hk hm=>by obtain rfl:=List.mem_singleton.1 hm;exact BQ h.a hcb (by decide) hk
 ·rw [List.map_set,h.l]
 ·intro y hy;rcases hmem y hy with rfl | ⟨j,hj,hy⟩
  ·exact hc
  ·exact (h.c y (aDJ hy)).Ai ho fun k hk hm=>by
    obtain rfl:=List.mem_singleton.1 hm;exact h.d j i y x hy hx hj _ hk hC.mem
 ·intro a b y z hy hz hne k hk;rw [aDj] at hy hz;split at hy
  ·rename_i ea;split at hy
   ·cases hy;rw [if_neg (fun e=>hne (ea.symm.trans e))] at hz;exact key b z (fun e=>hne (ea.symm.trans e.symm)) hz k hk
   ·cases hy
  ·rename_i ea;split at hz
   ·rename_i eb;split at hz
    ·cases hz;exact fun hm=>key a y (fun e=>ea e.symm) hy k hm hk
    ·cases hz
   ·exact h.d a b y z hy hz hne k hk
 ·intro k hk;rcases aC4.1 hk with hk | hk
  ·exact .inl (aDC _ hk)
  ·obtain ⟨y,hy,hky⟩:=Dr.1 hk;rcases hmem y hy with rfl | ⟨j,_,hy⟩
   ·rcases hF k hky with q | q
    ·exact .inl (aDE _ (Dr.2 ⟨x,hxm,q⟩))
    ·exact .inr q
   ·exact .inl (aDE _ (Dr.2 ⟨y,aDJ hy,hky⟩))
theorem CV.len {w:World} {v:Value} {l:List Cs} {L:List Ce} {G:List Nat} (h:CV w v l L G):L.length=l.length:=by rw [← h.l,aC0]
theorem CV.at {w:World} {v:Value} {l:List Cs} {L:List Ce} {G:List Nat} (h:CV w v l L G) {i:Nat} (hi:i < l.length):∃ x,L[i]?=some x∧Bh w x.cb x.c x.F∧x.c=l.getD i (EY 0):=by
 have hl:=h.len;have hi':i < L.length:=by omega
 have hl2:=h.l;refine ⟨L[i],aC3 hi',h.c _ (aDS hi'),?_⟩;subst hl2;rw [aDI,aC8,aC3 hi'];rfl
theorem CV.ptr {w:World} {v:Value} {l:List Cs} {L:List Ce} {G:List Nat} (h:CV w v l L G) {i:Nat} {x:Ce} (hx:L[i]?=some x):∃ g cap cur,v = .slice (some ⟨g,0,none⟩) L.length cap∧w.heap[g]?=some (.cells (cur:List Value).toArray T3 (0,0))∧cur[i]?=some (.pointer (some ⟨x.cb,0,none⟩)):=by
 rcases h.a with ⟨_,h0,_⟩ | ⟨g,cap,cur,e,_,_,_,_,ht,hg⟩
 ·rw [aDp h0] at hx;cases hx
 ·refine ⟨g,cap,cur,e,hg,?_⟩;have h1:(ptrs L)[i]?=some (.pointer (some ⟨x.cb,0,none⟩)):=by unfold ptrs;rw [aC8,hx];rfl
  rw [← ht,aDz] at h1;split at h1
  ·exact h1
  ·cases h1
theorem C9.put {w w':World} {sb tb rb:Nat} {v:Value} {s:Sy} {L:List Ce} {G:List Nat} (h:Fj w sb tb rb v s L G) {k:Int} {x:Ce} (hx:L[k.toNat]?=some x) {c':Cs} {F':List Nat} (hc:Bh w' x.cb c' F') (hF:∀ k∈F',k∈x.F∨w.heap.size≤k) (ho:AB [x.cb] w w') :
 ∃ L',Fj w' sb tb rb v (BX s k c') L' G∧(∀ q∈sb :: tb :: rb :: (G ++ EP L'),q∈sb :: tb :: rb :: (G ++ EP L)∨w.heap.size≤q):=by
 obtain ⟨h1,h2⟩:=h.c.put hx hc hF ho;obtain ⟨_,_,_,_,_,hcb,_⟩:=(h.c.c x (aDJ hx)).FA;have n1:x.cb≠sb:=A3 hcb h.o (by decide);obtain ⟨n2,n3⟩:=h.t.yX hcb (by decide) (by decide);refine ⟨_,⟨ho.block h.o (by simpa using Ne.symm n1),h.t.keep ho (by simpa using Ne.symm n2) (by simpa using Ne.symm n3),h1,h.ok.Tp k c'⟩,fun q hq=>?_⟩;rcases aCu.1 hq with rfl | hq
 ·exact .inl AA
 rcases aCu.1 hq with rfl | hq
 ·exact .inl AA
 rcases aCu.1 hq with rfl | hq
 ·exact .inl AA
 rcases h2 q hq with k | k
 ·exact .inl (by simp only [aCu];exact .inr (.inr (.inr k)))
 ·exact .inr k
theorem Fj.rows {w w':World} {sb tb rb:Nat} {v:Value} {s:Sy} {L:List Ce} {G:List Nat} (h:Fj w sb tb rb v s L G) {t:List Tk} (ht:DW w' tb rb t) (ho:AB [rb] w w') (hok:EE { s with t:=t }):Fj w' sb tb rb v { s with t:=t } L G:=by
 obtain ⟨cap,rest,a1,a2,_⟩:=h.t;have n1:rb≠sb:=A3 a2 h.o (by decide);refine ⟨ho.block h.o (by simpa using Ne.symm n1),ht,h.c.Ai ho fun k hk hm=>?_,hok⟩;obtain rfl:=List.mem_singleton.1 hm;rcases aC4.1 hk with hk | hk
 ·exact BQ h.c.a a2 (by decide) hk
 ·obtain ⟨x,hx,kV⟩:=Dr.1 hk;exact (h.c.c x hx).not a2 rfl kV
abbrev gM (sb:Nat) (ve:Value):Obj := .cells #[.pointer (some ⟨sb,0,none⟩),ve] 123 (0,0)
abbrev ZI (w:World) (v:Value) (l:List Ev) (G:List Nat):Prop:=B6 w 41 5 v l.length (NF l) G
def De (w:World) (hb:Nat) (s:Ch) (F:List Nat):Prop:=∃ sb Fs ve Ge,F=hb :: (Fs ++ Ge)∧w.heap[hb]?=some (gM sb ve)∧C9 w sb s.s Fs∧ZI w ve s.ev Ge
def r8:Obj→Bool
 | .cells cs ty f=>y8 (.cells cs ty f) && !(Nat.beq ty 123) && !(Nat.beq ty 41)
 | _=>false
theorem De.not {w:World} {hb:Nat} {s:Ch} {F:List Nat} (h:De w hb s F) {b:Nat} {cs:Array Value} {ty:Nat} {fz:Nat × Nat} (h1:w.heap[b]?=some (.cells cs ty fz)) (ho:r8 (.cells cs ty fz)=true):b∉F:=fun hm=>by
 obtain ⟨sb,Fs,ve,Ge,rfl,k1,k2,k3⟩:=h;simp only [r8,aDB] at ho;rcases aCu.1 hm with rfl | hm
 ·exact A3 h1 k1 (nbeq ho.1.2) rfl
 rcases aC4.1 hm with hm | hm
 ·exact k2.not h1 ho.1.1 hm
 ·exact BQ k3 h1 (nbeq ho.2) hm
theorem De.Ai {w w':World} {hb:Nat} {s:Ch} {F G:List Nat} (h:De w hb s F) (ho:AB G w w') (hd:∀ k∈F,k∉G):De w' hb s F:=by
 obtain ⟨sb,Fs,ve,Ge,rfl,k1,k2,k3⟩:=h;exact ⟨sb,Fs,ve,Ge,rfl,ho.block k1 (hd _ AA),k2.Ai ho fun k hk=>hd k (by simp [hk]),k3.keep ho fun k hk=>hd k (by simp [hk])⟩
theorem De.only {w w':World} {hb:Nat} {s:Ch} {F:List Nat} (h:De w hb s F) (ho:AB [] w w'):De w' hb s F:=h.Ai ho AA
theorem De.lt {w:World} {hb:Nat} {s:Ch} {F:List Nat} (h:De w hb s F):∀ k∈F,k < w.heap.size:=fun k hm=>by
 obtain ⟨sb,Fs,ve,Ge,rfl,k1,k2,k3⟩:=h;rcases aCu.1 hm with rfl | hm
 ·exact lt_of_block k1
 rcases aC4.1 hm with hm | hm
 ·exact k2.lt k hm
 ·exact k3.lt k hm
def sR (w0:World) (hb:Nat) (s:Ch) (F:List Nat) (w':World):Prop:=∃ F',De w' hb s F'∧(∀ k∈F',k∈F∨w0.heap.size≤k)∧AB F w0 w'
def Cj (r:Rp):Prop:=∀ g∈r.g,Ac g.lag∧In64 g.id
theorem Cj.none:Cj .none:=fun g hg=>by cases hg
theorem Wc {c:Cs} (h:Bw c):∀ g∈Da c,Ac g.lag∧In64 g.id:=fun g hg=>by
 obtain ⟨s,hs⟩:=h;obtain ⟨_,_,h3,_⟩:=hs.L4.gone g hg;obtain ⟨a,_,ha⟩:=List.mem_map.1 h3;exact ⟨TT hs g hg,by rw [← ha];exact a.2.1.2.1⟩
theorem Ud {c:Cs} (h:Bw c):(Da c).length≤32:=by
 obtain ⟨s,hs⟩:=h;have h1:(Da c).length≤c.A.l.length:=NS _ _;have:=hs.le;omega
theorem Cj.try {e:Int} {c1:Cs} {r1:Rp} (h:Cj r1) (hc:Bw c1):Cj (BO e c1 r1):=by
 unfold BO;split
 ·intro g hg;rcases aC4.1 hg with k | k
  ·exact h g k
  ·exact Wc hc g k
 ·exact Cj.none
theorem HI {e:Int} {c1:Cs} {r1:Rp} (hc:Bw c1):(BO e c1 r1).g.length≤r1.g.length+32∧(BO e c1 r1).p.length≤r1.p.length:=by
 unfold BO;split
 ·have:=Ud hc;exact ⟨by rw [aCv];omega,aC5 _⟩
 ·exact ⟨aC7 _,aC7 _⟩
theorem Ql {c:Cs} (h:Bw c) (m:Int):Bw (DL c m):=by obtain ⟨s,hs⟩:=h;exact rep_srv hs m
theorem On:∀ (k:Nat) (left:Int) (c:Cs) (r:Rp),Bw c→Cj r→Cj (DB k left c r).2.2
 | 0,_,_,_,_,h=>h
 | k+1,left,c,r,hc,h=>by
   unfold DB;split
   ·split
    ·refine On k _ _ _ (Jr (Ql hc left)) fun g hg=>?_;rcases aC4.1 hg with q | q
     ·exact h g q
     ·exact Wc (Ql hc left) g q
    ·exact h
   ·exact h
theorem YV {c:Cs} (h:Bw c) (ns:Int):Cj (A7 c ns).2.2:=by
 unfold A7;split
 ·exact On _ _ _ _ h Cj.none
 ·exact Cj.none
theorem ok_leave {s:Ch} (h:EE s.s) (x:Tk):EE (B0 s x).2.s∧(B0 s x).2.s.cf=s.s.cf:=by
 obtain ⟨h1,h2,_⟩:=ok_absorb (s:=⟨BX s.s x.core (CU (AK s.s x.core) (Az (AK s.s x.core) x.id).1 (Az (AK s.s x.core) x.id).2),s.ev⟩) (h.Tp x.core _) x.core (BO (Az (AK s.s x.core) x.id).1 (Az (AK s.s x.core) x.id).2 .none);exact ⟨h1,h2⟩
theorem CP.st {n:Int} {x:Tk} (h:CP n x) (hx:x.st≠0) {z:Int} (hz:0≤z∧z < 256):CP n { x with st:=z }:=⟨h.1,hz,h.2.2.1,h.2.2.2.1,h.2.2.2.2.1,h.2.2.2.2.2.1,fun _=>h.2.2.2.2.2.2 hx⟩
theorem CP.core {n:Int} {x:Tk} (h:CP n x) (hx:x.st≠0):0≤x.core∧x.core < n:=h.2.2.2.2.2.2 hx
def Hr (s:Sy):Prop:=∀ c∈s.k,Bw c
theorem Hr.at {s:Sy} (h:Hr s) (k:Int):Bw (AK s k):=by
 unfold AK;rw [aDI];cases e:s.k[k.toNat]? with
 | none=>exact ⟨_,BN.new 0⟩
 | some c=>exact h c (aDJ e)
end Go.Proofs.Q0
namespace Go.Proofs.Q0
open Go Go.RowKit Tryz
attribute [local irreducible] XS XC XA AY AR A9 A1 A0 Aa Ae AW SE
theorem HS.form {w1 w2:World} {cb:Nat} {F:List Nat} {rv:Value} {e:Int} {c c1:Cs} {r1:Rp} (T:HS w1 cb F rv e c c1 r1 w2):∃ ag cg ap cp,rv = .agg #[.slice ag (BO e c1 r1).g.length cg,.slice ap (BO e c1 r1).p.length cp]:=by
 obtain ⟨⟨vg,vp,Gg,Gp,rfl,p1,p2⟩,_,_⟩:=T;obtain ⟨ag,cg,rfl⟩:=BU p1;obtain ⟨ap,cp,rfl⟩:=BU p2;exact ⟨ag,cg,ap,cp,rfl⟩
theorem JT (x:Tk) (w0:World):AO prog 47 #[KM x] w0 fun v w'=>v = .bool (BR x)∧AB [] w0 w':=by
 have hs:=St.nil w0;refine AS func47 ntmps47 ?_
 repeat' (first|refine Sf ?_|(refine bx hs ?_;intro b w hz hs)|((with_reducible apply BV);exact rfl;exact rfl;intro c hc;(fail_if_success have:true=c:=hc);(fail_if_success have:false=c:=hc);cases c)|fail)
 all_goals (refine AG ?_)
 all_goals refine ⟨?_,hs.AE rfl⟩
 all_goals clear hs
 all_goals first
  | (have h1:(x.st == 1)=false:=hc;unfold BR;rw [h1];rfl)
  | (have h1:(x.st == 1)=true:=hc;unfold BR;rw [h1];rfl)
theorem EE.at {s:Sy} (h:EE s) {x:Tk} (hx:CP s.cf.cores x) (hn:x.st≠0):∃ n:Nat,x.core=n∧n < s.k.length:=by
 have h1:=hx.core hn;have h2:=h.len;exact ⟨x.core.toNat,by omega,by omega⟩
theorem bM (l:List Int) (x:Int):ints (l ++ [x])=ints l ++ [.int .i64 x]:=by simp [ints]
theorem Qt (sb:Nat) (s:Sy) (F:List Nat) (w0:World) (h:C9 w0 sb s F):AO prog 10 #[.pointer (some ⟨sb,0,none⟩)] w0 fun v w'=>(∃ G,B6 w' 3 1 v (s.k.map Cs.run).length (ints (s.k.map Cs.run)) G∧∀ k∈G,w0.heap.size≤k)∧AB [] w0 w':=by
 obtain ⟨tb,rb,vc,L,G,rfl,hO⟩:=h;have h1:=hO.o;have hs:=(St.nil w0).AF h1;have hlen:=hO.ok.len;have hlo:=hO.ok.lo;have hhi:=hO.ok.hi;have hL:=hO.c.len;have h0:0 < s.k.length:=by omega
 obtain ⟨x0,hx0,_,_⟩:=hO.c.at h0;obtain ⟨g,cap,cur,rfl,hg,_⟩:=hO.c.ptr hx0;refine AS func10 ntmps10 ?_;refine Jd ?_;have BF:=hs.AD [] (by simp [h1]) sD
 have GI:∀ (i:Nat) (x:Ce),L[i]?=some x→cur[i]?=some (.pointer (some ⟨x.cb,0,none⟩)):=fun i x hx=>by
  obtain ⟨g',cap',cur',e,hg',Mi⟩:=hO.c.ptr hx;cases e;rw [hg] at hg';simp only [aDd,Obj.cells.injEq] at hg';have:=congrArg Array.toList hg'.1;simp only at this;rw [this];exact Mi
 refine BM (fun (v3:Value)=>[(3,v3)]) (fun v3 w=>AB [] w0 w∧∃ G,B6 w 3 1 v3 (s.k.map Cs.run).length (ints (s.k.map Cs.run)) G∧∀ k∈G,w0.heap.size≤k) ?_ ?_
 ·refine BH (fun (x:Nat × Value)=>[(3,x.2),(11,.slice (some ⟨g,0,none⟩) L.length cap),(12,.int .i64 (L.length:Nat)),(13,.int .i64 (x.1:Nat))])
   (fun x w=>x.1≤L.length∧AB [] w0 w∧∃ G,B6 w 3 1 x.2 ((s.k.take x.1).map Cs.run).length (ints ((s.k.take x.1).map Cs.run)) G∧∀ k∈G,w0.heap.size≤k) (fun x=>L.length - x.1) (0,.slice none 0 0) Ad ⟨aC7 _,BF,[],.inl ⟨rfl,rfl,rfl,rfl⟩,by simp⟩ fun x env wl ⟨hi,BP,hT⟩=>?_
  obtain ⟨i,v5⟩:=x;simp only at hi hT;obtain ⟨G3,hG,DV⟩:=hT;clear hs;have hs:=(St.nil wl).AF (BP.block hg AA)
  repeat' (first|refine Sa ?_|refine Aw rfl (fun hc=>?_) fun hc=>?_|fail)
  ·have hlt:i < L.length:=by omega
   have Qg:i < s.k.length:=by omega
   obtain ⟨x,hx,hC,hce⟩:=hO.c.at Qg;have ei:=DP (m:=L.length) hlt om
   have et:(s.k.take (i+1)).map Cs.run=(s.k.take i).map Cs.run ++ [x.c.run]:=by
    rw [CH Qg,aDa];congr 1;rw [hce,aDI,aC3 Qg];rfl
   have hle:((s.k.take i).map Cs.run).length≤8:=by rw [aC0,aDg];omega
   generalize (s.k.take i).map Cs.run=A at *;refine ix (h0:=(by omega)) (h1:=(by omega)) ?_;refine lb (hc:=(by simpa using GI i x hx)) ?_;refine Ja ?_;have hb0:=BP.block hg AA;have BD:=hs.AD [] (by simp [hb0]) sD;refine AZ hs (h:=by exact o8 x.cb x.c x.F _ (hC.only (BP.trans BD))) ?_;intro w' ho hs;repeat' (first|(refine bs hs ?_;intro b w hz hs)|fail)
   have Ds:=hs.get (At.head);have AN:=hs.AD [] (by simp [hb0]) sD;refine CF AJ rfl rfl rfl rfl rfl rfl rfl (by decide) (lit_cells (news:=[.int .i64 x.c.run]) Ds) (by simp [Value.oneCell']) (hG.keep AN AA) om om ?_;intro M8 w4 ⟨G',G0,IY⟩ Ar;have Ob:=AN.size;have O2:=BP.size;clear hs;have hs:=St.nil w4;refine Ja ?_;refine A2 (i+1,M8) (by show L.length - (i+1) < L.length - i;omega) (by (repeat (first | exact Ag | (apply A8;first | exact rfl | exact congrArg (Value.int .i64) ei)))) ⟨by show i+1≤_;omega,((BP.trans AN).news DV Ar).trans (hs.AE rfl),G',?_,?_⟩
   ·simp only [et];rw [aCv,bM];exact G0.keep (hs.AE rfl) AA
   ·intro k hk;rcases IY k hk with h | h
    ·exact DV k h
    ·omega
  ·have e:i=s.k.length:=by omega
   subst e;rw [aDK] at hG;exact Au v5 Ad ⟨BP,G3,hG,DV⟩
 ·rintro v5 env w ⟨BP,G3,hG,DV⟩;clear hs;have hs:=St.nil w;refine Ja ?_;refine AG ?_;have AU:=hs.AE rfl;exact ⟨⟨G3,hG.keep AU AA,DV⟩,BP.trans AU⟩
section
variable {QE : Exit → Env → World → Prop} {n : Nat} {env : Env} {w wb : World} {D : Ctx} {H : List Br}
theorem drT (E:List Nat) {e:Br} {id:Nat} {ops:Array Oper} (hs:St wb D (e :: H) w) (k:XH ops E QE n→∀ w',St wb D (e :: H) w'→XA prog ops E H QE n ops.size (Array.replicate ops.size false) env w') (hX:XH ops E QE n:=by exact ⟨by kernel_rfl,by kernel_rfl,by kernel_rfl,by (repeat (first | (with_reducible exact Ph) | (with_reducible apply Nj) | (with_reducible apply MQ) | (with_reducible apply NO) | (with_reducible apply MB) | (with_reducible apply N3) | (with_reducible apply N4)))⟩):XC prog QE n (.region id ops true) env w:=sW E H hs (hX:=hX) (k:=k)
end
structure CY (w:World) (hb sb tb rb:Nat) (v ve:Value) (S:Ch) (L:List Ce) (G Ge:List Nat):Prop where
 h:w.heap[hb]?=some (gM sb ve)
 s:Fj w sb tb rb v S.s L G
 e:ZI w ve S.ev Ge
def CC (hb sb tb rb:Nat) (L:List Ce) (G Ge:List Nat):List Nat:=hb :: ((sb :: tb :: rb :: (G ++ EP L)) ++ Ge)
theorem De.FA {w:World} {hb:Nat} {s:Ch} {F:List Nat} (h:De w hb s F):∃ sb tb rb v ve L G Ge,F=CC hb sb tb rb L G Ge∧CY w hb sb tb rb v ve s L G Ge:=by
 obtain ⟨sb,Fs,ve,Ge,rfl,h1,⟨tb,rb,v,L,G,rfl,h2⟩,h3⟩:=h;exact ⟨sb,tb,rb,v,ve,L,G,Ge,rfl,h1,h2,h3⟩
theorem CY.at {w:World} {hb sb tb rb:Nat} {v ve:Value} {s:Ch} {L:List Ce} {G Ge:List Nat} (h:CY w hb sb tb rb v ve s L G Ge):De w hb s (CC hb sb tb rb L G Ge):=⟨sb,_,ve,Ge,rfl,h.h,⟨tb,rb,v,L,G,rfl,h.s⟩,h.e⟩
theorem Fj.at {w:World} {sb tb rb:Nat} {v:Value} {s:Sy} {L:List Ce} {G:List Nat} (h:Fj w sb tb rb v s L G):C9 w sb s (sb :: tb :: rb :: (G ++ EP L)):=⟨tb,rb,v,L,G,rfl,h⟩
theorem Fj.Ai {w w':World} {sb tb rb:Nat} {v:Value} {s:Sy} {L:List Ce} {G F:List Nat} (h:Fj w sb tb rb v s L G) (ho:AB F w w') (hd:∀ k∈sb :: tb :: rb :: (G ++ EP L),k∉F):Fj w' sb tb rb v s L G :=
 ⟨ho.block h.o (hd _ AA),h.t.keep ho (hd _ AA) (hd _ AA),h.c.Ai ho (fun k hk=>hd k (by simp only [aCu];exact .inr (.inr (.inr hk)))),h.ok⟩
theorem Fj.only {w w':World} {sb tb rb:Nat} {v:Value} {s:Sy} {L:List Ce} {G:List Nat} (h:Fj w sb tb rb v s L G) (ho:AB [] w w'):Fj w' sb tb rb v s L G:=h.Ai ho AA
theorem CY.only {w w':World} {hb sb tb rb:Nat} {v ve:Value} {s:Ch} {L:List Ce} {G Ge:List Nat} (h:CY w hb sb tb rb v ve s L G Ge) (ho:AB [] w w'):CY w' hb sb tb rb v ve s L G Ge :=
 ⟨ho.block h.h AA,h.s.only ho,h.e.keep ho AA⟩
theorem CY.tell {w w1 w2:World} {hb sb tb rb:Nat} {v ve ZO:Value} {s:Ch} {L:List Ce} {G Ge XI:List Nat} (h:CY w hb sb tb rb v ve s L G Ge) {x:Ev} (ho:AB Ge w w1) (ha:B6 w1 41 5 ZO (s.ev.length+1) (NF s.ev ++ x.cells) XI) (hG:∀ k∈XI,k∈Ge∨w.heap.size≤k) (AN:AB [hb] w1 w2) (hh:w2.heap[hb]?=some (gM sb ZO)) :
 CY w2 hb sb tb rb v ZO ⟨s.s,s.ev ++ [x]⟩ L G XI:=by
 have hS:=h.s.at
 have d1:∀ k∈sb :: tb :: rb :: (G ++ EP L),k∉Ge:=fun k hk hm=>by
  obtain ⟨cs,hc⟩:=L7 h.e k hm;exact hS.not hc rfl hk
 have n1:hb∉Ge:=fun hm=>BQ h.e h.h (by decide) hm;have h1:=ho.block h.h n1;have s1:=h.s.Ai ho d1;refine ⟨hh,s1.Ai AN fun k hk hm=>?_,?_⟩
 ·obtain rfl:=List.mem_singleton.1 hm;exact s1.at.not h1 rfl hk
 ·unfold ZI;rw [aCv,Yc];exact ha.keep AN fun k hk hm=>by obtain rfl:=List.mem_singleton.1 hm;exact BQ ha h1 (by decide) hk
theorem Vu (s:Ch) (k:Int) (l:List Gn) {i:Nat} (h:i < l.length):(l.take (i+1)).foldl (D3 k) s=D3 k ((l.take i).foldl (D3 k) s) l[i]:=by rw [CH h,aDh];rfl
theorem jZ (s:Ch) (k:Int) (l:List Pr) {i:Nat} (h:i < l.length):(l.take (i+1)).foldl (HU k) s=HU k ((l.take i).foldl (HU k) s) l[i]:=by rw [CH h,aDh];rfl
theorem XX (k:Int) (l:List Pr) (s:Ch):(l.foldl (HU k) s).ev.length=s.ev.length+l.length:=by rw [(OG k l s).2,aCv,aC0]
theorem pP (k:Int) (l:List Gn) (s:Ch):(l.foldl (D3 k) s).ev.length=s.ev.length+l.length:=by rw [Tr,aCv,aC0]
theorem QJ (hb sb tb rb:Nat) (v ve:Value) (s:Ch) (L:List Ce) (G Ge:List Nat) (k:Int) (rv:Value) (r:Rp) (w0:World) (hO:CY w0 hb sb tb rb v ve s L G Ge) (hr:M0 w0 rv r) (hg:Cj r) (hl:s.ev.length+r.p.length+r.g.length≤4000000000000) :
 AO prog 60 #[.pointer (some ⟨hb,0,none⟩),.int .i64 k,rv] w0 fun _ w'=>∃ ZO XI,CY w' hb sb tb rb v ZO (BJ s k r) L G XI∧(∀ i∈XI,i∈Ge∨w0.heap.size≤i)∧AB (CC hb sb tb rb L G Ge) w0 w':=by
 have lH:=hO.at;obtain ⟨vg,vp,Gg,Gp,rfl,pg,pp⟩:=hr;have sE:Cu w0 170 13 vg (r.g.map Gn.cells):=B6.ls pg rfl AA (fun x hx=>by obtain ⟨g,_,rfl⟩:=List.mem_map.1 hx;rfl);have rJ:Cu w0 168 3 vp (r.p.map Pr.cells):=B6.ls pp rfl AA (fun x hx=>by obtain ⟨g,_,rfl⟩:=List.mem_map.1 hx;rfl);obtain ⟨ag,cg,rfl,sE⟩:=sE;obtain ⟨ap,cp,rfl,rJ⟩:=rJ;rw [aC0] at pg sE;rw [aC0] at pp rJ;rw [aC0,aC0];have hh:=hO.h;have Vp:=lH.lt;have hs:=(St.nil w0).AF hh;refine AS func60 ntmps60 ?_;refine Ah ?_;refine Aq ?_;refine bx hs ?_;clear hs;intro b5 w1 J0 hs;refine Ja ?_;have g5:=hs.new (b5,true) AA rfl;simp only at g5;have BF:=hs.AD [] (by simp [hh]) sD;have k5:=hs.get (b:=b5) AX;have zA:=BF.size;refine BM (fun (_:Value × List Nat)=>[(0,.pointer (some ⟨hb,0,none⟩)),(1,.int .i64 k),(5,.pointer (some ⟨b5,0,none⟩))]) (fun y w=>w.heap[b5]?=some (K7 (.slice ag r.g.length cg) (.slice ap r.p.length cp))∧CY w hb sb tb rb v y.1 (r.p.foldl (HU k) s) L G y.2∧(∀ i∈y.2,i∈Ge∨w0.heap.size≤i)∧AB (CC hb sb tb rb L G Ge) w0 w) ?_ ?_
 ·refine BH (fun (x:Nat × Value × List Nat)=>[(0,.pointer (some ⟨hb,0,none⟩)),(1,.int .i64 k),(5,.pointer (some ⟨b5,0,none⟩)),(13,.slice ap r.p.length cp),(14,.int .i64 (r.p.length:Nat)),(15,.int .i64 (x.1:Nat))])
   (fun x w=>x.1≤r.p.length∧w.heap[b5]?=some (K7 (.slice ag r.g.length cg) (.slice ap r.p.length cp))∧CY w hb sb tb rb v x.2.1 ((r.p.take x.1).foldl (HU k) s) L G x.2.2∧(∀ i∈x.2.2,i∈Ge∨w0.heap.size≤i)∧AB (CC hb sb tb rb L G Ge) w0 w) (fun x=>r.p.length - x.1) (0,ve,Ge) Ad ⟨aC7 _,k5,hO.only BF,fun i hi => .inl hi,BF.weaken AA⟩ fun x env wl ⟨hi,hB,hC,Le,ho⟩=>?_
  obtain ⟨i,v5,G5⟩:=x;simp only at hi hC Le;clear hs;have hs:=((St.nil wl).AF hB).AF hC.h
  repeat' (first|refine Sa ?_|refine Aw rfl (fun hc=>?_) fun hc=>?_|fail)
  ·have hlt:i < r.p.length:=by omega
   obtain ⟨b,off,cs,fz,rfl,_,CE,hcs⟩:=rJ (fun h=>by have:=congrArg List.length h;rw [aC0,aDA] at this;omega);have hpk:=hcs i (Pr.cells r.p[i]) (by rw [aC8,aC3 hlt];rfl);have ei:=DP (m:=r.p.length) hlt om;have et:=jZ s k r.p hlt;have Mf:=XX k (r.p.take i) s;rw [aDg] at Mf;have J3:=ho.block CE (lH.not CE rfl);generalize r.p[i]=q at *;generalize (r.p.take i).foldl (HU k) s=S at *;refine ix (h0:=(by omega)) (h1:=(by omega)) ?_;refine Ia (vs:=q.cells) J3 hpk ?_;refine al hs ?_;clear hs;intro b7 w7 ZC hs;refine AV hs ?_;clear hs;intro w8 hs;refine Jb ?_;have E9:=hs.AD [] (by simp [hB,hC.h]) sD;have k7:=hs.get (b:=b7) AX;have wM:=hC.only E9;have hB8:=E9.block hB AA;have g7:=hs.new (b7,true) AA rfl;simp only at g7;clear hs;have hs:=((St.nil _).AF k7).AF wM.h;refine dr [17] hs ?_;intro hX w hs;refine tks 0 13 ?_;refine dt 13 hX ?_;refine bs hs ?_;clear hs;intro b9 w9 xM hs;refine Jn ?_;refine dt 14 hX ?_;have qG:=hs.AD [] (by simp [k7,wM.h]) sD;have Me:=E9.trans qG;have Wd:=wM.only qG;have hB9:=qG.block hB8 AA;have z9:=Me.size;have z0:=ho.size;refine CF AJ rfl rfl rfl rfl rfl rfl rfl (by decide) (lit_cells (news:=Ev.cells (Ke k q)) (hs.get At.head)) (by simp [Value.oneCell']) Wd.e om om ?_;intro v10 Uh ⟨G10,wJ,sV⟩ FE;obtain ⟨a10,aCH,rfl⟩:=BU wJ;have c1:=FE.block Wd.h (fun hm=>BQ Wd.e Wd.h (by decide) hm);have k7':=FE.block (hs.get (b:=b7) AX) (fun hm=>BQ Wd.e (hs.get (b:=b7) AX) (by decide) hm);have b5':=FE.block hB9 (fun hm=>BQ Wd.e hB9 (by decide) hm);clear hs;have hs:=((St.nil Uh).AF k7').AF c1;refine Jn ?_;refine tks 15 2 ?_;refine dt 17 hX ?_;refine st hs ?_;clear hs;intro Za hs;refine Jn ?_;refine en ?_;refine Ja ?_;have Bd:AB [hb] Uh _:=hs.AD [hb] (by simp [k7']) sD;have aBi:=Bd.block b5' (by simpa using A3 b5' c1 (by decide));have hT:=Wd.tell (x:=Ke k q) FE wJ sV Bd (hs.get (b:=hb) AX);refine A2 (i+1,.slice a10 (S.ev.length+1) aCH,G10) (by show r.p.length - (i+1) < r.p.length - i;omega) (by (repeat (first | exact Ag | (apply A8;first | exact rfl | exact congrArg (Value.int .i64) ei)))) ⟨by show i+1≤_;omega,aBi,?_,fun j hj=>?_,((ho.step Me AA).step FE (fun j hj=>?_)).step Bd (fun j hj => .inl (by obtain rfl:=List.mem_singleton.1 hj;simp [CC]))⟩
   ·show CY _ hb sb tb rb v _ ((r.p.take (i+1)).foldl (HU k) s) L G G10;rw [et];exact hT
   ·rcases sV j hj with q | q
    ·exact Le j q
    ·exact .inr om
   ·rcases Le j hj with q | q
    ·exact .inl (by simp [CC,q])
    ·exact .inr q
  ·have e:i=r.p.length:=by omega
   subst e;rw [aDK] at hC;exact Au (v5,G5) Ad ⟨hB,hC,Le,ho⟩
 ·rintro ⟨v5,G5⟩ env w2 ⟨hB,hC,Le,ho⟩;simp only at hC Le;have aCZ:=XX k r.p s;have eA:BJ s k r=r.g.foldl (D3 k) (r.p.foldl (HU k) s):=rfl;generalize r.p.foldl (HU k) s=S0 at *;clear hs;have hs:=(St.nil w2).AF hB;refine Ja ?_;have Ap:=hs.AD [] (by simp [hB]) sD;refine BM (fun (_:Value × List Nat)=>[]) (fun y w=>CY w hb sb tb rb v y.1 (r.g.foldl (D3 k) S0) L G y.2∧(∀ i∈y.2,i∈Ge∨w0.heap.size≤i)∧AB (CC hb sb tb rb L G Ge) w0 w) ?_ ?_
  ·refine BH (fun (x:Nat × Value × List Nat)=>[(0,.pointer (some ⟨hb,0,none⟩)),(1,.int .i64 k),(38,.slice ag r.g.length cg),(39,.int .i64 (r.g.length:Nat)),(40,.int .i64 (x.1:Nat))])
    (fun x w=>x.1≤r.g.length∧CY w hb sb tb rb v x.2.1 ((r.g.take x.1).foldl (D3 k) S0) L G x.2.2∧(∀ i∈x.2.2,i∈Ge∨w0.heap.size≤i)∧AB (CC hb sb tb rb L G Ge) w0 w) (fun x=>r.g.length - x.1) (0,v5,G5) Ad ⟨aC7 _,hC.only Ap,Le,ho.step Ap AA⟩ fun x env wl ⟨hi,hC,Le,qO⟩=>?_
   obtain ⟨i,v5,G5⟩:=x;simp only at hi hC Le;clear hs;have hs:=((St.nil wl).AF hC.s.o).AF hC.h
   repeat' (first|refine Sa ?_|refine Aw rfl (fun hc=>?_) fun hc=>?_|fail)
   ·have hlt:i < r.g.length:=by omega
    obtain ⟨b,off,cs,fz,rfl,_,CE,hcs⟩:=sE (fun h=>by have:=congrArg List.length h;rw [aC0,aDA] at this;omega);have hpk:=hcs i (Gn.cells r.g[i]) (by rw [aC8,aC3 hlt];rfl);have ei:=DP (m:=r.g.length) hlt om;have et:=Vu S0 k r.g hlt;have Mf:=pP k (r.g.take i) S0;rw [aDg] at Mf;have J3:=qO.block CE (lH.not CE rfl);have Yr:=hg r.g[i] (aDS hlt);generalize r.g[i]=q at *;generalize (r.g.take i).foldl (D3 k) S0=S at *;refine ix (h0:=(by omega)) (h1:=(by omega)) ?_;refine Ia (vs:=q.cells) J3 hpk ?_;refine al hs ?_;clear hs;intro b9 w9 xM hs;refine AV hs ?_;clear hs;intro Uh hs;refine Jb ?_;refine dr [] hs ?_;intro hX w hs;refine tks 0 9 ?_;refine Gq 13 10 hs ?_;intro f X w hp;have hs:=hp.st;apply BI 9 13 (f:=f) (X:=X) hX hp;exact rfl;exact rfl;(apply AT AJ;exact rfl);kernel_rfl;kernel_rfl;kernel_rfl;kernel_rfl;(intro X Y;(repeat (first | exact A4 | refine A5 ?_ (by exact rfl))));(intro w' hs;first|exact AI hs.hold|exact AI hs.hold.tail|exact Ab rfl);intro f X w hp;have hs:=hp.st;have FE:=hs.AD [] (by simp [hC.s.o,hC.h]) sD;refine cl (h:=by exact OM tb rb S.s.t q.id _ (hC.s.t.only FE) Yr.2) ?_;have hx:=ok_task hC.s.ok.row q.id;have eG:Di S.s q={ Ay S.s.t q.id with st:=3,lag:=GK S.s.cf q.lag (Ay S.s.t q.id).slice }:=rfl;generalize Ay S.s.t q.id=x at *;rintro v w' ⟨rfl,ho⟩;replace hp:=hp.only ho;replace hs:=hp.st;refine Jn ?_;refine tk 10 hX (hc:=by cases f <;> kernel_rfl) (k:=?_);refine tk 11 hX (hc:=by cases f <;> kernel_rfl) (k:=?_);refine tk 12 hX (hc:=by cases f <;> kernel_rfl) (k:=?_);apply Bb 13 (f:=f) (X:=X) hX hp;exact rfl;(apply AT AJ;exact rfl);kernel_rfl;kernel_rfl;(intro X Y;(repeat (first | exact A4 | refine A5 ?_ (by exact rfl))));(intro w' hs;first|exact AI hs.hold|exact AI hs.hold.tail|exact Ab rfl);intro b w hI hs;refine dt 14 hX ?_
    repeat' (first|refine Nx.h ?_|(refine AV hs ?_;intro w hs)|fail)
    refine dn ?_;refine tk 15 hX ?_;refine en ?_;refine Jb ?_;refine drT [] hs ?_;intro hX w hs;refine tks 0 10 ?_;refine dt 10 hX ?_;refine Jc ?_;refine dn ?_;refine tk 12 hX ?_;refine dt 11 hX ?_;refine AZ hs (h:=by exact RJ S.s.cf q.lag x.slice hC.s.ok.cf Yr.1 hx.2.2.2.2.1 _) ?_;intro w' ho hs;refine Jn ?_;refine dt 13 hX ?_
    repeat' (first|refine Nx.h ?_|(refine st hs ?_;intro w hs)|fail)
    refine dn ?_;refine tk 14 hX ?_;refine dt 15 hX ?_
    repeat' (first|refine Nx.h ?_|(refine st hs ?_;intro w hs)|fail)
    refine dn ?_;refine en ?_;refine Jb ?_;refine dr [] hs ?_;intro hX w hs;refine tks 0 8 ?_;refine dt 8 hX ?_;have GC:=hs.AD [] (by simp [hC.s.o,hC.h]) sD;have eS:KM (Di S.s q) = .agg #[.int .i64 x.id,.int .u8 3,.int .i64 x.core,.int .u32 x.w,.int .u64 x.slice,.int .i64 (GK S.s.cf q.lag x.slice)]:=by rw [eG];rfl
    rw [← eS];have hok:CP S.s.cf.cores (Di S.s q):=CP.sH hC.s.ok q;refine cl (h:=by exact FV tb rb S.s.t (Di S.s q) _ (hC.s.t.only GC) hok.1) ?_;rintro v12 I6 ⟨rfl,FZ,Bl⟩;obtain ⟨cap,rest,t1,t2,_⟩:=(hC.s.t.only GC);have kh:=Bl.block (hs.get (b:=hb) (o:=gM sb v5) AX) (by simpa using A3 (hs.get (b:=hb) (o:=gM sb v5) AX) t2 (by decide));have k9:=Bl.block (hs.get (b:=b9) AX) (by simpa using A3 (hs.get (b:=b9) AX) t2 (by decide));have TQ:Fj I6 sb tb rb v (Bz S.s (Di S.s q)) L G:=(hC.s.only GC).rows FZ Bl (hC.s.ok.CM hok);have aCB:ZI I6 v5 S.ev G5:=(hC.e.keep GC AA).keep Bl (fun j hj hm=>by obtain rfl:=List.mem_singleton.1 hm;exact BQ (hC.e.keep GC AA) t2 (by decide) hj);have dF:CY I6 hb sb tb rb v v5 ⟨Bz S.s (Di S.s q),S.ev⟩ L G G5:=⟨kh,TQ,aCB⟩;have gb:=hs.new (b,true) AA rfl;have Zj:=hC.s.t.SP.2;simp only at gb;have rM:=Bl.block (hs.get (b:=b) AX) (by simp;omega);have ks:=TQ.o;clear hs;have hs:=((((St.nil I6).AF ks).AF kh).AF k9).AF rM;refine Jn ?_;refine en ?_;refine Jb ?_;have cE:=hs.AD [] (by simp [ks,kh,k9,rM]) sD;replace dF:=dF.only cE;replace Bl:=Bl.step cE AA;replace k9:=cE.block k9 AA;replace kh:=dF.h;clear hs;have hs:=((St.nil _).AF k9).AF kh;refine dr [13] hs ?_;intro hX w hs;refine tks 0 9 ?_;refine dt 9 hX ?_;refine bs hs ?_;clear hs;intro b13 J2 aCj hs;refine Jn ?_;refine dt 10 hX ?_;have J8:=hs.AD [] (by simp [k9,kh]) sD;have TY:=dF.only J8;have z13:=J8.size;have z12:=Bl.size;have z11:=GC.size;have z0:=qO.size;refine CF AJ rfl rfl rfl rfl rfl rfl rfl (by decide) (lit_cells (news:=Ev.cells ⟨k,q.id,0,false,true⟩) (hs.get At.head)) (by simp [Value.oneCell']) TY.e (by show (S.ev.length+1)*32≤_;omega) (by show S.ev.length+1≤_;omega) ?_;intro v14 vX ⟨G14,aAW,rP⟩ Hp;obtain ⟨a14,aBB,rfl⟩:=BU aAW;have c1:=Hp.block TY.h (fun hm=>BQ TY.e TY.h (by decide) hm);have k9':=Hp.block (hs.get (b:=b9) AX) (fun hm=>BQ TY.e (hs.get (b:=b9) AX) (by decide) hm);clear hs;have hs:=((St.nil vX).AF k9').AF c1;refine Jn ?_;refine tks 11 2 ?_;refine dt 13 hX ?_;refine st hs ?_;clear hs;intro w15 hs;refine Jn ?_;refine en ?_;refine Ja ?_;have Bd:AB [hb] vX _:=hs.AD [hb] (by simp [k9']) sD;have hT:=TY.tell (x:=⟨k,q.id,0,false,true⟩) Hp aAW rP Bd (hs.get (b:=hb) AX);refine A2 (i+1,.slice a14 (S.ev.length+1) aBB,G14) (by show r.g.length - (i+1) < r.g.length - i;omega) (by (repeat (first | exact Ag | (apply A8;first | exact rfl | exact congrArg (Value.int .i64) ei)))) ⟨by show i+1≤_;omega,?_,fun j hj=>?_,((((qO.step GC AA).step Bl (fun j hj => .inl (by obtain rfl:=List.mem_singleton.1 hj;simp [CC]))).step J8 AA).step Hp (fun j hj=>?_)).step Bd (fun j hj => .inl (by obtain rfl:=List.mem_singleton.1 hj;simp [CC]))⟩
    ·show CY _ hb sb tb rb v _ ((r.g.take (i+1)).foldl (D3 k) S0) L G G14;rw [et];exact hT
    ·rcases rP j hj with q | q
     ·exact Le j q
     ·exact .inr om
    ·rcases Le j hj with q | q
     ·exact .inl (by simp [CC,q])
     ·exact .inr q
   ·have e:i=r.g.length:=by omega
    subst e;rw [aDK] at hC;exact Au (v5,G5) Ad ⟨hC,Le,qO⟩
  ·rintro ⟨v6,G6⟩ env w3 ⟨hC,Le,ho⟩;simp only at hC Le;clear hs;have hs:=St.nil w3
   skip
   refine JO ?_;have AN:=hs.AE rfl;exact ⟨_,_,by rw [eA];exact hC.only AN,Le,ho.step AN AA⟩
theorem GM (hb:Nat) (s:Ch) (F:List Nat) (k:Int) (rv:Value) (r:Rp) (w0:World) (h:De w0 hb s F) (hr:M0 w0 rv r) (hg:Cj r) (hl:s.ev.length+r.p.length+r.g.length≤4000000000000) :
 AO prog 60 #[.pointer (some ⟨hb,0,none⟩),.int .i64 k,rv] w0 fun v w'=>sR w0 hb (BJ s k r) F w':=by
 obtain ⟨sb,tb,rb,v,ve,L,G,Ge,rfl,hO⟩:=h.FA;refine (QJ hb sb tb rb v ve s L G Ge k rv r w0 hO hr hg hl).mono fun v' w' ⟨ZO,XI,h1,h2,h3⟩=>⟨_,h1.at,fun j hj=>?_,h3⟩;simp only [CC,aCu,aC4] at hj ⊢;rcases hj with hj | hj | hj
 ·exact .inl (.inl hj)
 ·exact .inl (.inr (.inl hj))
 ·rcases h2 j hj with q | q
  ·exact .inl (.inr (.inr q))
  ·exact .inr q
end Go.Proofs.Q0
namespace Go.Proofs.Q0
open Go Go.RowKit Tryz
section
variable {ops : Array Oper} {QE : Exit → Env → World → Prop} {n : Nat} {rest : List Oper} {env : Env} {w wb : World} {D : Ctx} {H : List Br} {d : Option Nat} {ty : Nat} {pos : String} {Am : Array Edge} {g : Option (Nat × Bool)}
def JG (H:List Br):List Br:=H.map fun e=>(e.1,e.2.1,false)
theorem St.nE (hs:St w D0 H w) {b:Nat} {o:Obj} {w':World} (h:St w D0 ((b,o,true) :: H) w'):AB [] w w' :=
 h.AD [] (fun e he=>by
  rcases aCu.1 he with rfl | he
  ·exact .inl rfl
  ·exact .inr (.inr (hs.hold e he))) sD
theorem St.new1 {b:Nat} {o:Obj} {w':World} (h:St w D0 ((b,o,true) :: H) w'):w.heap.size≤b:=h.new (b,true) AA rfl
theorem St.new2 {b:Nat} {o:Obj} {w':World} (h:St w D0 ((b,o,true) :: H) w') (hf:JG H=H):St w' D0 ((b,o,false) :: H) w':=by
 have h1:=h.En;rw [aC2] at h1;unfold JG at hf;rw [hf] at h1;exact h1
theorem St.Ec (h:St wb D H w) {b:Nat} {cs:Array Value} {ty:Nat} {fz:Nat × Nat} (hb:w.heap[b]?=some (.cells cs ty fz)) (hn:(H.all fun e=>TK ty e.2.1)=true:=by rfl):b∉H.map (·.1):=fun hm=>by
 obtain ⟨e,he,rfl⟩:=List.mem_map.1 hm;have h1:=List.all_eq_true.1 hn e he;have h2:=h.at_ e he;rw [hb] at h2;rw [← aDo h2] at h1;simp [TK] at h1
theorem St.Dj (hs:St w D0 H w) {F:List Nat} {w':World} (ho:AB F w w') (hF:∀ k∈F,k∉H.map (·.1)) (hf:JG H=H:=by rfl):St w' D0 H w':=by
 have h1:=(hs.call ho hF sD).En;unfold JG at hf;rw [hf] at h1;exact h1
theorem St.JL (hs:St w D0 H w) {w':World} (ho:AB [] w w') (hf:JG H=H:=by rfl):St w' D0 H w':=hs.Dj ho AA hf
theorem FK {t:Nat} {cs:List Value} (hs:St w D0 H w) (k:∀ b w',AB [] w w'→w.heap.size≤b→St w' D0 ((b,.cells cs.toArray t,false) :: H) w'→XS prog ops QE n rest (Bf env d (.pointer (some ⟨b,0,none⟩))) w') (ht:look t GY.zs=some cs:=by exact rfl) (hf:JG H=H:=by rfl) (hw:Ax ops env g=true:=by exact rfl):XS prog ops QE n (⟨d,.alloc t,ty,pos,Am,g⟩ :: rest) env w :=
 xs_alloc AJ ht hw hs fun b w' _ h=>k b w' (hs.nE h) h.new1 (h.new2 hf)
theorem Gv {t:Nat} {x:Operand} {cs:List Value} (hs:St w D0 H w) (k:∀ b w',AB [] w w'→w.heap.size≤b→St w' D0 ((b,.cells cs.toArray t,false) :: H) w'→XS prog ops QE n rest (Bf env d (.pointer (some ⟨b,0,none⟩))) w') (hf:JG H=H:=by rfl) (hw:Ax ops env g=true:=by exact rfl) (hx:(ev env x).cells=cs.toArray:=by exact rfl):XS prog ops QE n (⟨d,.box t x,ty,pos,Am,g⟩ :: rest) env w :=
 xs_box hw hx hs fun b w' _ h=>k b w' (hs.nE h) h.new1 (h.new2 hf)
theorem bs1 {t e size bytes len:Nat} {parts:Array (Nat × Operand)} {zs cs:List Value} (hs:St w D0 H w) (k:∀ b w',AB [] w w'→w.heap.size≤b→St w' D0 ((b,.cells cs.toArray e,false) :: H) w'→XS prog ops QE n rest (Bf env d (.slice (some ⟨b,0,none⟩) len len)) w') (hf:JG H=H:=by rfl) (hw:Ax ops env g=true:=by exact rfl) (Co:look t GY.sls=some (e,size,bytes):=by exact rfl) (hz:look e GY.zs=some zs:=by exact rfl) (hzl:Nat.beq zs.length size=true:=by exact rfl) (PA:Nat.ble (len*size) 16777216=true:=by exact rfl) (hps:Nat.beq (len*size) 0=false:=by exact rfl) (hb:CZ env (Ni len size) (Ra zs (len*size)) parts.toList cs:=by (repeat (first | exact CZ.nil | (apply CZ.one;exact rfl;(conv=>lhs;whnf);exact rfl;(repeat (first | exact Ak.nil | apply Ak.skip | apply Ak.cons))) | (apply CZ.agg;exact rfl;exact rfl;exact rfl;(repeat (first | exact Ak.nil | apply Ak.skip | apply Ak.cons)))))):XS prog ops QE n (⟨d,.buildSlice t len parts,ty,pos,Am,g⟩ :: rest) env w :=
 IQ AJ hw Co hz hzl PA hps hb hs fun b w' _ h=>k b w' (hs.nE h) h.new1 (h.new2 hf)
theorem St.yW (hs:St w D0 H w) {H':List Br} {b:Nat} {w':World} (h:St w D0 H' w') (hb:∀ e∈H',e.1=b∨e∈H) (hf:JG H'=H'):AB [b] w w'∧St w' D0 H' w':=by
 refine ⟨h.AD [b] (fun e he=>?_) sD,?_⟩
 ·rcases hb e he with q | q
  ·exact .inr (.inl (by simp [q]))
  ·exact .inr (.inr (hs.hold e q))
 ·have h1:=h.En;unfold JG at hf;rw [hf] at h1;exact h1
theorem At.others {b:Nat} {o:Obj} {nw:Bool} {f:Obj→List Br} (h:At H b o nw f) (o':Obj):∀ e∈f o',e.1=b∨e∈H:=by
 induction h with
 | head =>
   intro e he;rcases aCu.1 he with rfl | he
   ·exact .inl rfl
   ·exact .inr (aCy _ he)
 | tail _ ih =>
   intro e he;rcases aCu.1 he with rfl | he
   ·exact .inr aCw
   ·rcases ih e he with q | q
    ·exact .inl q
    ·exact .inr (aCy _ q)
theorem iA {t b off:Nat} {x y:Operand} {cs cs':List Value} {E:TypeId} {nw:Bool} {f:Obj→List Br} {v:Value} (hs:St w D0 H w) (k:∀ w',AB [b] w w'→St w' D0 (f (.cells cs'.toArray E (0,0))) w'→XS prog ops QE n rest (Bf env d undef) w') (ht:look t GY.tks=some (false,1):=by exact rfl) (hw:Ax ops env g=true:=by exact rfl) (hp:ev env x = .pointer (some ⟨b,off,none⟩):=by exact rfl) (hv:ev env y=v:=by (conv=>lhs;whnf)) (h1:v.oneCell'=true:=by exact rfl) (hA:At H b (.cells cs.toArray E (0,0)) nw f:=by (repeat (first | exact At.head | (with_reducible apply At.tail)))) (hc:Ak cs off [v] cs':=by (repeat (first | exact Ak.nil | apply Ak.skip | apply Ak.cons))) (hf:JG (f (.cells cs'.toArray E (0,0)))=f (.cells cs'.toArray E (0,0)):=by rfl):XS prog ops QE n (⟨d,.store t x y,ty,pos,Am,g⟩ :: rest) env w :=
 xs_store AJ ht hw hp hv h1 hs hA hc fun w' h=>(fun q=>k w' q.1 q.2) (hs.yW h (hA.others _) hf)
theorem D2 {t b off m:Nat} {x y:Operand} {cs vs cs':List Value} {E:TypeId} {nw:Bool} {f:Obj→List Br} (hs:St w D0 H w) (k:∀ w',AB [b] w w'→St w' D0 (f (.cells cs'.toArray E (0,0))) w'→XS prog ops QE n rest (Bf env d undef) w') (ht:look t GY.tks=some (true,m):=by exact rfl) (hw:Ax ops env g=true:=by exact rfl) (hp:ev env x = .pointer (some ⟨b,off,none⟩):=by exact rfl) (hv:ev env y = .agg vs.toArray:=by exact rfl) (hm:Nat.beq vs.length m=true:=by exact rfl) (h1:vs.all Value.oneCell'=true:=by exact rfl) (hA:At H b (.cells cs.toArray E (0,0)) nw f:=by (repeat (first | exact At.head | (with_reducible apply At.tail)))) (hc:Ak cs off vs cs':=by (repeat (first | exact Ak.nil | apply Ak.skip | apply Ak.cons))) (hf:JG (f (.cells cs'.toArray E (0,0)))=f (.cells cs'.toArray E (0,0)):=by rfl):XS prog ops QE n (⟨d,.store t x y,ty,pos,Am,g⟩ :: rest) env w :=
 UR AJ ht hw hp hv hm h1 hs hA hc fun w' h=>(fun q=>k w' q.1 q.2) (hs.yW h (hA.others _) hf)
theorem Hy (E:List Nat) {id:Nat} {ops:Array Oper} (hs:St w D0 H w) (k:XH ops E QE n→∀ w',AB [] w w'→St w' D0 H w'→XA prog ops E H QE n ops.size (Array.replicate ops.size false) env w') (hX:XH ops E QE n:=by exact ⟨by kernel_rfl,by kernel_rfl,by kernel_rfl,by (repeat (first | (with_reducible exact Ph) | (with_reducible apply Nj) | (with_reducible apply MQ) | (with_reducible apply NO) | (with_reducible apply MB) | (with_reducible apply N3) | (with_reducible apply N4)))⟩) (hf:JG H=H:=by rfl):XC prog QE n (.region id ops true) env w :=
 dr E hs (hX:=hX) (k:=fun hX w' h=>k hX w' (h.AD [] (fun e he => .inr (.inr (hs.hold e he))) sD) (by
  have h1:=h.En;unfold JG at hf;rw [hf] at h1;exact h1))
end
end Go.Proofs.Q0
namespace Go.Proofs.Q0
namespace FL
structure F1 where
 w:Rat
 x:Rat
 e:Rat
def lag (V:Rat) (k:F1):Rat:=k.w*V - k.x
end FL
end Go.Proofs.Q0
namespace Go.Proofs.Q0
open IB (IT)
open FL
theorem UZ {c:Cs} {m:Int} {a:RT} (hg:DI c.A.l c.run=a.1) (m0:0≤m) (he:E0 c m=0):(DG c m).1.i.id=a.1.i.id∧M1 a.1.i.p (BW c m*1048576)=some (DG c m).1.i.p∧1≤BW c m∧BW c m≤a.1.left∧((DG c m).1.left=a.1.left - BW c m∨a.1.left - BW c m=0):=by
 cases e:Fk c m with
 | none =>
   have:E0 c m=2:=by unfold E0 DG;rw [e];exact (put_zero _).1
   omega
 | some u =>
   have hu:=Pk m0 e;have hk:=(Ng e).1;have hy:DG c m=CQ u.1:=by unfold DG;rw [e]
   have hy1:(DG c m).1=u.1:=by rw [hy];exact Ij hu
   rw [hy1];rw [hg] at hk;unfold Fk DH at e;rw [hg] at e;split at e
   ·rename_i hc;cases em:M1 a.1.i.p (BW c m*1048576) with
    | none=>rw [em] at e;cases e
    | some p =>
      rw [em] at e;have e:(CM (Cz a.1 p (BW c m))).map (fun u=>(u,decide (a.1.left - BW c m=0)))=some u:=e;cases es:CM (Cz a.1 p (BW c m)) with
      | none=>rw [es] at e;cases e
      | some y =>
        rw [es] at e;cases e
        have hn:0≤BW c m:=by
         unfold BW EJ;have:=SR hc.1;rw [hg];split <;> omega
        unfold CM at es;cases k2:(EC (Cz a.1 p (BW c m))).right with
        | false=>rw [k2] at es;cases es
        | true =>
          rw [k2] at es;cases es
          have q1:(EC (Cz a.1 p (BW c m))).i.p=p:=by
           unfold EC;cases EZ (Cz a.1 p (BW c m)).left <;> rfl
          have q2:(EC (Cz a.1 p (BW c m))).left=bif decide (a.1.left - BW c m=0) then a.1.slice else a.1.left - BW c m:=by
           unfold EC;cases EZ (Cz a.1 p (BW c m)).left <;> rfl
          refine ⟨hk,congrArg some q1.symm,by omega,hc.2.2,?_⟩;show (EC (Cz a.1 p (BW c m))).left=_∨_;rw [q2];by_cases z:a.1.left - BW c m=0
          ·exact .inr z
          ·rw [decide_eq_false z];exact .inl rfl
   ·cases e
end Go.Proofs.Q0
namespace Go.Proofs.Q0
open Go Go.RowKit Tryz
theorem Uv {s:Ss} {c:Cs} (h:BN s c.A):∀ x∈(DN c).A.l,x∈c.A.l:=h.L4.sub
theorem Vr {c:Cs} {m:Int} {a:RT} (hg:DI c.A.l c.run=a.1) (m0:0≤m) (he:E0 c m=0):(DG c m).1.slice=a.1.slice∧(DG c m).1.left=(if a.1.left - BW c m=0 then a.1.slice else a.1.left - BW c m)∧(La c m).done=decide (a.1.left - BW c m=0):=by
 cases e:Fk c m with
 | none =>
   have:E0 c m=2:=by unfold E0 DG;rw [e];exact (put_zero _).1
   omega
 | some u =>
   have hu:=Pk m0 e;have hy:DG c m=CQ u.1:=by unfold DG;rw [e]
   have hy1:(DG c m).1=u.1:=by rw [hy];exact Ij hu
   have hp:(La c m).done=u.2:=by unfold La;rw [e]
   rw [hy1,hp];unfold Fk DH at e;rw [hg] at e;split at e
   ·rename_i hc;cases em:M1 a.1.i.p (BW c m*1048576) with
    | none=>rw [em] at e;cases e
    | some p =>
      rw [em] at e;have e:(CM (Cz a.1 p (BW c m))).map (fun u=>(u,decide (a.1.left - BW c m=0)))=some u:=e;cases es:CM (Cz a.1 p (BW c m)) with
      | none=>rw [es] at e;cases e
      | some y =>
        rw [es] at e;cases e;unfold CM at es;cases k2:(EC (Cz a.1 p (BW c m))).right with
        | false=>rw [k2] at es;cases es
        | true =>
          rw [k2] at es;cases es
          have q1:(EC (Cz a.1 p (BW c m))).slice=a.1.slice:=by
           unfold EC;cases EZ (Cz a.1 p (BW c m)).left <;> rfl
          have q2:(EC (Cz a.1 p (BW c m))).left=bif decide (a.1.left - BW c m=0) then a.1.slice else a.1.left - BW c m:=by
           unfold EC;cases EZ (Cz a.1 p (BW c m)).left <;> rfl
          refine ⟨q1,?_,rfl⟩;show (EC (Cz a.1 p (BW c m))).left=_;rw [q2];by_cases z:a.1.left - BW c m=0
          ·rw [decide_eq_true z,if_pos z];rfl
          ·rw [decide_eq_false z,if_neg z];rfl
   ·cases e
theorem GA {l:List Tk} {z:Tk}:z∈A6 l↔z.st≠0∧∃ i:Nat,l[i]?=some z:=by
 unfold A6;rw [List.mem_filter,List.mem_iff_getElem?];constructor
 ·rintro ⟨h1,h2⟩;exact ⟨by simpa using h2,h1⟩
 ·rintro ⟨h1,h2⟩;exact ⟨h2,by simpa using h1⟩
theorem OJ {t:List Tk} (h:B7 0 t) {y:Tk} {i:Nat} (hi:i < t.length) (hid:y.id=(i:Int)+1) (z:Tk):z∈A6 (t.set i y)↔(z=y∧y.st≠0)∨(z∈A6 t∧z.id≠y.id):=by
 rw [GA,GA];constructor
 ·rintro ⟨h1,j,hj⟩;rw [aDj] at hj;split at hj
  ·cases hj;exact .inl ⟨rfl,h1⟩
  ·rename_i hne;have:=(h.get hj h1).1;exact .inr ⟨⟨h1,j,hj⟩,fun e=>hne om⟩
 ·rintro (⟨rfl,h1⟩ | ⟨⟨h1,j,hj⟩,h2⟩)
  ·exact ⟨h1,i,by rw [aDj,if_pos rfl,if_pos hi]⟩
  ·have:=(h.get hj h1).1;exact ⟨h1,j,by rw [aDj,if_neg (fun e=>h2 om)];exact hj⟩
theorem I4 {t:List Tk} (h:B7 0 t) {x y:Tk} (hx:x∈A6 t) (hid:y.id=x.id) (hy:Ba y=true) (z:Tk):z∈A6 (ES t y)↔z=y∨(z∈A6 t∧z.id≠y.id):=by
 obtain ⟨i,h1,h2,_⟩:=GG h hx;obtain ⟨h3,h4⟩:=I2 h1;have e:ES t y=t.set i y:=by unfold ES;rw [hy,hid,h1];rfl
 rw [e,OJ h h3 (by rw [hid];exact h4) z];have:=Wj hy;constructor
 ·rintro (⟨h,_⟩ | h)
  ·exact .inl h
  ·exact .inr h
 ·rintro (h | h)
  ·exact .inl ⟨h,this⟩
  ·exact .inr h
theorem aL {t:List Tk} (h:B7 0 t) {x:Tk} (hx:x∈A6 t) (z:Tk):z∈A6 (FJ t x.id)↔z∈A6 t∧z.id≠x.id:=by
 obtain ⟨i,h1,h2,_⟩:=GG h hx;obtain ⟨h3,h4⟩:=I2 h1;have e:FJ t x.id=t.set i .zero:=by unfold FJ;rw [h1]
 rw [e,GA,GA];constructor
 ·rintro ⟨k1,j,hj⟩;rw [aDj] at hj;split at hj
  ·cases hj;exact absurd rfl k1
  ·rename_i hne;have:=(h.get hj k1).1;exact ⟨⟨k1,j,hj⟩,fun e=>hne om⟩
 ·rintro ⟨⟨k1,j,hj⟩,k2⟩;have:=(h.get hj k1).1;exact ⟨k1,j,by rw [aDj,if_neg (fun e=>k2 om)];exact hj⟩
theorem XB:∀ {l:List Tk} {i:Nat},Dc l=some i→∃ x,l[i]?=some x∧x.st=0
 | [],i,h=>by cases h
 | y :: l,i,h=>by
   unfold Dc at h;split at h
   ·rename_i k;cases h;exact ⟨y,rfl,k⟩
   ·cases e:Dc l with
    | none=>rw [e] at h;cases h
    | some j =>
      rw [e] at h;cases h;obtain ⟨x,h1,h2⟩:=XB e;exact ⟨x,by rw [List.getElem?_cons_succ];exact h1,h2⟩
theorem Ue {t:List Tk} (h:B7 0 t) {y:Tk} (he:Ef t y=0) (z:Tk):(z∈A6 (D4 t y)↔z={ y with id:=Eu t y }∨z∈A6 t)∧(∀ u∈A6 t,u.id≠Eu t y)∧1≤Eu t y∧Eu t y≤t.length:=by
 unfold Ef at he;unfold D4 Eu;cases hr:Ba y with
 | false=>rw [hr] at he;cases he
 | true =>
   rw [hr] at he;cases e:Dc t with
   | none=>rw [e] at he;cases he
   | some i =>
     obtain ⟨x,h1,h2⟩:=XB e;have hi:=LN e
     have hno:∀ u∈A6 t,u.id≠(i:Int)+1:=fun u hu k=>by
      obtain ⟨k1,j,hj⟩:=GP hu;have:=(h.get hj k1).1;have:j=i:=by omega
      subst this;rw [h1] at hj;cases hj;exact k1 h2
     have hy:=Wj hr;refine ⟨?_,hno,by show (1:Int)≤(i:Int)+1;omega,by show (i:Int)+1≤_;omega⟩;show z∈A6 (t.set i { y with id:=(i:Int)+1 })↔z={ y with id:=(i:Int)+1 }∨z∈A6 t;rw [OJ h hi rfl z];constructor
     ·rintro (⟨h,_⟩ | h)
      ·exact .inl h
      ·exact .inr h.1
     ·rintro (h | h)
      ·exact .inl ⟨h,hy⟩
      ·exact .inr ⟨h,hno z h⟩
theorem Jo {t:List Tk} (h:B7 0 t) {x y:Tk} (hx:x∈A6 t) (hy:y∈A6 t) (e:x.id=y.id):x=y:=by
 obtain ⟨_,_,_,h1⟩:=GG h hx;obtain ⟨_,_,_,h2⟩:=GG h hy;rw [← h1,← h2,e]
theorem live_right {t:List Tk} (h:B7 0 t) {x:Tk} (hx:x∈A6 t):Ba x=true:=by
 obtain ⟨k1,j,hj⟩:=GP hx;exact (h.get hj k1).2
def RN (k:Int) (x:Tk) (a:RT):Prop:=x.id=BB a∧x.core=k∧x.st=(if a.1.asleep=true then 2 else 1)∧x.w=a.1.i.p.w∧x.slice=a.1.slice
structure D5 (t:List Tk) (k:Int) (l:List RT) (G E:List Int):Prop where
 fwd:∀ a∈l,∃ x∈A6 t,RN k x a
 bwd:∀ x∈A6 t,BR x=true→x.core=k→x.id∉E→(∃ a∈l,BB a=x.id)∨x.id∈G
 gone:∀ i∈G,(∀ a∈l,BB a≠i)∧∃ x∈A6 t,x.id=i∧x.core=k
theorem LS {x:Tk}:BR x=true↔x.st=1∨x.st=2:=by unfold BR;rw [Bool.or_eq_true];simp
theorem RN.comp {k:Int} {x:Tk} {a:RT} (h:RN k x a):BR x=true:=by
 rw [LS,h.2.2.1];split
 ·exact .inr rfl
 ·exact .inl rfl
theorem D5.other {t:List Tk} {k k':Int} {l:List RT} {G E:List Int} (h:D5 t k' l G E) (hI:B7 0 t) {x y:Tk} (hx:x∈A6 t) (hid:y.id=x.id) (hy:Ba y=true) (rX:x.core≠k'∨(BR x=false∧x.id∉G)) (hyk:y.core≠k'∨BR y=false):D5 (ES t y) k' l G E:=by
 have L:=I4 hI hx hid hy;refine ⟨fun a ha=>?_,fun z hz hc hk he=>?_,fun i hi=>⟨(h.gone i hi).1,?_⟩⟩
 ·obtain ⟨u,hu,ht⟩:=h.fwd a ha;refine ⟨u,(L u).2 (.inr ⟨hu,fun e=>?_⟩),ht⟩;have:=Jo hI hu hx (by rw [e,hid]);subst this;rcases rX with q | ⟨q,_⟩
  ·exact q ht.2.1
  ·rw [ht.comp] at q;cases q
 ·rcases (L z).1 hz with rfl | ⟨hz,_⟩
  ·rcases hyk with q | q
   ·exact absurd hk q
   ·rw [hc] at q;cases q
  ·exact h.bwd z hz hc hk he
 ·obtain ⟨u,hu,h1,h2⟩:=(h.gone i hi).2;refine ⟨u,(L u).2 (.inr ⟨hu,fun e=>?_⟩),h1,h2⟩;have:=Jo hI hu hx (by rw [e,hid]);subst this;rcases rX with q | ⟨_,q⟩
  ·exact q h2
  ·exact q (h1 ▸ hi)
theorem D5.enter {t:List Tk} {k:Int} {l:List RT} {i:Int} {G E:List Int} (h:D5 t k l (i :: G) E) (hI:B7 0 t) {x y:Tk} (hx:x∈A6 t) (hi:x.id=i) (hid:y.id=x.id) (hc:y.core=x.core) (hs:y.st=3):D5 (ES t y) k l G E:=by
 have hy:Ba y=true:=by unfold Ba;rw [hs];rfl
 have L:=I4 hI hx hid hy;obtain ⟨g1,u,hu,g2,g3⟩:=h.gone i aCw;obtain rfl:=Jo hI hu hx (g2.trans hi.symm);refine ⟨fun a ha=>?_,fun z hz Q1 hk he=>?_,fun j hj=>⟨(h.gone j (aCy _ hj)).1,?_⟩⟩
 ·obtain ⟨v,hv,ht⟩:=h.fwd a ha;exact ⟨v,(L v).2 (.inr ⟨hv,fun e=>g1 a ha (by rw [← ht.1,e,hid,g2])⟩),ht⟩
 ·rcases (L z).1 hz with rfl | ⟨hz,hn⟩
  ·rw [LS,hs] at Q1;omega
  ·rcases h.bwd z hz Q1 hk he with q | q
   ·exact .inl q
   ·rcases aCu.1 q with q | q
    ·exact absurd (by rw [q,hid,g2]) hn
    ·exact .inr q
 ·obtain ⟨v,hv,h1,h2⟩:=(h.gone j (aCy _ hj)).2;by_cases e:v.id=y.id
  ·exact ⟨y,(L y).2 (.inl rfl),by rw [← e];exact h1,by rw [hc];exact g3⟩
  ·exact ⟨v,(L v).2 (.inr ⟨hv,e⟩),h1,h2⟩
theorem U6 (k:Int):∀ (G:List Gn) (s:Ch) (l:List RT) (E:List Int),B7 0 s.s.t→D5 s.s.t k l (G.map Gn.id) E →
 B7 0 (G.foldl (D3 k) s).s.t∧D5 (G.foldl (D3 k) s).s.t k l [] E ∧
 (∀ k' l' E',k'≠k→D5 s.s.t k' l' [] E'→D5 (G.foldl (D3 k) s).s.t k' l' [] E') ∧
 (∀ z,z.id∉G.map Gn.id→(z∈A6 (G.foldl (D3 k) s).s.t↔z∈A6 s.s.t)) ∧
 (∀ z∈A6 (G.foldl (D3 k) s).s.t,∃ u∈A6 s.s.t,u.id=z.id∧u.core=z.core∧u.w=z.w∧u.slice=z.slice) ∧
 (∀ z∈A6 (G.foldl (D3 k) s).s.t,z.id∈G.map Gn.id→z.st=3)
 | [],s,l,E,hI,h=>⟨hI,h,fun _ _ _ _ h=>h,fun _ _=>Iff.rfl,fun z hz=>⟨z,hz,rfl,rfl,rfl,rfl⟩,fun z _ hm=>by cases hm⟩
 | g :: G,s,l,E,hI,h=>by
   obtain ⟨_,x,hx,h1,h2⟩:=h.gone g.id AA;obtain ⟨i,f1,f2,f3⟩:=GG hI hx;rw [h1] at f3;have hid:(Di s.s g).id=x.id:=by show (Ay s.s.t g.id).id=_;rw [f3]
   have JY:(Di s.s g).core=x.core:=by show (Ay s.s.t g.id).core=_;rw [f3]
   have hw:(Di s.s g).w=x.w:=by show (Ay s.s.t g.id).w=_;rw [f3]
   have Co:(Di s.s g).slice=x.slice:=by show (Ay s.s.t g.id).slice=_;rw [f3]
   have hst:(Di s.s g).st=3:=rfl;have hr:Ba (Di s.s g)=true:=rfl;have L:=I4 hI hx hid hr;have gW:B7 0 (D3 k s g).s.t:=hI.sets (Di s.s g);obtain ⟨a1,a2,a3,a4,a5,a6⟩:=U6 k G (D3 k s g) l E gW (h.enter hI hx h1 hid JY hst);refine ⟨a1,a2,fun k' l' E' hk ht=>a3 k' l' E' hk (ht.other (k:=k) hI hx hid hr (.inl (by rw [h2];exact Ne.symm hk)) (.inr (by unfold BR;rw [hst];rfl))),fun z hz=>?_,fun z hz=>?_,fun z hz hm=>?_⟩
   ·simp only [aC2,aCu,not_or] at hz;refine (a4 z hz.2).trans ((L z).trans ⟨?_,fun k => .inr ⟨k,by rw [hid,h1];exact hz.1⟩⟩);rintro (rfl | k)
    ·exact absurd (by rw [hid,h1]) hz.1
    ·exact k.1
   ·obtain ⟨u,hu,e1,e2,e3,e4⟩:=a5 z hz;rcases (L u).1 hu with rfl | ⟨k,_⟩
    ·exact ⟨x,hx,by rw [← e1,hid],by rw [← e2,JY],by rw [← e3,hw],by rw [← e4,Co]⟩
    ·exact ⟨u,k,e1,e2,e3,e4⟩
   ·by_cases q:z.id∈G.map Gn.id
    ·exact a6 z hz q
    ·have PT:=(a4 z q).1 hz;rcases (L z).1 PT with rfl | ⟨_,k2⟩
     ·exact hst
     ·simp only [aC2,aCu] at hm;rcases hm with hm | hm
      ·exact absurd (by rw [hm,hid,h1]) k2
      ·exact absurd hm q
theorem NZ (s:Ch) (k:Int) (r:Rp):(BJ s k r).s=(r.g.foldl (D3 k) ⟨s.s,s.ev ++ r.p.map (Ke k)⟩).s:=by
 unfold BJ;obtain ⟨e1,e2⟩:=OG k r.p s;rw [show r.p.foldl (HU k) s=⟨s.s,s.ev ++ r.p.map (Ke k)⟩ by rw [← e1,← e2]]
theorem LL {r x:RT} {l:List RT} (ho:Cv (CJ r l)) (hx:x∈CJ r l):x=r∨(x∈l∧BB x≠BB r):=by
 have h:=Cl ho hx;rw [I8] at h;split at h
 ·cases h;exact .inl rfl
 ·rename_i hn;exact .inr ⟨(Bu h).1,hn⟩
theorem Tg (r:RT) (l:List RT):r∈CJ r l:=(Bu (by rw [I8,if_pos rfl])).1
theorem Ti {r x:RT} {l:List RT} (ho:Cv l) (hx:x∈l) (hn:BB x≠BB r):x∈CJ r l:=(Bu (by rw [I8,if_neg hn];exact Cl ho hx)).1
theorem QX:∀ {n:Nat} {s:Ss} {A:As},BN s A→A.l.length≤n→∀ a∈A.l,a∈(Cr n A).2.l∨BB a∈(Cr n A).1.map Gn.id
 | 0,s,A,h,hn,a,ha=>by rw [aDp (Nat.le_zero.1 hn)] at ha;cases ha
 | n+1,s,A,h,hn,a,ha=>by
   unfold Cr;cases e:A.l.find? (GJ A) with
   | none=>exact .inl ha
   | some b =>
     have hb:=aD5 e;have hf:=Cl h.o hb;have hx:=rC hf;have hl:=(del_perm h.o hf).length_eq;simp only [aCx] at hl;by_cases k:BB a=BB b
     ·exact .inr (by show BB a∈BB b :: _;rw [k];exact aCw)
     ·rcases QX (n:=n) (h.exit hf).2.2 (by rw [hx];omega) a (by rw [hx];exact List.mem_filter.2 ⟨ha,by simpa using k⟩) with q | q
      ·exact .inl q
      ·exact .inr (aCy _ q)
theorem TD {t:List Tk} {k:Int} {c1:Cs} {G E:List Int} (hR:Bw c1) (h:D5 t k c1.A.l G E):D5 t k (DN c1).A.l (G ++ (Da c1).map Gn.id) E:=by
 obtain ⟨s,hs⟩:=hR;have hF:=hs.L4;have hc:=QX hs (aC5 _);refine ⟨fun a ha=>h.fwd a (hF.sub a ha),fun x hx Zl hk he=>?_,fun i hi=>?_⟩
 ·rcases h.bwd x hx Zl hk he with ⟨a,ha,e⟩ | q
  ·rcases hc a ha with q | q
   ·exact .inl ⟨a,q,e⟩
   ·exact .inr (aDE _ (by rw [← e];exact q))
  ·exact .inr (aDC _ q)
 ·rcases aC4.1 hi with q | q
  ·exact ⟨fun a ha=>(h.gone i q).1 a (hF.sub a ha),(h.gone i q).2⟩
  ·obtain ⟨g,hg,rfl⟩:=List.mem_map.1 q;obtain ⟨_,_,h3,h4⟩:=hF.gone g hg;obtain ⟨a,ha,e⟩:=List.mem_map.1 h3;obtain ⟨x,hx,ht⟩:=h.fwd a ha;exact ⟨h4,x,hx,by rw [ht.1,e],ht.2.1⟩
theorem gO {t:List Tk} {k:Int} {l:List RT} {G E:List Int} (h:D5 t k l G E) {a r:RT} (hl:Cv l) (ho:Cv (CJ r l)) (ha:a∈l) (hi:BB r=BB a) (h1:r.1.asleep=a.1.asleep) (h2:r.1.i.p.w=a.1.i.p.w) (h3:r.1.slice=a.1.slice):D5 t k (CJ r l) G E:=by
 refine ⟨fun b hb=>?_,fun x hx hc hk he=>?_,fun i hi'=>⟨fun b hb e=>?_,(h.gone i hi').2⟩⟩
 ·rcases LL ho hb with rfl | ⟨hb,_⟩
  ·obtain ⟨x,hx,ht⟩:=h.fwd a ha;exact ⟨x,hx,by rw [hi];exact ht.1,ht.2.1,by rw [h1];exact ht.2.2.1,by rw [h2];exact ht.2.2.2.1,by rw [h3];exact ht.2.2.2.2⟩
  ·exact h.fwd b hb
 ·rcases h.bwd x hx hc hk he with ⟨b,hb,e⟩ | q
  ·by_cases n:BB b=BB r
   ·exact .inl ⟨r,Tg r l,by rw [← n,e]⟩
   ·exact .inl ⟨b,Ti hl hb n,e⟩
  ·exact .inr q
 ·rcases LL ho hb with rfl | ⟨hb,_⟩
  ·exact (h.gone i hi').1 a ha (by rw [← hi,e])
  ·exact (h.gone i hi').1 b hb e
theorem mJ {t:List Tk} {k:Int} {l:List RT} {G E:List Int} (h:D5 t k l G E) (hI:B7 0 t) {a r:RT} {y:Tk} (hl:Cv l) (ho:Cv (CJ r l)) (ha:a∈l) (hi:BB r=BB a) (hy:RN k y r) (hr:Ba y=true):D5 (ES t y) k (CJ r l) G E:=by
 obtain ⟨x,hx,ht⟩:=h.fwd a ha;have hid:y.id=x.id:=by rw [hy.1,hi,ht.1]
 have L:=I4 hI hx hid hr;refine ⟨fun b hb=>?_,fun z hz hc hk he=>?_,fun i hi'=>⟨fun b hb e=>?_,?_⟩⟩
 ·rcases LL ho hb with rfl | ⟨hb,hn⟩
  ·exact ⟨y,(L y).2 (.inl rfl),hy⟩
  ·obtain ⟨u,hu,HN⟩:=h.fwd b hb;exact ⟨u,(L u).2 (.inr ⟨hu,fun e=>hn (by rw [← HN.1,e,hy.1])⟩),HN⟩
 ·rcases (L z).1 hz with rfl | ⟨hz,hn⟩
  ·exact .inl ⟨r,Tg r l,hy.1.symm⟩
  ·rcases h.bwd z hz hc hk he with ⟨b,hb,e⟩ | q
   ·exact .inl ⟨b,Ti hl hb (fun n=>hn (by rw [← e,n,hy.1])),e⟩
   ·exact .inr q
 ·rcases LL ho hb with rfl | ⟨hb,_⟩
  ·exact (h.gone i hi').1 a ha (by rw [← hi,e])
  ·exact (h.gone i hi').1 b hb e
 ·obtain ⟨v,hv,h1,h2⟩:=(h.gone i hi').2;exact ⟨v,(L v).2 (.inr ⟨hv,fun e=>(h.gone i hi').1 a ha (by rw [← ht.1,← hid,← e,h1])⟩),h1,h2⟩
theorem Vn {t:List Tk} {k:Int} {l:List RT} {G:List Int} {id:Int} (h:D5 t k l G []):D5 t k (Dn id l) G [id]:=by
 refine ⟨fun b hb=>h.fwd b (del_sub b hb).1,fun z hz hc hk he=>?_,fun i hi=>⟨fun b hb=>(h.gone i hi).1 b (del_sub b hb).1,(h.gone i hi).2⟩⟩;rcases h.bwd z hz hc hk AA with ⟨b,hb,e⟩ | q
 ·exact .inl ⟨b,List.mem_filter.2 ⟨hb,by simp only [decide_eq_true_eq];rw [e];simpa using he⟩,e⟩
 ·exact .inr q
theorem fY {t:List Tk} {k:Int} {l:List RT} {r:RT} {y:Tk} (h:D5 t k l [] [BB r]) (hl:Cv l) (ho:Cv (CJ r l)) (hn:Al l (BB r)=none) (hy:y∈A6 t) (ht:RN k y r):D5 t k (CJ r l) [] []:=by
 refine ⟨fun b hb=>?_,fun z hz hc hk _=>?_,fun i hi=>by cases hi⟩
 ·rcases LL ho hb with rfl | ⟨hb,_⟩
  ·exact ⟨y,hy,ht⟩
  ·exact h.fwd b hb
 ·by_cases e:z.id=BB r
  ·exact .inl ⟨r,Tg r l,e.symm⟩
  ·rcases h.bwd z hz hc hk (by simpa using e) with ⟨b,hb,q⟩ | q
   ·exact .inl ⟨b,Ti hl hb (by rw [q];exact e),q⟩
   ·cases q
theorem fL {t:List Tk} {k:Int} {c:Cs} {m:Int} {G:List Int} (hR:Bw c) (hI:HP c) (hr:c.run≠0) (m0:0≤m) (he:E0 c m=0) (h:D5 t k c.A.l G []):D5 t k (DL c m).A.l G []:=by
 obtain ⟨s,hs⟩:=hR;rcases hI with ⟨h1,_⟩ | ⟨a,ha,Vx,hpos,OD,_⟩
 ·exact absurd h1 hr
 have hg:DI c.A.l c.run=a.1:=by unfold DI;rw [Vx,Cl hs.o ha]
 obtain ⟨s1,hs1⟩:=rep_srv hs m;obtain ⟨p1,p2,_⟩:=UZ hg m0 he;obtain ⟨f1,_,_⟩:=Vr hg m0 he;have el:(DL c m).A.l=CJ (DG c m) c.A.l:=Rr he
 have Co:(DG c m).1.asleep=a.1.asleep:=by
  cases e:Fk c m with
  | none =>
    have:E0 c m=2:=by unfold E0 DG;rw [e];exact (put_zero _).1
    omega
  | some u =>
    have hy:DG c m=CQ u.1:=by unfold DG;rw [e]
    rw [hy,Ij (Pk m0 e),(Ng e).2,hg]
 rw [el];have ho:=hs1.o;rw [el] at ho;exact gO h hs.o ho ha p1 Co (at_some p2).2.1 f1
theorem Uw {t:List Tk} {k:Int}:∀ (n:Nat) (left:Int) (c:Cs) (r:Rp),Bw c→HP c→0≤left→left≤1099511627776→D5 t k c.A.l (r.g.map Gn.id) [] →
 D5 t k (DB n left c r).2.1.A.l ((DB n left c r).2.2.g.map Gn.id) []∧Bw (DB n left c r).2.1
 | 0,left,c,r,hR,_,_,_,h=>⟨h,hR⟩
 | n+1,left,c,r,hR,hI,l0,l1,h=>by
   unfold DB;split
   ·rename_i hc;split
    ·rename_i he;have hst:=L9 (c:=c) (most:=left) ⟨l0,by omega⟩ he;have h1:=fL hR hI hc.2 l0 he h;have KJ:=Ql hR left;obtain ⟨s1,hs1⟩:=KJ;have h2:=TD ⟨s1,hs1⟩ h1;refine Uw n _ _ _ (Jr ⟨s1,hs1⟩) (inv_set hs1) om om ?_;show D5 t k _ ((r.g ++ Da (DL c left)).map Gn.id) [];rw [aDa];exact h2
    ·exact ⟨h,hR⟩
   ·exact ⟨h,hR⟩
theorem cF {t:List Tk} {k:Int} {c:Cs} {ns:Int} (hR:Bw c) (hI:HP c) (h:D5 t k c.A.l [] []):D5 t k (A7 c ns).2.1.A.l ((A7 c ns).2.2.g.map Gn.id) []∧Bw (A7 c ns).2.1:=by
 unfold A7;split
 ·rename_i hc;exact Uw _ ns c .none hR hI om hc.2 h
 ·exact ⟨h,hR⟩
structure J5 (s:Sy) (E:Int→List Int):Prop where
 ok:EE s
 ids:B7 0 s.t
 rep:Hr s
 inv:∀ c∈s.k,HP c
 tie:∀ k:Nat,k < s.k.length→D5 s.t k (AK s k).A.l [] (E k)
abbrev C3 (s:Sy):Prop:=J5 s fun _=>[]
theorem O3 {s:Sy} {k:Nat} (hk:k < s.k.length) (c:Cs) (k':Nat):AK (BX s k c) k'=if k'=k then c else AK s k':=by
 unfold AK BX
 show (s.k.set k c).getD k' (EY 0)=if k'=k then c else s.k.getD k' (EY 0)
 rw [aDI,aDI,aDj];by_cases e:k=k'
 ·subst e;rw [if_pos rfl,if_pos rfl,if_pos hk];rfl
 ·rw [if_neg e,if_neg (Ne.symm e)]
theorem KN {s:Sy} {k:Nat} (hk:k < s.k.length):AK s k∈s.k:=by
 show s.k.getD k (EY 0)∈s.k;rw [aDI,aC3 hk];exact aDS hk
theorem MV (s:Ch) (k:Int) (r:Rp) (h:EE s.s) (j:Int):AK (BJ s k r).s j=AK s.s j:=by
 unfold AK;rw [(ok_absorb h k r).2.2]
theorem inv_do {s:Sy} {t1:List Tk} {E:Int→List Int} {k:Nat} (hk:k < s.k.length) (hok:EE { s with t:=t1 }) (aBP:B7 0 t1) (OF:Hr s) (hinv:∀ c∈s.k,HP c)
 (hoth:∀ k':Nat,k' < s.k.length→k'≠k→D5 t1 k' (AK s k').A.l [] (E k')) {c1:Cs} {r1:Rp} (hc1:Bw c1) (h:D5 t1 k c1.A.l (r1.g.map Gn.id) (E k)) (ev:List Ev) (e:Int) (he:e=0) :
 J5 (BJ ⟨BX { s with t:=t1 } k (CU (AK s k) e c1),ev⟩ k (BO e c1 r1)).s E ∧
  (∀ z,z.id∉(BO e c1 r1).g.map Gn.id→(z∈A6 (BJ ⟨BX { s with t:=t1 } k (CU (AK s k) e c1),ev⟩ k (BO e c1 r1)).s.t↔z∈A6 t1)) ∧
  (∀ z∈A6 (BJ ⟨BX { s with t:=t1 } k (CU (AK s k) e c1),ev⟩ k (BO e c1 r1)).s.t,∃ u∈A6 t1,u.id=z.id∧u.core=z.core∧u.w=z.w∧u.slice=z.slice) ∧
  (∀ z∈A6 (BJ ⟨BX { s with t:=t1 } k (CU (AK s k) e c1),ev⟩ k (BO e c1 r1)).s.t,z.id∈(BO e c1 r1).g.map Gn.id→z.st=3):=by
 subst he;have h2:=TD hc1 h;have eC:CU (AK s k) 0 c1=DN c1:=if_pos rfl;have eR:BO 0 c1 r1=⟨r1.g ++ Da c1,r1.p⟩:=if_pos rfl;rw [eC,eR];rw [← aDa] at h2;have aAS:EE (BX { s with t:=t1 } k (DN c1)):=hok.Tp k _;obtain ⟨o1,o2,o3⟩:=ok_absorb (s:=⟨BX { s with t:=t1 } k (DN c1),ev⟩) aAS k ⟨r1.g ++ Da c1,r1.p⟩;have JY:=MV ⟨BX { s with t:=t1 } k (DN c1),ev⟩ k ⟨r1.g ++ Da c1,r1.p⟩ aAS;have et:=NZ ⟨BX { s with t:=t1 } k (DN c1),ev⟩ k ⟨r1.g ++ Da c1,r1.p⟩;obtain ⟨a1,a2,a3,a4,a5,a6⟩:=U6 k (r1.g ++ Da c1) ⟨BX { s with t:=t1 } k (DN c1),ev ++ r1.p.map (Ke k)⟩ (DN c1).A.l (E k) aBP h2;rw [← et] at a1 a2 a3 a4 a5 a6;refine ⟨⟨o1,a1,fun c hc=>?_,fun c hc=>?_,fun k' hk'=>?_⟩,a4,a5,a6⟩
 ·rw [o3] at hc;rcases aD8 hc with q | rfl
  ·exact OF c q
  ·exact Jr hc1
 ·rw [o3] at hc;rcases aD8 hc with q | rfl
  ·exact hinv c q
  ·obtain ⟨s',hs'⟩:=hc1;exact inv_set hs'
 ·rw [o3] at hk'
  have hk2:k' < s.k.length:=by
   have:k' < (s.k.set k (DN c1)).length:=hk';rwa [aDN] at this
  rw [JY,O3 (s:={ s with t:=t1 }) hk];by_cases q:k'=k
  ·subst q;rw [if_pos rfl];exact a2
  ·rw [if_neg q];exact a3 k' _ _ om (hoth k' hk2 q)
end Go.Proofs.Q0
