/- A part of the proof: what its functions compute. -/
import Derived.Test.YtjiiakjheghcoaaGreatDoorFd3
import Derived.Maps.OwnSet
set_option linter.unusedVariables false
set_option linter.unusedSimpArgs false
set_option maxRecDepth 100000
set_option maxHeartbeats 64000000
set_option linter.unusedSectionVars false
namespace Go.Proofs.Q0.IB
open Go Go.RowKit Tryz
attribute [local irreducible] XS XC XA AY AR A9 A1 A0 Aa Ae AW SE
theorem AM.lt {w:World} {F:List Nat} (h:AM w F):∀ k∈F,k < w.heap.size:=fun k hk=>by
 obtain ⟨cs,fz,h⟩:=h k hk;exact lt_of_block h
def Ck (w0:World) (fp:List Nat) (t':RB IT) (v:Value) (w':World):Prop :=
 ∃ p' Ci,v = .pointer p'∧Aj w' t' p' Ci∧Ci.Nodup∧(∀ k∈Ci,k∈fp∨w0.heap.size≤k)∧AB fp w0 w'
theorem Kn (tb:Nat) (p0:Option Addr) (n0:Int) (l:RB IT) (x:IT) (rl:RB IT) (y:IT) (rr:RB IT) (c c2:Bool) (p:Option Addr) (fp:List Nat) (w0:World) (hT:w0.heap[tb]?=some (C6 p0 n0)) (h:Cc w0 l x (.node rl y rr c2) c p fp) (hnd:fp.Nodup) (hlen:(l.list ++ x :: (rl.list ++ y :: rr.list)).length≤1000000) :
 AO prog 243 #[.pointer (some ⟨tb,0,none⟩),.pointer p] w0 fun v w'=>Ck w0 fp (.node (.node l x rl true) y rr c) v w':=by
 obtain ⟨b,av,pl,pr,fl,fr,rfl,rfl,hb,hl,u,JZ,mC,prr,frl,KR,rfl,rfl,hu,_,hrl,Us⟩:=h;have hp:=perm_turn b u fl frl KR;have Re:=hp.nodup_iff.2 hnd;have hNb:AM w0 [u,b]:=AM.cons hu (AM.cons hb (AM.nil w0));simp only [aCv,aCx] at hlen
 obtain ⟨d1,d2,d3,d4,d5,d6,d7,d8⟩:u≠b∧(∀ k∈fl,k∉[u,b])∧(∀ k∈frl,k∉[u,b])∧(∀ k∈KR,k∉[u,b])∧(b :: (fl ++ frl)).Nodup∧u∉b :: (fl ++ frl)∧(∀ k∈KR,k∉b :: (fl ++ frl))∧(u :: ((b :: (fl ++ frl)) ++ KR)).Nodup:=by
  simp only [aDR,aDQ,aC6,aDG,aC4,aCu,aC1,or_false] at Re ⊢;grind
 have hs:=St.nil w0;replace hs:=hs.AH hb AA;replace hs:=hs.AH hu (by simpa using d1);refine AS func243 ntmps243 ?_
 repeat' (first|refine Sa ?_|(refine st hs ?_;intro w hs)|fail)
 have AL:AB [u,b] w0 _:=hs.AD [u,b] AA sD;have Bv:=hs.get (At.tail At.head);have Wv:=hs.get At.head;have Ei:=hl.keep AL hNb d2;have Vm:=hrl.keep AL hNb d3;have nJ:=Us.keep AL hNb d4;have CL:=head_keep hT AL hNb;clear hs;refine cl (h:=by exact EO tb p0 n0 l x rl true _ _ _ CL ⟨b,av,pl,mC,fl,frl,rfl,rfl,Bv,Ei,Vm⟩ d5 (by simp only [aCv,aCx];omega)) (k:=?_);rintro v w' ⟨Bo,AN⟩;have Mj:AM _ (b :: (fl ++ frl)):=Cc.nodes ⟨b,av,pl,mC,fl,frl,rfl,rfl,Bv,Ei,Vm⟩;have HN:=AN.block Wv d6;have nI:=nJ.keep AN Mj d7;have MD:=head_keep CL AN Mj;have hs:=St.nil w';refine Ja ?_;refine cl (h:=by exact EO tb p0 n0 (.node l x rl true) y rr c _ _ _ MD ⟨u,JZ,_,prr,_,KR,rfl,rfl,HN,Bo,nI⟩ d8 (by simp only [RB.list,aCv,aCx];omega)) (k:=?_);rintro v w'' ⟨Fv,AU⟩;have hs:=St.nil w'';refine Ja ?_;refine AG ?_;have e:∀ k,k∈u :: ((b :: (fl ++ frl)) ++ KR)→k∈b :: (fl ++ (u :: (frl ++ KR))):=fun k hk=>hp.mem_iff.1 hk;have o1:AB (b :: (fl ++ (u :: (frl ++ KR)))) w0 _:=AL.weaken AA;have o2:=o1.step AN (fun k hk => .inl (e k (aCy _ (aDC _ hk))));exact ⟨_,_,rfl,Fv,d8,fun k hk => .inl (e k hk),o2.step AU (fun k hk => .inl (e k hk))⟩
theorem Gf (tb:Nat) (p0:Option Addr) (n0:Int) (ll:RB IT) (y:IT) (lr:RB IT) (x:IT) (r:RB IT) (c c2:Bool) (p:Option Addr) (fp:List Nat) (w0:World) (hT:w0.heap[tb]?=some (C6 p0 n0)) (h:Cc w0 (.node ll y lr c2) x r c p fp) (hnd:fp.Nodup) (hlen:(ll.list ++ y :: (lr.list ++ x :: r.list)).length≤1000000) :
 AO prog 244 #[.pointer (some ⟨tb,0,none⟩),.pointer p] w0 fun v w'=>Ck w0 fp (.node ll y (.node lr x r true) c) v w':=by
 obtain ⟨b,av,pl,pr,fl,fr,rfl,rfl,hb,⟨u,JZ,UE,Q3,fll,flr,rfl,rfl,hu,_,GF,hlr⟩,hr⟩:=h;have hp:=(perm_turn u b fll flr fr).symm;have Re:=hp.nodup_iff.2 hnd;have hNb:AM w0 [u,b]:=AM.cons hu (AM.cons hb (AM.nil w0));simp only [aCv,aCx] at hlen
 obtain ⟨d1,d2,d3,d4,d5,d6,d7,d8⟩:u≠b∧(∀ k∈fr,k∉[u,b])∧(∀ k∈flr,k∉[u,b])∧(∀ k∈fll,k∉[u,b])∧(b :: (flr ++ fr)).Nodup∧u∉b :: (flr ++ fr)∧(∀ k∈fll,k∉b :: (flr ++ fr))∧(u :: (fll ++ (b :: (flr ++ fr)))).Nodup:=by
  simp only [aDR,aDQ,aC6,aDG,aC4,aCu,aC1,or_false] at Re ⊢;grind
 have hs:=St.nil w0;replace hs:=hs.AH hb AA;replace hs:=hs.AH hu (by simpa using d1);refine AS func244 ntmps244 ?_
 repeat' (first|refine Sa ?_|(refine st hs ?_;intro w hs)|fail)
 have AL:AB [u,b] w0 _:=hs.AD [u,b] AA sD;have Bv:=hs.get (At.tail At.head);have Wv:=hs.get At.head;have hrw:=hr.keep AL hNb d2;have Xc:=hlr.keep AL hNb d3;have nG:=GF.keep AL hNb d4;have CL:=head_keep hT AL hNb;clear hs;refine cl (h:=by exact EO tb p0 n0 lr x r true _ _ _ CL ⟨b,av,Q3,pr,flr,fr,rfl,rfl,Bv,Xc,hrw⟩ d5 (by simp only [aCv,aCx];omega)) (k:=?_);rintro v w' ⟨Bo,AN⟩;have Mj:AM _ (b :: (flr ++ fr)):=Cc.nodes ⟨b,av,Q3,pr,flr,fr,rfl,rfl,Bv,Xc,hrw⟩;have HN:=AN.block Wv d6;have o7:=nG.keep AN Mj d7;have MD:=head_keep CL AN Mj;have hs:=St.nil w';refine Ja ?_;refine cl (h:=by exact EO tb p0 n0 ll y (.node lr x r true) c _ _ _ MD ⟨u,JZ,UE,_,fll,_,rfl,rfl,HN,o7,Bo⟩ d8 (by simp only [RB.list,aCv,aCx];omega)) (k:=?_);rintro v w'' ⟨Fv,AU⟩;have hs:=St.nil w'';refine Ja ?_;refine AG ?_;have e:∀ k,k∈u :: (fll ++ (b :: (flr ++ fr)))→k∈b :: ((u :: (fll ++ flr)) ++ fr):=fun k hk=>hp.mem_iff.1 hk;have o1:AB (b :: ((u :: (fll ++ flr)) ++ fr)) w0 _:=AL.weaken AA;have o2:=o1.step AN (fun k hk => .inl (e k (aCy _ (aDE _ hk))));exact ⟨_,_,rfl,Fv,d8,fun k hk => .inl (e k hk),o2.step AU (fun k hk => .inl (e k hk))⟩
theorem GW (a:RB IT) (x:IT) (b:RB IT) (c1:Bool) (y:IT) (d:RB IT) (z:IT) (e:RB IT) (c2 c:Bool) (p:Option Addr) (fp:List Nat) (w0:World) (h:Aj w0 (.node (.node a x b c1) y (.node d z e c2) c) p fp) (hnd:fp.Nodup) :
 AO prog 245 #[.pointer p] w0 fun v w'=>Aj w' (.node (.node a x b !c1) y (.node d z e !c2) !c) p fp∧AB fp w0 w':=by
 obtain ⟨m,av,_,_,_,_,rfl,rfl,hm,Ct,⟨u,JZ,pa,pb,fa,fb,rfl,rfl,hu,Ms,ha,hb⟩,⟨v,wV,pd,pe,fd,fe,rfl,rfl,hv,oD,hd,he⟩⟩:=h;have hNb:AM w0 [v,u,m]:=AM.cons hv (AM.cons hu (AM.cons hm (AM.nil w0)))
 obtain ⟨d1,d2,d3,d4,d5,d6,d7⟩:u≠m∧v≠m∧v≠u∧(∀ k∈fa,k∉[v,u,m])∧(∀ k∈fb,k∉[v,u,m])∧(∀ k∈fd,k∉[v,u,m])∧(∀ k∈fe,k∉[v,u,m]):=by
  simp only [aDR,aDQ,aC6,aDG,aC4,aCu,aC1,or_false] at hnd ⊢;grind
 have hs:=St.nil w0;replace hs:=hs.AH hm AA;replace hs:=hs.AH hu (by simpa using d1);replace hs:=hs.AH hv (by simp [d2,d3]);refine AS func245 ntmps245 ?_
 repeat' (first|refine Sa ?_|(refine st hs ?_;intro w hs)|fail)
 refine dr [14] hs ?_;intro hX w hs;refine tks 0 14 ?_;refine dt 14 hX ?_
 repeat' (first|refine Nx.h ?_|(refine st hs ?_;intro w hs)|fail)
 refine dn ?_;refine en ?_;refine Jb ?_;refine dr [14] hs ?_;intro hX w hs;refine tks 0 14 ?_;refine dt 14 hX ?_
 repeat' (first|refine Nx.h ?_|(refine st hs ?_;intro w hs)|fail)
 refine dn ?_;refine en ?_
 skip
 refine JO ?_;have AL:AB [v,u,m] w0 _:=hs.AD [v,u,m] AA sD;refine ⟨⟨m,av,_,_,_,_,rfl,rfl,hs.get (At.tail (At.tail At.head)),Ct.keep AL hNb,⟨u,JZ,pa,pb,fa,fb,rfl,rfl,hs.get (At.tail At.head),Ms.keep AL hNb,ha.keep AL hNb d4,hb.keep AL hNb d5⟩,⟨v,wV,pd,pe,fd,fe,rfl,rfl,hs.get At.head,oD.keep AL hNb,hd.keep AL hNb d6,he.keep AL hNb d7⟩⟩,AL.weaken AA⟩
structure Has (w0:World) (tb:Nat) (p0:Option Addr) (n0:Int) (fp:List Nat) (t:RB IT) (p:Option Addr) (w:World):Prop where
 tree:∃ Ci,Aj w t p Ci∧Ci.Nodup∧(∀ k∈Ci,k∈fp∨w0.heap.size≤k)∧AB fp w0 w
 head:w.heap[tb]?=some (C6 p0 n0)
theorem Has.only {w0 w w':World} {tb:Nat} {p0:Option Addr} {n0:Int} {fp:List Nat} {t:RB IT} {p:Option Addr} (h:Has w0 tb p0 n0 fp t p w) (ho:AB [] w w'):Has w0 tb p0 n0 fp t p w':=by
 obtain ⟨⟨Ci,h1,h2,h3,h4⟩,h5⟩:=h;exact ⟨⟨Ci,h1.keep ho (AM.nil w) (fun k _=>by simp),h2,h3,h4.step ho AA⟩,head_keep h5 ho (AM.nil w)⟩
theorem Has.next {w0 w w':World} {tb:Nat} {p0:Option Addr} {n0:Int} {fp D8:List Nat} {t t':RB IT} {p:Option Addr} {v:Value} (h1:Aj w t p D8) (h2:∀ k∈D8,k∈fp∨w0.heap.size≤k) (h3:AB fp w0 w) (h4:w.heap[tb]?=some (C6 p0 n0)) (k:Ck w D8 t' v w') :
 ∃ p',v = .pointer p'∧Has w0 tb p0 n0 fp t' p' w':=by
 obtain ⟨p',Ci,rfl,k1,k2,k3,k4⟩:=k;refine ⟨p',rfl,⟨Ci,k1,k2,fun i hi=>?_,h3.step k4 h2⟩,head_keep h4 k4 h1.nodes⟩;have:=h3.size;rcases k3 i hi with h | h
 ·exact h2 i h
 ·exact .inr om
theorem JB (l:RB IT) (x:IT) (r:RB IT) (c:Bool):∃ l' x' r' c',RB.Db (.node l x r c) = .node l' x' r' c':=by
 unfold RB.Db;cases r with
 | nil=>exact ⟨_,_,_,_,rfl⟩
 | node rl y rr d =>
   cases d <;> cases h:l.red <;> simp only [RB.BE,RB.Av,RB.BS,h,aDk,Bool.not_false,Bool.and_true,aDw,Bool.and_self,cond_true,cond_false,RB.G7] <;> exact ⟨_,_,_,_,rfl⟩
theorem JC (l:RB IT) (x:IT) (r:RB IT) (c:Bool):∃ l' x' r' c',RB.EK (.node l x r c) = .node l' x' r' c':=by
 unfold RB.EK;cases l with
 | nil=>exact ⟨_,_,_,_,rfl⟩
 | node rl y rr d =>
   cases d <;> cases h:rl.red <;> simp only [RB.BE,RB.Av,RB.BS,h,aDk,Bool.not_false,Bool.and_true,aDw,Bool.and_self,cond_true,cond_false,RB.DD] <;> exact ⟨_,_,_,_,rfl⟩
theorem GV (tb:Nat) (p0:Option Addr) (n0:Int) (l:RB IT) (x:IT) (r:RB IT) (c:Bool) (p:Option Addr) (fp:List Nat) (w0:World) (hT:w0.heap[tb]?=some (C6 p0 n0)) (h:Cc w0 l x r c p fp) (hnd:fp.Nodup) (hlen:(l.list ++ x :: r.list).length≤1000000) :
 AO prog 234 #[.pointer (some ⟨tb,0,none⟩),.pointer p] w0 fun v w'=>Ck w0 fp (RB.mend (.node l x r c)) v w':=by
 have hs:=St.nil w0;refine AS func234 ntmps234 ?_;refine Ja ?_;clear hs;refine cl (h:=by exact EO tb p0 n0 l x r c _ _ _ hT h hnd hlen) ?_;rintro v w1 ⟨Bo,AL⟩;have hH:Has w0 tb p0 n0 fp (.node l x r c) p w1:=⟨⟨fp,Bo,hnd,fun k hk => .inl hk,AL⟩,head_keep hT AL h.nodes⟩;clear Bo AL;refine XS.nil ?_;refine Dw ?_;refine Ah ?_;refine Ah ?_
 refine B9 (fun _:Unit=>[(0,.pointer (some ⟨tb,0,none⟩)),(1,.pointer p),(4,.pointer none),(20,.bool (r.red && !l.red))]) (fun _ w=>Has w0 tb p0 n0 fp (.node l x r c) p w) ?_ ?_
 ·obtain ⟨⟨D8,⟨b,av,pl,pr,fl,fr,rfl,rfl,hb,Ct,hl,hr⟩,J9,hsub,ho⟩,hd⟩:=hH;have hH:Has w0 tb p0 n0 fp (.node l x r c) (some ⟨b,0,none⟩) w1:=⟨⟨_,⟨b,av,pl,pr,fl,fr,rfl,rfl,hb,Ct,hl,hr⟩,J9,hsub,ho⟩,hd⟩;have hs:=(St.nil w1).AH hb AA;refine Jk ?_;have AN:AB [] w1 _:=hs.AD [] (by simp [hb]) sD;refine AZ hs (h:=by exact Bg r pr fr _ (hr.keep AN (AM.nil _) AA)) ?_;intro w' ho hs;generalize hq:r.red=q;cases q
  ·refine Jj ?_;exact AQ () Ad (hH.only (hs.AD [] (by simp [hb]) sD))
  ·refine Jf ?_;have AN:AB [] w1 _:=hs.AD [] (by simp [hb]) sD;refine AZ hs (h:=by exact Bg l pl fl _ (hl.keep AN (AM.nil _) AA)) ?_;intro w' ho hs;generalize Gs:l.red=q2;refine Jc ?_;exact AQ () Ad (hH.only (hs.AD [] (by simp [hb]) sD))
 clear hH;rintro _ env w hH;refine B9 (fun s:Option Addr=>[(0,.pointer (some ⟨tb,0,none⟩)),(1,.pointer s),(4,.pointer none)]) (fun s w=>Has w0 tb p0 n0 fp (RB.Db (.node l x r c)) s w) ?_ ?_
 ·generalize hq:(r.red && !l.red)=q;cases q
  ·refine Jg ?_;refine AQ p Ad ?_;unfold RB.Db;rw [RB.BE,RB.Av,hq];exact hH
  ·obtain ⟨⟨D8,h1,h2,h3,h4⟩,h5⟩:=hH;simp only [aDB,aDf] at hq;obtain ⟨rl,y,rr,rfl⟩:=RB.Bt hq.1;have hs:=St.nil w;refine Ji ?_;refine cl (h:=by exact Kn tb p0 n0 l x rl y rr c true _ _ _ h5 h1.MJ h2 hlen) ?_;rintro v w' hv;obtain ⟨p',rfl,hH⟩:=Has.next h1 h3 h4 h5 hv
   have hs:=St.nil w';refine Jc ?_;refine AQ p' Ad ?_;unfold RB.Db;rw [RB.BE,RB.Av,RB.BS,hq.2];exact hH
 obtain ⟨l1,x1,r1,c1,e1⟩:=JB l x r c
 have aO:(l1.list ++ x1 :: r1.list).length≤1000000:=by
  have h1:(RB.Db (.node l x r c)).list=l.list ++ x :: r.list:=by
   unfold RB.Db;cases (RB.red _ && _) <;> simp only [cond_true,cond_false,RB.KB,RB.list]
  rw [e1] at h1;rw [← h1] at hlen;exact hlen
 rintro p1 env w hH;rw [e1] at hH;refine Ah ?_;refine Ah ?_;refine B9 (fun _:Unit=>[(0,.pointer (some ⟨tb,0,none⟩)),(1,.pointer p1),(4,.pointer none),(38,.bool (l1.red && l1.left.red))]) (fun _ w=>Has w0 tb p0 n0 fp (.node l1 x1 r1 c1) p1 w) ?_ ?_
 ·obtain ⟨⟨D8,⟨b,av,pl,pr,fl,fr,rfl,rfl,hb,Ct,hl,hr⟩,J9,hsub,ho⟩,hd⟩:=hH;have hH:Has w0 tb p0 n0 fp (.node l1 x1 r1 c1) (some ⟨b,0,none⟩) w:=⟨⟨_,⟨b,av,pl,pr,fl,fr,rfl,rfl,hb,Ct,hl,hr⟩,J9,hsub,ho⟩,hd⟩;cases hq:l1.red
  ·have hs:=(St.nil w).AH hb AA;refine Jk ?_;have AN:AB [] w _:=hs.AD [] (by simp [hb]) sD;refine AZ hs (h:=by exact Bg l1 pl fl _ (hl.keep AN (AM.nil _) AA)) ?_;intro w' ho hs;rw [hq];refine Jj ?_;exact AQ () Ad (hH.only (hs.AD [] (by simp [hb]) sD))
  ·obtain ⟨ll,y,lr,rfl⟩:=RB.Bt hq;have hl0:=hl;obtain ⟨u,JZ,UE,Q3,fll,flr,rfl,rfl,hu,Ms,GF,hlr⟩:=hl
   have Sm:u≠b:=fun e=>by
    subst e;simp at J9
   have hs:=((St.nil w).AH hb AA).AH hu (by simpa using Sm);refine Jk ?_;have AN:AB [] w _:=hs.AD [] (by simp [hb,hu]) sD;refine AZ hs (h:=by exact Bg _ _ _ _ (hl0.keep AN (AM.nil _) AA)) ?_;intro w' ho hs;rw [hq];refine Jf ?_;have AN:AB [] w _:=hs.AD [] (by simp [hb,hu]) sD;refine AZ hs (h:=by exact Bg _ _ _ _ (GF.keep AN (AM.nil _) AA)) ?_;intro w' ho hs;rw [RB.Av];generalize Gs:ll.red=q2;refine Jc ?_;exact AQ () Ad (hH.only (hs.AD [] (by simp [hb,hu]) sD))
 clear hH;rintro _ env w hH;refine B9 (fun s:Option Addr=>[(0,.pointer (some ⟨tb,0,none⟩)),(1,.pointer s),(4,.pointer none)]) (fun s w=>Has w0 tb p0 n0 fp (RB.EK (.node l1 x1 r1 c1)) s w) ?_ ?_
 ·generalize hq:(l1.red && l1.left.red)=q;cases q
  ·refine Jg ?_;refine AQ p1 Ad ?_;unfold RB.EK;rw [RB.Av,hq];exact hH
  ·obtain ⟨⟨D8,h1,h2,h3,h4⟩,h5⟩:=hH;simp only [aDB] at hq;obtain ⟨ll,y,lr,rfl⟩:=RB.Bt hq.1;have hs:=St.nil w;refine Ji ?_;refine cl (h:=by exact Gf tb p0 n0 ll y lr x1 r1 c1 true _ _ _ h5 h1.MJ h2 (by simpa [RB.list] using aO)) ?_;rintro v w' hv;obtain ⟨p',rfl,hH⟩:=Has.next h1 h3 h4 h5 hv
   have hs:=St.nil w';refine Jc ?_;refine AQ p' Ad ?_;unfold RB.EK;rw [RB.Av,RB.BS,hq.2];exact hH
 obtain ⟨l2,x2,r2,c2,e2⟩:=JC l1 x1 r1 c1;rintro p2 env w hH;rw [e2] at hH;refine Ah ?_;refine Ah ?_;refine B9 (fun _:Unit=>[(0,.pointer (some ⟨tb,0,none⟩)),(1,.pointer p2),(4,.pointer none),(53,.bool (l2.red && r2.red))]) (fun _ w=>Has w0 tb p0 n0 fp (.node l2 x2 r2 c2) p2 w) ?_ ?_
 ·obtain ⟨⟨D8,⟨b,av,pl,pr,fl,fr,rfl,rfl,hb,Ct,hl,hr⟩,J9,hsub,ho⟩,hd⟩:=hH;have hH:Has w0 tb p0 n0 fp (.node l2 x2 r2 c2) (some ⟨b,0,none⟩) w:=⟨⟨_,⟨b,av,pl,pr,fl,fr,rfl,rfl,hb,Ct,hl,hr⟩,J9,hsub,ho⟩,hd⟩;have hs:=(St.nil w).AH hb AA;refine Jk ?_;have AN:AB [] w _:=hs.AD [] (by simp [hb]) sD;refine AZ hs (h:=by exact Bg l2 pl fl _ (hl.keep AN (AM.nil _) AA)) ?_;intro w' ho hs;generalize hq:l2.red=q;cases q
  ·refine Jj ?_;exact AQ () Ad (hH.only (hs.AD [] (by simp [hb]) sD))
  ·refine Jf ?_;have AN:AB [] w _:=hs.AD [] (by simp [hb]) sD;refine AZ hs (h:=by exact Bg r2 pr fr _ (hr.keep AN (AM.nil _) AA)) ?_;intro w' ho hs;generalize Gs:r2.red=q2;refine Jc ?_;exact AQ () Ad (hH.only (hs.AD [] (by simp [hb]) sD))
 clear hH;rintro _ env w hH;refine B9 (fun _:Unit=>[(0,.pointer (some ⟨tb,0,none⟩)),(1,.pointer p2),(4,.pointer none)]) (fun _ w=>Has w0 tb p0 n0 fp (RB.EH (.node l2 x2 r2 c2)) p2 w) ?_ ?_
 ·generalize hq:(l2.red && r2.red)=q;cases q
  ·refine Jg ?_;refine AQ () Ad ?_;unfold RB.EH;rw [RB.Av,RB.BE,hq];exact hH
  ·obtain ⟨⟨D8,h1,h2,h3,h4⟩,h5⟩:=hH;simp only [aDB] at hq;obtain ⟨ll,y,lr,rfl⟩:=RB.Bt hq.1;obtain ⟨rl,z,rr,rfl⟩:=RB.Bt hq.2;have hs:=St.nil w;refine Ji ?_;refine cl (h:=by exact GW ll y lr true x2 rl z rr true c2 p2 D8 _ h1 h2) ?_;rintro v w' ⟨k1,k2⟩;have hs:=St.nil w';refine Jb ?_;refine AQ () Ad ⟨⟨D8,k1,h2,h3,h4.step k2 h3⟩,head_keep h5 k2 h1.nodes⟩
 rintro _ env w hH;have e3:RB.EH (.node l2 x2 r2 c2)=RB.mend (.node l x r c):=by rw [← e2,← e1];rfl
 rw [e3] at hH;have hs:=St.nil w;obtain ⟨⟨D8,h1,h2,h3,h4⟩,h5⟩:=hH;refine Ja ?_;refine AG ?_;exact ⟨_,D8,rfl,h1,h2,h3,h4.step (hs.AE rfl) AA⟩
theorem Ck.up {w0 w2 w3:World} {fp EF:List Nat} {t:RB IT} {v:Value} (k:Ck w2 EF t v w3) (ho:AB fp w0 w2) (hs:∀ k∈EF,k∈fp∨w0.heap.size≤k):Ck w0 fp t v w3:=by
 obtain ⟨p',Ci,rfl,k1,k2,k3,k4⟩:=k;refine ⟨p',Ci,rfl,k1,k2,fun i hi=>?_,ho.step k4 hs⟩;have:=ho.size;rcases k3 i hi with h | h
 ·exact hs i h
 ·exact .inr om
theorem PJ {w w' w2:World} {b:Nat} {y y2:IT} {av Og:It} {pl pr p':Option Addr} {c c2:Bool} {fl fr:List Nat} {r l':RB IT} (hb:w.heap[b]?=some (ET y av pl pr c)) (hl:AM w fl) (hr:Aj w r pr fr) (hnd:(b :: (fl ++ fr)).Nodup)
 (k:Ck w fl l' (.pointer p') w') (ho:AB [b] w' w2) (Ds:w2.heap[b]?=some (ET y2 Og p' pr c2)) :
 ∃ EF,Cc w2 l' y2 r c2 (some ⟨b,0,none⟩) EF∧EF.Nodup∧(∀ i∈EF,i∈b :: (fl ++ fr)∨w.heap.size≤i)∧AB (b :: (fl ++ fr)) w w2:=by
 obtain ⟨p,Ci,e,k1,k2,k3,k4⟩:=k;obtain rfl:p'=p:=by injection e
 have OX:=lt_of_block hb;have wQ:=hr.nodes.lt;simp only [aC6,aDG,aC4] at hnd;obtain ⟨d1,d2,d3,d4⟩:=hnd
 have e1:b∉Ci:=fun hm=>by
  rcases k3 b hm with h | h
  ·exact d1 (.inl h)
  ·omega
 have e2:∀ i∈fr,i∉fl:=fun i hi hm=>d4 i hm i hi rfl;have CE:=k4.block hb (fun h=>d1 (.inl h));have hN:AM w' [b]:=AM.cons CE (AM.nil w');refine ⟨b :: (Ci ++ fr),⟨b,Og,p',pr,Ci,fr,rfl,rfl,Ds,k1.keep ho hN (fun i hi hm=>?_),(hr.keep k4 hl e2).keep ho hN (fun i hi hm=>?_)⟩,?_,?_,?_⟩
 ·obtain rfl:=List.mem_singleton.1 hm;exact e1 hi
 ·obtain rfl:=List.mem_singleton.1 hm;exact d1 (.inr hi)
 ·simp only [aC6,aDG,aC4];refine ⟨fun h=>?_,k2,d3,fun i hi j hj hij=>?_⟩
  ·rcases h with h | h
   ·exact e1 h
   ·exact d1 (.inr h)
  ·subst hij;rcases k3 i hi with h | h
   ·exact d4 i h i hj rfl
   ·have:=wQ i hj;omega
 ·intro i hi;rcases aCu.1 hi with rfl | hi
  ·exact .inl aCw
  ·rcases aC4.1 hi with hi | hi
   ·rcases k3 i hi with h | h
    ·exact .inl (aCy _ (aDC _ h))
    ·exact .inr h
   ·exact .inl (aCy _ (aDE _ hi))
 ·exact (k4.weaken (fun i hi=>aCy _ (aDC _ hi))).step ho (fun i hi => .inl (by obtain rfl:=List.mem_singleton.1 hi;exact aCw))
theorem NG {w w' w2:World} {b:Nat} {y y2:IT} {av Og:It} {pl pr p':Option Addr} {c c2:Bool} {fl fr:List Nat} {l r':RB IT} (hb:w.heap[b]?=some (ET y av pl pr c)) (hl:Aj w l pl fl) (hr:AM w fr) (hnd:(b :: (fl ++ fr)).Nodup)
 (k:Ck w fr r' (.pointer p') w') (ho:AB [b] w' w2) (Ds:w2.heap[b]?=some (ET y2 Og pl p' c2)) :
 ∃ EF,Cc w2 l y2 r' c2 (some ⟨b,0,none⟩) EF∧EF.Nodup∧(∀ i∈EF,i∈b :: (fl ++ fr)∨w.heap.size≤i)∧AB (b :: (fl ++ fr)) w w2:=by
 obtain ⟨p,Ci,e,k1,k2,k3,k4⟩:=k;obtain rfl:p'=p:=by injection e
 have OX:=lt_of_block hb;have hls:=hl.nodes.lt;simp only [aC6,aDG,aC4] at hnd;obtain ⟨d1,d2,d3,d4⟩:=hnd
 have e1:b∉Ci:=fun hm=>by
  rcases k3 b hm with h | h
  ·exact d1 (.inr h)
  ·omega
 have e2:∀ i∈fl,i∉fr:=fun i hi hm=>d4 i hi i hm rfl;have CE:=k4.block hb (fun h=>d1 (.inr h));have hN:AM w' [b]:=AM.cons CE (AM.nil w');refine ⟨b :: (fl ++ Ci),⟨b,Og,pl,p',fl,Ci,rfl,rfl,Ds,(hl.keep k4 hr e2).keep ho hN (fun i hi hm=>?_),k1.keep ho hN (fun i hi hm=>?_)⟩,?_,?_,?_⟩
 ·obtain rfl:=List.mem_singleton.1 hm;exact d1 (.inl hi)
 ·obtain rfl:=List.mem_singleton.1 hm;exact e1 hi
 ·simp only [aC6,aDG,aC4];refine ⟨fun h=>?_,d2,k2,fun i hi j hj hij=>?_⟩
  ·rcases h with h | h
   ·exact d1 (.inl h)
   ·exact e1 h
  ·subst hij;rcases k3 i hj with h | h
   ·exact d4 i hi i h rfl
   ·have:=hls i hi;omega
 ·intro i hi;rcases aCu.1 hi with rfl | hi
  ·exact .inl aCw
  ·rcases aC4.1 hi with hi | hi
   ·exact .inl (aCy _ (aDC _ hi))
   ·rcases k3 i hi with h | h
    ·exact .inl (aCy _ (aDE _ h))
    ·exact .inr h
 ·exact (k4.weaken (fun i hi=>aCy _ (aDE _ hi))).step ho (fun i hi => .inl (by obtain rfl:=List.mem_singleton.1 hi;exact aCw))
theorem FF (x:IT):∀ t:RB IT,(RB.ins Cy t x).list.length=t.list.length+1
 | .nil=>rfl
 | .node l y r c=>by
   simp only [RB.ins];cases Cy x y
   ·rw [cond_false,RB.DK];simp only [RB.list,aCv,aCx,FF x r];omega
   ·rw [cond_true,RB.DK];simp only [RB.list,aCv,aCx,FF x l];omega
theorem GU (tb:Nat) (p0:Option Addr) (n0:Int) (x:IT):∀ (t:RB IT) (p:Option Addr) (fp:List Nat) (w0:World) (hT:w0.heap[tb]?=some (C6 p0 n0)) (h:Aj w0 t p fp) (hnd:fp.Nodup) (hlen:t.list.length+1≤1000000),
 AO prog 215 #[.pointer (some ⟨tb,0,none⟩),.pointer p,iv x.1] w0 fun v w'=>Ck w0 fp (RB.ins Cy t x) v w'
 | .nil,p,fp,w0,hT,⟨hp,hf⟩,hnd,hlen=>by
   subst hp hf;have hs:=(St.nil w0).AH hT AA;refine AS func215 ntmps215 ?_;refine Ah ?_;refine Aq ?_;refine bx hs ?_;intro bq wq Lp hs;refine Je ?_;refine dr [] hs ?_;intro hX w hs;refine tks 0 6 ?_;refine dt 6 hX ?_;refine AZ hs (h:=by exact H8 x.1 _) ?_;intro w' ho hs;refine Jn ?_;refine tk 7 hX ?_;refine dt 8 hX ?_;refine bx hs ?_;intro b w hz hs;refine Jn ?_;refine tk 9 hX ?_;refine en ?_;refine Jb ?_;refine AG ?_;have ho:AB [] w0 _:=hs.AD [] (by simp [hT]) sD;have hnew:=hs.new (b,true) AA rfl;exact ⟨_,[b],rfl,⟨b,_,none,none,[],[],rfl,rfl,hs.get At.head,rfl,⟨rfl,rfl⟩,⟨rfl,rfl⟩⟩,by simp,fun k hk => .inr (by obtain rfl:=List.mem_singleton.1 hk;exact hnew),ho⟩
 | .node l y r c,p,fp,w0,hT,⟨b,av,pl,pr,fl,fr,hp,hf,hb,Ct,hl,hr⟩,hnd,hlen=>by
   subst hp hf;have Dq:=C7 hT hb;have hs:=((St.nil w0).AH hT AA).AH hb (by simpa using Dq);have Vt:=lt_of_block hT;have rY:=lt_of_block hb;have rQ:=hl.nodes.lt;have lt4:=hr.nodes.lt;simp only [RB.list,aCv,aCx] at hlen;refine AS func215 ntmps215 ?_;refine Ah ?_;refine Aq ?_;refine bx hs ?_;intro bq wq Lp hs;refine Jd ?_;have Ir:=hs.new (bq,true) AA rfl;simp only at Ir;refine dr [] hs ?_;intro hX w hs;refine tks 0 9 ?_;refine dt 9 hX ?_;refine AZ hs (h:=by exact Mb x y _) ?_;intro w' ho hs;refine Jn ?_;refine tk 10 hX ?_;refine en ?_;generalize hq:Cy x y=q;cases q
   ·have e:RB.ins Cy (.node l y r c) x=RB.mend (.node l y (RB.ins Cy r x) c):=by simp [RB.ins,hq]
    rw [e];refine Jg ?_;have AL:AB [] w0 _:=hs.AD [] (by simp [hT,hb]) sD;have CL:=head_keep hT AL (AM.nil _);have Ei:=hl.keep AL (AM.nil _) AA;have hrw:=hr.keep AL (AM.nil _) AA;have Bv:=hs.get (At.tail At.head);have JX:=hs.get At.head;refine dr [10] hs ?_;intro hX w hs;refine tks 0 7 ?_;refine dt 7 hX ?_;have AL:AB [] w0 _:=hs.AD [] (by simp [hT,hb]) sD;have CL:=head_keep hT AL (AM.nil _);have Ei:=hl.keep AL (AM.nil _) AA;have hrw:=hr.keep AL (AM.nil _) AA;have Bv:=hs.get (At.tail At.head);have JX:=hs.get At.head;refine cl (h:=by exact GU tb p0 n0 x r pr fr _ CL hrw (by simp only [aC6,aDG] at hnd;exact hnd.2.2.1) om) (k:=?_);rintro v w' hk;obtain ⟨p',hv⟩:∃ p',v = .pointer p':=by obtain ⟨p',_,hv,_⟩:=hk;exact ⟨p',hv⟩
    subst hv;obtain ⟨_,_,_,_,_,_,k4⟩:=id hk;have Bo:=head_keep CL k4 hrw.nodes;have CE:=k4.block Bv (fun h=>by simp [h] at hnd);have hq1:=k4.block JX (fun h=>by have:=lt4 bq h;omega);clear hs;have hs:=(((St.nil w').AH Bo AA).AH CE (by simpa using Dq)).AH hq1 (by simp;omega);refine Jn ?_;refine tks 8 2 ?_;refine dt 10 hX ?_
    repeat' (first|refine Nx.h ?_|(refine st hs ?_;intro w hs)|fail)
    refine dn ?_;refine en ?_;refine Ja ?_;have AU:AB [b] w' _:=hs.AD [b] (by simp [Bo,hq1]) sD;obtain ⟨EF,s1,s2,s3,s4⟩:=NG Bv Ei hrw.nodes hnd hk AU (hs.get (At.tail At.head));refine cl (h:=by exact GV tb p0 n0 _ y _ c _ _ _ (head_keep Bo AU (AM.cons CE (AM.nil _))) s1 s2 (by simp only [aCv,aCx,FF];omega)) (k:=?_);rintro v w3 hm;have hsz:=AL.size;have hm2:=hm.up ((AL.weaken (G:=b :: (fl ++ fr)) AA).step s4 (fun k hk => .inl hk)) (fun k hk=>by rcases s3 k hk with h | h;exact .inl h;exact .inr om);have hs:=St.nil w3;refine Jc ?_;refine AG ?_;exact hm2
   ·have e:RB.ins Cy (.node l y r c) x=RB.mend (.node (RB.ins Cy l x) y r c):=by simp [RB.ins,hq]
    rw [e]
    repeat' (first|refine Nx.h ?_|refine FP ?_|fail)
    have AL:AB [] w0 _:=hs.AD [] (by simp [hT,hb]) sD;have CL:=head_keep hT AL (AM.nil _);have Ei:=hl.keep AL (AM.nil _) AA;have hrw:=hr.keep AL (AM.nil _) AA;have Bv:=hs.get (At.tail At.head);have JX:=hs.get At.head;refine dr [10] hs ?_;intro hX w hs;refine tks 0 7 ?_;refine dt 7 hX ?_;have AL:AB [] w0 _:=hs.AD [] (by simp [hT,hb]) sD;have CL:=head_keep hT AL (AM.nil _);have Ei:=hl.keep AL (AM.nil _) AA;have hrw:=hr.keep AL (AM.nil _) AA;have Bv:=hs.get (At.tail At.head);have JX:=hs.get At.head;refine cl (h:=by exact GU tb p0 n0 x l pl fl _ CL Ei (by simp only [aC6,aDG] at hnd;exact hnd.2.1) om) (k:=?_);rintro v w' hk;obtain ⟨p',hv⟩:∃ p',v = .pointer p':=by obtain ⟨p',_,hv,_⟩:=hk;exact ⟨p',hv⟩
    subst hv;obtain ⟨_,_,_,_,_,_,k4⟩:=id hk;have Bo:=head_keep CL k4 Ei.nodes;have CE:=k4.block Bv (fun h=>by simp [h] at hnd);have hq1:=k4.block JX (fun h=>by have:=rQ bq h;omega);clear hs;have hs:=(((St.nil w').AH Bo AA).AH CE (by simpa using Dq)).AH hq1 (by simp;omega);refine Jn ?_;refine tks 8 2 ?_;refine dt 10 hX ?_
    repeat' (first|refine Nx.h ?_|(refine st hs ?_;intro w hs)|fail)
    refine dn ?_;refine en ?_;refine Ja ?_;have AU:AB [b] w' _:=hs.AD [b] (by simp [Bo,hq1]) sD;obtain ⟨EF,s1,s2,s3,s4⟩:=PJ Bv Ei.nodes hrw hnd hk AU (hs.get (At.tail At.head));refine cl (h:=by exact GV tb p0 n0 _ y _ c _ _ _ (head_keep Bo AU (AM.cons CE (AM.nil _))) s1 s2 (by simp only [aCv,aCx,FF];omega)) (k:=?_);rintro v w3 hm;have hsz:=AL.size;have hm2:=hm.up ((AL.weaken (G:=b :: (fl ++ fr)) AA).step s4 (fun k hk => .inl hk)) (fun k hk=>by rcases s3 k hk with h | h;exact .inl h;exact .inr om);have hs:=St.nil w3;refine Jc ?_;refine AG ?_;exact hm2
theorem Pa (tb:Nat) (p:Option Addr) (n:Int) (t:RB IT) (fp:List Nat) (x:IT) (w0:World) (hT:w0.heap[tb]?=some (C6 p n)) (h:Aj w0 t p fp) :
 AO prog 214 #[.pointer (some ⟨tb,0,none⟩),iv x.1] w0 fun v w'=>v = .bool (RB.has Cy x t)∧AB [] w0 w':=by
 have hs:=(St.nil w0).AH hT AA;have Vt:=lt_of_block hT;refine AS func214 ntmps214 ?_;refine Ah ?_;refine Aq ?_;refine bx hs ?_;intro bq wq Lp hs;refine Jd ?_;have Ir:=hs.new (bq,true) AA rfl;simp only at Ir;have AL:AB [] w0 _:=hs.AD [] (by simp [hT]) sD;have JX:=hs.get At.head;refine BM (fun _:Unit=>[]) (fun _ w=>RB.has Cy x t=false∧AB [] w0 w) ?_ ?_
 ·refine BH (fun (s:RB IT × Option Addr)=>[(0,.pointer (some ⟨tb,0,none⟩)),(3,.pointer (some ⟨bq,0,none⟩)),(5,.pointer s.2)])
   (fun s w=>RB.has Cy x s.1=RB.has Cy x t∧AB [] w0 w∧w.heap[bq]?=some (.cells x.1.cells.toArray 64 (0,0))∧∃ fp,Aj w0 s.1 s.2 fp)
   (fun s=>s.1.list.length) (t,p) Ad ⟨rfl,AL,JX,fp,h⟩ fun s env w ⟨h1,h2,JX,EF,h3⟩=>?_
  clear hs;obtain ⟨s,ps⟩:=s;dsimp only at h1 h3 ⊢;have CL:=h2.block hT AA;cases s with
  | nil =>
    obtain ⟨rfl,rfl⟩:=h3;have hs:=St.nil w;refine Jd ?_;exact Au () Ad ⟨h1.symm,h2.step (hs.AE rfl) AA⟩
  | node l y r c =>
    obtain ⟨b,av,pl,pr,fl,fr,rfl,rfl,hb,Ct,hl,hr⟩:=h3;have Bv:=h2.block hb AA;have Dq:=C7 hT hb;have rY:=lt_of_block hb;have hs:=(((St.nil w).AH CL AA).AH Bv (by simpa using Dq)).AH JX (by simp;omega);refine Je ?_;refine dr [] hs ?_;intro hX w hs;refine tks 0 9 ?_;refine dt 9 hX ?_;refine AZ hs (h:=by exact Mb x y _) ?_;intro w' ho hs;refine Jn ?_;refine tk 10 hX ?_;refine en ?_;generalize hq:Cy x y=q;simp only [RB.has,hq] at h1;cases q
    ·refine Jg ?_;refine dr [] hs ?_;intro hX w hs;refine tks 0 9 ?_;refine dt 9 hX ?_;refine AZ hs (h:=by exact Mb y x _) ?_;intro w' ho hs;refine Jn ?_;refine tk 10 hX ?_;refine en ?_;generalize Gs:Cy y x=q2;simp only [Gs,cond_false] at h1;cases q2
     ·refine Jd ?_;refine AG ?_;exact ⟨by rw [← h1];rfl,h2.step (hs.AD [] (by simp [CL,Bv,JX]) sD) AA⟩
     ·refine Je ?_;exact A2 (r,pr) (by simp only [RB.list,aCv,aCx];omega) Ad ⟨h1,h2.step (hs.AD [] (by simp [CL,Bv,JX]) sD) AA,hs.get At.head,_,hr⟩
    ·refine Je ?_;exact A2 (l,pl) (by simp only [RB.list,aCv,aCx];omega) Ad ⟨h1,h2.step (hs.AD [] (by simp [CL,Bv,JX]) sD) AA,hs.get At.head,_,hl⟩
 ·rintro _ env w ⟨h1,h2⟩;clear hs;have hs:=St.nil w;refine Ja ?_;refine AG ?_;exact ⟨by rw [h1];rfl,h2.step (hs.AE rfl) AA⟩
theorem NV (l:RB IT) (x:IT) (r:RB IT) (c:Bool):∃ l' x' r' c',RB.EH (.node l x r c) = .node l' x' r' c':=by
 unfold RB.EH;cases l with
 | nil=>exact ⟨_,_,_,_,rfl⟩
 | node a y b d =>
   cases r with
   | nil=>cases d <;> exact ⟨_,_,_,_,rfl⟩
   | node u z v e=>cases d <;> cases e <;> exact ⟨_,_,_,_,rfl⟩
theorem KK (l:RB IT) (x:IT) (r:RB IT) (c:Bool):∃ l' x' r' c',RB.mend (.node l x r c) = .node l' x' r' c':=by
 unfold RB.mend;obtain ⟨l1,x1,r1,c1,e1⟩:=JB l x r c;obtain ⟨l2,x2,r2,c2,e2⟩:=JC l1 x1 r1 c1;rw [e1,e2];exact NV l2 x2 r2 c2
theorem Qq (x:IT) (t:RB IT):∃ l' x' r' c',RB.ins Cy t x = .node l' x' r' c':=by
 cases t with
 | nil=>exact ⟨_,_,_,_,rfl⟩
 | node l y r c =>
   simp only [RB.ins];cases Cy x y
   ·exact KK _ _ _ _
   ·exact KK _ _ _ _
theorem Aj.Ai {w w':World} {F:List Nat} (ho:AB F w w'):∀ {t:RB IT} {p:Option Addr} {fp:List Nat},Aj w t p fp→(∀ b∈fp,b∉F)→Aj w' t p fp
 | .nil,p,fp,h,_=>h
 | .node l x r c,p,fp,⟨b,av,pl,pr,fl,fr,h1,h2,h3,h4,h5,h6⟩,hd=>by
   subst h2
   exact ⟨b,av,pl,pr,fl,fr,h1,rfl,ho.block h3 (hd b aCw),h4,Aj.Ai ho h5 fun k hk=>hd k (aCy _ (aDC _ hk)),
    Aj.Ai ho h6 fun k hk=>hd k (aCy _ (aDE _ hk))⟩
theorem GQ {w w':World} {b tb:Nat} {t:RB IT} {p p0:Option Addr} {n0:Int} {fp:List Nat} {cs:Array Value} {fz:Nat × Nat} (h:Aj w t p fp) (ho:AB [b,tb] w w') (hb:w.heap[b]?=some (.cells cs 276 fz)) (hT:w.heap[tb]?=some (C6 p0 n0)) (h1:b∉fp) (h2:tb∉fp):Aj w' t p fp :=
 h.Ai ho fun k hk hm=>by
  simp only [aCu,aC1,or_false] at hm;rcases hm with rfl | rfl
  ·exact h1 hk
  ·exact h2 hk
def Cb (w:World) (tb:Nat) (t:RB IT) (F:List Nat):Prop:=∃ p fp,F=tb :: fp∧w.heap[tb]?=some (C6 p t.list.length)∧Aj w t p fp∧fp.Nodup
def RB.insert (t:RB IT) (x:IT):RB IT:=bif RB.has Cy x t then t else RB.blacken (RB.ins Cy t x)
theorem Fx (tb:Nat) (t:RB IT) (F:List Nat) (x:IT) (w0:World) (h:Cb w0 tb t F) (hlen:t.list.length+1≤1000000) :
 AO prog 179 #[.pointer (some ⟨tb,0,none⟩),iv x.1] w0 fun v w'=>v = .bool (!RB.has Cy x t)∧∃ F',Cb w' tb (RB.insert t x) F'∧(∀ k∈F',k∈F∨w0.heap.size≤k)∧AB F w0 w':=by
 obtain ⟨p,fp,rfl,hT,ht,hnd⟩:=h;have hs:=(St.nil w0).AH hT AA;have Vt:=lt_of_block hT;have rQ:=ht.nodes.lt;refine AS func179 ntmps179 ?_;refine Ah ?_;refine Aq ?_;refine bx hs ?_;intro bq wq Lp hs;refine Ja ?_;have Ir:=hs.new (bq,true) AA rfl;simp only at Ir;have AL:AB [] w0 _:=hs.AD [] (by simp [hT]) sD;refine AZ hs (h:=by exact Pa tb p _ t fp x _ (hs.get (At.tail At.head)) (ht.keep AL (AM.nil _) AA)) ?_;intro w' ho hs;unfold RB.insert;generalize hq:RB.has Cy x t=q;cases q
 ·obtain ⟨l',y,r',c,e⟩:=Qq x t;have hl':=FF x t;rw [e] at hl' ⊢;refine Jl ?_;refine dr [10] hs ?_;intro hX w hs;refine tks 0 7 ?_;refine dt 7 hX ?_;have AL:AB [] w0 _:=hs.AD [] (by simp [hT]) sD;have CL:=hs.get (At.tail At.head);have JX:=hs.get At.head;have htw:=ht.keep AL (AM.nil _) AA;refine cl (h:=by exact GU tb p _ x t p fp _ CL htw hnd hlen) ?_;rintro v w1 ⟨p',Ci,rfl,k1,k2,k3,k4⟩;have Bo:=head_keep CL k4 htw.nodes;have hq1:=k4.block JX (fun h=>by have:=rQ bq h;omega);rw [e] at k1;obtain ⟨b,av,pl,pr,fl,fr,rfl,rfl,hb,Ct,hl,hr⟩:=k1;have Dq:=C7 Bo hb;have aB9:b≠bq:=A3 hb hq1 (by decide);clear hs;have hs:=((St.nil w1).AH Bo AA).AH hq1 (by simp;omega);refine Jn ?_;replace hs:=hs.AH (b:=b) hb (by simp [Dq,aB9]);refine tks 8 2 ?_;refine dt 10 hX ?_
  repeat' (first|refine Nx.h ?_|(refine st hs ?_;intro w hs)|fail)
  refine dn ?_;refine en ?_
  repeat' (first|refine Sa ?_|(refine st hs ?_;intro w hs)|fail)
  have en:IntKind.i64.wrap ((t.list.length:Nat)+1)=((l'.list ++ y :: r'.list).length:Nat):=by
   have h1:(l'.list ++ y :: r'.list).length=t.list.length+1:=hl';rw [h1];exact KI om om
  rw [en] at hs;refine AG ?_;have AU:AB [b,tb] w1 _:=hs.AD [b,tb] (by simp [hq1]) sD;have hsz:=AL.size
  have OC:b∉fl∧b∉fr:=by
   simp only [aC6,aC4,not_or] at k2;exact k2.1
  have Ub:tb∉fl∧tb∉fr:=⟨(fun h=>by obtain ⟨_,_,h⟩:=hl.nodes tb h;rw [Bo] at h;cases h),(fun h=>by obtain ⟨_,_,h⟩:=hr.nodes tb h;rw [Bo] at h;cases h)⟩;have h2:=hs.get At.head;have h3:=hs.get (At.tail (At.tail At.head));have o1:AB (tb :: fp) w0 w1:=(AL.weaken AA).step k4 (fun k hk => .inl (aCy _ hk));refine ⟨rfl,tb :: (b :: (fl ++ fr)),⟨_,_,rfl,h3,⟨b,av,pl,pr,fl,fr,rfl,rfl,h2,Ct,?_,?_⟩,k2⟩,?_,?_⟩
  ·exact GQ hl AU hb Bo OC.1 Ub.1
  ·exact GQ hr AU hb Bo OC.2 Ub.2
  ·intro k hk;rcases aCu.1 hk with rfl | hk
   ·exact .inl aCw
   ·rcases k3 k hk with h | h
    ·exact .inl (aCy _ h)
    ·exact .inr om
  ·refine o1.step AU (fun k hk=>?_);simp only [aCu,aC1,or_false] at hk;rcases hk with rfl | rfl
   ·rcases k3 k aCw with h | h
    ·exact .inl (aCy _ h)
    ·exact .inr om
   ·exact .inl aCw
 ·refine Je ?_;refine AG ?_;have AL:AB [] w0 _:=hs.AD [] (by simp [hT]) sD;exact ⟨rfl,_,⟨p,fp,rfl,hs.get (At.tail At.head),ht.keep AL (AM.nil _) AA,hnd⟩,fun k hk => .inl hk,AL.weaken AA⟩
def Bi (l:List IT):List Value:=(l.map fun a=>a.1.cells).flatten
theorem MK (a b:List IT):Bi (a ++ b)=Bi a ++ Bi b:=by simp [Bi]
theorem Mc {w:World} {e k n:Nat} {v:Value} {xs:List Value} {G:List Nat} (h:B6 w e k v n xs G) {t:Nat} (hne:t≠e) {cs:Array Value} {fz:Nat × Nat} {b:Nat} (hb:w.heap[b]?=some (.cells cs t fz)):b∉G:=fun hm=>by
 rcases h with ⟨_,_,_,rfl⟩ | ⟨g,cap,cur,_,rfl,_,_,_,_,hg⟩
 ·cases hm
 ·obtain rfl:=List.mem_singleton.1 hm;exact A3 hb hg hne rfl
theorem AM.not {w:World} {F:List Nat} (hF:AM w F) {e k n:Nat} {v:Value} {xs:List Value} {G:List Nat} (h:B6 w e k v n xs G) (hne:276≠e):∀ b∈F,b∉G:=fun b hb=>by
 obtain ⟨cs,fz,h1⟩:=hF b hb;exact Mc h hne h1
theorem GN:∀ (t:RB IT) (p:Option Addr) (fp:List Nat) (v0:Value) (xs:List IT) (G:List Nat) (w0:World) (h:Aj w0 t p fp) (hO:B6 w0 64 7 v0 xs.length (Bi xs) G) (hlen:xs.length+t.list.length≤1000000),
 AO prog 239 #[.pointer p,v0] w0 fun v w'=>(∃ G',B6 w' 64 7 v (xs ++ t.list).length (Bi (xs ++ t.list)) G'∧(∀ k∈G',k∈G∨w0.heap.size≤k))∧AB G w0 w'
 | .nil,p,fp,v0,xs,G,w0,h,hO,hlen=>by
   obtain ⟨rfl,rfl⟩:=h;have hs:=St.nil w0;refine AS func239 ntmps239 ?_;refine Je ?_;refine AG ?_;have ho:=hs.AE rfl;rw [show xs ++ RB.nil.list=xs from aDP xs];exact ⟨⟨G,hO.keep ho AA,fun k hk => .inl hk⟩,ho.weaken AA⟩
 | .node l x r c,p,fp,v0,xs,G,w0,⟨b,av,pl,pr,fl,fr,hp',hf',hb,Ct,hl,hr⟩,hO,hlen=>by
   subst hp' hf';simp only [RB.list,aCv,aCx] at hlen;have hs:=(St.nil w0).AH hb AA;have hGl:=hO.lt;have ZU:=Mc hO (by decide) hb;have hnl:=hl.nodes.not hO (by decide);have QG:=hr.nodes.not hO (by decide);have ltr:=hr.nodes.lt;have ltb:=lt_of_block hb;refine AS func239 ntmps239 ?_;refine Jd ?_;refine dr [] hs ?_;intro hX w hs;refine tks 0 9 ?_;refine tks 10 4 ?_;refine pX 14 22 x.1.cells hs ?_;intro f X w hp;have hs:=hp.st;apply BI 9 14 (f:=f) (X:=X) hX hp;exact rfl;exact rfl;(first | (apply AT AJ;exact rfl) | (apply EL AJ;exact rfl;exact rfl;exact rfl;exact rfl;exact rfl;(intro X;((repeat (first | exact CZ.nil | (apply CZ.one;exact rfl;(conv=>lhs;whnf);exact rfl;(repeat (first | exact Ak.nil | apply Ak.skip | apply Ak.cons))) | (apply CZ.agg;exact rfl;exact rfl;exact rfl;(repeat (first | exact Ak.nil | apply Ak.skip | apply Ak.cons)))))))));kernel_rfl;kernel_rfl;kernel_rfl;kernel_rfl;(intro X Y;(repeat (first | exact A4 | refine A5 ?_ (by exact rfl))));(intro w' hs;first|exact AI hs.hold|exact AI hs.hold.tail|exact Ab rfl);intro f X w hp;have hs:=hp.st;have AL:AB [] w0 _:=hs.AD [] (by simp [hb]) sD;refine cl (h:=by exact GN l pl fl v0 xs G _ (hl.keep AL (AM.nil _) AA) (hO.keep AL AA) om) ?_;rintro v1 w1 ⟨⟨G1,Lm,Mw⟩,AN⟩;have J0:=AL.size;have hp:Et w0 ⟨G ++ [],[]⟩ _ _ _ (fun w=>B6 w 64 7 v1 (xs ++ l.list).length (Bi (xs ++ l.list)) G1) _ _ _:=⟨hp.core.call AN hGl (fun k hk hm=>by obtain rfl:=List.mem_singleton.1 hm;exact ZU hk) sD,Lm,fun _ _ ho h=>h.keep ho AA⟩;replace hs:=hp.st;have RU:∀ k∈G1,k∈G∨w0.heap.size≤k:=fun k hk=>by rcases Mw k hk with h | h;exact .inl h;exact .inr om
   clear Mw AL AN;refine Jn ?_;apply Bb 14 (f:=f) (X:=X) hX hp;exact rfl;(first | (apply AT AJ;exact rfl) | (apply EL AJ;exact rfl;exact rfl;exact rfl;exact rfl;exact rfl;(intro X;((repeat (first | exact CZ.nil | (apply CZ.one;exact rfl;(conv=>lhs;whnf);exact rfl;(repeat (first | exact Ak.nil | apply Ak.skip | apply Ak.cons))) | (apply CZ.agg;exact rfl;exact rfl;exact rfl;(repeat (first | exact Ak.nil | apply Ak.skip | apply Ak.cons)))))))));kernel_rfl;kernel_rfl;(intro X Y;(repeat (first | exact A4 | refine A5 ?_ (by exact rfl))));(intro w' hs;first|exact AI hs.hold|exact AI hs.hold.tail|exact Ab rfl);intro b w hI hs;refine dt 15 hX ?_;have aBT:=hs.get At.head;replace hs:=hs.Bx;have Bv:=hs.get At.head;refine CF AJ rfl rfl rfl rfl rfl rfl rfl (by decide) (lit_cells (news:=x.1.cells) aBT) (by simp [Value.oneCell']) hI (by simp only [aCv];omega) (by simp only [aCv];omega) ?_;intro v2 w3 ⟨G2,KT,KQ⟩ AU;have Mz:=hs.size;have aB8:=Mc hI (by decide) Bv;replace hs:=hs.call AU (fun k hk hm=>by obtain rfl:=List.mem_singleton.1 hm;exact aB8 hk) AA
   have aAM:B6 w3 64 7 v2 (xs ++ l.list ++ [x]).length (Bi (xs ++ l.list ++ [x])) G2:=by
    rw [MK (xs ++ l.list) [x],aCv (bs:=[x])];exact KT
   have Qm:∀ k∈G2,k∈G∨w0.heap.size≤k:=fun k hk=>by
    rcases KQ k hk with h | h
    ·exact RU k h
    ·exact .inr om
   have yG:AB (G1 ++ (G ++ [])) w0 w3:=hs.AD _ (by simp [hb]) AA
   have WX:=hr.Ai yG (fun k hk hm=>by
    simp only [aDP,aC4] at hm;rcases hm with hm | hm
    ·rcases RU k hm with h | h
     ·exact QG k hk h
     ·have:=ltr k hk;omega
    ·exact QG k hk hm)
   refine Jn ?_;refine dt 16 hX ?_;refine cl (h:=by exact GN r pr fr v2 (xs ++ l.list ++ [x]) G2 _ WX aAM (by simp only [aCv,aCx,aDA];omega)) (k:=?_);rintro v3 w4 ⟨⟨G3,HG,Nv⟩,Ar⟩;have Nz:=hs.size;have aBU:=hs.get At.head;have aBb:=Mc aAM (by decide) aBU;replace hs:=hs.call Ar (fun k hk hm=>by obtain rfl:=List.mem_singleton.1 hm;exact aBb hk) AA;refine Jn ?_;refine tk 17 hX ?_;refine en ?_;refine Jb ?_;refine AG ?_;rw [show xs ++ l.list ++ [x] ++ r.list=xs ++ (RB.node l x r c).list by simp [RB.list]] at HG;have aBD:AB (G2 ++ (G1 ++ (G ++ []))) w0 w4:=hs.AD _ (by simp [hb]) AA;refine ⟨⟨G3,HG,fun k hk=>?_⟩,?_⟩
   ·rcases Nv k hk with h | h
    ·exact Qm k h
    ·exact .inr om
   ·refine aBD.mono fun k hk hm=>?_;simp only [aDP,aC4] at hm;rcases hm with hm | hm | hm
    ·rcases Qm k hm with h | h
     ·exact h
     ·omega
    ·rcases RU k hm with h | h
     ·exact h
     ·omega
    ·exact hm
def DF (w:World) (v:Value) (l:List IT):Prop:=JU w v (l.map (·.1))
theorem Od {w:World} {v:Value} {l:List IT} {G:List Nat} (h:B6 w 64 7 v l.length (Bi l) G):DF w v l:=by
 unfold DF JU;refine h.ls ?_ AA ?_
 ·simp [Bi,Function.comp_def]
 ·intro x hx;obtain ⟨a,_,rfl⟩:=List.mem_map.1 hx;rfl
theorem OY (tb:Nat) (t:RB IT) (F:List Nat) (w0:World) (h:Cb w0 tb t F) (hlen:t.list.length≤1000000) :
 AO prog 226 #[.pointer (some ⟨tb,0,none⟩)] w0 fun v w'=>(∃ G,B6 w' 64 7 v t.list.length (Bi t.list) G∧∀ k∈G,w0.heap.size≤k)∧AB [] w0 w':=by
 obtain ⟨p,fp,rfl,hT,ht,hnd⟩:=h;have hs:=(St.nil w0).AH hT AA;refine AS func226 ntmps226 ?_;refine Jd ?_;have AL:AB [] w0 _:=hs.AD [] (by simp [hT]) sD;refine cl (h:=by exact GN t p fp _ [] [] _ (ht.keep AL (AM.nil _) AA) (.inl ⟨rfl,rfl,rfl,rfl⟩) (by simpa using hlen)) ?_;rintro v w' ⟨⟨G,hO,hG⟩,ho⟩;replace hs:=hs.AP ho;rw [aDV] at hO;have hz:=AL.size;refine Jc ?_;refine AG ?_;exact ⟨⟨G,hO,fun k hk=>by rcases hG k hk with h | h;cases h;omega⟩,hs.AD [] (by simp [hT]) sD⟩
theorem lE (tb:Nat) (t:RB IT) (F:List Nat) (w0:World) (h:Cb w0 tb t F) :
 AO prog 84 #[.pointer (some ⟨tb,0,none⟩)] w0 fun v w'=>v = .int .i64 (t.list.length:Nat)∧AB [] w0 w':=by
 obtain ⟨p,fp,rfl,hT,ht,hnd⟩:=h;have hs:=(St.nil w0).AH hT AA;refine AS func84 ntmps84 ?_;refine Jd ?_;refine AG ?_;exact ⟨rfl,hs.AD [] (by simp [hT]) sD⟩
theorem MZ (w0:World):AO prog 175 #[.func (.func 176) #[] #[],.func (.func 177) #[] #[],.func (.func 178) #[] #[]] w0 fun v w'=>(∃ tb F,v = .pointer (some ⟨tb,0,none⟩)∧Cb w' tb .nil F∧(∀ k∈F,w0.heap.size≤k))∧AB [] w0 w':=by
 have hs:=St.nil w0;refine AS func175 ntmps175 ?_;refine Ah ?_;refine Aq ?_;refine vs ?_;refine XS.nil ?_;refine Dw ?_;refine Ah ?_;refine Aq ?_;refine vs ?_;refine vs ?_;refine vs ?_;refine vs ?_;refine bx hs ?_;intro b w hz hs;refine Jc ?_;refine AG ?_;have hnew:=hs.new (b,true) AA rfl;exact ⟨⟨b,[b],rfl,⟨none,[],rfl,hs.get At.head,⟨rfl,rfl⟩,List.nodup_nil⟩,fun k hk=>by obtain rfl:=List.mem_singleton.1 hk;exact hnew⟩,hs.AE rfl⟩
theorem S9 {t:RB IT} (h:RB.both t=true):∃ a x b c1 y d z e c2 c,t = .node (.node a x b c1) y (.node d z e c2) c:=by
 cases t with
 | nil=>cases h
 | node l y r c =>
   cases l with
   | nil=>cases h
   | node a x b c1 =>
     cases r with
     | nil=>cases h
     | node d z e c2=>exact ⟨_,_,_,_,_,_,_,_,_,_,rfl⟩
theorem sub_up {w0 w:World} {fp D8 EF:List Nat} (h1:∀ k∈D8,k∈fp∨w0.heap.size≤k) (h2:∀ k∈EF,k∈D8∨w.heap.size≤k) (hz:w0.heap.size≤w.heap.size):∀ k∈EF,k∈fp∨w0.heap.size≤k:=fun k hk=>by
 rcases h2 k hk with h | h
 ·exact h1 k h
 ·exact .inr om
theorem Pq (tb:Nat) (p0:Option Addr) (n0:Int) (t:RB IT) (p:Option Addr) (fp:List Nat) (w0:World) (hT:w0.heap[tb]?=some (C6 p0 n0)) (h:Aj w0 t p fp) (hnd:fp.Nodup) (hlen:t.list.length≤1000000) (hb:RB.both t=true) :
 AO prog 246 #[.pointer (some ⟨tb,0,none⟩),.pointer p] w0 fun v w'=>Ck w0 fp (RB.El t) v w':=by
 obtain ⟨a,x,b,c1,y,d,z,e,c2,c,rfl⟩:=S9 hb;clear hb;have hs:=St.nil w0;refine AS func246 ntmps246 ?_;refine Ja ?_;refine cl (h:=by exact GW a x b c1 y d z e c2 c p fp _ h hnd) ?_;rintro v w1 ⟨k1,AL⟩;have Bo:=head_keep hT AL h.nodes;clear hs h;obtain ⟨m,av,pl,pr,fl,fr,rfl,rfl,hm,Ct,hl,hr⟩:=k1;have Hj:=hr;obtain ⟨u,JZ,pd,pe,fd,fe,rfl,rfl,hu,Ms,hd,he⟩:=hr;have wT:u≠m:=fun e=>by subst e;simp at hnd
 have hs:=((St.nil w1).AH hm AA).AH hu (by simpa using wT);refine Ja ?_;have AN:AB [] w1 _:=hs.AD [] (by simp [hm,hu]) sD;refine AZ hs (h:=by exact Bg d pd fd _ (hd.keep AN (AM.nil _) AA)) ?_;intro w' ho hs;cases hq:d.red
 ·refine Jd ?_;refine AG ?_;have AN:AB [] w1 _:=hs.AD [] (by simp [hm,hu]) sD
  have e1:RB.El (.node (.node a x b c1) y (.node d z e c2) c) = .node (.node a x b !c1) y (.node d z e !c2) !c:=by
   simp [RB.El,RB.flip,RB.BE,RB.Av,hq]
  rw [e1];exact ⟨_,_,rfl,Aj.keep AN (AM.nil _) ⟨m,av,pl,_,fl,_,rfl,rfl,hm,Ct,hl,Hj⟩ AA,hnd,fun k hk => .inl hk,AL.step AN AA⟩
 ·obtain ⟨da,v,de,rfl⟩:=RB.Bt hq
  have e1:RB.El (.node (.node a x b c1) y (.node (.node da v de true) z e c2) c) = .node (.node (.node a x b !c1) y da (!true)) v (.node de z e (!true)) (!!c):=by
   simp [RB.El,RB.flip,RB.BE,RB.Av,RB.BS,RB.CM,RB.DD,RB.G7]
  rw [e1];refine Je ?_;have AN:AB [] w1 _:=hs.AD [] (by simp [hm,hu]) sD;have hl2:=hl.keep AN (AM.nil _) AA;have SD:=Hj.keep AN (AM.nil _) AA;have hm2:=hs.get (At.tail At.head);have MD:=head_keep Bo AN (AM.nil _);have KT:AB (m :: (fl ++ (u :: (fd ++ fe)))) w0 _:=AL.step AN AA;simp only [RB.list,aCv,aCx,aDQ,aDR] at hlen;refine cl (h:=by exact Gf tb p0 n0 da v de z e (!c2) true _ _ _ MD SD.MJ (by simp only [aC6,aDG] at hnd ⊢;exact hnd.2.2.1) (by simp only [aCv,aCx];omega)) (k:=?_);rintro v' w2 hk;obtain ⟨p',hv⟩:∃ p',v' = .pointer p':=by obtain ⟨p',_,hv,_⟩:=hk;exact ⟨p',hv⟩
  subst hv;obtain ⟨_,_,_,_,_,_,k4⟩:=id hk;have Fv:=head_keep MD k4 SD.nodes;have hm3:=k4.block hm2 (fun h=>by simp only [aC6,aC4] at hnd;exact hnd.1 (.inr h));clear hs;have hs:=(St.nil w2).AH hm3 AA
  repeat' (first|refine Sa ?_|(refine st hs ?_;intro w hs)|fail)
  have AU:AB [m] w2 _:=hs.AD [m] AA sD;obtain ⟨EF,s1,s2,s3,s4⟩:=NG hm2 hl2 SD.nodes hnd hk AU (hs.get At.head);have hsz:=KT.size;have s3':=sub_up (fp:=m :: (fl ++ (u :: (fd ++ fe)))) (fun k hk => .inl hk) s3 hsz;have HG:AB (m :: (fl ++ (u :: (fd ++ fe)))) w0 _:=KT.step s4 (fun k hk => .inl hk);have Si:=head_keep Fv AU (AM.cons hm3 (AM.nil _));clear hs;have hs:=St.nil w2;refine cl (h:=by exact Kn tb p0 n0 (.node a x b !c1) y da v (.node de z e true) (!c) (!c2) _ EF _ Si s1 s2 (by simp only [RB.list,aCv,aCx];omega)) (k:=?_);rintro v' w4 ⟨p3,kT,rfl,k1,k2,k3,k5⟩;have X2:=head_keep Si k5 s1.nodes;have Oi:=sub_up s3' k3 HG.size;have hO4:=HG.step k5 s3';clear hs;have hs:=St.nil w4;refine Ja ?_;have Ao:=hs.AE rfl;refine cl (h:=by exact GW (.node a x b !c1) y da true v de z e true (!c) p3 kT _ (k1.keep Ao (AM.nil _) AA) k2) ?_;rintro v' w5 ⟨k6,C8⟩;have hs:=St.nil w5;refine Ja ?_;refine AG ?_;exact ⟨p3,kT,rfl,k6,k2,Oi,(hO4.step Ao AA).step C8 Oi⟩
theorem WO (tb:Nat) (p0:Option Addr) (n0:Int) (t:RB IT) (p:Option Addr) (fp:List Nat) (w0:World) (hT:w0.heap[tb]?=some (C6 p0 n0)) (h:Aj w0 t p fp) (hnd:fp.Nodup) (hlen:t.list.length≤1000000) (hb:RB.both t=true) :
 AO prog 247 #[.pointer (some ⟨tb,0,none⟩),.pointer p] w0 fun v w'=>Ck w0 fp (RB.Ex t) v w':=by
 obtain ⟨a,x,b,c1,y,d,z,e,c2,c,rfl⟩:=S9 hb;clear hb;have hs:=St.nil w0;refine AS func247 ntmps247 ?_;refine Ja ?_;refine cl (h:=by exact GW a x b c1 y d z e c2 c p fp _ h hnd) ?_;rintro v w1 ⟨k1,AL⟩;have Bo:=head_keep hT AL h.nodes;clear hs h;have k0:=k1;obtain ⟨m,av,pl,pr,fl,fr,rfl,rfl,hm,Ct,hl,hr⟩:=k1;obtain ⟨u,JZ,pd,pe,fd,fe,rfl,rfl,hu,Ms,hd,he⟩:=hl;have wT:u≠m:=fun e=>by subst e;simp at hnd
 have hs:=((St.nil w1).AH hm AA).AH hu (by simpa using wT);refine Ja ?_;have AN:AB [] w1 _:=hs.AD [] (by simp [hm,hu]) sD;refine AZ hs (h:=by exact Bg a pd fd _ (hd.keep AN (AM.nil _) AA)) ?_;intro w' ho hs;cases hq:a.red
 ·refine Jd ?_;refine AG ?_;have AN:AB [] w1 _:=hs.AD [] (by simp [hm,hu]) sD
  have e1:RB.Ex (.node (.node a x b c1) y (.node d z e c2) c) = .node (.node a x b !c1) y (.node d z e !c2) !c:=by
   simp [RB.Ex,RB.flip,RB.BE,RB.Av,hq]
  rw [e1];exact ⟨_,_,rfl,k0.keep AN (AM.nil _) AA,hnd,fun k hk => .inl hk,AL.step AN AA⟩
 ·obtain ⟨da,v,de,rfl⟩:=RB.Bt hq
  have e1:RB.Ex (.node (.node (.node da v de true) x b c1) y (.node d z e c2) c) = .node (.node da v de (!true)) x (.node b y (.node d z e !c2) (!true)) (!!c):=by
   simp [RB.Ex,RB.flip,RB.BE,RB.Av,RB.BS,RB.DD]
  rw [e1];refine Je ?_;have AN:AB [] w1 _:=hs.AD [] (by simp [hm,hu]) sD;have MD:=head_keep Bo AN (AM.nil _);have KT:AB (m :: ((u :: (fd ++ fe)) ++ fr)) w0 _:=AL.step AN AA;simp only [RB.list,aCv,aCx,aDQ,aDR] at hlen;have k00:=k0.keep AN (AM.nil _) AA;refine cl (h:=by exact Gf tb p0 n0 (.node da v de true) x b y (.node d z e !c2) (!c) (!c1) _ _ _ MD k00.MJ hnd (by simp only [RB.list,aCv,aCx];omega)) (k:=?_);rintro v' w4 ⟨p3,kT,rfl,k1,k2,k3,k5⟩;have Oi:=sub_up (fun k hk => .inl hk) k3 KT.size;have hO4:=KT.step k5 (fun k hk => .inl hk);clear hs;have hs:=St.nil w4;refine Ja ?_;have Ao:=hs.AE rfl;refine cl (h:=by exact GW da v de true x b y (.node d z e !c2) true (!c) p3 kT _ (k1.keep Ao (AM.nil _) AA) k2) ?_;rintro v' w5 ⟨k6,C8⟩;have hs:=St.nil w5;refine Ja ?_;refine AG ?_;exact ⟨p3,kT,rfl,k6,k2,Oi,(hO4.step Ao AA).step C8 Oi⟩
theorem Kq {t u:RB IT} (h:RB.EU t=some u):u.list=t.list:=by
 unfold RB.EU at h;cases hq:(!t.left.red && !t.left.left.red)
 ·rw [hq,cond_false] at h;cases h;rfl
 ·rw [hq,cond_true] at h;cases hb:RB.both t
  ·rw [hb] at h;cases h
  ·rw [hb,cond_true] at h;cases h;exact RB.Vz t
theorem SV {t u:RB IT} (h:RB.IN t=some u):u.list=t.list:=by
 unfold RB.IN at h;cases hq:(!t.right.red && !t.right.left.red)
 ·rw [hq,cond_false] at h;cases h;rfl
 ·rw [hq,cond_true] at h;cases hb:RB.both t
  ·rw [hb] at h;cases h
  ·rw [hb,cond_true] at h;cases h;exact RB.Ux t
theorem Kj:∀ (k:Nat) (t t':RB IT),RB.FO k t=some t'→t'.list.length≤t.list.length
 | 0,t,t',h=>by cases h
 | k+1,t,t',h=>by
   simp only [RB.FO] at h;cases h1:t.isNil
   ·rw [h1,cond_false] at h;cases h2:t.left.isNil
    ·rw [h2,cond_false] at h;cases hd:RB.EU t with
     | none=>rw [hd] at h;cases h
     | some u =>
       rw [hd] at h;cases u with
       | nil=>cases h
       | node l x r c =>
         obtain ⟨l',hl,rfl⟩:=Option.map_eq_some_iff.1 h;have:=Kj k l l' hl;rw [RB.DK,← Kq hd];simp only [RB.list,aCv,aCx];omega
    ·rw [h2,cond_true] at h;cases h;simp [RB.list]
   ·rw [h1,cond_true] at h;cases h
theorem S3 (tb:Nat) (p0:Option Addr) (n0:Int):∀ (k:Nat) (t t':RB IT) (p:Option Addr) (fp:List Nat) (w0:World) (hT:w0.heap[tb]?=some (C6 p0 n0)) (h:Aj w0 t p fp) (hnd:fp.Nodup) (hlen:t.list.length≤1000000) (hc:RB.FO k t=some t'),
 AO prog 248 #[.pointer (some ⟨tb,0,none⟩),.pointer p] w0 fun v w'=>Ck w0 fp t' v w'
 | 0,t,t',p,fp,w0,hT,h,hnd,hlen,hc=>by cases hc
 | k+1,.nil,t',p,fp,w0,hT,h,hnd,hlen,hc=>by cases hc
 | k+1,.node .nil x r c,t',p,fp,w0,hT,h,hnd,hlen,hc=>by
   simp only [RB.FO,RB.isNil,RB.Av,cond_true,cond_false,aDd] at hc;subst hc;obtain ⟨b,av,pl,pr,fl,fr,rfl,rfl,hb,Ct,⟨rfl,rfl⟩,hr⟩:=h;have hs:=(St.nil w0).AH hb AA;refine AS func248 ntmps248 ?_;refine Je ?_;refine AG ?_;exact ⟨none,[],rfl,⟨rfl,rfl⟩,List.nodup_nil,(fun k hk=>by cases hk),(hs.AD [] (by simp [hb]) sD).weaken AA⟩
 | k+1,.node (.node ll z lr lc) x r c,t',p,fp,w0,hT,h,hnd,hlen,hc=>by
   rw [RB.FO] at hc;simp only [RB.isNil,RB.Av,cond_false] at hc;have hH:Has w0 tb p0 n0 fp (.node (.node ll z lr lc) x r c) p w0:=⟨⟨fp,h,hnd,fun k hk => .inl hk,AB.refl _ _⟩,hT⟩;obtain ⟨b,av,pl,pr,fl,fr,rfl,hf,hb,Ct,hl,hr⟩:=h;have hl0:=hl;obtain ⟨u,JZ,UE,Q3,fll,flr,rfl,rfl,hu,Ms,GF,hlr⟩:=hl;have Sm:u≠b:=fun e=>by subst e;rw [hf] at hnd;simp at hnd
   have hs:=((St.nil w0).AH hb AA).AH hu (by simpa using Sm);refine AS func248 ntmps248 ?_;refine Jb ?_;refine Aq ?_;refine Jc ?_;refine Aq ?_;refine Jl ?_;refine B9 (fun _:Unit=>[(0,.pointer (some ⟨tb,0,none⟩)),(1,.pointer (some ⟨b,0,none⟩)),(4,.pointer none),(26,.bool (!lc && !ll.red))]) (fun _ w=>Has w0 tb p0 n0 fp (.node (.node ll z lr lc) x r c) (some ⟨b,0,none⟩) w) ?_ ?_
   ·refine Jk ?_;have AN:AB [] w0 _:=hs.AD [] (by simp [hb,hu]) sD;refine AZ hs (h:=by exact Bg _ _ _ _ (hl0.keep AN (AM.nil _) AA)) ?_;intro w' ho hs;rw [RB.BS];cases lc
    ·refine Jf ?_;have AN:AB [] w0 _:=hs.AD [] (by simp [hb,hu]) sD;refine AZ hs (h:=by exact Bg _ _ _ _ (GF.keep AN (AM.nil _) AA)) ?_;intro w' ho hs;generalize Gs:ll.red=q2;refine Jc ?_;exact AQ () Ad (hH.only (hs.AD [] (by simp [hb,hu]) sD))
    ·refine Jj ?_;exact AQ () Ad (hH.only (hs.AD [] (by simp [hb,hu]) sD))
   clear hH hs hb Ct hl0 hu Ms GF hlr hr;rintro _ env w hH
   obtain ⟨d,hd⟩:∃ d,RB.EU (.node (.node ll z lr lc) x r c)=some d:=by
    cases hd:RB.EU (.node (.node ll z lr lc) x r c) with
    | none=>rw [hd] at hc;cases hc
    | some d=>exact ⟨d,rfl⟩
   rw [hd] at hc;have hdl:=Kq hd;refine B9 (fun s:Option Addr=>[(0,.pointer (some ⟨tb,0,none⟩)),(1,.pointer s),(4,.pointer none)]) (fun s w=>Has w0 tb p0 n0 fp d s w) ?_ ?_
   ·unfold RB.EU at hd;rw [RB.Av,RB.BS,RB.Av] at hd;generalize hq:(!lc && !ll.red)=q at *;cases q
    ·refine Jg ?_;cases hd;exact AQ _ Ad hH
    ·rw [cond_true] at hd;cases hbo:RB.both (.node (.node ll z lr lc) x r c)
     ·rw [hbo] at hd;cases hd
     rw [hbo,cond_true] at hd;cases hd;obtain ⟨⟨D8,h1,h2,h3,h4⟩,h5⟩:=hH;have hs:=St.nil w;refine Ji ?_;refine cl (h:=by exact Pq tb p0 n0 _ _ _ _ h5 h1 h2 hlen hbo) ?_;rintro v w' hv;obtain ⟨p',rfl,hH⟩:=Has.next h1 h3 h4 h5 hv
     have hs:=St.nil w';refine Jc ?_;exact AQ p' Ad hH
   clear hH;rintro p1 env w hH;cases d with
   | nil=>cases hc
   | node l1 x1 r1 c1 =>
   obtain ⟨l',hl',rfl⟩:=Option.map_eq_some_iff.1 hc;obtain ⟨⟨D8,⟨b,av,pl,pr,fl,fr,rfl,rfl,hb,Ct,hl,hr⟩,h2,h3,h4⟩,h5⟩:=hH;have Dq:=C7 h5 hb;have hs:=(St.nil w).AH hb AA;rw [← hdl] at hlen;simp only [RB.list,aCv,aCx] at hlen;refine Ja ?_;have AL:AB [] w _:=hs.AD [] (by simp [hb]) sD;have Ei:=hl.keep AL (AM.nil _) AA;have hrw:=hr.keep AL (AM.nil _) AA;have Bv:=hs.get At.head;have CL:=head_keep h5 AL (AM.nil _);refine cl (h:=by exact S3 tb p0 n0 k l1 l' pl fl _ CL Ei (by simp only [aC6,aDG] at h2;exact h2.2.1) om hl') (k:=?_);rintro v w' hk;obtain ⟨p',hv⟩:∃ p',v = .pointer p':=by obtain ⟨p',_,hv,_⟩:=hk;exact ⟨p',hv⟩
   subst hv;obtain ⟨_,_,_,_,_,_,k4⟩:=id hk;have Bo:=head_keep CL k4 Ei.nodes;have CE:=k4.block Bv (fun h=>by simp [h] at h2);clear hs;have hs:=(St.nil w').AH CE AA
   repeat' (first|refine Sa ?_|(refine st hs ?_;intro w hs)|fail)
   have AU:AB [b] w' _:=hs.AD [b] AA sD;obtain ⟨EF,s1,s2,s3,s4⟩:=PJ Bv Ei.nodes hrw h2 hk AU (hs.get At.head);have Mf:=Kj k l1 l' hl';refine cl (h:=by exact GV tb p0 n0 _ x1 _ c1 _ _ _ (head_keep Bo AU (AM.cons CE (AM.nil _))) s1 s2 (by simp only [aCv,aCx];omega)) (k:=?_);rintro v w3 hm;have hO:=(h4.step AL AA).step s4 h3;have hm2:=hm.up hO (sub_up h3 s3 (h4.step AL AA).size);have hs:=St.nil w3;refine Jc ?_;refine AG ?_;exact hm2
abbrev cN (a:It):Obj := .cells #[.int .u64 a.p.t,.int .u32 a.p.r,.int .u32 a.p.w,.int .i64 a.id,.int .u64 a.d.t,.int .u32 a.d.r,.int .u32 a.d.w] 64 (0,0)
theorem nodes_q {w:World} {F:List Nat} (h:AM w F) {bq:Nat} {a:It} (hQ:w.heap[bq]?=some (cN a)):bq∉F:=fun hm=>by
 obtain ⟨cs,fz,h1⟩:=h bq hm;exact A3 hQ h1 (by decide) rfl
structure Hs (bq:Nat) (a:It) (w0:World) (tb:Nat) (p0:Option Addr) (n0:Int) (fp:List Nat) (t:RB IT) (p:Option Addr) (w:World):Prop where
 base:Has w0 tb p0 n0 fp t p w
 q:w.heap[bq]?=some (cN a)
theorem Hs.only {bq:Nat} {a:It} {w0 w w':World} {tb:Nat} {p0:Option Addr} {n0:Int} {fp:List Nat} {t:RB IT} {p:Option Addr} (h:Hs bq a w0 tb p0 n0 fp t p w) (ho:AB [] w w'):Hs bq a w0 tb p0 n0 fp t p w':=⟨h.base.only ho,ho.block h.q AA⟩
theorem Hs.next {bq:Nat} {a:It} {w0 w w':World} {tb:Nat} {p0:Option Addr} {n0:Int} {fp D8:List Nat} {t t':RB IT} {p:Option Addr} {v:Value} (h1:Aj w t p D8) (h2:∀ k∈D8,k∈fp∨w0.heap.size≤k) (h3:AB fp w0 w) (h4:w.heap[tb]?=some (C6 p0 n0)) (hQ:w.heap[bq]?=some (cN a)) (k:Ck w D8 t' v w') :
 ∃ p',v = .pointer p'∧Hs bq a w0 tb p0 n0 fp t' p' w':=by
 obtain ⟨p',e,h⟩:=Has.next h1 h2 h3 h4 k
 obtain ⟨_,_,_,_,_,_,ko⟩:=k;exact ⟨p',e,h,ko.block hQ (nodes_q h1.nodes hQ)⟩
theorem PY (x:IT):∀ (k:Nat) (t t':RB IT),RB.cut Cy x k t=some t'→t'.list.length≤t.list.length
 | 0,t,t',h=>by cases h
 | k+1,.nil,t',h=>by cases h
 | k+1,.node l y r c,t',h=>by
   rw [RB.cut] at h;cases hxy:Cy x y
   ·rw [hxy,cond_false] at h
    have hu:(bif l.red then RB.DD (.node l y r c) else .node l y r c:RB IT).list=(RB.node l y r c).list:=by
     cases l.red
     ·rfl
     ·exact RB.HJ _
    generalize (bif l.red then RB.DD (.node l y r c) else .node l y r c:RB IT)=u at h hu;cases h2:u.right.isNil
    ·rw [h2,cond_false] at h;cases hd:RB.IN u with
     | none=>rw [hd] at h;cases h
     | some d =>
       rw [hd] at h;have hdl:=SV hd;cases d with
       | nil=>cases h
       | node l2 y2 r2 c2 =>
         simp only at h;rw [← hu,← hdl];cases h3:Cy y2 x
         ·rw [h3,cond_false] at h;cases hm:RB.least r2 with
          | none=>rw [hm] at h;cases h
          | some m =>
            rw [hm] at h;obtain ⟨r',hr',rfl⟩:=Option.map_eq_some_iff.1 h;have:=Kj k r2 r' hr';rw [RB.DK];simp only [RB.list,aCv,aCx];omega
         ·rw [h3,cond_true] at h;obtain ⟨r',hr',rfl⟩:=Option.map_eq_some_iff.1 h;have:=PY x k r2 r' hr';rw [RB.DK];simp only [RB.list,aCv,aCx];omega
    ·rw [h2,cond_true] at h;cases h;simp [RB.list]
   ·rw [hxy,cond_true] at h;cases h2:l.isNil
    ·rw [h2,cond_false] at h;cases hd:RB.EU (.node l y r c) with
     | none=>rw [hd] at h;cases h
     | some d =>
       rw [hd] at h;have hdl:=Kq hd;cases d with
       | nil=>cases h
       | node l2 y2 r2 c2 =>
         obtain ⟨l',hl',rfl⟩:=Option.map_eq_some_iff.1 h;have:=PY x k l2 l' hl';rw [RB.DK,← hdl];simp only [RB.list,aCv,aCx];omega
    ·rw [h2,cond_true] at h;cases h
theorem TG (tb:Nat) (p0:Option Addr) (n0:Int) (x:IT):∀ (k:Nat) (t t':RB IT) (p:Option Addr) (fp:List Nat) (w0:World) (hT:w0.heap[tb]?=some (C6 p0 n0)) (h:Aj w0 t p fp) (hnd:fp.Nodup) (hlen:t.list.length≤1000000) (hc:RB.cut Cy x k t=some t'),
 AO prog 237 #[.pointer (some ⟨tb,0,none⟩),.pointer p,iv x.1] w0 fun v w'=>Ck w0 fp t' v w'
 | 0,t,t',p,fp,w0,hT,h,hnd,hlen,hc=>by cases hc
 | k+1,.nil,t',p,fp,w0,hT,h,hnd,hlen,hc=>by cases hc
 | k+1,.node l y r c,t',p,fp,w0,hT,h,hnd,hlen,hc=>by
   rw [RB.cut] at hc;have Yt:Has w0 tb p0 n0 fp (.node l y r c) p w0:=⟨⟨fp,h,hnd,fun k hk => .inl hk,AB.refl _ _⟩,hT⟩;obtain ⟨b,av,pl,pr,fl,fr,rfl,hf,hb,Ct,hl,hr⟩:=h;have Dq:=C7 hT hb;have hs:=((St.nil w0).AH hT AA).AH hb (by simpa using Dq);refine AS func237 ntmps237 ?_;refine Ah ?_;refine Aq ?_;refine bx hs ?_;intro bq wq Lp hs;refine Jc ?_;have Ir:=hs.new (bq,true) AA rfl;simp only at Ir;refine dr [] hs ?_;intro hX w hs;refine tks 0 9 ?_;refine dt 9 hX ?_;refine cl (h:=by exact Mb x y _) ?_;rintro v w1 ⟨rfl,ho⟩;replace hs:=hs.AP ho;refine Jn ?_;refine en ?_;have AL:AB [] w0 w1:=hs.AD [] (by simp [hT,hb]) sD;have hQ:=hs.get At.head;have hH:Hs bq x.1 w0 tb p0 n0 fp (.node l y r c) (some ⟨b,0,none⟩) w1:=⟨Yt.only AL,hQ⟩;have Bo:=hs.get (At.tail (At.tail At.head));have CE:=hs.get (At.tail At.head);have KU:=hl.keep AL (AM.nil _) AA;have Mq:=hr.keep AL (AM.nil _) AA;generalize hq:Cy x y=q;rw [show Cy x y=q from hq] at hc;clear hs Yt hT hb hl hr ho Ct;cases q
   ·rw [cond_false] at hc;have hs:=(St.nil w1).AH CE AA;refine Jg ?_;refine B9 (fun _:Unit=>[(0,.pointer (some ⟨tb,0,none⟩)),(1,.pointer (some ⟨b,0,none⟩)),(5,.pointer (some ⟨bq,0,none⟩)),(6,.pointer none),(55,.bool l.red)]) (fun _ w=>Hs bq x.1 w0 tb p0 n0 fp (.node l y r c) (some ⟨b,0,none⟩) w) ?_ ?_
    ·refine Jk ?_;have AN:AB [] w1 _:=hs.AD [] (by simp [CE]) sD;refine AZ hs (h:=by exact Bg _ _ _ _ (KU.keep AN (AM.nil _) AA)) ?_;intro w' ho hs;generalize Gs:l.red=q2;refine Jb ?_;exact AQ () Ad (hH.only (hs.AD [] (by simp [CE]) sD))
    clear hH hs CE KU Mq Bo;rintro _ env w hH;refine B9 (fun s:Option Addr=>[(0,.pointer (some ⟨tb,0,none⟩)),(1,.pointer s),(5,.pointer (some ⟨bq,0,none⟩)),(6,.pointer none)]) (fun s w=>Hs bq x.1 w0 tb p0 n0 fp (bif l.red then RB.DD (.node l y r c) else .node l y r c) s w) ?_ ?_
    ·cases Gs:l.red
     ·refine Jg ?_;exact AQ _ Ad hH
     ·obtain ⟨ll,z,lr,rfl⟩:=RB.Bt Gs;obtain ⟨⟨⟨D8,h1,h2,h3,h4⟩,h5⟩,hQ⟩:=hH;have hs:=St.nil w;refine Ji ?_;refine cl (h:=by exact Gf tb p0 n0 ll z lr y r c true _ _ _ h5 h1.MJ h2 (by simpa [RB.list] using hlen)) ?_;rintro v w' hv;obtain ⟨p',rfl,hH⟩:=Hs.next h1 h3 h4 h5 hQ hv
      have hs:=St.nil w';refine Jc ?_;exact AQ p' Ad hH
    clear hH;rintro p1 env w hH
    obtain ⟨l1,y1,r1,c1,hu,hul⟩:∃ l1 y1 r1 c1,(bif l.red then RB.DD (.node l y r c) else .node l y r c:RB IT) = .node l1 y1 r1 c1∧(RB.node l1 y1 r1 c1).list=(RB.node l y r c).list:=by
     cases Gs:l.red
     ·exact ⟨_,_,_,_,rfl,rfl⟩
     ·obtain ⟨ll,z,lr,rfl⟩:=RB.Bt Gs;exact ⟨_,_,_,_,rfl,RB.HJ (.node (.node ll z lr true) y r c)⟩
    rw [hu] at hH hc;rw [RB.BE] at hc;obtain ⟨⟨⟨D8,⟨b,av,pl,pr,fl,fr,rfl,fB,hb,Ct,hl,hr⟩,h2,h3,h4⟩,h5⟩,hQ⟩:=hH;have hH:Hs bq x.1 w0 tb p0 n0 fp (.node l1 y1 r1 c1) (some ⟨b,0,none⟩) w:=⟨⟨⟨D8,⟨b,av,pl,pr,fl,fr,rfl,fB,hb,Ct,hl,hr⟩,h2,h3,h4⟩,h5⟩,hQ⟩;cases r1 with
    | nil =>
      simp only [RB.isNil,cond_true,aDd] at hc;subst hc;obtain ⟨rfl,rfl⟩:=hr;have hs:=(St.nil w).AH hb AA;refine Je ?_;refine AG ?_;exact ⟨none,[],rfl,⟨rfl,rfl⟩,List.nodup_nil,(fun k hk=>by cases hk),h4.step (hs.AD [] (by simp [hb]) sD) AA⟩
    | node rl z rr rc =>
    simp only [RB.isNil,cond_false] at hc;have Hj:=hr;obtain ⟨u,JZ,UE,Q3,fll,flr,rfl,rE,J1,Ms,GF,hlr⟩:=hr;have Sm:u≠b:=fun e=>by subst e;rw [fB,rE] at h2;simp at h2
    have hs:=((St.nil w).AH hb AA).AH J1 (by simpa using Sm);refine Jb ?_;refine Aq ?_;refine Jl ?_;refine B9 (fun _:Unit=>[(0,.pointer (some ⟨tb,0,none⟩)),(1,.pointer (some ⟨b,0,none⟩)),(5,.pointer (some ⟨bq,0,none⟩)),(6,.pointer none),(80,.bool (!rc && !rl.red))]) (fun _ w=>Hs bq x.1 w0 tb p0 n0 fp (.node l1 y1 (.node rl z rr rc) c1) (some ⟨b,0,none⟩) w) ?_ ?_
    ·refine Jk ?_;have AN:AB [] w _:=hs.AD [] (by simp [hb,J1]) sD;refine AZ hs (h:=by exact Bg _ _ _ _ (Hj.keep AN (AM.nil _) AA)) ?_;intro w' ho hs;rw [RB.BS];cases rc
     ·refine Jf ?_;have AN:AB [] w _:=hs.AD [] (by simp [hb,J1]) sD;refine AZ hs (h:=by exact Bg _ _ _ _ (GF.keep AN (AM.nil _) AA)) ?_;intro w' ho hs;generalize Gs:rl.red=q2;refine Jc ?_;exact AQ () Ad (hH.only (hs.AD [] (by simp [hb,J1]) sD))
     ·refine Jj ?_;exact AQ () Ad (hH.only (hs.AD [] (by simp [hb,J1]) sD))
    clear hH hs hb hl Hj J1 Ms GF hlr h2 h3 h4 h5 Ct fB rE;rintro _ env w hH
    obtain ⟨d,hd⟩:∃ d,RB.IN (.node l1 y1 (.node rl z rr rc) c1)=some d:=by
     cases hd:RB.IN (.node l1 y1 (.node rl z rr rc) c1) with
     | none=>rw [hd] at hc;cases hc
     | some d=>exact ⟨d,rfl⟩
    rw [hd] at hc;have hdl:=SV hd;rw [hul] at hdl;refine B9 (fun s:Option Addr=>[(0,.pointer (some ⟨tb,0,none⟩)),(1,.pointer s),(5,.pointer (some ⟨bq,0,none⟩)),(6,.pointer none)]) (fun s w=>Hs bq x.1 w0 tb p0 n0 fp d s w) ?_ ?_
    ·unfold RB.IN at hd;rw [RB.BE,RB.BS,RB.Av] at hd;generalize hq:(!rc && !rl.red)=q at *;cases q
     ·refine Jg ?_;cases hd;exact AQ _ Ad hH
     ·rw [cond_true] at hd;cases hbo:RB.both (.node l1 y1 (.node rl z rr rc) c1)
      ·rw [hbo] at hd;cases hd
      rw [hbo,cond_true] at hd;cases hd;obtain ⟨⟨⟨D8,h1,h2,h3,h4⟩,h5⟩,hQ⟩:=hH;have hs:=St.nil w;refine Ji ?_;refine cl (h:=by exact WO tb p0 n0 _ _ _ _ h5 h1 h2 (by rw [hul];exact hlen) hbo) (k:=?_);rintro v w' hv;obtain ⟨p',rfl,hH⟩:=Hs.next h1 h3 h4 h5 hQ hv
      have hs:=St.nil w';refine Jc ?_;exact AQ p' Ad hH
    clear hH;rintro p2 env wB hH;cases d with
    | nil=>cases hc
    | node l2 y2 r2 c2 =>
    simp only at hc;obtain ⟨⟨⟨D8,⟨b,av,pl,pr,fl,fr,rfl,rfl,hb,Ct,hl,hr⟩,h2,h3,h4⟩,h5⟩,hQ⟩:=hH;have Dq:=C7 h5 hb;have n1:=A3 hQ hb (by decide);have n2:=A3 hQ h5 (by decide);have hs:=(((St.nil wB).AH h5 AA).AH hb (by simpa using Dq)).AH hQ (by simp [n1,n2]);rw [← hdl] at hlen;simp only [RB.list,aCv,aCx] at hlen;refine Jb ?_;refine dr [] hs ?_;intro hX w hs;refine tks 0 9 ?_;refine dt 9 hX ?_;refine AZ hs (h:=by exact Mb y2 x _) ?_;intro w' ho hs;refine Jn ?_;refine en ?_;generalize l9:Cy y2 x=q3;rw [show Cy y2 x=q3 from l9] at hc;have AL:AB [] wB _:=hs.AD [] (by simp [h5,hb,hQ]) sD;have Ei:=hl.keep AL (AM.nil _) AA;have hrw:=hr.keep AL (AM.nil _) AA;have Bv:=hs.get (At.tail At.head);have CL:=hs.get (At.tail (At.tail At.head));have SU:=hs.get At.head;have Lm:=h4.step AL AA;have zK:fr.Nodup:=by simp only [aC6,aDG] at h2;exact h2.2.2.1
    cases q3
    ·rw [cond_false] at hc
     obtain ⟨m,hm⟩:∃ m,RB.least r2=some m:=by
      cases hm:RB.least r2 with
      | none=>rw [hm] at hc;cases hc
      | some m=>exact ⟨m,rfl⟩
     rw [hm] at hc;obtain ⟨r',hr',rfl⟩:=Option.map_eq_some_iff.1 hc;clear hs;have hs:=(St.nil w').AH Bv AA;refine Jd ?_;refine BM (fun q:Nat=>[(0,.pointer (some ⟨tb,0,none⟩)),(1,.pointer (some ⟨b,0,none⟩)),(5,.pointer (some ⟨bq,0,none⟩)),(6,.pointer none),(7,.pointer (some ⟨q,0,none⟩))]) (fun q w2=>AB [] w' w2∧q∈fr∧∃ ME VX Z5 c',w'.heap[q]?=some (ET m ME VX Z5 c')) ?_ ?_
     ·refine BH (fun (s:RB IT × Option Addr)=>[(0,.pointer (some ⟨tb,0,none⟩)),(1,.pointer (some ⟨b,0,none⟩)),(5,.pointer (some ⟨bq,0,none⟩)),(6,.pointer none),(7,.pointer s.2)])
       (fun s w2=>AB [] w' w2∧RB.least s.1=some m∧∃ Zg,Aj w' s.1 s.2 Zg∧∀ k∈Zg,k∈fr)
       (fun s=>s.1.list.length) (r2,pr) Ad ⟨hs.AD [] (by simp [Bv]) sD,hm,fr,hrw,fun k hk=>hk⟩ fun s env w2 ⟨g1,g2,Zg,g3,g4⟩=>?_
      clear hs;obtain ⟨s,ps⟩:=s;dsimp only at g2 g3 ⊢;cases s with
      | nil=>cases g2
      | node sl sz sr sc =>
      obtain ⟨q,avq,pql,pqr,fql,fqr,rfl,rfl,Yx,hqa,fD,hqr⟩:=g3;have Gs:=g1.block Yx AA;have hs:=(St.nil w2).AH Gs AA;cases sl with
      | nil =>
        obtain ⟨rfl,rfl⟩:=fD;simp only [RB.least,aDd] at g2;subst g2;refine Jd ?_;exact Au q Ad ⟨g1.step (hs.AD [] (by simp [Gs]) sD) AA,g4 q aCw,_,_,_,_,Yx⟩
      | node a1 a2 a3 a4 =>
        have aBK:=fD;obtain ⟨_,_,_,_,_,_,rfl,_⟩:=fD;refine Je ?_;exact A2 (.node a1 a2 a3 a4,_) (by simp only [RB.list,aCv,aCx];omega) Ad ⟨g1.step (hs.AD [] (by simp [Gs]) sD) AA,g2,fql,aBK,fun k hk=>g4 k (aCy _ (aDC _ hk))⟩
     ·clear hs;rintro q env w2 ⟨g1,g2,avq,plq,prq,cq,g3⟩;have Yx:q≠b:=fun e=>by subst e;simp [g2] at h2
      have Ds:=g1.block Bv AA;have Gs:=g1.block g3 AA;have hs:=((St.nil w2).AH Ds AA).AH Gs (by simpa using Yx)
      repeat' (first|refine Sa ?_|(refine AV hs ?_;intro w hs)|fail)
      have AN:AB [b] w2 _:=hs.AD [b] (by simp [Gs]) sD;have hN:AM w2 [b]:=AM.cons Ds (AM.nil _);have OC:b∉fl∧b∉fr:=by simp only [aC6,aC4,not_or] at h2;exact h2.1
      have hl3:=(Ei.keep g1 (AM.nil _) AA).keep AN hN (fun k hk hm=>by obtain rfl:=List.mem_singleton.1 hm;exact OC.1 hk);have WX:=(hrw.keep g1 (AM.nil _) AA).keep AN hN (fun k hk hm=>by obtain rfl:=List.mem_singleton.1 hm;exact OC.2 hk);have Gc:=hs.get (At.tail At.head);have Fv:=head_keep (head_keep CL g1 (AM.nil _)) AN hN;have HG:=(Lm.step g1 AA).step AN (fun k hk=>by obtain rfl:=List.mem_singleton.1 hk;exact h3 k aCw);refine cl (h:=by exact S3 tb p0 n0 k r2 r' pr fr _ Fv WX zK om hr') ?_;rintro v w4 hk;obtain ⟨p',hv⟩:∃ p',v = .pointer p':=by obtain ⟨p',_,hv,_⟩:=hk;exact ⟨p',hv⟩
      subst hv;obtain ⟨_,_,_,_,_,_,k4⟩:=id hk;have Si:=head_keep Fv k4 WX.nodes;have hb4:=k4.block Gc OC.2;clear hs;have hs:=(St.nil w4).AH hb4 AA
      repeat' (first|refine Sa ?_|(refine st hs ?_;intro w hs)|fail)
      have BL:AB [b] w4 _:=hs.AD [b] AA sD;obtain ⟨EF,s1,s2,s3,s4⟩:=NG Gc hl3 WX.nodes h2 hk BL (hs.get At.head);have Mf:=Kj k r2 r' hr';refine cl (h:=by exact GV tb p0 n0 _ m _ c2 _ _ _ (head_keep Si BL (AM.cons hb4 (AM.nil _))) s1 s2 (by simp only [aCv,aCx];omega)) (k:=?_);rintro v w5 hm;have hO:=HG.step s4 h3;have hm2:=hm.up hO (sub_up h3 s3 HG.size);have hs:=St.nil w5;refine Jc ?_;refine AG ?_;exact hm2
    ·rw [cond_true] at hc;obtain ⟨r',hr',rfl⟩:=Option.map_eq_some_iff.1 hc
     repeat' (first|refine Nx.h ?_|refine FP ?_|fail)
     refine dr [10] hs ?_;intro hX w hs;refine tks 0 7 ?_;refine dt 7 hX ?_;have AL:AB [] wB _:=hs.AD [] (by simp [h5,hb,hQ]) sD;have Ei:=hl.keep AL (AM.nil _) AA;have hrw:=hr.keep AL (AM.nil _) AA;have Bv:=hs.get (At.tail At.head);have CL:=hs.get (At.tail (At.tail At.head));have SU:=hs.get At.head;have Lm:=h4.step AL AA;refine cl (h:=by exact TG tb p0 n0 x k r2 r' pr fr _ CL hrw zK om hr') ?_;rintro v w4 hk;obtain ⟨p',hv⟩:∃ p',v = .pointer p':=by obtain ⟨p',_,hv,_⟩:=hk;exact ⟨p',hv⟩
     subst hv;obtain ⟨_,_,_,_,_,_,k4⟩:=id hk;have Bo:=head_keep CL k4 hrw.nodes;have CE:=k4.block Bv (fun h=>by simp [h] at h2);have hq1:=k4.block SU (nodes_q hrw.nodes SU);clear hs;have hs:=(((St.nil w4).AH Bo AA).AH CE (by simpa using Dq)).AH hq1 (by simp [n1,n2]);refine Jn ?_;refine tks 8 2 ?_;refine dt 10 hX ?_
     repeat' (first|refine Nx.h ?_|(refine st hs ?_;intro w hs)|fail)
     refine dn ?_;refine en ?_;refine Ja ?_;have AU:AB [b] w4 _:=hs.AD [b] (by simp [Bo,hq1]) sD;obtain ⟨EF,s1,s2,s3,s4⟩:=NG Bv Ei hrw.nodes h2 hk AU (hs.get (At.tail At.head));have Mf:=PY x k r2 r' hr';refine cl (h:=by exact GV tb p0 n0 _ y2 _ c2 _ _ _ (head_keep Bo AU (AM.cons CE (AM.nil _))) s1 s2 (by simp only [aCv,aCx];omega)) (k:=?_);rintro v w3 hm;have hm2:=hm.up (Lm.step s4 h3) (sub_up h3 s3 Lm.size);have hs:=St.nil w3;refine Jc ?_;refine AG ?_;exact hm2
   ·rw [cond_true] at hc;cases l with
    | nil=>cases hc
    | node ll z lr lc =>
    simp only [RB.isNil,cond_false] at hc;have hl0:=KU;obtain ⟨u,JZ,UE,Q3,fll,flr,rfl,rfl,hu,Ms,GF,hlr⟩:=KU;have Sm:u≠b:=fun e=>by subst e;rw [hf] at hnd;simp at hnd
    have hs:=((St.nil w1).AH CE AA).AH hu (by simpa using Sm)
    repeat' (first|refine Nx.h ?_|refine FP ?_|fail)
    refine B9 (fun _:Unit=>[(0,.pointer (some ⟨tb,0,none⟩)),(1,.pointer (some ⟨b,0,none⟩)),(5,.pointer (some ⟨bq,0,none⟩)),(6,.pointer none),(34,.bool (!lc && !ll.red))]) (fun _ w=>Hs bq x.1 w0 tb p0 n0 fp (.node (.node ll z lr lc) y r c) (some ⟨b,0,none⟩) w) ?_ ?_
    ·refine Jk ?_;have AN:AB [] w1 _:=hs.AD [] (by simp [CE,hu]) sD;refine AZ hs (h:=by exact Bg _ _ _ _ (hl0.keep AN (AM.nil _) AA)) ?_;intro w' ho hs;rw [RB.BS];cases lc
     ·refine Jf ?_;have AN:AB [] w1 _:=hs.AD [] (by simp [CE,hu]) sD;refine AZ hs (h:=by exact Bg _ _ _ _ (GF.keep AN (AM.nil _) AA)) ?_;intro w' ho hs;generalize Gs:ll.red=q2;refine Jc ?_;exact AQ () Ad (hH.only (hs.AD [] (by simp [CE,hu]) sD))
     ·refine Jj ?_;exact AQ () Ad (hH.only (hs.AD [] (by simp [CE,hu]) sD))
    clear hH hs CE hl0 hu Ms GF hlr Mq Bo;rintro _ env w hH
    obtain ⟨d,hd⟩:∃ d,RB.EU (.node (.node ll z lr lc) y r c)=some d:=by
     cases hd:RB.EU (.node (.node ll z lr lc) y r c) with
     | none=>rw [hd] at hc;cases hc
     | some d=>exact ⟨d,rfl⟩
    rw [hd] at hc;have hdl:=Kq hd;refine B9 (fun s:Option Addr=>[(0,.pointer (some ⟨tb,0,none⟩)),(1,.pointer s),(5,.pointer (some ⟨bq,0,none⟩)),(6,.pointer none)]) (fun s w=>Hs bq x.1 w0 tb p0 n0 fp d s w) ?_ ?_
    ·unfold RB.EU at hd;rw [RB.Av,RB.BS,RB.Av] at hd;generalize hq:(!lc && !ll.red)=q at *;cases q
     ·refine Jg ?_;cases hd;exact AQ _ Ad hH
     ·rw [cond_true] at hd;cases hbo:RB.both (.node (.node ll z lr lc) y r c)
      ·rw [hbo] at hd;cases hd
      rw [hbo,cond_true] at hd;cases hd;obtain ⟨⟨⟨D8,h1,h2,h3,h4⟩,h5⟩,hQ⟩:=hH;have hs:=St.nil w;refine Ji ?_;refine cl (h:=by exact Pq tb p0 n0 _ _ _ _ h5 h1 h2 hlen hbo) ?_;rintro v w' hv;obtain ⟨p',rfl,hH⟩:=Hs.next h1 h3 h4 h5 hQ hv
      have hs:=St.nil w';refine Jc ?_;exact AQ p' Ad hH
    clear hH;rintro p1 env w hH;cases d with
    | nil=>cases hc
    | node l1 x1 r1 c1 =>
    obtain ⟨l',hl',rfl⟩:=Option.map_eq_some_iff.1 hc;obtain ⟨⟨⟨D8,⟨b,av,pl,pr,fl,fr,rfl,rfl,hb,Ct,hl,hr⟩,h2,h3,h4⟩,h5⟩,hQ⟩:=hH;have Dq:=C7 h5 hb;have n1:=A3 hQ hb (by decide);have n2:=A3 hQ h5 (by decide);have hs:=(((St.nil w).AH h5 AA).AH hb (by simpa using Dq)).AH hQ (by simp [n1,n2]);rw [← hdl] at hlen;simp only [RB.list,aCv,aCx] at hlen;refine Jb ?_;refine dr [10] hs ?_;intro hX wD hs;refine tks 0 7 ?_;refine dt 7 hX ?_;have AL:AB [] w _:=hs.AD [] (by simp [h5,hb,hQ]) sD;have SU:=hs.get At.head;have Ei:=hl.keep AL (AM.nil _) AA;have hrw:=hr.keep AL (AM.nil _) AA;have Bv:=hs.get (At.tail At.head);have CL:=head_keep h5 AL (AM.nil _);refine cl (h:=by exact TG tb p0 n0 x k l1 l' pl fl _ CL Ei (by simp only [aC6,aDG] at h2;exact h2.2.1) om hl') (k:=?_);rintro v w' hk;obtain ⟨p',hv⟩:∃ p',v = .pointer p':=by obtain ⟨p',_,hv,_⟩:=hk;exact ⟨p',hv⟩
    subst hv;obtain ⟨_,_,_,_,_,_,k4⟩:=id hk;have Bo:=head_keep CL k4 Ei.nodes;have CE:=k4.block Bv (fun h=>by simp [h] at h2);have hq1:=k4.block SU (nodes_q Ei.nodes SU);clear hs;have hs:=(((St.nil w').AH Bo AA).AH CE (by simpa using Dq)).AH hq1 (by simp [n1,n2]);refine Jn ?_;refine tks 8 2 ?_;refine dt 10 hX ?_
    repeat' (first|refine Nx.h ?_|(refine st hs ?_;intro w hs)|fail)
    refine dn ?_;refine en ?_;refine Ja ?_;have AU:AB [b] w' _:=hs.AD [b] (by simp [Bo,hq1]) sD;obtain ⟨EF,s1,s2,s3,s4⟩:=PJ Bv Ei.nodes hrw h2 hk AU (hs.get (At.tail At.head));have Mf:=PY x k l1 l' hl';refine cl (h:=by exact GV tb p0 n0 _ x1 _ c1 _ _ _ (head_keep Bo AU (AM.cons CE (AM.nil _))) s1 s2 (by simp only [aCv,aCx];omega)) (k:=?_);rintro v w3 hm;have hO:=(h4.step AL AA).step s4 h3;have hm2:=hm.up hO (sub_up h3 s3 (h4.step AL AA).size);have hs:=St.nil w3;refine Jc ?_;refine AG ?_;exact hm2
abbrev Gz (b:Bool):Obj := .cells #[.bool b] 4 (0,0)
abbrev zE (tb:Nat):Obj := .cells #[.pointer (some ⟨tb,0,none⟩)] 109 (0,0)
abbrev UL (a:It):Obj := .cells #[.int .u64 a.p.t,.int .u32 a.p.r,.int .u32 a.p.w,.int .i64 a.id,.int .u64 a.d.t,.int .u32 a.d.r,.int .u32 a.d.w] 64 (0,0)
def M4 (acc:Option IT) (m:IT):Option IT:=some (match acc with | none=>m | some a=>snr a m)
def JA (acc:Option IT):It:=match acc with | none => .zero | some a=>a.1
def NQ (acc:Option IT) (t:RB IT):Option IT:=match all? t with | none=>acc | some a=>M4 acc a
def DU (q:IT→Bool):RB IT→Option IT→Option IT
 | .nil,acc=>acc
 | .node l x r _,acc=>bif q x then DU q r (M4 (NQ acc l) x) else DU q l acc
theorem WN (b7 b2 b6 tb:Nat) (p:Option Addr) (n0:Int) (acc:Option IT) (m:IT) (w0:World) (h7:w0.heap[b7]?=some (Gz acc.isSome)) (h2:w0.heap[b2]?=some (zE tb)) (h6:w0.heap[b6]?=some (UL (JA acc))) (hT:w0.heap[tb]?=some (C6 p n0)) :
 AO prog 249 #[iv m.1,.pointer (some ⟨b7,0,none⟩),.pointer (some ⟨b2,0,none⟩),.pointer (some ⟨b6,0,none⟩)] w0 fun v w'=>w'.heap[b7]?=some (Gz true)∧w'.heap[b6]?=some (UL (JA (M4 acc m)))∧AB [b7,b6] w0 w':=by
 have n1:b2≠tb:=A3 h2 hT (by decide);have n2:b6≠tb:=A3 h6 hT (by decide);have n3:b7≠tb:=A3 h7 hT (by decide);have n4:b6≠b2:=A3 h6 h2 (by decide);have n5:b7≠b2:=A3 h7 h2 (by decide);have n6:b7≠b6:=A3 h7 h6 (by decide);have hs:=((((St.nil w0).AH hT AA).AH h2 (by simpa using n1)).AH h6 (by simp [n2,n4])).AH h7 (by simp [n3,n5,n6]);cases acc with
 | none =>
   refine AS func249 ntmps249 ?_;refine Ah ?_;refine Aq ?_;refine bx hs ?_;intro bq wq Lp hs;repeat' (first|refine Sd ?_|(refine st hs ?_;intro w hs)|(refine AV hs ?_;intro w hs)|fail)
   refine JO ?_;have ho:AB [b7,b6] w0 _:=hs.AD [b7,b6] (by simp [h2,hT]) sD;exact ⟨hs.get (At.tail At.head),hs.get (At.tail (At.tail At.head)),ho⟩
 | some a =>
   refine AS func249 ntmps249 ?_;refine Ah ?_;refine Aq ?_;refine bx hs ?_;intro bq wq Lp hs;refine Je ?_;refine dr [7] hs ?_;intro hX w hs;refine tks 0 6 ?_;refine dt 6 hX ?_;refine AZ hs (h:=by exact Ix a m _) ?_;intro w' ho hs;refine Jn ?_;refine dt 7 hX ?_
   repeat' (first|refine Nx.h ?_|(refine AV hs ?_;intro w hs)|fail)
   refine dn ?_;refine en ?_
   repeat' (first|refine Sa ?_|(refine st hs ?_;intro w hs)|(refine AV hs ?_;intro w hs)|fail)
   refine JO ?_;have ho:AB [b7,b6] w0 _:=hs.AD [b7,b6] (by simp [h2,hT]) sD;exact ⟨hs.get (At.tail At.head),hs.get (At.tail (At.tail At.head)),ho⟩
structure G9 (w0:World) (tb b2 b4 b6 b7:Nat) (acc:Option IT) (w:World):Prop where
 o:AB [] w0 w
 h2:w.heap[b2]?=some (zE tb)
 h7:w.heap[b7]?=some (Gz acc.isSome)
 h6:w.heap[b6]?=some (UL (JA acc))
 h4:w.heap[b4]?=some (UL .zero)
theorem G9.only {w0 w w':World} {tb b2 b4 b6 b7:Nat} {acc:Option IT} (h:G9 w0 tb b2 b4 b6 b7 acc w) (ho:AB [] w w'):G9 w0 tb b2 b4 b6 b7 acc w':=by
 obtain ⟨o,h2,h7,h6,h4⟩:=h;exact ⟨o.step ho AA,ho.block h2 AA,ho.block h7 AA,ho.block h6 AA,ho.block h4 AA⟩
theorem G9.add {w0 w w':World} {tb b2 b4 b6 b7:Nat} {acc:Option IT} {m:IT} (h:G9 w0 tb b2 b4 b6 b7 acc w) (g6:w0.heap.size≤b6) (g7:w0.heap.size≤b7) (Nu:b4≠b6)
 (k7:w'.heap[b7]?=some (Gz true)) (k6:w'.heap[b6]?=some (UL (JA (M4 acc m)))) (ho:AB [b7,b6] w w'):G9 w0 tb b2 b4 b6 b7 (M4 acc m) w':=by
 obtain ⟨o,h2,h7,h6,h4⟩:=h;refine ⟨o.step ho (fun k hk=>?_),ho.block h2 (fun hm=>?_),k7,k6,ho.block h4 (fun hm=>?_)⟩
 ·simp only [aCu,aC1,or_false] at hk;rcases hk with rfl | rfl
  ·exact .inr g7
  ·exact .inr g6
 ·simp only [aCu,aC1,or_false] at hm;rcases hm with rfl | rfl
  ·exact A3 h2 h7 (by decide) rfl
  ·exact A3 h2 h6 (by decide) rfl
 ·simp only [aCu,aC1,or_false] at hm;rcases hm with rfl | rfl
  ·exact A3 h4 h7 (by decide) rfl
  ·exact Nu rfl
theorem vP {w:World} {x:IT} {c:Bool} {b:Nat} {av:It} {pr:Option Addr} {fl:List Nat} {a1:RB IT} (hlb:w.heap[b]?=some (ET x av (some ⟨b,0,none⟩) pr c)) (GF:Aj w a1 (some ⟨b,0,none⟩) fl):False:=by
 revert fl
 induction a1 with
 | nil=>rintro fl ⟨h,_⟩;cases h
 | node a y d e ih _ =>
   rintro fl ⟨b',ME,VX,Z5,QO,fr',h1,h2,h3,h4,h5,h6⟩;cases h1;rw [hlb] at h3
   have hp:(some ⟨b,0,none⟩:Option Addr)=VX:=by
    injection h3 with h3;injection h3 with h3;injection h3 with h3
    simp only [List.cons.injEq,Value.pointer.injEq] at h3;exact h3.2.2.2.2.2.2.2.2.2.2.2.2.2.2.1
   rw [← hp] at h5;exact ih h5
theorem mS (tb:Nat) (t:RB IT) (F:List Nat) (w0:World) (h:Cb w0 tb t F) (fid:Nat) (caps:List Value) (q:IT→Bool)
 (hq:∀ (y:IT) (w:World),y∈t.list→AB [] w0 w→AO prog fid (iv y.1 :: caps).toArray w fun v w'=>v = .bool (q y)∧AB [] w w') :
 AO prog 240 #[.pointer (some ⟨tb,0,none⟩),.func (.func fid) #[] caps.toArray] w0 fun v w'=>v = .tuple #[iv (JA (DU q t none)),.bool (DU q t none).isSome]∧AB [] w0 w':=by
 obtain ⟨p,fp,rfl,hT,ht,hnd⟩:=h;have hs:=(St.nil w0).AH hT AA;refine AS func240 ntmps240 ?_;refine Jb ?_;refine Aq ?_;refine bx hs ?_;intro b2 w hz hs;refine al hs ?_;intro b4 w hz hs;refine Jc ?_;refine Aq ?_;refine al hs ?_;intro b6 w hz hs;refine Jb ?_;refine Aq ?_;refine al hs ?_;intro b7 w hz hs
 repeat' (first|refine Sd ?_|(refine st hs ?_;intro w hs)|fail)
 have g2:=hs.new (b2,true) AA rfl;have g4:=hs.new (b4,true) AA rfl;have g6:=hs.new (b6,true) AA rfl;have g7:=hs.new (b7,true) AA rfl;have Nu:b4≠b6:=by have:=hs.nd;simp only [aC2,aC6,aCu,not_or] at this;exact Ne.symm this.2.1.1
 have Dx:G9 w0 tb b2 b4 b6 b7 none _:=⟨hs.AD [] (by simp [hT]) sD,hs.get (At.tail (At.tail (At.tail At.head))),hs.get At.head,hs.get (At.tail At.head),hs.get (At.tail (At.tail At.head))⟩;refine BM (fun _:Unit=>[(4,.pointer (some ⟨b4,0,none⟩)),(6,.pointer (some ⟨b6,0,none⟩)),(7,.pointer (some ⟨b7,0,none⟩))]) (fun _ w=>G9 w0 tb b2 b4 b6 b7 (DU q t none) w) ?_ ?_
 ·refine BH (fun (s:RB IT × Option Addr × Option IT)=>[(1,.func (.func fid) #[] caps.toArray),(2,.pointer (some ⟨b2,0,none⟩)),(4,.pointer (some ⟨b4,0,none⟩)),(6,.pointer (some ⟨b6,0,none⟩)),(7,.pointer (some ⟨b7,0,none⟩)),(8,.func (.func 249) #[] #[.pointer (some ⟨b7,0,none⟩),.pointer (some ⟨b2,0,none⟩),.pointer (some ⟨b6,0,none⟩)]),(9,.pointer s.2.1)])
   (fun s w=>G9 w0 tb b2 b4 b6 b7 s.2.2 w∧DU q t none=DU q s.1 s.2.2∧(∀ y∈s.1.list,y∈t.list)∧∃ Zg,Aj w0 s.1 s.2.1 Zg)
   (fun s=>s.1.list.length) (t,p,none) Ad ⟨Dx,rfl,fun _ h=>h,fp,ht⟩ fun s env w2 ⟨k1,k2,k3,Zg,k4⟩=>?_
  clear hs Dx;obtain ⟨s,ps,acc⟩:=s;dsimp only at k1 k2 k3 k4 ⊢;cases s with
  | nil =>
    obtain ⟨rfl,rfl⟩:=k4;have hs:=St.nil w2;refine Jd ?_;exact Au () Ad (by rw [k2];exact k1.only (hs.AE rfl))
  | node l y r c =>
    obtain ⟨b,av,pl,pr,fl,fr,rfl,rfl,hb,Ct,hl,hr⟩:=k4;have Bv:=k1.o.block hb AA;have CL:=k1.o.block hT AA;have Dq:=C7 hT hb;have d1:b≠b2:=A3 Bv k1.h2 (by decide);have hs:=((St.nil w2).AH k1.h2 AA).AH Bv (by simpa using d1);have k3l:∀ z∈l.list,z∈t.list:=fun z hz=>k3 z (by simp [RB.list,hz]);have k3r:∀ z∈r.list,z∈t.list:=fun z hz=>k3 z (by simp [RB.list,hz]);refine Je ?_;have ho:=hs.AD [] (by simp [Bv,k1.h2]) sD;refine AZ hs (h:=by exact hq y _ (k3 y (by simp [RB.list])) (k1.o.step ho AA)) ?_;intro w' ho hs;cases hqy:q y
    ·have e1:DU q (.node l y r c) acc=DU q l acc:=by simp [DU,hqy]
     rw [e1] at k2;refine Je ?_;exact A2 (l,pl,acc) (by simp only [RB.list,aCv,aCx];omega) Ad ⟨k1.only (hs.AD [] (by simp [Bv,k1.h2]) sD),k2,k3l,fl,hl⟩
    ·have e1:DU q (.node l y r c) acc=DU q r (M4 (NQ acc l) y):=by simp [DU,hqy]
     rw [e1] at k2;have Cq:=k1.only (hs.AD [] (by simp [Bv,k1.h2]) sD);clear k1 Bv CL hs ho
     have aBS:∀ (w:World) (acc:Option IT),G9 w0 tb b2 b4 b6 b7 acc w→b∉[b7,b6]∧tb∉[b7,b6]:=fun w acc k=>by
      have Bv:=k.o.block hb AA;have CL:=k.o.block hT AA;obtain ⟨_,_,k7,k6,_⟩:=k;have e1:=A3 Bv k7 (by decide);have e2:=A3 Bv k6 (by decide);have e3:=A3 CL k7 (by decide);have e4:=A3 CL k6 (by decide);simp [e1,e2,e3,e4]
     have hs:=St.nil w';refine Jl ?_;refine B9 (fun _:Unit=>[(1,.func (.func fid) #[] caps.toArray),(2,.pointer (some ⟨b2,0,none⟩)),(4,.pointer (some ⟨b4,0,none⟩)),(6,.pointer (some ⟨b6,0,none⟩)),(7,.pointer (some ⟨b7,0,none⟩)),(8,.func (.func 249) #[] #[.pointer (some ⟨b7,0,none⟩),.pointer (some ⟨b2,0,none⟩),.pointer (some ⟨b6,0,none⟩)]),(9,.pointer (some ⟨b,0,none⟩)),(35,.bool (!RB.isNil l))]) (fun _ w=>G9 w0 tb b2 b4 b6 b7 acc w) ?_ ?_
     ·have Bv:=Cq.o.block hb AA;clear hs;have hs:=(St.nil w').AH Bv AA;cases l with
      | nil =>
        obtain ⟨rfl,rfl⟩:=hl;refine Ja ?_;exact AQ () Ad (Cq.only (hs.AD [] (by simp [Bv]) sD))
      | node a1 a2 a3 a4 =>
        obtain ⟨_,_,_,_,_,_,rfl,_⟩:=hl;refine Ja ?_;exact AQ () Ad (Cq.only (hs.AD [] (by simp [Bv]) sD))
     clear Cq hs;rintro _ env w3 Cq;refine B9 (fun _:Unit=>[(1,.func (.func fid) #[] caps.toArray),(2,.pointer (some ⟨b2,0,none⟩)),(4,.pointer (some ⟨b4,0,none⟩)),(6,.pointer (some ⟨b6,0,none⟩)),(7,.pointer (some ⟨b7,0,none⟩)),(8,.func (.func 249) #[] #[.pointer (some ⟨b7,0,none⟩),.pointer (some ⟨b2,0,none⟩),.pointer (some ⟨b6,0,none⟩)]),(9,.pointer (some ⟨b,0,none⟩))]) (fun _ w=>G9 w0 tb b2 b4 b6 b7 (NQ acc l) w) ?_ ?_
     ·have Bv:=Cq.o.block hb AA;cases l with
      | nil =>
        have hs:=St.nil w3;refine Jg ?_;exact AQ () Ad Cq
      | node a1 a2 a3 a4 =>
        obtain ⟨lb,X4,eZ,rR,sO,tB,rfl,rfl,hlb,hlav,GF,hlr⟩:=hl;have SW:X4=(K8 a1 a2 a3).1:=hlav;subst SW;have zW:=Cq.o.block hlb AA
        have aBA:lb≠b:=fun e=>by
         subst e;rw [hlb] at hb
         have hp:(some ⟨lb,0,none⟩:Option Addr)=eZ:=by
          injection hb with h3;injection h3 with h3;injection h3 with h3
          simp only [List.cons.injEq,Value.pointer.injEq] at h3;exact h3.2.2.2.2.2.2.2.2.2.2.2.2.2.2.1.symm
         rw [← hp] at hlb GF;exact vP hlb GF
        have hs:=((St.nil w3).AH Bv AA).AH zW (by simpa using aBA);refine Ji ?_;have ho:=hs.AD [] (by simp [Bv,zW]) sD;have D6:=Cq.only ho;obtain ⟨o,q2,q7,q6,_⟩:=id D6;refine cl (h:=by exact WN b7 b2 b6 tb p _ acc (K8 a1 a2 a3) _ q7 q2 q6 (o.block hT AA)) ?_;rintro v w4 ⟨m7,m6,mo⟩;have hs:=St.nil w4;refine Jb ?_;exact AQ () Ad (D6.add g6 g7 Nu m7 m6 mo)
     clear Cq;rintro _ env w4 Cq;have Bv:=Cq.o.block hb AA;have CL:=Cq.o.block hT AA;have d2:b2≠tb:=A3 Cq.h2 CL (by decide);have hs:=(((St.nil w4).AH CL AA).AH Cq.h2 (by simpa using d2)).AH Bv (by simp [d1,Dq]);refine Jb ?_;refine dr [] hs ?_;intro hX w hs;refine tks 0 9 ?_;refine dt 9 hX ?_;refine cl (h:=by exact H8 y.1 _) ?_;rintro v w5 ⟨rfl,ho⟩;replace hs:=hs.AP ho;refine Jn ?_;refine dt 10 hX ?_;have D6:=Cq.only (hs.AD [] (by simp [Bv,CL,Cq.h2]) sD);obtain ⟨o,q2,q7,q6,_⟩:=id D6;refine cl (h:=by exact WN b7 b2 b6 tb p _ (NQ acc l) y _ q7 q2 q6 (o.block hT AA)) ?_;rintro v6 w6 ⟨m7,m6,mo⟩;have hn:=aBS _ _ D6;have Md:=D6.add g6 g7 Nu m7 m6 mo;have Gc:=Md.o.block hb AA;have Fv:=Md.o.block hT AA;clear hs;have hs:=(((St.nil w6).AH Fv AA).AH Md.h2 (by simpa using d2)).AH Gc (by simp [d1,Dq]);refine Jn ?_;refine en ?_;refine Ja ?_;exact A2 (r,pr,M4 (NQ acc l) y) (by simp only [RB.list,aCv,aCx];omega) Ad ⟨Md.only (hs.AD [] (by simp [Gc,Fv,Md.h2]) sD),k2,k3r,fr,hr⟩
 ·rintro _ env w ⟨o,k2,k7,k6,k4⟩;clear hs Dx;have d1:b7≠b6:=A3 k7 k6 (by decide);have d2:b7≠b4:=A3 k7 k4 (by decide);have hs:=(((St.nil w).AH k4 AA).AH k6 (by simpa using Ne.symm Nu)).AH k7 (by simp [d1,d2]);refine Jb ?_
  have hR:∀ {w'':World} {o:Obj},St w D0 [(b7,Gz (DU q t none).isSome,false),(b6,UL (JA (DU q t none)),false),(b4,o,false)] w''→True=True→FC [(b7,Gz (DU q t none).isSome,false),(b6,UL (JA (DU q t none)),false)] w'':=fun hs _ e he=>hs.at_ e (by
   simp only [aCu,aC1,or_false] at he ⊢;rcases he with he | he
   ·exact .inl he
   ·exact .inr (.inl he))
  refine sW [] [(b7,Gz (DU q t none).isSome,false),(b6,UL (JA (DU q t none)),false)] hs ?_;intro hX w hs;refine tks 0 2 ?_;refine dt 2 hX ?_
  repeat' (first|refine Nx.h ?_|(refine AV hs ?_;intro w hs)|fail)
  refine dn ?_;refine tk 3 hX ?_;refine en ?_;refine Jb ?_;refine AG ?_;have ho:=hs.AD [b4] (by simp [k6,k7]) sD;exact ⟨rfl,o.step ho (by simp [g4])⟩
end Go.Proofs.Q0.IB
namespace Go.Proofs.Q0
open Go Go.RowKit Tryz
attribute [local irreducible] XS XC XA AY AR A9 A1 A0 Aa Ae AW SE
theorem aAR:Te (-7) 2 = .tuple #[wv (-4),.int .u64 1,.bool true]:=by kernel_rfl
theorem uU:EW (9223372036854775808*2) = .tuple #[wv 18446744073709551616,.bool true]:=by kernel_rfl
theorem aS (w0:World):AO prog 321 #[] w0 fun v w'=>v = .bool true∧AB [] w0 w':=by
 have hs:=St.nil w0;refine AS func321 ntmps321 ?_;refine Ja ?_;refine AZ hs (h:=by exact Fp (-7) (by decide) (by decide) _) ?_;intro w' ho hs
 skip
 refine AZ hs (h:=by exact Z8 (-7) 2 (by decide) (by decide) (by decide) _) ?_;intro w' ho hs;rw [aAR]
 repeat' (first|refine Sa ?_|(refine AV hs ?_;intro w hs)|(refine al hs ?_;intro b w hz hs)|fail)
 refine AZ hs (h:=by exact Pn 9223372036854775808 (by decide) (by decide) _) ?_;intro w' ho hs
 skip
 refine AZ hs (h:=by exact Pe 9223372036854775808 2 (by decide) (by decide) (by decide) _) ?_;intro w' ho hs;rw [uU]
 repeat' (first|refine Sb ?_|(refine AV hs ?_;intro w hs)|(refine al hs ?_;intro b w hz hs)|fail)
 refine dr [] hs ?_;intro hX w hs;refine tks 0 6 ?_;refine dt 6 hX ?_;refine AZ hs (h:=by exact Fp (-4) (by decide) (by decide) _) ?_;intro w' ho hs;refine Jn ?_;refine tks 7 12 ?_;refine en ?_;refine Jb ?_;refine AG ?_;exact ⟨rfl,hs.AE rfl⟩
theorem YL (s:Int):(Ac s∧EW s = .tuple #[wv s,.bool true])∨(¬ Ac s∧EW s = .tuple #[wv 0,.bool false]):=by
 unfold EW;by_cases h:Ac s
 ·rw [if_pos h];exact .inl ⟨h,rfl⟩
 ·rw [if_neg h];exact .inr ⟨h,rfl⟩
theorem uW {x y:Int}:0 < C1 x y↔y < x:=by unfold C1;repeat' split <;> omega
theorem uP {x y:Int}:C1 x y < 0↔x < y:=by unfold C1;repeat' split <;> omega
theorem step_ret (a n d r:Int) (ha:BY a) (hn:BY n) (hd:BY d) (hr:0≤r) (hrd:r < d) (hp:a*n+r < 18446744073709551616) (iT:0≤a*n) (w0:World) :
 AO prog 318 #[.int .u64 a,.int .u64 n,.int .u64 d,.int .u64 r] w0 fun v w'=>v = .tuple #[.int .u64 ((a*n+r) / d),.int .u64 ((a*n+r) % d),.bool true]∧AB [] w0 w':=by
 have hs:=St.nil w0;obtain ⟨ha0,ha1⟩:=ha;obtain ⟨hn0,KP⟩:=hn;obtain ⟨hd0,hd1⟩:=hd;have e1:a*n / 18446744073709551616=0:=by omega
 have e2:a*n % 18446744073709551616=a*n:=by omega
 have e3:(a*n+r+0) / 18446744073709551616=0:=by omega
 have e4:(a*n+r+0) % 18446744073709551616=a*n+r:=by omega
 refine AS func318 ntmps318 ?_
 repeat' (first|refine Sa ?_|refine Aw rfl (fun hc=>?_) fun hc=>?_|fail)
 ·omega
 ·refine cl (h:=by exact Oe a n ha0 ha1 hn0 KP _) ?_;rw [e1,e2];rintro v w' ⟨rfl,ho⟩;replace hs:=hs.AP ho;refine Ja ?_;refine cl (h:=by exact Ih (a*n) r 0 iT hr (by decide) (by decide) _) ?_;rw [e3,e4];rintro v w' ⟨rfl,rfl⟩
  repeat' (first|refine Sa ?_|refine Aw rfl (fun hc=>?_) fun hc=>?_|fail)
  ·simp only [wrap_u64] at hc;omega
  ·refine AZ hs (h:=by exact O8 0 (a*n+r) d (by decide) om hd1 om hp _) ?_;intro w' ho hs;refine Ja ?_;refine AG ?_;refine ⟨?_,hs.AE rfl⟩;rw [Int.zero_mul,Int.zero_add];rfl
theorem dY (sl:Value) (w0:World) (hL:Cu w0 22 1 sl [[.int .u64 1],[.int .u64 1],[.int .u64 1]]) :
 AO prog 319 #[.int .u64 1,.int .u64 3,.int .u64 0,sl] w0 fun v w'=>v = .tuple #[.int .u64 1,.int .u64 0,.bool true]∧AB [] w0 w':=by
 obtain ⟨ad,cap,rfl,hD⟩:=hL;obtain ⟨b,off,cs,fz,rfl,_,hb,hcs⟩:=hD AA;have hs:=St.nil w0;refine AS func319 ntmps319 ?_;refine Jd ?_;refine BM (fun (_:Unit)=>[(8,.int .u64 1),(2,.int .u64 0)]) (fun _ w=>St w0 D0 [] w) ?_ ?_
 ·refine BH (fun (i:Nat)=>[(0,.int .u64 1),(1,.int .u64 3),(2,.int .u64 ((i % 3:Nat):Int)),(8,.int .u64 ((i / 3:Nat):Int)),(21,.slice (some ⟨b,off,none⟩) 3 cap),(22,.int .i64 (3:Nat)),(23,.int .i64 (i:Nat))])
   (fun i w=>i≤3∧St w0 D0 [] w) (fun i=>3 - i) 0 Ad ⟨aC7 _,hs⟩ fun i env w ⟨hi,hs⟩=>?_
  repeat' (first|refine Sa ?_|refine Aw rfl (fun hc=>?_) fun hc=>?_|fail)
  ·have hlt:i < 3:=by omega
   have hpk:Dk cs (off+i*1) 1 [.int .u64 1]:=by
    have:i=0∨i=1∨i=2:=by omega
    rcases this with rfl | rfl | rfl <;> exact hcs _ _ rfl
   have ei:=DP (m:=3) hlt om;refine ix (h0:=(by omega)) (h1:=(by omega)) ?_;refine lh ((hs.AE rfl).block hb AA) (by cases hpk;assumption) (k:=?_);refine Ja ?_;refine AZ hs (h:=by exact step_ret 1 1 3 ((i % 3:Nat):Int) (by decide) (by decide) (by decide) om om om (by decide) _) ?_;intro w' ho hs;refine Ja ?_;refine cl (h:=by exact Ih ((i / 3:Nat):Int) ((1*1+((i % 3:Nat):Int)) / 3) 0 om om (by decide) (by decide) _) ?_;rintro v w' ⟨rfl,rfl⟩
   repeat' (first|refine Sa ?_|refine xc_cond rfl (fun hc=>?_) fun hc=>?_|fail)
   ·simp only [bne_iff_ne,ne_eq] at hc;omega
   ·have e5:(((i / 3:Nat):Int)+(1*1+((i % 3:Nat):Int)) / 3+0) % 18446744073709551616=(((i+1) / 3:Nat):Int):=by omega
    have e6:(1*1+((i % 3:Nat):Int)) % 3=(((i+1) % 3:Nat):Int):=by omega
    exact A2 (i+1) om (by (repeat (first | exact Ag | (apply A8;first | exact rfl | exact congrArg (Value.int .i64) ei | exact congrArg (Value.int .u64) e5 | exact congrArg (Value.int .u64) e6)))) ⟨by omega,hs⟩
  ·have e:i=3:=by omega
   subst e;exact Au () Ad hs
 ·rintro _ env w hs;refine Ja ?_;refine AG ?_;exact ⟨rfl,hs.AE rfl⟩
theorem Rk (w0:World):AO prog 320 #[] w0 fun v w'=>v = .bool true∧AB [] w0 w':=by
 have hs:=St.nil w0;refine AS func320 ntmps320 ?_;refine Ja ?_;refine AZ hs (h:=by exact aS _) ?_;intro w' ho hs;refine Jc ?_;refine AG ?_;exact ⟨rfl,hs.AE rfl⟩
theorem bJ (w0:World):AO prog 311 #[] w0 fun v w'=>v = .bool true∧AB [] w0 w':=by
 have hs:=St.nil w0;refine AS func311 ntmps311 ?_;refine Ja ?_;refine AZ hs (h:=by exact step_ret 3 5 4 1 (by decide) (by decide) (by decide) (by decide) (by decide) (by decide) (by decide) _) ?_;intro w' ho hs;repeat' (first|refine Sa ?_|(refine bs hs ?_;intro b w hz hs)|fail)
 have hb:=hs.get At.head
 (with_reducible apply Kz);exact rfl;exact rfl;exact dY _ _ ⟨some ⟨_,0,none⟩,3,rfl,fun _=>⟨_,0,_,(0,0),rfl,by decide,hb,fun i x h=>(by
  have:i=0∨i=1∨i=2:=by
   rcases aDL i 3 with h' | h'
   ·omega
   ·rw [aDY (by simp;omega)] at h;cases h
  rcases this with rfl | rfl | rfl <;> (cases h;exact .cons rfl .nil))⟩⟩
 rintro v w' ⟨rfl,ho⟩;replace hs:=hs.AP ho;refine Ja ?_;refine AZ hs (h:=by exact Rk _) ?_;intro w' ho hs;refine Jc ?_;refine AG ?_;exact ⟨rfl,hs.AE rfl⟩
theorem Zz (w0:World):AO prog 308 #[] w0 fun v w'=>v = .bool true∧AB [] w0 w':=by
 have hs:=St.nil w0;refine AS func308 ntmps308 ?_;refine Ja ?_;refine AZ hs (h:=by exact bJ _) ?_;intro w' ho hs;refine Jc ?_;refine AG ?_;exact ⟨rfl,hs.AE rfl⟩
theorem Zm (w0:World):AO prog 312 #[] w0 fun v w'=>v = .bool true∧AB [] w0 w':=by
 have hs:=St.nil w0;refine AS func312 ntmps312 ?_;refine Ja ?_;refine AZ hs (h:=by exact Rk _) ?_;intro w' ho hs;refine Jf ?_;refine cl (h:=by exact Ic _ _ _) ?_;rw [show sn 2 18446744073709551615=3 from by decide];rintro v w' ⟨rfl,ho⟩;replace hs:=hs.AP ho;refine Jc ?_;refine AG ?_;exact ⟨rfl,hs.AE rfl⟩
theorem cK (w0:World):AO prog 309 #[] w0 fun v w'=>v = .bool true∧AB [] w0 w':=by
 have hs:=St.nil w0;refine AS func309 ntmps309 ?_;refine Ja ?_;refine AZ hs (h:=by exact Zm _) ?_;intro w' ho hs;refine Jc ?_;refine AG ?_;exact ⟨rfl,hs.AE rfl⟩
theorem aV (w0:World):AO prog 297 #[] w0 fun v w'=>v = .bool true∧AB [] w0 w':=by
 have hs:=St.nil w0;refine AS func297 ntmps297 ?_;refine Ja ?_;refine cl (h:=by exact RM ⟨5,0,3⟩ 7 (by decide) (by decide) _) ?_;rw [show M1 ⟨5,0,3⟩ 7=some ⟨7,1,3⟩ from by decide]
 rintro v w' ⟨rfl,ho⟩;replace hs:=hs.AP ho;repeat' (first|refine Sa ?_|(refine AV hs ?_;intro w hs)|(refine al hs ?_;intro b w hz hs)|fail)
 refine AZ hs (h:=by exact Zz _) ?_;intro w' ho hs;refine Jf ?_;refine AZ hs (h:=by exact cK _) ?_;intro w' ho hs;refine Jc ?_;refine AG ?_;exact ⟨rfl,hs.AE rfl⟩
theorem dM (w0:World):AO prog 288 #[] w0 fun v w'=>v = .bool true∧AB [] w0 w':=by
 have hs:=St.nil w0;refine AS func288 ntmps288 ?_;refine Ja ?_;refine AZ hs (h:=by exact aV _) ?_;intro w' ho hs;refine Jc ?_;refine AG ?_;exact ⟨rfl,hs.AE rfl⟩
theorem Zy (w0:World):AO prog 282 #[] w0 fun v w'=>v = .bool true∧AB [] w0 w':=by
 have hs:=St.nil w0;refine AS func282 ntmps282 ?_
 repeat' (first|refine Sa ?_|(refine st hs ?_;intro w hs)|(refine AV hs ?_;intro w hs)|(refine al hs ?_;intro b w hz hs)|fail)
 refine AZ hs (h:=by exact dM _) ?_;intro w' ho hs;refine Jf ?_;refine cl (h:=by exact T8 ⟨⟨1,0,1⟩,1,⟨2,0,1⟩⟩ ⟨⟨1,0,1⟩,2,⟨2,0,1⟩⟩ (by decide) (by decide) _) ?_;rw [show due ⟨⟨1,0,1⟩,1,⟨2,0,1⟩⟩ ⟨⟨1,0,1⟩,2,⟨2,0,1⟩⟩=true from by decide];rintro v w' ⟨rfl,ho⟩;replace hs:=hs.AP ho;refine Jf ?_;refine cl (h:=by exact T8 ⟨⟨1,0,1⟩,2,⟨2,0,1⟩⟩ ⟨⟨1,0,1⟩,1,⟨2,0,1⟩⟩ (by decide) (by decide) _) ?_;rw [show due ⟨⟨1,0,1⟩,2,⟨2,0,1⟩⟩ ⟨⟨1,0,1⟩,1,⟨2,0,1⟩⟩=false from by decide];rintro v w' ⟨rfl,ho⟩;replace hs:=hs.AP ho;refine Jc ?_;refine AG ?_;exact ⟨rfl,hs.AE rfl⟩
theorem dO (w0:World):AO prog 279 #[] w0 fun v w'=>v = .bool true∧AB [] w0 w':=by
 have hs:=St.nil w0;refine AS func279 ntmps279 ?_;refine Ja ?_;refine AZ hs (h:=by exact Zy _) ?_;intro w' ho hs;refine Jc ?_;refine AG ?_;exact ⟨rfl,hs.AE rfl⟩
end Go.Proofs.Q0
namespace Go.Proofs.Q0.IB
open Go Go.RowKit Tryz
attribute [local irreducible] XS XC XA AY AR A9 A1 A0 Aa Ae AW SE
def IA (l:List IT):RB IT:=l.foldl (fun t x=>RB.insert t x) .nil
theorem QL (l:List IT) (x:IT):IA (l ++ [x])=RB.insert (IA l) x:=by unfold IA;rw [aDh];rfl
theorem bO (t:RB IT) (x:IT):(RB.insert t x).list.length≤t.list.length+1:=by
 unfold RB.insert;cases RB.has Cy x t
 ·rw [cond_false,RB.Iu,FF];exact aC5 _
 ·rw [cond_true];omega
theorem Nb (l:List IT):∀ i,(IA (l.take i)).list.length≤i
 | 0=>by simp [IA,RB.list]
 | i+1=>by
   rcases aDL i l.length with h | h
   ·rw [CH h,QL];have:=Nb l i;have:=bO (IA (l.take i)) l[i];omega
   ·have:=Nb l i;rw [aDM h] at this;rw [aDM om];omega
theorem Cb.Ai {w w':World} {tb:Nat} {t:RB IT} {F G:List Nat} (h:Cb w tb t F) (ho:AB G w w') (hd:∀ k∈F,k∉G):Cb w' tb t F:=by
 obtain ⟨p,fp,rfl,h1,h2,h3⟩:=h;exact ⟨p,fp,rfl,ho.block h1 (hd tb aCw),h2.Ai ho (fun k hk=>hd k (aCy _ hk)),h3⟩
theorem Cb.only {w w':World} {tb:Nat} {t:RB IT} {F:List Nat} (h:Cb w tb t F) (ho:AB [] w w'):Cb w' tb t F:=h.Ai ho AA
theorem Cb.lt {w:World} {tb:Nat} {t:RB IT} {F:List Nat} (h:Cb w tb t F):∀ b∈F,b < w.heap.size:=by
 obtain ⟨p,fp,rfl,h1,h2,h3⟩:=h;intro b hb;rcases aCu.1 hb with rfl | hb
 ·exact lt_of_block h1
 ·exact h2.nodes.lt b hb
theorem Cb.not {w:World} {tb:Nat} {t:RB IT} {F:List Nat} (h:Cb w tb t F) {b:Nat} {cs:Array Value} {ty:Nat} {fz:Nat × Nat} (hb:w.heap[b]?=some (.cells cs ty fz)) (h1:ty≠276) (h2:ty≠199):b∉F:=fun hm=>by
 obtain ⟨p,fp,rfl,k1,k2,k3⟩:=h;rcases aCu.1 hm with rfl | hm
 ·exact A3 hb k1 h2 rfl
 ·obtain ⟨cs',lM,k4⟩:=k2.nodes b hm;exact A3 hb k4 h1 rfl
theorem Pv (l:List IT) (sl:Value) (hm:l.length≤1000000) (w0:World) (hP:DF w0 sl l) :
 AO prog 136 #[sl] w0 fun v w'=>(∃ tb F,v = .agg #[.pointer (some ⟨tb,0,none⟩)]∧Cb w' tb (IA l) F∧∀ k∈F,w0.heap.size≤k)∧AB [] w0 w':=by
 obtain ⟨ad,cap,rfl,hD⟩:=hP;rw [aC0,aC0] at *;have hs:=St.nil w0;refine AS func136 ntmps136 ?_;refine Ah ?_;refine Aq ?_;refine al hs ?_;intro b2 w hz hs
 repeat' (first|refine Aq ?_|refine Nx.h ?_|fail)
 refine cl (h:=by exact MZ _) ?_;rintro v w1 ⟨⟨tb,F0,rfl,hT0,Dx⟩,ho⟩;replace hs:=hs.AP ho;have n2:=hs.new (b2,true) AA rfl;simp only at n2;have Ds:=hs.get At.head;have AL:AB [] w0 w1:=hs.AE rfl;have J0:=AL.size;have Cq:∀ k∈F0,w0.heap.size≤k:=fun k hk=>by have:=Dx k hk;omega
 clear hs;have hs:=(St.nil w1).AH Ds AA;refine vs ?_;refine al hs ?_;intro b3 w3 Nz hs
 repeat' (first|refine Sa ?_|(refine AV hs ?_;intro w hs)|fail)
 have n3:=hs.new (b3,true) AA rfl;simp only at n3;have AN:=hs.AD [] (by simp [Ds]) sD
 refine BM (fun (_:Unit)=>[(2,.pointer (some ⟨b2,0,none⟩)),(3,.pointer (some ⟨b3,0,none⟩))])
  (fun _ w=>AB [] w0 w∧w.heap[b2]?=some (.cells #[.pointer none] 111 (0,0))∧w.heap[b3]?=some (.cells #[.pointer (some ⟨tb,0,none⟩)] 111 (0,0))∧∃ F,Cb w tb (IA l) F∧∀ k∈F,w0.heap.size≤k) ?_ ?_
 ·refine BH (fun (i:Nat)=>[(2,.pointer (some ⟨b2,0,none⟩)),(3,.pointer (some ⟨b3,0,none⟩)),(8,.slice ad l.length cap),(9,.int .i64 (l.length:Nat)),(10,.int .i64 (i:Nat))])
   (fun i w=>i≤l.length∧AB [] w0 w∧w.heap[b2]?=some (.cells #[.pointer none] 111 (0,0))∧w.heap[b3]?=some (.cells #[.pointer (some ⟨tb,0,none⟩)] 111 (0,0))∧∃ F,Cb w tb (IA (l.take i)) F∧∀ k∈F,w0.heap.size≤k)
   (fun i=>l.length - i) 0 Ad ⟨aC7 _,AL.step AN AA,hs.get (At.tail At.head),hs.get At.head,F0,hT0.only AN,Cq⟩ fun i env w ⟨hi,ho,h2,h3,F,hT,hF⟩=>?_
  clear hs AN;have hs:=(St.nil w).AH h3 AA
  repeat' (first|refine Sa ?_|refine Aw rfl (fun hc=>?_) fun hc=>?_|fail)
  ·have hlt:i < l.length:=by omega
   obtain ⟨b,off,cs,fz,rfl,_,hb,hcs⟩:=hD (fun h=>by have:=congrArg List.length h;rw [aC0,aC0,aDA] at this;omega);have hpk:=hcs i (It.cells l[i].1) (by rw [aC8,aC8,aC3 hlt];rfl);have ei:=DP hlt (show l.length≤9223372036854775807 by omega);have Kh:=QL (l.take i) l[i];rw [← CH hlt] at Kh;have hlen:=Nb l i;generalize l[i]=x at *;refine ix (h0:=(by omega)) (h1:=(by omega)) ?_;refine Ia (ho.block hb AA) hpk ?_;refine al hs ?_;intro b5 w5 hz5 hs
   repeat' (first|refine Sa ?_|(refine AV hs ?_;intro w hs)|fail)
   have AU:=hs.AD [] (by simp [h3]) sD;refine cl (h:=by exact Fx tb _ F x _ (hT.only AU) om) ?_;rintro v w6 ⟨rfl,F',V7,C0,Ao⟩;have k3:=Ao.block (hs.get (At.tail At.head)) ((hT.only AU).not (hs.get (At.tail At.head)) (by decide) (by decide));have k2:=Ao.block (AU.block h2 AA) ((hT.only AU).not (AU.block h2 AA) (by decide) (by decide));have Nz:=AU.size;have hzz:=ho.size;clear hs;have hs:=St.nil w6;refine Ja ?_;refine A2 (i+1) om (by (repeat (first | exact Ag | (apply A8;first | exact rfl | exact congrArg (Value.int .i64) ei)))) ⟨by omega,(ho.step AU AA).step (Ao.trans (hs.AE rfl)) (fun k hk=>?_),k2,k3,F',by rw [Kh];exact V7,fun k hk=>?_⟩
   ·rw [aDP] at hk;exact .inr (hF k hk)
   ·rcases C0 k hk with h | h
    ·exact hF k h
    ·omega
  ·have e:i=l.length:=by omega
   rw [e,aDK] at hT;exact Au () Ad ⟨ho,h2,h3,F,hT,hF⟩
 ·rintro _ env w ⟨ho,h2,h3,F,hT,hF⟩;clear hs AN;by_cases g3:b3=b2
  ·subst g3;rw [h2] at h3;cases h3
  have hs:=((St.nil w).AH h3 AA).AH h2 (by simpa using Ne.symm g3)
  repeat' (first|refine Sa ?_|(refine AV hs ?_;intro w hs)|fail)
  refine AG ?_;have Ar:=hs.AD [b2] (by simp [h3]) sD;exact ⟨⟨tb,F,rfl,hT.Ai Ar (fun k hk hm=>by obtain rfl:=List.mem_singleton.1 hm;exact hT.not h2 (by decide) (by decide) hk),hF⟩,ho.step Ar (by simp [n2])⟩
theorem O9 (id t d:Int) (w0:World):AO prog 277 #[.int .i64 id,.int .u64 t,.int .u64 d] w0 fun v w'=>v=iv ⟨⟨t,0,1⟩,id,⟨d,0,1⟩⟩∧AB [] w0 w':=by
 have hs:=St.nil w0;refine AS func277 ntmps277 ?_
 repeat' (first|refine Sa ?_|(refine AV hs ?_;intro w hs)|(refine al hs ?_;intro b w hz hs)|fail)
 refine AG ?_;exact ⟨rfl,hs.AE rfl⟩
theorem zG (a:It) (w0:World):AO prog 278 #[iv a] w0 fun v w'=>v = .bool (decide (a.p.t < 3))∧AB [] w0 w':=by
 have hs:=St.nil w0;refine AS func278 ntmps278 ?_
 repeat' (first|refine Sa ?_|(refine bx hs ?_;intro b w hz hs)|fail)
 refine AG ?_;exact ⟨rfl,hs.AE rfl⟩
theorem OV (tb:Nat) (t:RB IT) (F:List Nat) (w0:World) (h:Cb w0 tb t F) (fid:Nat) (caps:List Value) (q:IT→Bool)
 (hq:∀ (y:IT) (w:World),y∈t.list→AB [] w0 w→AO prog fid (iv y.1 :: caps).toArray w fun v w'=>v = .bool (q y)∧AB [] w w') :
 AO prog 228 #[.agg #[.pointer (some ⟨tb,0,none⟩)],.func (.func fid) #[] caps.toArray] w0 fun v w'=>v = .tuple #[iv (JA (DU q t none)),.bool (DU q t none).isSome]∧AB [] w0 w':=by
 have hs:=St.nil w0;refine AS func228 ntmps228 ?_
 repeat' (first|refine Sa ?_|(refine al hs ?_;intro b w hz hs)|(refine bx hs ?_;intro b w hz hs)|fail)
 have ho:=hs.AE rfl;refine AZ hs (h:=by exact mS tb t F _ (h.only ho) fid caps q (fun y w hy hw=>hq y w hy (ho.step hw AA))) ?_;intro w' ho hs;repeat' (first|refine Sb ?_|(refine AV hs ?_;intro w hs)|fail)
 refine AG ?_;exact ⟨rfl,hs.AE rfl⟩
theorem c9 (w0:World):AO prog 280 #[] w0 fun v w'=>v = .bool true∧AB [] w0 w':=by
 have hs:=St.nil w0;refine AS func280 ntmps280 ?_;refine Ja ?_;refine AZ hs (h:=by exact cI _) ?_;intro w' ho hs;refine Jc ?_;refine AG ?_;exact ⟨rfl,hs.AE rfl⟩
def ex1:IT:=⟨⟨⟨1,0,1⟩,1,⟨9,0,1⟩⟩,by decide⟩
def wS:IT:=⟨⟨⟨2,0,1⟩,2,⟨5,0,1⟩⟩,by decide⟩
def ex3:IT:=⟨⟨⟨3,0,1⟩,3,⟨4,0,1⟩⟩,by decide⟩
theorem its_arr {w:World} {b:Nat} {l:List IT} (hn:l.length=3) (hb:w.heap[b]?=some (.cells (Bi l).toArray 64 (0,0))):DF w (.slice (some ⟨b,0,none⟩) 3 3) l:=by
 have e:(Bi l).length=21:=by
  have:∀ l:List IT,(Bi l).length=7*l.length:=fun l=>by
   induction l with
   | nil=>rfl
   | cons a l ih=>unfold Bi at ih ⊢;rw [aC2,List.flatten_cons,aCv,ih,show (a.1.cells).length=7 from rfl,aCx];omega
  rw [this,hn]
 refine Od (G:=[b]) (.inr ⟨b,3,Bi l,by rw [hn],rfl,by omega,by rw [e],by rw [e,hn],?_,hb⟩);rw [hn];exact aDM (by rw [e];exact aC5 _)
theorem dG (w0:World):AO prog 274 #[] w0 fun v w'=>v = .bool true∧AB [] w0 w':=by
 have hs:=St.nil w0;refine AS func274 ntmps274 ?_;refine Ja ?_;refine AZ hs (h:=by exact O9 1 1 9 _) ?_;intro w' ho hs;skip;refine AZ hs (h:=by exact O9 2 2 5 _) ?_;intro w' ho hs;skip;refine AZ hs (h:=by exact O9 3 3 4 _) ?_;intro w' ho hs;repeat' (first|(refine bs hs ?_;intro b w hz hs)|fail)
 refine cl (h:=by exact Pv [ex1,wS,ex3] _ (by decide) _ (its_arr rfl (hs.get At.head))) ?_;rintro v w1 ⟨⟨tb,F,rfl,hT,hF⟩,ho⟩;replace hs:=hs.AP ho;have AL:AB [] w0 w1:=hs.AE rfl;clear hs;have hs:=St.nil w1
 repeat' (first|refine Sa ?_|(refine AV hs ?_;intro w hs)|(refine al hs ?_;intro b w hz hs)|fail)
 refine cl (h:=by exact OV tb _ F _ (hT.only (hs.AE rfl)) 278 [] (fun y=>decide (y.1.p.t < 3)) (fun y w _ _=>zG y.1 w)) ?_;rw [show (DU (fun y=>decide (y.1.p.t < 3)) (IA [ex1,wS,ex3]) none)=some wS from by kernel_rfl]
 rintro v w' ⟨rfl,ho⟩;replace hs:=hs.AP ho;repeat' (first|refine Sa ?_|(refine AV hs ?_;intro w hs)|(refine al hs ?_;intro b w hz hs)|fail)
 refine AZ hs (h:=by exact dO _) ?_;intro w' ho hs;refine Jf ?_;refine AZ hs (h:=by exact c9 _) ?_;intro w' ho hs;refine Jc ?_;refine AG ?_;exact ⟨rfl,AL.trans (hs.AE rfl)⟩
theorem aJ (w0:World):AO prog 272 #[] w0 fun v w'=>v = .bool true∧AB [] w0 w':=by
 have hs:=St.nil w0;refine AS func272 ntmps272 ?_;refine Ja ?_;refine AZ hs (h:=by exact dG _) ?_;intro w' ho hs;refine Jc ?_;refine AG ?_;exact ⟨rfl,hs.AE rfl⟩
def MG (l r:RB IT) (c:Bool):Bool:=bif !l.red && !r.red then true else c
def RO (x:IT):RB IT→Option (RB IT)
 | .nil=>none
 | .node l y r c=>RB.cut Cy x (RB.node l y r c).list.length (.node l y r (MG l r c))
structure nK (w1:World) (b tb bq:Nat) (y:IT) (av:It) (pl pr:Option Addr) (n:Int) (x:IT) (q:Bool) (w:World):Prop where
 o:AB [b] w1 w
 hb:w.heap[b]?=some (ET y av pl pr q)
 hT:w.heap[tb]?=some (C6 (some ⟨b,0,none⟩) n)
 hQ:w.heap[bq]?=some (cN x.1)
theorem V4 (tb:Nat) (t:RB IT) (F:List Nat) (x:IT) (t1:RB IT) (w0:World) (h:Cb w0 tb t F) (hd:RB.has Cy x t=true→RO x t=some t1∧t1.list.length+1=t.list.length) (hlen:t.list.length≤1000000) :
 AO prog 221 #[.pointer (some ⟨tb,0,none⟩),iv x.1] w0 fun v w'=>v = .bool (RB.has Cy x t)∧∃ F',Cb w' tb (bif RB.has Cy x t then RB.blacken t1 else t) F'∧(∀ k∈F',k∈F∨w0.heap.size≤k)∧AB F w0 w':=by
 obtain ⟨p,fp,rfl,hT,ht,hnd⟩:=h;have hs:=St.nil w0;have Vt:=lt_of_block hT;have rQ:=ht.nodes.lt;refine AS func221 ntmps221 ?_;refine Ah ?_;refine Aq ?_;refine bx hs ?_;intro bq wq Lp hs;refine Ja ?_;have Ir:=hs.new (bq,true) AA rfl;simp only at Ir;have BP:=hs.AE rfl;refine cl (h:=by exact Pa tb p _ t fp x _ (BP.block hT AA) (ht.keep BP (AM.nil _) AA)) ?_;rintro v w1 ⟨rfl,ho⟩;replace hs:=hs.AP ho;have AL:=hs.AE rfl;cases hh:RB.has Cy x t
 ·rw [cond_false];refine Je ?_;refine AG ?_;have AL:=hs.AE rfl;exact ⟨rfl,tb :: fp,Cb.only ⟨p,fp,rfl,hT,ht,hnd⟩ AL,fun k hk => .inl hk,AL.weaken AA⟩
 ·rw [cond_true];obtain ⟨hd,Mf⟩:=hd hh;cases t with
  | nil=>cases hh
  | node l y r c =>
  unfold RO at hd;obtain ⟨b,av,pl,pr,fl,fr,rfl,rfl,hb,Ct,hl,hr⟩:=ht;have Dq:=C7 hT hb;have Bo:=head_keep hT AL (AM.nil _);have CE:=AL.block hb AA;have KU:=hl.keep AL (AM.nil _) AA;have Mq:=hr.keep AL (AM.nil _) AA;have wO:AM w1 [b]:=AM.cons CE (AM.nil _);have OC:b∉fl∧b∉fr:=by simp only [aC6,aC4,not_or] at hnd;exact hnd.1
  have ZA:=hs.get At.head;have UX:nK w1 b tb bq y av pl pr ((RB.node l y r c).list.length:Nat) x c w1:=⟨AB.refl _ _,CE,Bo,ZA⟩;clear hs;have hs:=((St.nil w1).AH Bo AA).AH CE (by simpa using Dq)
  have yP:IntKind.i64.wrap (((RB.node l y r c).list.length:Nat) - 1)=((t1.list.length:Nat):Int):=by
   rw [KI om om];omega
  refine Jl ?_;refine B9 (fun _:Unit=>[(0,.pointer (some ⟨tb,0,none⟩)),(3,.pointer (some ⟨bq,0,none⟩)),(28,.bool (!l.red && !r.red))]) (fun _ w=>AB [] w1 w) ?_ ?_
  ·refine Jk ?_;refine AZ hs (h:=by exact Bg l pl fl _ (KU.keep (hs.AD [] (by simp [Bo,CE]) sD) (AM.nil _) AA)) ?_;intro w' ho hs;cases hq:l.red
   ·refine Jf ?_;refine AZ hs (h:=by exact Bg r pr fr _ (Mq.keep (hs.AD [] (by simp [Bo,CE]) sD) (AM.nil _) AA)) ?_;intro w' ho hs;generalize r.red=q2;refine Jc ?_;exact AQ () Ad (hs.AD [] (by simp [Bo,CE]) sD)
   ·refine Jj ?_;exact AQ () Ad (hs.AD [] (by simp [Bo,CE]) sD)
  clear hs;rintro _ env wA BF;have S4:nK w1 b tb bq y av pl pr ((RB.node l y r c).list.length:Nat) x c wA:=⟨BF.weaken AA,BF.block CE AA,BF.block Bo AA,BF.block ZA AA⟩;refine B9 (fun _:Unit=>[(0,.pointer (some ⟨tb,0,none⟩)),(3,.pointer (some ⟨bq,0,none⟩))]) (fun _ w=>nK w1 b tb bq y av pl pr ((RB.node l y r c).list.length:Nat) x (MG l r c) w) ?_ ?_
  ·unfold MG;cases hq:(!l.red && !r.red)
   ·refine Jg ?_;exact AQ () Ad S4
   ·have hs:=((St.nil wA).AH S4.hT AA).AH S4.hb (by simpa using Dq)
    repeat' (first|refine Sc ?_|(refine st hs ?_;intro w hs)|fail)
    have AN:=hs.AD [b] (by simp [S4.hT]) sD;exact AQ () Ad ⟨S4.o.step AN (fun k hk => .inl hk),hs.get At.head,hs.get (At.tail At.head),AN.block S4.hQ (by simpa using A3 S4.hQ S4.hb (by decide))⟩
  clear S4 BF UX;rintro _ env wB hI;have n1:=A3 hI.hQ hI.hb (by decide);have n2:=A3 hI.hQ hI.hT (by decide);have htr:Aj wB (.node l y r (MG l r c)) (some ⟨b,0,none⟩) (b :: (fl ++ fr)):=⟨b,av,pl,pr,fl,fr,rfl,rfl,hI.hb,Ct,KU.keep hI.o wO (fun k hk hm=>by obtain rfl:=List.mem_singleton.1 hm;exact OC.1 hk),Mq.keep hI.o wO (fun k hk hm=>by obtain rfl:=List.mem_singleton.1 hm;exact OC.2 hk)⟩;have oB:AB (b :: (fl ++ fr)) w0 wB:=(AL.weaken AA).step hI.o (fun k hk => .inl (by obtain rfl:=List.mem_singleton.1 hk;exact aCw));have hs:=((St.nil wB).AH hI.hT AA).AH hI.hQ (by simpa using n2);refine Jb ?_;refine dr [10] hs ?_;intro hX w hs;refine tks 0 7 ?_;refine dt 7 hX ?_;have AN:=hs.AD [] (by simp [hI.hT,hI.hQ]) sD;have pR:=htr.keep AN (AM.nil _) AA;have CL:=hs.get (At.tail At.head);have SU:=hs.get At.head;refine cl (h:=by exact TG tb _ _ x _ _ t1 _ _ _ CL pR hnd (by simpa [RB.list] using hlen) hd) ?_;rintro v w3 ⟨p',Ci,rfl,k1,k2,k3,k4⟩;have o2:=oB.step AN AA;have Oi:=sub_up (fun k hk => .inl hk) k3 o2.size;have k4':=o2.step k4 (fun k hk => .inl hk);have Fv:=head_keep CL k4 pR.nodes;have Ff:=k4.block SU (nodes_q pR.nodes SU);clear hs;cases t1 with
  | nil =>
    obtain ⟨rfl,rfl⟩:=k1;have hs:=((St.nil w3).AH Fv AA).AH Ff (by simpa using n2);refine Jn ?_;refine tks 8 2 ?_;refine dt 10 hX ?_
    repeat' (first|refine Nx.h ?_|(refine st hs ?_;intro w hs)|fail)
    refine dn ?_;refine en ?_
    repeat' (first|refine Sd ?_|(refine st hs ?_;intro w hs)|fail)
    refine AG ?_;rw [yP] at hs;have Ar:AB [tb] w3 _:=hs.AD [tb] (by simp [Ff]) sD;refine ⟨rfl,[tb],⟨none,[],rfl,hs.get (At.tail At.head),⟨rfl,rfl⟩,List.nodup_nil⟩,?_,?_⟩
    ·exact fun k hk => .inl (by obtain rfl:=List.mem_singleton.1 hk;exact aCw)
    ·exact (k4'.weaken (fun k hk=>aCy _ hk)).step Ar (fun k hk => .inl (by obtain rfl:=List.mem_singleton.1 hk;exact aCw))
  | node l1 y1 r1 c1 =>
    obtain ⟨b',ME,VX,Z5,QO,fr',rfl,rfl,hb',aBk,hl',hr'⟩:=k1;have aBM:=C7 Fv hb';have aBd:=A3 hb' Ff (by decide);have hs:=(((St.nil w3).AH Fv AA).AH Ff (by simpa using n2)).AH hb' (by simp [aBM,aBd]);refine Jn ?_;refine tks 8 2 ?_;refine dt 10 hX ?_
    repeat' (first|refine Nx.h ?_|(refine st hs ?_;intro w hs)|fail)
    refine dn ?_;refine en ?_
    repeat' (first|refine Sc ?_|(refine st hs ?_;intro w hs)|fail)
    refine AG ?_;rw [yP] at hs;have Ar:AB [b',tb] w3 _:=hs.AD [b',tb] (by simp [Ff]) sD
    have wZ:b'∉QO∧b'∉fr':=by
     simp only [aC6,aC4,not_or] at k2;exact k2.1
    have Ub:tb∉QO∧tb∉fr':=⟨(fun h=>by obtain ⟨_,_,h⟩:=hl'.nodes tb h;rw [Fv] at h;cases h),(fun h=>by obtain ⟨_,_,h⟩:=hr'.nodes tb h;rw [Fv] at h;cases h)⟩;refine ⟨rfl,tb :: (b' :: (QO ++ fr')),⟨_,_,rfl,hs.get (At.tail (At.tail At.head)),⟨b',ME,VX,Z5,QO,fr',rfl,rfl,hs.get At.head,aBk,GQ hl' Ar hb' Fv wZ.1 Ub.1,GQ hr' Ar hb' Fv wZ.2 Ub.2⟩,k2⟩,?_,?_⟩
    ·intro k hk;rcases aCu.1 hk with rfl | hk
     ·exact .inl aCw
     ·rcases Oi k hk with h | h
      ·exact .inl (aCy _ h)
      ·exact .inr h
    ·refine (k4'.weaken (fun k hk=>aCy _ hk)).step Ar (fun k hk=>?_);simp only [aCu,aC1,or_false] at hk;rcases hk with rfl | rfl
     ·rcases Oi k aCw with h | h
      ·exact .inl (aCy _ h)
      ·exact .inr h
     ·exact .inl aCw
theorem Nr:∀ (t:RB IT) (p:Option Addr) (fp:List Nat) (w0:World) (h:Aj w0 t p fp),AO prog 224 #[.pointer p] w0 fun v w'=>(∃ p' Ci,v = .pointer p'∧Aj w' t p' Ci∧Ci.Nodup∧∀ k∈Ci,w0.heap.size≤k)∧AB [] w0 w'
 | .nil,p,fp,w0,⟨hp,hf⟩=>by
   subst hp;have hs:=St.nil w0;refine AS func224 ntmps224 ?_;refine Je ?_;refine AG ?_;exact ⟨⟨none,[],rfl,⟨rfl,rfl⟩,List.nodup_nil,fun k h=>by cases h⟩,hs.AE rfl⟩
 | .node l y r c,p,fp,w0,⟨b,av,pl,pr,fl,fr,hp,hf,hb,Ct,hl,hr⟩=>by
   subst hp hf;have hs:=(St.nil w0).AH hb AA;refine AS func224 ntmps224 ?_;refine Jb ?_;refine Aq ?_;refine Jc ?_;refine Aq ?_;refine Jl ?_;refine Aq ?_;refine vs ?_;refine vs ?_;refine vs ?_;refine al hs ?_;intro b3 w hz hs
   repeat' (first|refine Nx.h ?_|(refine AV hs ?_;intro w hs)|fail)
   have hnew:=hs.new (b3,true) AA rfl;refine dr [11,13] hs ?_;intro hX w hs;refine tks 0 4 ?_;refine tks 5 4 ?_;refine dt 4 hX ?_;have AL:=hs.AD [] (by simp [hb]) sD;have Gc:=hs.get At.head;refine cl (h:=by exact Nr l pl fl _ (hl.keep AL (AM.nil _) AA)) ?_;rintro v w1 ⟨⟨VX,QO,rfl,hl',aA4,yZ⟩,ho⟩;replace hs:=hs.AP ho;refine Jn ?_;refine dt 9 hX ?_;have AN:=hs.AD [] (by simp [hb]) sD;refine cl (h:=by exact Nr r pr fr _ (hr.keep AN (AM.nil _) AA)) ?_;rintro v w2 ⟨⟨Z5,fr',rfl,hr',aB5,nS⟩,ho'⟩;replace hs:=hs.AP ho';have hl2:=hl'.keep ho' (AM.nil _) AA;have AU:=hs.AD [] (by simp [hb]) sD;have hb4:=hs.get At.head;have XJ:=hs.get (At.tail At.head);have aCe:=AL.size;have hsz:=ho.size;have aAC:=AN.size;have hlt3:=lt_of_block Gc;have d1:b3∉QO:=fun h=>by have:=yZ b3 h;omega
   have d2:b3∉fr':=fun h=>by have:=nS b3 h;have:=hl'.nodes.lt;omega
   have d3:∀ i∈QO,∀ j∈fr',i≠j:=fun i hi j hj e=>by
    subst e;have:=nS i hj;have:=hl'.nodes.lt i hi;omega
   have xI:b3≠b:=fun e=>by subst e;have:=lt_of_block hb;have:w0.heap.size≤b3:=hnew;omega
   refine Jn ?_;refine tk 10 hX ?_;clear hs;have hs:=((St.nil w2).AH XJ AA).AH hb4 (by simpa using xI);refine dt 11 hX ?_
   repeat' (first|refine Nx.h ?_|(refine st hs ?_;intro w hs)|fail)
   refine dn ?_;refine tk 12 hX ?_;refine dt 13 hX ?_
   repeat' (first|refine Nx.h ?_|(refine st hs ?_;intro w hs)|fail)
   refine dn ?_;refine en ?_;refine Ja ?_;refine AG ?_;have Ar:AB [b3] w2 _:=hs.AD [b3] (by simp [XJ]) sD;have hN:AM w2 [b3]:=AM.cons hb4 (AM.nil _);refine ⟨⟨_,b3 :: (QO ++ fr'),rfl,⟨b3,_,VX,Z5,QO,fr',rfl,rfl,hs.get At.head,Ct,hl2.keep Ar hN (fun k hk hm=>d1 (by obtain rfl:=List.mem_singleton.1 hm;exact hk)),hr'.keep Ar hN (fun k hk hm=>d2 (by obtain rfl:=List.mem_singleton.1 hm;exact hk))⟩,?_,?_⟩,AU.step Ar (fun k hk => .inr (by obtain rfl:=List.mem_singleton.1 hk;exact hnew))⟩
   ·simp only [aC6,aDG,aC4];exact ⟨fun h=>by rcases h with h | h;exact d1 h;exact d2 h,aA4,aB5,d3⟩
   ·intro k hk;rcases aCu.1 hk with rfl | hk
    ·exact hnew
    ·rcases aC4.1 hk with hk | hk
     ·have:=yZ k hk;omega
     ·have:=nS k hk;omega
theorem Yk (tb:Nat) (t:RB IT) (F:List Nat) (w0:World) (h:Cb w0 tb t F):AO prog 201 #[.pointer (some ⟨tb,0,none⟩)] w0 fun v w'=>(∃ E5 F',v = .pointer (some ⟨E5,0,none⟩)∧Cb w' E5 t F'∧∀ k∈F',w0.heap.size≤k)∧AB [] w0 w':=by
 obtain ⟨p,fp,rfl,hT,ht,hnd⟩:=h;have hs:=(St.nil w0).AH hT AA;refine AS func201 ntmps201 ?_;refine Jb ?_;refine Aq ?_;refine Jc ?_;refine Aq ?_;refine Jl ?_;refine Aq ?_;refine vs ?_;refine vs ?_;refine vs ?_;refine al hs ?_;intro b3 w hz hs
 repeat' (first|refine Sa ?_|(refine AV hs ?_;intro w hs)|fail)
 have hnew:=hs.new (b3,true) AA rfl;have AL:=hs.AD [] (by simp [hT]) sD;have Gc:=hs.get At.head;have hlt3:=lt_of_block Gc;refine cl (h:=by exact Nr t p fp _ (ht.keep AL (AM.nil _) AA)) ?_;rintro v w1 ⟨⟨p',Ci,rfl,ht',hn',hg'⟩,ho⟩;replace hs:=hs.AP ho;have hb4:=hs.get At.head;have Si:=hs.get (At.tail At.head);have AN:=hs.AD [] (by simp [hT]) sD;have Dq:b3≠tb:=fun e=>by subst e;have:=lt_of_block hT;have:w0.heap.size≤b3:=hnew;omega
 have d1:b3∉Ci:=fun h=>by have:=hg' b3 h;omega
 clear hs;have hs:=((St.nil w1).AH Si AA).AH hb4 (by simpa using Dq)
 repeat' (first|refine Sa ?_|(refine st hs ?_;intro w hs)|fail)
 refine AG ?_;have Ar:AB [b3] w1 _:=hs.AD [b3] (by simp [Si]) sD;refine ⟨⟨b3,b3 :: Ci,rfl,⟨p',Ci,rfl,hs.get At.head,ht'.Ai Ar (fun k hk hm=>d1 (by obtain rfl:=List.mem_singleton.1 hm;exact hk)),hn'⟩,fun k hk=>?_⟩,AN.step Ar (fun k hk => .inr (by obtain rfl:=List.mem_singleton.1 hk;exact hnew))⟩
 ·rcases aCu.1 hk with rfl | hk
  ·exact hnew
  ·have:=hg' k hk;have:=AL.size;omega
theorem cV (tb:Nat) (t:RB IT) (F:List Nat) (w0:World) (h:Cb w0 tb t F):AO prog 153 #[.agg #[.pointer (some ⟨tb,0,none⟩)]] w0 fun v w'=>(∃ E5 F',v = .agg #[.pointer (some ⟨E5,0,none⟩)]∧Cb w' E5 t F'∧∀ k∈F',w0.heap.size≤k)∧AB [] w0 w':=by
 have hs:=St.nil w0;refine AS func153 ntmps153 ?_;refine Ah ?_;refine Aq ?_;refine bx hs ?_;intro b1 w hz hs;refine al hs ?_;intro b2 w Mz hs;refine Ja ?_;have ho:=hs.AE rfl;have n2:=hs.new (b2,true) AA rfl;simp only at n2;have hd:=hs.nd;simp only [aC2,aC6,aCu,aDD,aC1,or_false] at hd;refine cl (h:=by exact Yk tb t F _ (h.only ho)) ?_;rintro v w1 ⟨⟨E5,F',rfl,h1,h2⟩,ho'⟩;replace hs:=hs.AP ho';have hz:=ho.size;have AL:=hs.AE rfl;have CE:=hs.get (At.tail At.head);have Ds:=hs.get At.head;clear hs;have hs:=((St.nil w1).AH CE AA).AH Ds (by simpa using hd.1)
 repeat' (first|refine Sb ?_|(refine AV hs ?_;intro w hs)|fail)
 refine AG ?_;have AN:=hs.AD [b2] (by simp [CE]) sD;exact ⟨⟨E5,F',rfl,h1.Ai AN (fun k hk hm=>by obtain rfl:=List.mem_singleton.1 hm;exact h1.not Ds (by decide) (by decide) hk),fun k hk=>by have:=h2 k hk;omega⟩,AL.step AN (by simp [n2])⟩
end Go.Proofs.Q0.IB
namespace Go.Proofs.Q0
open Go Go.RowKit Go.Maps Tryz
def Mu (v:Value):Option (DataW Value × List MemPlace):=some (.held v,[])
def Js (i:Int):Lit := .int .i64 i
def CB (w:World) (b:Nat) (f:Int→Option Value) (c:Nat):Prop :=
 ∃ D:DataW Value,w.ownsMap prog 3 Mu b c D∧Maps.size D=c∧∀ i,In64 i→Maps.has D (Js i)=(f i).isSome∧∀ z,D.atKey (Js i) (.held z) = .held ((f i).getD z)
theorem N9:Keyed prog 3:=int_keyed (q := .i64) (by kernel_rfl)
theorem key_of {i:Int} (h:In64 i):keyOf prog 3 (.int .i64 i)=some (Js i):=keyOf_int_mk (q := .i64) (by kernel_rfl) (by
 show (decide (IntKind.i64.min≤i) && decide (i≤IntKind.i64.max))=true;have e1:IntKind.i64.min=-9223372036854775808:=rfl;have e2:IntKind.i64.max=9223372036854775807:=rfl;obtain ⟨h1,h2⟩:=h;rw [e1,e2,decide_eq_true h1,decide_eq_true (show i≤9223372036854775807 by omega)];rfl)
theorem AB.RH {w w':World} {b:Nat} (h:w.grownBy w' (some b)):AB [b] w w':=by
 obtain ⟨h1,h2,h3,h4,h5⟩:=h;exact ⟨h1,h2,h3,h4,fun k hk hn=>h5 k hk (fun e=>hn (by cases e;exact List.mem_singleton.2 rfl))⟩
theorem CB.keep {w w':World} {b c:Nat} {f:Int→Option Value} {F:List Nat} (h:CB w b f c) (ho:AB F w w') (hb:b∉F):CB w' b f c:=by
 obtain ⟨D,⟨es,clock,h1,h2⟩,h3⟩:=h;exact ⟨D,⟨es,clock,ho.block h1 hb,h2⟩,h3⟩
theorem CB.lt {w:World} {b c:Nat} {f:Int→Option Value} (h:CB w b f c):b < w.heap.size:=by
 obtain ⟨D,⟨es,clock,h1,h2⟩,h3⟩:=h;exact lt_of_block h1
theorem CB.ne {w:World} {b c:Nat} {f:Int→Option Value} (h:CB w b f c) {b':Nat} {cs:Array Value} {t:Nat} {fz:Nat × Nat} (hb:w.heap[b']?=some (.cells cs t fz)):b'≠b:=fun e=>by
 subst e;obtain ⟨D,⟨es,clock,h1,h2⟩,h3⟩:=h;rw [h1] at hb;cases hb
theorem CB.made (w:World):CB (w.alloc (.map #[] 0)) w.heap.size (fun _=>none) 0 :=
 ⟨.map [],World.ownsMap_made _ _ _ _,rfl,fun i hi=>⟨rfl,fun z=>rfl⟩⟩
def F4 (f:Int→Option Value) (i:Int) (v:Option Value):Int→Option Value:=fun j=>bif decide (j=i) then v else f j
theorem key_ne {i j:Int} (h:j≠i):Js j≠Js i:=fun e=>by
 unfold Js at e
 injection e with _ e
 exact h e
theorem dX (i:Int) (h:In64 i):WideAt.IsKeyLit (Js i):=(N9.key (key_of h))
section
variable {w : World} {b c : Nat} {f : Int → Option Value} {t e : Nat} {z v : Value} {i : Int}
theorem CB.look (h:CB w b f c) (ht:prog.underlying t=some (.map 3 e)) (hz:(zeroValue e).run prog w = .ok z w) (hi:In64 i):(Instr.lookup t (.map (some b)) (.int .i64 i) true).run prog w = .ok (.tuple #[(f i).getD z,.bool (f i).isSome]) w:=by
 obtain ⟨D,h1,h2,h3⟩:=h;obtain ⟨v,ps,hr,hv⟩:=h1.look_ok N9 ht hz (zd := .held z) (zp:=[]) rfl (key_of hi);obtain ⟨h4,h5⟩:=h3 i hi
 have e1:DataW.held v=D.atKey (Js i) (.held z):=by
  unfold Mu at hv;simp only [aDd,Prod.mk.injEq] at hv;exact hv.1
 rw [h5 z] at e1
 injection e1 with e1
 rw [hr,show Maps.has D (Js i)=(f i).isSome from h4,e1]
theorem CB.dN (h:CB w b f c) (ht:prog.underlying t=some (.map 3 e)) (hz:(zeroValue e).run prog w = .ok z w) (hi:In64 i):(Instr.lookup t (.map (some b)) (.int .i64 i) false).run prog w = .ok ((f i).getD z) w:=by
 obtain ⟨D,h1,h2,h3⟩:=h;obtain ⟨v,ps,hr,hv⟩:=h1.lookup N9 ht hz (zd := .held z) (zp:=[]) rfl (key_of hi);obtain ⟨h4,h5⟩:=h3 i hi
 have e1:DataW.held v=D.atKey (Js i) (.held z):=by
  unfold Mu at hv;simp only [aDd,Prod.mk.injEq] at hv;exact hv.1
 rw [h5 z] at e1
 injection e1 with e1
 rw [hr,e1]
theorem QT {D:DataW Value} {n:Nat} (h:w.ownsMap prog 3 Mu b n D):w.ownsMap prog 3 Mu b (Maps.size D) D:=by
 obtain ⟨es,clock,h1,h2,h3,h4⟩:=h;refine ⟨es,clock,h1,h2,?_,h4⟩;rw [h4];simp [Maps.size,length_sorted]
theorem CB.store (h:CB w b f c) (ht:prog.underlying t=some (.map 3 e)) (hi:In64 i) (hc:c < maxLen):∃ w',(Instr.mapUpdate t (.map (some b)) (.int .i64 i) v).run prog w = .ok () w'∧CB w' b (F4 f i (some v)) (if (f i).isSome then c else c+1)∧AB [b] w w':=by
 obtain ⟨D,h1,h2,h3⟩:=h;obtain ⟨w',hr,h4,h5⟩:=h1.store N9 ht hc (d := .held v) (ps:=[]) (val:=v) (key_of hi) rfl;have hT:=h1.tidy N9;have hs:Maps.size (D.put (Js i) (.held v))=if (f i).isSome then c else c+1:=by rw [size_put hT,(h3 i hi).1,h2]
 refine ⟨w',hr,⟨_,by rw [← hs];exact QT h4,hs,fun j hj=>?_⟩,AB.RH h5.grown⟩;by_cases e1:j=i
 ·subst e1;unfold F4;rw [decide_eq_true rfl,cond_true];exact ⟨has_put_same h1.isMap (dX j hj) _,fun z=>atKey_put_same h1.isMap (dX j hj) _ _⟩
 ·unfold F4;rw [decide_eq_false e1,cond_false,has_put_other (key_ne e1)];exact ⟨(h3 j hj).1,fun z=>by rw [atKey_put_other (key_ne e1)];exact (h3 j hj).2 z⟩
theorem CB.drop (h:CB w b f c) (ht:prog.underlying t=some (.map 3 e)) (hi:In64 i) (ty:Nat):∃ w',(Builtin.delete_ #[t,3] ty #[.map (some b),.int .i64 i]).run prog w = .ok (.tuple #[]) w'∧CB w' b (F4 f i none) (if (f i).isSome then c - 1 else c)∧AB [b] w w':=by
 obtain ⟨D,h1,h2,h3⟩:=h;obtain ⟨w',hr,h4,h5⟩:=h1.drop N9 ht (key_of hi) ty;have hT:=h1.tidy N9
 have hs:Maps.size (D.del (Js i))=if (f i).isSome then c - 1 else c:=by
  have:=size_del (k:=Js i) hT;rw [(h3 i hi).1,h2] at this;split at this <;> rename_i hx <;> simp only [hx,if_true,if_false,Bool.false_eq_true] <;> omega
 refine ⟨w',hr,⟨_,by rw [← hs];exact QT h4,hs,fun j hj=>?_⟩,AB.RH h5.grown⟩;by_cases e1:j=i
 ·subst e1;unfold F4;rw [decide_eq_true rfl,cond_true];exact ⟨has_del_same,fun z=>atKey_del_same _⟩
 ·unfold F4;rw [decide_eq_false e1,cond_false,has_del_other (key_ne e1)];exact ⟨(h3 j hj).1,fun z=>by rw [atKey_del_other (key_ne e1)];exact (h3 j hj).2 z⟩
end
end Go.Proofs.Q0
namespace Go.Proofs.Q0
open Go Go.RowKit Tryz
section
variable {ops : Array Oper} {QE : Exit → Env → World → Prop} {n : Nat} {rest : List Oper} {env : Env} {w wb : World} {D : Ctx} {H : List Br} {d : Option Nat} {ty : Nat} {pos : String} {Am : Array Edge} {g : Option (Nat × Bool)}
theorem zero_run {e:Nat} {z:Value} (h:(prog.info? e).bind (·.zero)=some z) (w:World):(zeroValue e).run prog w = .ok z w:=by
 obtain ⟨i,hi,hz⟩:=Option.bind_eq_some_iff.1 h;simp [zeroValue,aCz,CD hi,hz]
theorem Ju {t e b c:Nat} {f:Int→Option Value} {x y:Operand} {i:Int} {z:Value} (hM:CB w b f c) (hi:In64 i) (hz:(prog.info? e).bind (·.zero)=some z) (ht:prog.underlying t=some (.map 3 e)) (k:XS prog ops QE n rest (Bf env d (.tuple #[(f i).getD z,.bool (f i).isSome])) w) (hw:Ax ops env g=true:=by exact rfl) (hx:ev env x = .map (some b):=by exact rfl) (hy:ev env y = .int .i64 i:=by exact rfl):XS prog ops QE n (⟨d,.lookup t x y true,ty,pos,Am,g⟩ :: rest) env w :=
 xs_val hw (by simp [execOp,hx,hy,aCz,hM.look ht (zero_run hz w) hi]) k
theorem Wp {t e b c:Nat} {f:Int→Option Value} {x y:Operand} {i:Int} {z:Value} (hM:CB w b f c) (hi:In64 i) (hz:(prog.info? e).bind (·.zero)=some z) (ht:prog.underlying t=some (.map 3 e)) (k:XS prog ops QE n rest (Bf env d ((f i).getD z)) w) (hw:Ax ops env g=true:=by exact rfl) (hx:ev env x = .map (some b):=by exact rfl) (hy:ev env y = .int .i64 i:=by exact rfl):XS prog ops QE n (⟨d,.lookup t x y false,ty,pos,Am,g⟩ :: rest) env w :=
 xs_val hw (by simp [execOp,hx,hy,aCz,hM.dN ht (zero_run hz w) hi]) k
theorem OW {t e b c:Nat} {f:Int→Option Value} {x y u:Operand} {i:Int} {v:Value} (hM:CB w b f c) (hi:In64 i) (hc:c < maxLen) (ht:prog.underlying t=some (.map 3 e)) (k:∀ w',CB w' b (F4 f i (some v)) (if (f i).isSome then c else c+1)→AB [b] w w'→XS prog ops QE n rest (Bf env d undef) w') (hw:Ax ops env g=true:=by exact rfl) (hx:ev env x = .map (some b):=by exact rfl) (hy:ev env y = .int .i64 i:=by exact rfl) (hu:ev env u=v:=by exact rfl):XS prog ops QE n (⟨d,.mapUpdate t x y u,ty,pos,Am,g⟩ :: rest) env w:=by
 obtain ⟨w',hr,h1,h2⟩:=hM.store (v:=v) ht hi hc;exact XS.P8 hw (by simp [execOp,hx,hy,hu,aCz,hr]) (k w' h1 h2)
theorem Ut {t e b c:Nat} {f:Int→Option Value} {x y:Operand} {i:Int} (hM:CB w b f c) (hi:In64 i) (ht:prog.underlying t=some (.map 3 e)) (k:∀ w',CB w' b (F4 f i none) (if (f i).isSome then c - 1 else c)→AB [b] w w'→XS prog ops QE n rest (Bf env d (.tuple #[])) w') (hw:Ax ops env g=true:=by exact rfl) (hx:ev env x = .map (some b):=by exact rfl) (hy:ev env y = .int .i64 i:=by exact rfl):XS prog ops QE n (⟨d,.call { callee := .builtin .delete,args:=#[x,y],argTypes:=#[t,3] },ty,pos,Am,g⟩ :: rest) env w:=by
 obtain ⟨w',hr,h1,h2⟩:=hM.drop ht hi ty;exact XS.value hw (v := .tuple #[]) (w':=w') (by simp [execOp,resolve,aCz,invoke,builtin,hx,hy,hr]) (k w' h1 h2)
theorem UO {t:Nat} (k:∀ b w',AB [] w w'→CB w' b (fun _=>none) 0→w.heap.size≤b→XS prog ops QE n rest (Bf env d (.map (some b))) w') (hw:Ax ops env g=true:=by exact rfl):XS prog ops QE n (⟨d,.makeMap t none,ty,pos,Am,g⟩ :: rest) env w :=
 XS.value hw (v := .map (some w.heap.size)) (w':=w.alloc (.map #[] 0)) (by simp [execOp,aCz,run_makeMap]) (k _ _ (((St.nil w).alloc _).AE rfl) (CB.made w) (aC5 _))
end
end Go.Proofs.Q0
namespace Go.Proofs.Q0
open Go Go.RowKit Tryz
attribute [local irreducible] XS XC XA AY AR A9 A1 A0 Aa Ae AW SE
def wdV (o:Option Int):Value := .tuple #[wv (o.getD 0),.bool o.isSome]
def Hl (m:Mn) (p:Pt):Int:=m.a*p.w - dist p m.b*m.w
def Fe (m:Mn) (p:Pt):Option Int:=if m.right=true∧m.n≠0∧p.right=true∧Ac (m.a*p.w)∧Ac (Hl m p) then some (Hl m p) else none
theorem jQ {m:Mn} {p:Pt}:Ac ((Fe m p).getD 0):=by
 unfold Fe;split
 ·rename_i h;exact h.2.2.2.2
 ·decide
theorem KH {x:Int} (h:In64 x):IntKind.i64.wrap x=x:=by rw [wrap_i64];unfold In64 at h;omega
theorem ZD {m:Mn} {p:Pt} (hp:p.In) (h5:m.right=true) (h6:p.right=true):Ac (dist p m.b*m.w)∧-(9671406556917033397649408+1048576)≤dist p m.b∧dist p m.b≤9671406556917033397649408+1048576:=by
 have h5:=Cm.1 h5;have h6:=Eh.1 h6;have h7:=sn_rng p.t m.b;have h8:=mul_rng (w:=p.w) (s:=sn p.t m.b) (W:=1048576) (S:=9223372036854775808) om om om om;have hr:=hp.2.1.1;have h9:-(9671406556917033397649408+1048576)≤dist p m.b∧dist p m.b≤9671406556917033397649408+1048576:=by unfold dist;omega
 have h10:=mul_rng (w:=m.w) (s:=dist p m.b) (W:=33554432) (S:=9671406556917033397649408+1048576) om om h9.1 h9.2;have e:=aDU (dist p m.b) m.w;exact ⟨by unfold Ac;rw [e];omega,h9⟩
theorem WK (m:Mn) (p:Pt) (hm:m.In) (hp':p.In) (w0:World):AO prog 128 #[mv m,pv p] w0 fun v w'=>v=wdV (Fe m p)∧AB [] w0 w':=by
 have hs:=St.nil w0;refine AS func128 ntmps128 ?_
 repeat' (first|refine Sa ?_|(refine al hs ?_;intro b w hz hs)|(refine bx hs ?_;intro b w hz hs)|fail)
 refine AZ hs (h:=by exact FR m _) ?_;intro w' ho hs;repeat' (first|refine Se ?_|(refine AV hs ?_;intro w hs)|((with_reducible apply BV);exact rfl;exact rfl;intro c hc;(fail_if_success have:true=c:=hc);(fail_if_success have:false=c:=hc);cases c)|fail)
 ·refine AZ hs (h:=by exact FG p _) ?_;intro w' ho hs;repeat' (first|refine Sa ?_|(refine AV hs ?_;intro w hs)|refine xc_cond rfl (fun hc=>?_) fun hc=>?_|fail)
  ·refine AG ?_;refine ⟨?_,hs.AE rfl⟩;have:Fe m p=none:=by unfold Fe;rw [if_neg (fun h=>absurd h.2.2.1 (by simpa using hc))]
   rw [this];rfl
  ·have h1:m.right=true:=by simpa using ‹(!m.right)=false›
   have h2:p.right=true:=by simpa using hc
   have h3:m.n≠0:=by simpa using ‹(m.n == 0)=false›
   have h5:=Cm.1 h1;have h6:=Eh.1 h2;have h7:=ZD (m:=m) hp' h1 h2;have e1:IntKind.i64.wrap p.w=p.w:=KH ⟨by omega,by omega⟩;have e2:IntKind.i64.wrap m.w=m.w:=KH ⟨by omega,by omega⟩;refine cl (h:=by exact bT m.a (IntKind.i64.wrap p.w) hm.2.1 (by rw [e1];exact ⟨by omega,by omega⟩) _) (k:=?_);rw [e1]
   rintro v w' ⟨rfl,ho⟩;replace hs:=hs.AP ho;repeat' (first|refine Sb ?_|(refine AV hs ?_;intro w hs)|(refine al hs ?_;intro b w hz hs)|fail)
   refine dr [] hs ?_;intro hX w hs;refine tks 0 3 ?_;refine tks 4 3 ?_;refine Gq 11 8 hs ?_;intro f X w hp;have hs:=hp.st;apply BI 3 11 (f:=f) (X:=X) hX hp;exact rfl;exact rfl;(apply AT AJ;exact rfl);kernel_rfl;kernel_rfl;kernel_rfl;kernel_rfl;(intro X Y;(repeat (first | exact A4 | refine A5 ?_ (by exact rfl))));(intro w' hs;first|exact AI hs.hold|exact AI hs.hold.tail|exact Ab rfl);intro f X w hp;have hs:=hp.st;refine cl (h:=by exact N7 p m.b hp' _) ?_;rintro v w' ⟨rfl,ho⟩;replace hp:=hp.only ho;replace hs:=hp.st;refine Jn ?_;apply BI 7 11 (f:=f) (X:=X) hX hp;exact rfl;exact rfl;(apply AT AJ;exact rfl);kernel_rfl;kernel_rfl;kernel_rfl;kernel_rfl;(intro X Y;(repeat (first | exact A4 | refine A5 ?_ (by exact rfl))));(intro w' hs;first|exact AI hs.hold|exact AI hs.hold.tail|exact Ab rfl);intro f X w hp;have hs:=hp.st;refine cl (h:=by exact Wt (dist p m.b) (IntKind.i64.wrap m.w) (dist_in hp' _) (by rw [e2];omega) (by rw [e2];omega) (by rw [e2];exact h7.1) _) (k:=?_);rw [e2];rintro v w' ⟨rfl,ho⟩;replace hp:=hp.only ho;replace hs:=hp.st;refine Jn ?_;refine tk 8 hX (hc:=by cases f <;> kernel_rfl) (k:=?_);refine tk 9 hX (hc:=by cases f <;> kernel_rfl) (k:=?_);refine tk 10 hX (hc:=by cases f <;> kernel_rfl) (k:=?_);apply Bb 11 (f:=f) (X:=X) hX hp;exact rfl;(apply AT AJ;exact rfl);kernel_rfl;kernel_rfl;(intro X Y;(repeat (first | exact A4 | refine A5 ?_ (by exact rfl))));(intro w' hs;first|exact AI hs.hold|exact AI hs.hold.tail|exact Ab rfl);intro b w hI hs;refine dt 12 hX ?_
   repeat' (first|refine Nx.h ?_|(refine AV hs ?_;intro w hs)|fail)
   refine dn ?_;refine tk 13 hX ?_;refine en ?_;refine Ja ?_;refine AZ hs (h:=by exact VL (tot (m.a*p.w)) (dist p m.b*m.w) (tot_in _) h7.1 _) ?_;intro w' ho hs;repeat' (first|refine Se ?_|(refine AV hs ?_;intro w hs)|(refine al hs ?_;intro b w hz hs)|((with_reducible apply BV);exact rfl;exact rfl;intro c hc;(fail_if_success have:true=c:=hc);(fail_if_success have:false=c:=hc);cases c)|refine xc_cond rfl (fun hc=>?_) fun hc=>?_|fail)
   ·have h8:Ac (m.a*p.w):=by simpa using ‹(!decide (Ac (m.a*p.w)))=false›
    have e3:tot (m.a*p.w)=m.a*p.w:=if_pos h8;refine AG ?_;refine ⟨?_,hs.AE rfl⟩;rw [e3] at hc;have h9:¬ Ac (Hl m p):=by unfold Hl;simpa using hc
    have:Fe m p=none:=by unfold Fe;rw [if_neg (fun h=>h9 h.2.2.2.2)]
    rw [this];rfl
   ·have h8:Ac (m.a*p.w):=by simpa using ‹(!decide (Ac (m.a*p.w)))=false›
    have e3:tot (m.a*p.w)=m.a*p.w:=if_pos h8;refine AG ?_;refine ⟨?_,hs.AE rfl⟩;rw [e3] at hc;have h9:Ac (Hl m p):=by unfold Hl;simpa using hc
    have:Fe m p=some (Hl m p):=by unfold Fe;rw [if_pos ⟨h1,h3,h2,h8,h9⟩]
    have e4:tot (m.a*p.w - dist p m.b*m.w)=Hl m p:=if_pos h9;rw [this,e3,e4];rfl
   ·refine AG ?_;refine ⟨?_,hs.AE rfl⟩;have h8:¬ Ac (m.a*p.w):=by simpa using hc
    have:Fe m p=none:=by unfold Fe;rw [if_neg (fun h=>h8 h.2.2.2.1)]
    rw [this];rfl
 ·refine AG ?_;refine ⟨?_,hs.AE rfl⟩;have:Fe m p=none:=by unfold Fe;rw [if_neg (fun h=>h.2.1 (by simpa using hc))]
  rw [this];rfl
 ·refine AG ?_;refine ⟨?_,hs.AE rfl⟩;have:Fe m p=none:=by unfold Fe;rw [if_neg (fun h=>absurd h.1 (by simpa using hc))]
  rw [this];rfl
theorem UN (m:Mn) (p:Pt) (hm:m.In) (hp':p.In) (w0:World):AO prog 138 #[mv m,pv p] w0 fun v w'=>v = .tuple #[.int .i64 (C1 ((Fe m p).getD 0) 0),.bool (Fe m p).isSome]∧AB [] w0 w':=by
 have hs:=St.nil w0;refine AS func138 ntmps138 ?_
 repeat' (first|refine Sa ?_|(refine bx hs ?_;intro b w hz hs)|fail)
 refine AZ hs (h:=by exact WK m p hm hp' _) ?_;intro w' ho hs;repeat' (first|refine Sa ?_|(refine AV hs ?_;intro w hs)|(refine al hs ?_;intro b w hz hs)|fail)
 refine AZ hs (h:=by exact R8 ((Fe m p).getD 0) jQ _) ?_;intro w' ho hs;refine Jc ?_;refine AG ?_;exact ⟨rfl,hs.AE rfl⟩
def elig (m:Mn) (p:Pt):Bool:=(Fe m p).isSome && decide (0≤(Fe m p).getD 0)
theorem RX (m:Mn) (p:Pt) (hm:m.In) (hp':p.In) (w0:World):AO prog 230 #[mv m,pv p] w0 fun v w'=>v = .bool (elig m p)∧AB [] w0 w':=by
 have hs:=St.nil w0;refine AS func230 ntmps230 ?_
 repeat' (first|refine Sa ?_|(refine bx hs ?_;intro b w hz hs)|fail)
 refine AZ hs (h:=by exact UN m p hm hp' _) ?_;intro w' ho hs;repeat' (first|refine Sf ?_|((with_reducible apply BV);exact rfl;exact rfl;intro c hc;(fail_if_success have:true=c:=hc);(fail_if_success have:false=c:=hc);cases c)|fail)
 ·refine AG ?_;refine ⟨?_,hs.AE rfl⟩;unfold elig;rw [hc];rfl
 ·refine AG ?_;refine ⟨?_,hs.AE rfl⟩;unfold elig;rw [hc];show Value.bool _=Value.bool _;congr 1;rw [Bool.true_and];refine decide_eq_decide.2 ?_;unfold C1;split
  ·omega
  ·split <;> omega
def Wr (m:Mn) (p:Pt):Option Int:=(Fe m p).map fun x=>x / m.w
theorem Qn (m:Mn) (p:Pt) (hm:m.In) (hp':p.In) (w0:World):AO prog 89 #[mv m,pv p] w0 fun v w'=>v=wdV (Wr m p)∧AB [] w0 w':=by
 have hs:=St.nil w0;refine AS func89 ntmps89 ?_
 repeat' (first|refine Sa ?_|(refine al hs ?_;intro b w hz hs)|(refine bx hs ?_;intro b w hz hs)|fail)
 refine cl (h:=by exact WK m p hm hp' _) ?_;have hin:=jQ (m:=m) (p:=p);have hU:=hm.2.2.1;unfold Wr;cases ho:Fe m p with
 | none =>
   rintro v w' ⟨rfl,ho⟩;replace hs:=hs.AP ho;repeat' (first|refine Sc ?_|(refine AV hs ?_;intro w hs)|(refine al hs ?_;intro b w hz hs)|fail)
   refine AG ?_;exact ⟨rfl,hs.AE rfl⟩
 | some x =>
   rw [ho] at hin
   have hw:0 < m.w:=by
    unfold Fe at ho;split at ho
    ·rename_i h;have:=Cm.1 h.1;omega
    ·cases ho
   rintro v w' ⟨rfl,ho⟩;replace hs:=hs.AP ho;repeat' (first|refine Sd ?_|(refine AV hs ?_;intro w hs)|(refine al hs ?_;intro b w hz hs)|fail)
   refine AZ hs (h:=by exact OH x m.w hin hw hU.2 _) ?_;intro w' ho hs;repeat' (first|refine Sa ?_|(refine AV hs ?_;intro w hs)|(refine al hs ?_;intro b w hz hs)|fail)
   refine AG ?_;exact ⟨rfl,hs.AE rfl⟩
end Go.Proofs.Q0
