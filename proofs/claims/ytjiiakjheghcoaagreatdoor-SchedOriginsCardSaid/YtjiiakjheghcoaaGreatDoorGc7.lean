/- A part of the proof: what its functions compute. -/
import Derived.Test.YtjiiakjheghcoaaGreatDoorGc6
import Derived.Shelf.SlMaps.Clone
import Derived.Ground.SlmcProg
import Derived.Laws.OwnMore
set_option linter.unusedVariables false
set_option linter.unusedSimpArgs false
set_option maxRecDepth 100000
set_option maxHeartbeats 64000000
set_option linter.unusedSectionVars false
namespace Go.Proofs.Q0
open Go Go.RowKit
open IB (IT DX Bt)
attribute [local irreducible] XS XC XA AZ AP Aa A1 A0 A8 Ad AW SE
def H7 (s:Qs) (a:IT):Int:=(Ph (plain (Db a.1.id s.t.list))).getD a.1.p.t
def LQ (s:Qs) (a:IT):Int :=
 bif !a.1.right then 2 else bif !(s.f a.1.id).isSome then 14 else bif !within (H7 s a) (plain (Db a.1.id s.t.list ++ [a])) then 8 else 0
def bR (s:Qs) (o a:IT):Qs:={ L2 (F4 s o) a with c:=s.c }
def Q8 (s:Qs) (a:IT):Qs:=bif decide (LQ s a=0) then (match s.f a.1.id with | some o=>bR s o a | none=>s) else s
theorem kU (f:Int→Option IT) (i:Int):(vals f i).getD (iv .zero)=iv (IB.JT (f i)):=by unfold vals;cases f i <;> rfl
theorem Yr (qb:Nat) (s:Qs) (F:List Nat) (a:IT) (w0:World) (h:DT w0 qb s F) (hlen:s.t.list.length+1≤1000000) (hn:s.n < 1000000) (hd:∀ o,s.f a.1.id=some o→Gh o s.t) :
 AO Tryz.prog 152 #[.pointer (some ⟨qb,0,none⟩),iv a.1] w0 fun v w'=>v = .int .i64 (LQ s a)∧∃ F',DT w' qb (Q8 s a) F'∧(∀ k∈F',k∈F∨w0.heap.size≤k)∧AA F w0 w':=by
 have hq:=h
 obtain ⟨tb,mb,Ft,rfl,h1,h2,h3,h4,h5⟩:=h
 have hs:=(St.nil w0).AH h1 (by simp)
 have same:∀ w',AA [] w0 w'→∃ F',DT w' qb s F'∧(∀ k∈F',k∈qb :: mb :: Ft∨w0.heap.size≤k)∧AA (qb :: mb :: Ft) w0 w':=fun w' ho=>⟨_,hq.only ho,fun k hk => .inl hk,ho.weaken (by simp)⟩
 refine AR Tryz.func152 Tryz.ntmps152 (k:=?_);refine Ai ?_;refine Ao ?_;refine bx hs (k:=?_);intro bq wq MG hs;refine Jd ?_
 have JI:=hs.new (bq,true) (by simp) rfl
 simp only at JI
 refine dr [] hs (k:=?_);intro hX w hs
 refine tks 0 6 ?_
 refine HO 10 5 hs (k:=?_);intro f X w hp;have hs:=hp.st
 apply BM 6 10 (f:=f) (X:=X) hX hp;exact rfl;exact rfl;(apply AS AJ;exact rfl);kernel_rfl;kernel_rfl;kernel_rfl;kernel_rfl;(intro X Y;(repeat (first | exact A6 | refine A5 ?_ (by exact rfl))));(intro w' hs;first|exact AI hs.hold|exact AI hs.hold.tail|exact A9 rfl);intro f X w hp;have hs:=hp.st
 have ho:=hs.AB [] (by simp [h1]) (by simp [D0])
 refine KB (e:=64) (z:=iv .zero) (h2.keep ho (by simp)) a.2.2.1 (by kernel_rfl) (by kernel_rfl) (k:=?_)
 rw [kU,Fx]
 generalize hx:IB.JT (s.f a.1.id)=x
 refine Jb ?_
 refine dn (k:=?_)
 refine tk 7 hX (hc:=by cases f <;> kernel_rfl) (k:=?_)
 refine tk 8 hX (hc:=by cases f <;> kernel_rfl) (k:=?_)
 refine tk 9 hX (hc:=by cases f <;> kernel_rfl) (k:=?_)
 apply Bi 10 (f:=f) (X:=X) hX hp;exact rfl;(apply AS AJ;exact rfl);kernel_rfl;kernel_rfl;(intro X Y;(repeat (first | exact A6 | refine A5 ?_ (by exact rfl))));(intro w' hs;first|exact AI hs.hold|exact AI hs.hold.tail|exact A9 rfl);intro b w hI hs
 refine dt 11 hX (k:=?_)
 repeat' (first|refine Nx.h ?_|(refine AU hs (k:=?_);intro w hs)|fail)
 refine dn (k:=?_)
 refine tk 12 hX (k:=?_)
 refine en (k:=?_)
 refine Ja ?_
 have Vt:=hs.new _ List.mem_cons_self rfl
 simp only at Vt
 have ho:=hs.AB [] (by simp [h1]) (by simp [D0])
 have lb5:=lt_of_block (hs.get At.head)
 have lbq:=lt_of_block (hs.get (At.tail At.head))
 have lqb:=lt_of_block (hs.get (At.tail (At.tail At.head)))
 refine cl (h:=by exact Y9 qb s _ a.1.id _ (hq.only ho) om) (k:=?_)
 rintro v1 w1 ⟨⟨G,hG,Dc⟩,AK⟩;replace hs:=hs.AN AK
 have hz:=ho.size
 have Ic:∀ k∈G,w0.heap.size≤k:=fun k hk=>by have:=Dc k hk;omega
 have oU:∀ k∈G,k≠b∧k≠bq∧k≠qb:=fun k hk=>by have:=Dc k hk;omega
 have BB:=hs.AB [] (by simp [h1]) (by simp [D0])
 have c1:=hs.get At.head
 have c2:=hs.get (At.tail At.head)
 have c3:=hs.get (At.tail (At.tail At.head))
 have hnd:=hs.nd
 simp only [List.map_cons,List.nodup_cons,List.mem_cons,List.map_nil,List.not_mem_nil,or_false,not_or] at hnd
 have hle:=UP a.1.id s.t.list
 have hL:J5 w1 v1 (plain (Db a.1.id s.t.list)):=IB.PT hG
 clear hs
 have hs:=(((St.nil w1).AH c3 (by simp)).AH c2 (by simpa using hnd.2.1)).AH c1 (by simp [hnd.1.1,hnd.1.2])
 have e0:H7 s a=(Ph (plain (Db a.1.id s.t.list))).getD a.1.p.t:=rfl
 have eE:LQ s a=bif !a.1.right then 2 else bif !(s.f a.1.id).isSome then 14 else bif !within (H7 s a) (plain (Db a.1.id s.t.list ++ [a])) then 8 else 0:=rfl
 generalize H7 s a=B at *
 generalize hO:Db a.1.id s.t.list=O at *
 refine Ja ?_
 have AM:=hs.AB [] (by simp [c1,c2,c3]) (by simp [D0])
 refine cl (h:=by exact eV (plain O) v1 (fun x hx=>by obtain ⟨y,_,rfl⟩:=List.mem_map.1 hx;exact y.2) (by simp [plain];omega) _ (hL.only AM)) (k:=?_)
 rintro v2 w2 ⟨rfl,ho⟩;replace hs:=hs.AN ho
 refine vs (k:=?_)
 refine vs (k:=?_)
 refine vs (k:=?_)
 refine vs (k:=?_)
 refine vs (k:=?_)
 refine XS.nil ?_
 refine ET ?_
 refine Ai ?_
 refine Bg (fun _:Unit=>[(0,.pointer (some ⟨qb,0,none⟩)),(3,.pointer (some ⟨bq,0,none⟩)),(4,.int .i64 0),(5,.pointer (some ⟨b,0,none⟩)),(6,.bool (s.f a.1.id).isSome),(7,v1),(8,.int .u64 B)]) (fun _ w=>St w1 D0 [(b,tH x,false),(bq,tH a.1,false),(qb,Lv s.m tb mb s.c,false)] w) ?_ ?_
 ·cases hA:Ph (plain O) with
  | none =>
    rw [hA] at e0
    rw [e0]
    refine Je ?_
    exact AQ () Ae hs
  | some t =>
    rw [hA] at e0
    rw [e0]
    refine Jd ?_
    exact AQ () Ae hs
 clear hs ho
 rintro _ env w hs
 refine Ja ?_
 refine cl (h:=by exact OB a.1 _) (k:=?_)
 have xX:∀ n,LQ s a=n→n≠0→Q8 s a=s:=fun n e hn=>by unfold Q8;rw [e,decide_eq_false hn];rfl
 rintro v w' ⟨rfl,ho⟩;replace hs:=hs.AN ho;repeat' (first|refine Sa ?_|(refine bs hs (k:=?_);intro b w hz hs)|refine xc_cond rfl (fun hc=>?_) fun hc=>?_|fail)
 ·refine AG ?_
  have ho:=hs.AB [] (by simp [c1,c2,c3]) (by simp [D0])
  have e:LQ s a=2:=by rw [eE,show (!a.1.right)=true by simpa using hc];rfl
  refine ⟨by rw [e];rfl,?_⟩
  rw [xX 2 e (by decide)]
  exact same _ (BB.trans ho)
 ·refine AG ?_
  have ho:=hs.AB [] (by simp [c1,c2,c3]) (by simp [D0])
  have e:LQ s a=14:=by rw [eE,show (!a.1.right)=false by assumption,hc];rfl
  refine ⟨by rw [e];rfl,?_⟩
  rw [xX 14 e (by decide)]
  exact same _ (BB.trans ho)
 ·have r1:(!a.1.right)=false:=by assumption
  have r2:(s.f a.1.id).isSome=true:=by simpa using hc
  obtain ⟨o,hf⟩:=Option.isSome_iff_exists.1 r2
  rw [hf] at hx
  obtain rfl:o.1=x:=hx
  rw [r1,r2] at eE
  have hb4:=hs.get At.head
  have Aw:=hs.AB [] (by simp [c1,c2,c3]) (by simp [D0])
  refine CO AJ rfl rfl rfl rfl rfl rfl rfl (by decide) (lit_cells (news:=a.1.cells) hb4) (by simp [Value.oneCell']) (hG.keep Aw (by simp)) om om ?_
  intro v2 w2 ⟨G',K0,RM⟩ AT
  have Bn:AA [] w0 w2:=(BB.trans Aw).news Ic AT
  have d1:=AT.block (hs.get (At.tail At.head)) (fun hm=>(oU _ hm).1 rfl)
  have d2:=AT.block (hs.get (At.tail (At.tail At.head))) (fun hm=>(oU _ hm).2.1 rfl)
  have d3:=AT.block (hs.get (At.tail (At.tail (At.tail At.head)))) (fun hm=>(oU _ hm).2.2 rfl)
  have hL2:J5 w2 v2 (plain (O ++ [a])):=IB.PT (G:=G') (by
   rw [IB.MQ,List.length_append]
   exact K0)
  clear hs
  have hs:=(((St.nil w2).AH d3 (by simp)).AH d2 (by simpa using hnd.2.1)).AH d1 (by simp [hnd.1.1,hnd.1.2])
  skip
  have BY:=hs.AB [] (by simp [d1,d2,d3]) (by simp [D0])
  refine cl (h:=by exact LG B (plain (O ++ [a])) v2 (by simp [plain];omega) _ (hL2.only BY)) (k:=?_)
  generalize hwi:within B (plain (O ++ [a]))=wi
  rw [hwi] at eE
  cases wi
  ·rintro v w' ⟨rfl,ho⟩;replace hs:=hs.AN ho;refine Je ?_
   refine AG ?_
   have ho:=hs.AB [] (by simp [d1,d2,d3]) (by simp [D0])
   refine ⟨by rw [eE];rfl,?_⟩
   rw [xX 8 eE (by decide)]
   exact same _ (Bn.trans ho)
  ·have hQ:Q8 s a=bR s o a:=by unfold Q8;rw [eE,hf];rfl
   rintro v w' ⟨rfl,ho⟩;replace hs:=hs.AN ho;refine Jd ?_
   have ho:=hs.AB [] (by simp [d1,d2,d3]) (by simp [D0])
   have E8:=Bn.trans ho
   have hqC:=hq.only E8
   have hzC:=E8.size
   refine cl (h:=by exact X7 qb s _ o _ hqC om (hd o hf)) (k:=?_)
   rintro v3 w3 ⟨F1,hA1,DE,Aq⟩
   have q2:=Aq.block (hs.get (At.tail At.head)) (hqC.not (hs.get (At.tail At.head)) (by decide) (by decide) (by decide))
   have aCu:(F4 s o).t.list.length≤s.t.list.length:=Vc (hd o hf)
   have hnc:(F4 s o).n≤s.n:=by show (if (s.f o.1.id).isSome then s.n - 1 else s.n)≤s.n;split <;> omega
   have CP:AA (qb :: mb :: Ft) w0 w3:=(E8.weaken (by simp)).step Aq (fun k hk => .inl hk)
   have hzD:=CP.size
   clear hs
   have hs:=(St.nil w3).AH q2 (by simp)
   refine Ja ?_
   have Cb:=hs.AB [] (by simp [q2]) (by simp [D0])
   have hA2:=hA1.only Cb
   have Ze:=Cb.size
   refine cl (h:=by exact WS qb (F4 s o) F1 a _ hA2 om om) (k:=?_)
   rintro v4 w4 ⟨F2,Vh,D5,Eb⟩
   obtain ⟨Em,QW,iR,rfl,g1,g2,g3,g4,g5⟩:=Vh
   have FA:AA (qb :: mb :: Ft) w0 w4:=(CP.step Cb (by simp)).step Eb (fun k hk=>by
    rcases DE k hk with h | h
    ·exact .inl h
    ·exact .inr om)
   have hQP:QP w4 qb Em QW iR (L2 (F4 s o) a):=⟨g1,g2,g3⟩
   clear hs
   have hs:=(St.nil w4).AH g1 (by simp)
   repeat' (first|refine Sa ?_|(refine st hs (k:=?_);intro w hs)|fail)
   refine AG ?_
   have Lc:AA [qb] w4 _:=hs.AB [qb] (by simp) (by simp [D0])
   have hP:=hQP.own Lc (hs.get At.head)
   refine ⟨by rw [eE];rfl,?_⟩
   rw [hQ]
   refine ⟨qb :: QW :: iR,⟨Em,QW,iR,rfl,hP.q,hP.M,hP.T,g4,h5⟩,fun k hk=>?_,FA.step Lc (fun k hk => .inl (by obtain rfl:=List.mem_singleton.1 hk;simp))⟩
   rcases D5 k hk with h | h
   ·rcases DE k h with h | h
    ·exact .inl h
    ·exact .inr om
   ·exact .inr om
theorem rM (qb:Nat) (s:Qs) (F:List Nat) (r:RT) (w0:World) (h:DT w0 qb s F) (hlen:s.t.list.length+1≤1000000) (hn:s.n < 1000000) (hd:∀ o,s.f (Ba r).1.id=some o→Gh o s.t) :
 AO Tryz.prog 151 #[.pointer (some ⟨qb,0,none⟩),rv r.1] w0 fun v w'=>v = .int .i64 (LQ s (Ba r))∧∃ F',DT w' qb (Q8 s (Ba r)) F'∧(∀ k∈F',k∈F∨w0.heap.size≤k)∧AA F w0 w':=by
 have hs:=St.nil w0
 refine AR Tryz.func151 Tryz.ntmps151 (k:=?_)
 repeat' (first|refine Sa ?_|(refine bx hs (k:=?_);intro b w hz hs)|fail)
 have ho:=hs.AD rfl
 refine cl (h:=by exact Yr qb s F (Ba r) _ (h.only ho) hlen hn hd) (k:=?_)
 rintro v w1 ⟨rfl,F',hA,Cc,AK⟩
 have hz:=ho.size
 clear hs
 have hs:=St.nil w1
 refine Jc ?_
 refine AG ?_
 exact ⟨rfl,F',hA.only (hs.AD rfl),fun k hk=>by rcases Cc k hk with h | h;exact .inl h;exact .inr om,((ho.weaken (by simp)).step AK (fun k hk => .inl hk)).step (hs.AD rfl) (by simp)⟩
def Sp (s:Ss) (r:RT):Int:=Fz r.1 (LQ s.q (Ba r))
def UM (s:Ss) (r:RT):Ss:=Kn s r (LQ s.q (Ba r)) (Q8 s.q (Ba r))
theorem sput_ret (sb:Nat) (s:Ss) (F:List Nat) (r:RT) (w0:World) (h:DW w0 sb s F) (hl:s.l.length < 1000000) (hlen:s.q.t.list.length+1≤1000000) (hn:s.q.n < 1000000) (hd:∀ o,s.q.f (Ba r).1.id=some o→Gh o s.q.t) :
 AO Tryz.prog 115 #[.pointer (some ⟨sb,0,none⟩),rv r.1] w0 fun v w'=>v = .int .i64 (Sp s r)∧∃ F',DW w' sb (UM s r) F'∧(∀ k∈F',k∈F∨w0.heap.size≤k)∧AA F w0 w':=by
 have hs:=St.nil w0
 refine AR Tryz.func115 Tryz.ntmps115 (k:=?_)
 repeat' (first|refine Sa ?_|(refine bx hs (k:=?_);intro b w hz hs)|fail)
 have ho:=hs.AD rfl
 refine cl (h:=by exact WN 151 sb s F r (LQ s.q (Ba r)) (Q8 s.q (Ba r)) _ (h.only ho) hl (fun qb Fq w hq _=>rM qb s.q Fq r w hq hlen hn hd)) (k:=?_)
 rintro v w1 ⟨rfl,F',hA,Cc,AK⟩
 have hz:=ho.size
 clear hs
 have hs:=St.nil w1
 refine Jc ?_
 refine AG ?_
 exact ⟨rfl,F',hA.only (hs.AD rfl),fun k hk=>by rcases Cc k hk with h | h;exact .inl h;exact .inr om,((ho.weaken (by simp)).step AK (fun k hk => .inl hk)).step (hs.AD rfl) (by simp)⟩
end Go.Proofs.Q0
namespace Go.Proofs.Q0
open IB (IT)
theorem lH {lo:Int}:∀ {l2 l1:List It} {m:Mn},Cp m.b lo (l1 ++ l2)→Ks m l1→∃ m',Lm m (places l2)=some m'∧m'.b=m.b∧Ks m' (l1 ++ l2)
 | [],l1,m,h,k=>⟨m,rfl,rfl,by rwa [List.append_nil]⟩
 | a :: l2,l1,m,h,k=>by
   have hp:(l1 ++ a :: l2).Perm ((a :: l1) ++ l2):=List.perm_middle
   have h2:=h.perm hp
   have h3:Cp m.b lo (a :: l1):=⟨h2.1,by have:=h2.2.1;simp only [List.length_append,List.length_cons] at this ⊢;omega,fun x hx=>h2.2.2 x (List.mem_append_left _ hx)⟩
   obtain ⟨m1,e1,e2,e3⟩:=kZ h3 k
   obtain ⟨m2,e4,e5,e6⟩:=lH (l2:=l2) (l1:=a :: l1) (m:=m1) (by rw [e2];exact h2) e3
   refine ⟨m2,?_,e5.trans e2,e6.perm hp.symm⟩
   show (Ea m a.p).bind (fun m=>Lm m (places l2))=some m2
   rw [e1];exact e4
theorem Cp.at {b lo:Int} {x:It} {l:List It} (h:Cp b lo (x :: l)):Cp x.p.t (lo - sn x.p.t b) (x :: l):=(h.move h.head.low (h.head.dead h.1).2.2).1
theorem mean_of {b lo:Int} {l:List It} (h:Cp b lo l) (hl:l≠[]):Lf (EY l) l∧Ph l=some (EY l).b:=by
 obtain ⟨x,r,rfl⟩:=List.exists_cons_of_ne_nil hl
 have hw:=h.at
 obtain ⟨m,e1,e2,e3⟩:=lH (l1:=[]) (l2:=x :: r) (m:=⟨x.p.t,0,0,0⟩) hw ⟨rfl,rfl,rfl⟩
 have e2':m.b=x.p.t:=e2
 have hw':Cp m.b (lo - sn x.p.t b) (x :: r):=by rw [e2'];exact hw
 obtain ⟨m',e4,e5⟩:=OX hw' e3 hl
 have hf:=Rb hw' e3 hl
 have e6:=e5.eq hl
 rw [← e6]
 refine ⟨e5,?_⟩
 show (ofM x.p.t (places (x :: r))).bind Iw=_
 unfold ofM
 rw [e1,Option.bind_some,hf]
 rw [hf] at e4
 simp only [Option.getD_some,JD] at e4
 split at e4
 ·cases e4;rfl
 ·cases e4
theorem fM {b lo:Int} {l l':List It} (h:Cp b lo l) (p:l.Perm l'):EY l=EY l':=by
 by_cases e:l=[]
 ·subst e;rw [p.nil_eq]
 ·exact ((mean_of h e).1.perm p).eq (fun k=>e (by subst k;exact p.symm.nil_eq.symm))
theorem QI.aCc {s:Qs} (h:QI s) {a:IT} (hr:a.1.right=true) (hn:s.t.list.length < 32) {L:List It} (hL:L.Perm (a.1 :: plain s.t.list)) (hw:within (Fu s a).b L=true):∃ lo,Cp (Fu s a).b lo (a.1 :: plain s.t.list):=by
 obtain ⟨lo,k⟩:=h.win
 rw [Ny (l':=a.1 :: plain s.t.list) (fun x=>hL.mem_iff)] at hw
 refine kE (fun x hx=>?_) hw ?_ ?_ (by simp only [plain,List.length_cons,List.length_map];omega)
 ·rcases List.mem_cons.1 hx with rfl | hx
  ·exact ⟨a.2,hr⟩
  ·exact ⟨(k.2.2 x hx).isin,(k.2.2 x hx).right⟩
 all_goals by_cases e:s.t.list=[]
 ·rw [L9 e];exact ⟨a.1,by simp,by show sn a.1.p.t a.1.p.t≤0;rw [QG];omega⟩
 ·rw [LP e];obtain ⟨⟨x,k1,k2⟩,_⟩:=TX (h.cen e) (plain_ne e);exact ⟨x,by simp [k1],k2⟩
 ·rw [L9 e];exact ⟨a.1,by simp,by show 0≤sn a.1.p.t a.1.p.t;rw [QG];omega⟩
 ·rw [LP e];obtain ⟨_,⟨x,k1,k2⟩⟩:=TX (h.cen e) (plain_ne e);exact ⟨x,by simp [k1],k2⟩
theorem QI.clock {s:Qs} (h:QI s) (c:Int):QI { s with c:=c }:=⟨h.good,h.srt,h.f,h.n,h.len,h.cen,h.nil⟩
theorem Ka {r:RT}:∀ {l:List RT},DD l→(Bx r l).Perm (r :: DZ (Az r) l)
 | [],_ => .refl _
 | a :: l,h=>by
   have hd:=h.head
   have hlt:∀ {b:RT},Az r≤Az a→b∈l→decide (Az b≠Az r)=true:=fun h1 hb=>by have:=hd _ hb;simp;omega
   have ih:=Ka (r:=r) h.tail
   unfold Bx DZ
   rw [List.filter_cons]
   split
   ·rename_i h1
    rw [if_pos (by simp;omega),List.filter_eq_self.2 (fun b hb=>hlt om hb)]
   ·split
    ·rename_i h1 h2
     rw [if_neg (by simp;omega),List.filter_eq_self.2 (fun b hb=>hlt om hb)]
    ·rename_i h1 h2
     rw [if_pos (by simp;omega)]
     exact (ih.cons a).trans (.swap _ _ _)
def IQ (A:As) (id:Int):List It:=its (DZ id A.l)
def Jz (A:As) (a:It):Int:=if IQ A a.id=[] then a.p.t else (EY (IQ A a.id)).b
def HB (A:As) (a:It):Int:=bif !a.right then 2 else bif !(A2 A.l a.id).isSome then 14 else bif !within (Jz A a) (IQ A a.id ++ [a]) then 8 else 0
def CZ (A:As) (r:RT):Int:=Fz r.1 (HB A r.1.i)
def D7 (A:As) (r:RT):As:=if CZ A r=0 then ⟨Bx r A.l,A.c⟩ else A
theorem oth_perm {s:Ss} {A:As} (h:BR s A) (id:Int):(Db id s.q.t.list).Perm ((DZ id A.l).map Ba):=by
 unfold Db DZ
 have:((A.l.filter fun a=>decide (Az a≠id)).map Ba)=(A.l.map Ba).filter fun a=>decide (a.1.id≠id):=by rw [List.filter_map];rfl
 rw [this]
 exact h.p.filter _
theorem BR.oth {s:Ss} {A:As} (h:BR s A) (id:Int):(plain (Db id s.q.t.list)).Perm (IQ A id):=by
 unfold IQ
 rw [← ZW];exact plain_perm (oth_perm h id)
theorem BR.H7 {s:Ss} {A:As} (h:BR s A) (a:IT):Go.Proofs.Q0.H7 s.q a=Jz A a.1:=by
 unfold Go.Proofs.Q0.H7 Jz
 have hp:=h.oth a.1.id
 by_cases e:IQ A a.1.id=[]
 ·rw [if_pos e]
  rw [e] at hp
  rw [hp.eq_nil];rfl
 ·rw [if_neg e]
  obtain ⟨lo,k⟩:=h.q.win
  have k2:Cp s.q.m.b lo (plain (Db a.1.id s.q.t.list)):=⟨k.1,by have:=k.2.1;have:=UP a.1.id s.q.t.list;simp only [plain,List.length_map] at *;omega,fun x hx=>by
   obtain ⟨y,hy,rfl⟩:=List.mem_map.1 hx
   exact plain_win k y (List.mem_filter.1 hy).1⟩
  have ne:plain (Db a.1.id s.q.t.list)≠[]:=fun k=>e (by rw [k] at hp;exact hp.nil_eq.symm)
  rw [(mean_of k2 ne).2,Option.getD_some,fM k2 hp]
theorem BR.put {s:Ss} {A:As} (h:BR s A) (r:RT):Sp s r=CZ A r∧BR (UM s r) (D7 A r)∧∀ o,s.q.f (Ba r).1.id=some o→Gh o s.q.t:=by
 have aBq:∀ o,s.q.f (Ba r).1.id=some o→Gh o s.q.t:=fun o ho=>(h.q.cut ((h.q.f _ _).1 ho).1).2.2.2.2
 have hch:LQ s.q (Ba r)=HB A r.1.i:=by
  unfold LQ HB
  rw [h.fs,h.H7,Ny (l:=plain (Db (Ba r).1.id s.q.t.list ++ [Ba r])) (l':=IQ A r.1.i.id ++ [r.1.i]) (fun x=>by
   rw [show plain (Db (Ba r).1.id s.q.t.list ++ [Ba r])=plain (Db (Ba r).1.id s.q.t.list) ++ [(Ba r).1] from List.map_append ..,List.mem_append,List.mem_append,(h.oth _).mem_iff];rfl)]
  rfl
 have he:Sp s r=CZ A r:=by unfold Sp CZ;rw [hch]
 refine ⟨he,?_,aBq⟩
 unfold D7
 by_cases e0:CZ A r=0
 ·rw [if_pos e0]
  have hr:r.1.right=true:=by
   unfold CZ Fz at e0
   cases k:r.1.right
   ·rw [k] at e0;cases e0
   ·rfl
  have hj:HB A r.1.i=0:=by unfold CZ Fz at e0;rw [hr] at e0;exact e0
  have hjq:LQ s.q (Ba r)=0:=by rw [hch];exact hj
  have hj':=hjq
  unfold LQ at hj'
  cases k1:(Ba r).1.right with
  | false=>rw [k1] at hj';cases hj'
  | true =>
  cases k2:s.q.f (Ba r).1.id with
  | none=>rw [k1,k2] at hj';cases hj'
  | some o =>
  cases k4:within (Go.Proofs.Q0.H7 s.q (Ba r)) (plain (Db (Ba r).1.id s.q.t.list ++ [Ba r])) with
  | false=>rw [k1,k2,k4] at hj';cases hj'
  | true =>
    obtain ⟨AK,AM⟩:=(h.q.f _ _).1 k2
    obtain ⟨c1,c2,c3,c4,c5⟩:=h.q.cut AK
    have uM:Db (Ba r).1.id s.q.t.list=RB.sans o s.q.t.list:=by
     unfold Db RB.sans
     refine List.filter_congr fun x hx=>?_
     by_cases e:x=o
     ·subst e;simp [AM]
     ·have:x.1.id≠(Ba r).1.id:=fun e'=>e (h.q.inj x hx o AK om)
      simp [this,e]
    have hb:(Fu (F4 s.q o) (Ba r)).b=Go.Proofs.Q0.H7 s.q (Ba r):=by
     unfold Go.Proofs.Q0.H7
     rw [uM,← c2]
     by_cases e:(F4 s.q o).t.list=[]
     ·rw [L9 e,e];rfl
     ·obtain ⟨lo,k⟩:=c1.win
      have hm:=mean_of k (plain_ne e)
      rw [LP e,hm.2,← (c1.cen e).eq (plain_ne e)];rfl
    have hfn:(F4 s.q o).f (Ba r).1.id=none:=by
     cases k:(F4 s.q o).f (Ba r).1.id with
     | none=>rfl
     | some y =>
       obtain ⟨y1,y2⟩:=(c1.f _ _).1 k
       rw [c2,← uM] at y1
       have:=(List.mem_filter.1 y1).2
       simp only [decide_eq_true_eq] at this
       exact absurd y2 this
    have hlen:=c3.length_eq
    have hle:=h.q.len
    simp only [List.length_cons] at hlen
    obtain ⟨lo,hw⟩:=c1.aCc (a:=Ba r) k1 (by rw [c2];omega) (L:=plain (Db (Ba r).1.id s.q.t.list ++ [Ba r])) (by
     rw [uM,c2,show plain (RB.sans o s.q.t.list ++ [Ba r])=plain (RB.sans o s.q.t.list) ++ [(Ba r).1] from List.map_append ..]
     exact List.perm_append_comm) (by rw [hb];exact k4)
    obtain ⟨p1,p2,p3⟩:=c1.put (a:=Ba r) hfn hw
    have hE:UM s r=⟨bR s.q o (Ba r),Bx r s.l⟩:=by
     unfold UM Kn Q8;rw [hr,hjq,k2];rfl
    rw [hE]
    refine ⟨p1.clock _,by rw [h.l],?_,h.c,fun x hx=>?_,ord_put h.o⟩
    ·show (L2 (F4 s.q o) (Ba r)).t.list.Perm ((Bx r A.l).map Ba)
     refine p2.trans ?_
     rw [c2,← uM]
     exact ((oth_perm h _).cons _).trans ((Ka h.o).map Ba).symm
    ·rcases Mr hx with rfl | hx
     ·exact hr
     ·exact h.r x hx
 ·rw [if_neg e0]
  have:UM s r=s:=by
   unfold UM Kn
   cases k:r.1.right
   ·rfl
   ·have:LQ s.q (Ba r)≠0:=fun e=>e0 (by rw [← he];unfold Sp Fz;rw [k];exact e)
    unfold Q8
    rw [decide_eq_false this];rfl
  rw [this];exact h
def EB (A:As) (id:Int) (b:Bool):As:=match A2 A.l id with | some a=>⟨Bx (Gl a b) A.l,A.c⟩ | none=>A
theorem del_perm {l:List RT} {a:RT} {i:Int} (ho:DD l) (hf:A2 l i=some a):l.Perm (a :: DZ i l):=by
 obtain ⟨h1,h2⟩:=Bp hf
 have:l.Nodup:=(List.Pairwise.imp (fun h e=>by subst e;omega) (List.pairwise_map.1 ho))
 clear hf
 induction l with
 | nil=>cases h1
 | cons b l ih =>
   have hd:=ho.head
   unfold DZ
   rw [List.filter_cons]
   rcases List.mem_cons.1 h1 with rfl | h1
   ·rw [if_neg (by simp [h2]),List.filter_eq_self.2 (fun x hx=>by have:=hd x hx;simp;omega)]
   ·have:=hd a h1
    rw [if_pos (by simp;omega)]
    exact ((ih ho.tail h1 (List.nodup_cons.1 ‹(b :: l).Nodup›).2).cons b).trans (.swap _ _ _)
theorem BR.aX {s:Ss} {A:As} (h:BR s A) (id:Int) (b:Bool):BR (NL s id b) (EB A id b):=by
 unfold NL EB
 rw [h.l]
 cases e:A2 A.l id with
 | none=>exact h
 | some a =>
   obtain ⟨h1,h2⟩:=Bp e
   refine ⟨h.q,rfl,?_,h.c,fun x hx=>?_,ord_put h.o⟩
   ·refine h.p.trans (((del_perm h.o e).map Ba).trans ?_)
    have hi:Az (Gl a b)=id:=h2
    have:=(Ka (r:=Gl a b) h.o).map Ba
    rw [hi] at this
    exact this.symm
   ·rcases Mr hx with rfl | hx
    ·exact h.r a h1
    ·exact h.r x hx
end Go.Proofs.Q0
namespace Go.Proofs.Q0
open Go Go.RowKit
open IB (IT DX Bt)
attribute [local irreducible] XS XC XA AZ AP Aa A1 A0 A8 Ad AW SE
def Mp (q:Qs):Int:=(IB.JT (MS q)).id
theorem settle_ret (sb:Nat) (s s':Ss) (l:List Gn) (F:List Nat) (w0:World) (h:DW w0 sb s F) (hn:s.l.length≤1000000) (hq:s.q.t.list.length≤1000000) (hl:l.length≤1000000) (hF:IG s l s') :
 AO Tryz.prog 172 #[.pointer (some ⟨sb,0,none⟩)] w0 fun v w'=>∃ sl,v = .tuple #[sl,.int .i64 (Mp s'.q)]∧(∃ G,B7 w' 170 13 sl l.length (IC l) G∧∀ k∈G,w0.heap.size≤k)∧∃ F',DW w' sb s' F'∧(∀ k∈F',k∈F∨w0.heap.size≤k)∧AA F w0 w':=by
 have hs:=St.nil w0
 refine AR Tryz.func172 Tryz.ntmps172 (k:=?_)
 refine Jd ?_
 have Hq:=hs.AD rfl
 have hz:=Hq.size
 refine cl (h:=by exact fY sb s s' l F _ (h.only Hq) hn hq hl hF) (k:=?_)
 rintro v1 w1 ⟨⟨G,hG,Dc⟩,F1,FW,DE,AK⟩
 have aBn:=FW
 obtain ⟨qb,mb,Fq,rfl,h1,h2,h3,h4,h5⟩:=FW
 clear hs
 have hs:=(St.nil w1).AH h1 (by simp)
 refine Ja ?_
 have AM:=hs.AB [] (by simp [h1]) (by simp [D0])
 refine AY hs (h:=by exact OM qb s'.q Fq _ (h3.only AM)) (k:=?_);intro w' ho hs;repeat' (first|refine Sb ?_|(refine AU hs (k:=?_);intro w hs)|(refine al hs (k:=?_);intro b w hz hs)|fail)
 refine dr [] hs (k:=?_);intro hX w hs
 refine tks 0 5 ?_
 refine en (k:=?_)
 refine Jb ?_
 refine AG ?_
 have AT:=hs.AB [] (by simp [h1]) (by simp [D0])
 exact ⟨v1,rfl,⟨G,hG.keep AT (by simp),fun k hk=>by have:=Dc k hk;omega⟩,_,aBn.only AT,fun k hk=>by
  rcases DE k hk with h | h
  ·exact .inl h
  ·exact .inr om,((Hq.weaken (by simp)).step AK (fun k hk => .inl hk)).step AT (by simp)⟩
end Go.Proofs.Q0
namespace Go.Proofs.Q0
open IB (IT)
theorem over_ok {m:Mn} {l:List It} (h:Lf m l) {x:It} (hx:x∈l):GI m x.p=some (HM m x.p)∧A7 (HM m x.p):=by
 obtain ⟨lo,k⟩:=h.all
 have hw:=k.2.2 x hx
 have hr:=k.right h.is
 obtain ⟨r1,_,_,_,_,_,⟨w1,w2,w3,w4⟩,_⟩:=iright_all hw.isin hw.right
 have hn:m.n≠0:=by rw [h.is.n];have:=List.length_pos_of_mem hx;omega
 have h8:=ZN hw.isin.1 hr r1
 have hm:=Cx.1 hr
 have a0:=h.a0
 have a1:=h.a1
 have h9:=mul_rng (w:=m.a) (s:=x.p.w) (W:=33554432) (S:=1048576) om om om om
 have h10:=mul_rng (w:=m.w) (s:=dist x.p m.b) (W:=33554432) (S:=9671406556917033397649408+1048576) om om h8.2.1 h8.2.2
 have e:=Int.mul_comm (dist x.p m.b) m.w
 have i1:A7 (m.a*x.p.w):=by unfold A7;omega
 have i2:A7 (HM m x.p):=by unfold HM A7;rw [e];omega
 unfold GI
 exact ⟨if_pos ⟨hr,hn,r1,i1,i2⟩,i2⟩
def mA (A:As):Mn:=EY (its A.l)
def J8 (A:As) (a:RT):Int:=HM (mA A) a.1.i.p
def Oh (A:As) (a:RT):Int:=J8 A a / (mA A).w
def Cq (A:As) (id:Int):Int:=match A2 A.l id with | some a=>C6 (J8 A a) 0 | none=>0
def Bj (A:As) (id:Int):Int:=match A2 A.l id with | some a=>Oh A a | none=>0
theorem BR.over {s:Ss} {A:As} (h:BR s A) {a:RT} (ha:a∈A.l):GI s.q.m a.1.i.p=some (J8 A a)∧A7 (J8 A a)∧s.q.m=mA A:=by
 have hne:A.l≠[]:=List.ne_nil_of_mem ha
 have e:=h.HF hne
 have:=over_ok (h.cen hne) (x:=a.1.i) (List.mem_map_of_mem ha)
 rw [e] at this
 exact ⟨by rw [e];exact this.1,this.2,e⟩
theorem BR.Mg {s:Ss} {A:As} (h:BR s A) (id:Int):M1 s.q id=Cq A id:=by
 unfold M1 Cq
 rw [h.f]
 cases e:A2 A.l id with
 | none=>rfl
 | some a =>
   have:=h.over (Bp e).1
   show C6 ((GI s.q.m a.1.i.p).getD 0) 0=_
   rw [this.1];rfl
theorem BR.lag {s:Ss} {A:As} (h:BR s A) (id:Int):Wc s.q id=Bj A id:=by
 unfold Wc Bj
 rw [h.f]
 cases e:A2 A.l id with
 | none=>rfl
 | some a =>
   have:=h.over (Bp e).1
   show ((XX s.q.m a.1.i.p).getD 0)=_
   unfold XX Oh
   rw [this.1,this.2.2];rfl
def EP (A:As) (a:RT):Bool:=a.1.asleep && decide (0≤J8 A a)
def Up (A:As) (a:RT):Gn:=⟨Az a,Oh A a,a.1⟩
def CQ:Nat→As→List Gn × As
 | 0,A=>([],A)
 | n+1,A=>match A.l.find? (EP A) with
   | none=>([],A)
   | some a=>(Up A a :: (CQ n (EV A (Az a))).1,(CQ n (EV A (Az a))).2)
def Co (A:As):List Gn × As:=CQ A.l.length A
theorem fB {x:Int}:C6 x 0≥0↔0≤x:=by unfold C6;split <;> (try split) <;> omega
theorem find_congr {α:Type} {p q:α→Bool}:∀ {l:List α},(∀ x∈l,p x=q x)→l.find? p=l.find? q
 | [],_=>rfl
 | a :: l,h=>by
   rw [List.find?_cons,List.find?_cons,h a List.mem_cons_self,find_congr fun x hx=>h x (List.mem_cons_of_mem _ hx)]
theorem BR.next {s:Ss} {A:As} (h:BR s A):Ia s=(A.l.find? (EP A)).map (Up A):=by
 unfold Ia
 rw [h.l,find_congr (q:=EP A) (fun a ha=>by
  unfold goes EP
  rw [h.Mg]
  unfold Cq
  rw [DL h.o ha]
  simp only [fB])]
 cases e:A.l.find? (EP A) with
 | none=>rfl
 | some a =>
   have ha:=List.mem_of_find?_eq_some e
   show some (bH s.q a)=some (Up A a)
   unfold bH Up
   rw [h.lag]
   unfold Bj
   rw [DL h.o ha]
theorem BR.CQ:∀ {n:Nat} {s:Ss} {A:As},BR s A→A.l.length≤n→∃ s',IG s (CQ n A).1 s'∧BR s' (CQ n A).2
 | 0,s,A,h,hn=>⟨s,.done (by rw [h.next,List.eq_nil_of_length_eq_zero (Nat.le_zero.1 hn)];rfl),h⟩
 | n+1,s,A,h,hn=>by
   unfold Go.Proofs.Q0.CQ
   cases e:A.l.find? (EP A) with
   | none=>exact ⟨s,.done (by rw [h.next,e];rfl),h⟩
   | some a =>
     have ha:=List.mem_of_find?_eq_some e
     have hf:=DL h.o ha
     obtain ⟨e1,e2,e3⟩:=h.exit hf
     have hl:(EV A (Az a)).l.length≤n:=by
      unfold EV
      simp only [hf,Option.isSome_some,if_true]
      have:=(del_perm h.o hf).length_eq
      simp only [List.length_cons] at this ⊢
      omega
     obtain ⟨s',k1,k2⟩:=e3.CQ hl
     exact ⟨s',.step (by rw [h.next,e];rfl) e1 e2 k1,k2⟩
theorem BR.flush {s:Ss} {A:As} (h:BR s A):∃ s',IG s (Co A).1 s'∧BR s' (Co A).2:=h.CQ (Nat.le_refl _)
def Hw (X:List IT):Option IT→Prop
 | none=>X=[]
 | some m=>m∈X∧∀ y∈X,due y.1 m.1=false
theorem QD {S:IT→Prop} (o:DJ (fun x y:IT=>due x.1 y.1) S) {X Y:List IT} (hX:∀ z∈X,S z) (hY:∀ z∈Y,S z) {x y:IT} (h1:Hw X (some x)) (h2:Hw Y (some y)) {Z:List IT} (hZ:∀ z,z∈Z↔z∈X∨z∈Y):Hw Z (some (IB.snr x y)):=by
 obtain ⟨x1,x2⟩:=h1
 obtain ⟨y1,y2⟩:=h2
 have sx:=hX x x1
 have sy:=hY y y1
 unfold IB.snr
 cases e:due y.1 x.1
 ·refine ⟨(hZ _).2 (.inl x1),fun z hz=>?_⟩
  rcases (hZ z).1 hz with hz | hz
  ·exact x2 z hz
  ·cases k:due z.1 x.1
   ·exact k
   ·exfalso
    cases k2:due y.1 z.1
    ·have:=o.tri z y (hY z hz) sy (y2 z hz) k2
     subst this;rw [e] at k;cases k
    ·have:=o.tr y z x sy (hY z hz) sx k2 k
     rw [show due y.1 x.1=true from this] at e;cases e
 ·refine ⟨(hZ _).2 (.inr y1),fun z hz=>?_⟩
  rcases (hZ z).1 hz with hz | hz
  ·cases k:due z.1 y.1
   ·exact k
   ·have:=o.tr z y x (hX z hz) sy sx k e
    exact absurd (x2 z hz) (by rw [show due z.1 x.1=true from this];simp)
  ·exact y2 z hz
theorem all_min {S:IT→Prop} (o:DJ (fun x y:IT=>due x.1 y.1) S):∀ {t:RB IT},(∀ z∈t.list,S z)→Hw t.list (IB.all? t)
 | .nil,_=>rfl
 | .node l x r c,h=>by
   have hl:=all_min o (t:=l) fun z hz=>h z (by simp [RB.list,hz])
   have hr:=all_min o (t:=r) fun z hz=>h z (by simp [RB.list,hz])
   have hx:S x:=h x (by simp [RB.list])
   have h0:Hw [x] (some x):=⟨by simp,fun y hy=>by obtain rfl:=List.mem_singleton.1 hy;exact o.irr y hx⟩
   have hL:∀ z∈l.list,S z:=fun z hz=>h z (by simp [RB.list,hz])
   have hR:∀ z∈r.list,S z:=fun z hz=>h z (by simp [RB.list,hz])
   have gM:∀ z∈[x],S z:=fun z hz=>by obtain rfl:=List.mem_singleton.1 hz;exact hx
   have h1:Hw (l.list ++ [x]) (some (match IB.all? l with | none=>x | some a=>IB.snr a x)):=by
    cases e:IB.all? l with
    | none=>rw [e] at hl;rw [show l.list=[] from hl];exact h0
    | some a=>rw [e] at hl;exact QD o hL gM hl h0 (fun z=>by simp)
   have h1':∀ z∈l.list ++ [x],S z:=fun z hz=>by
    rcases List.mem_append.1 hz with hz | hz
    ·exact hL z hz
    ·exact gM z hz
   show Hw (l.list ++ x :: r.list) (some _)
   cases e:IB.all? r with
   | none=>rw [e] at hr;rw [show r.list=[] from hr];exact h1
   | some b=>rw [e] at hr;exact QD o h1' hR h1 hr (fun z=>by simp [or_assoc])
theorem Qr {S:IT→Prop} (o:DJ (fun x y:IT=>due x.1 y.1) S) {q:IT→Bool}:∀ {t:RB IT} {acc:Option IT} {X Z:List IT},(∀ z∈t.list,S z)→(∀ z∈X,S z)→Hw X acc→t.list.Pairwise (fun a b=>q b=true→q a=true)→(∀ z,z∈Z↔z∈X∨(z∈t.list∧q z=true))→Hw Z (IB.Dd q t acc)
 | .nil,acc,X,Z,_,_,h,_,hZ=>by
   have:∀ z,z∈Z↔z∈X:=fun z=>by rw [hZ];simp [RB.list]
   unfold IB.Dd
   cases acc with
   | none=>exact List.eq_nil_iff_forall_not_mem.2 fun z hz=>by have:=(this z).1 hz;rw [show X=[] from h] at this;cases this
   | some m=>exact ⟨(this m).2 h.1,fun y hy=>h.2 y ((this y).1 hy)⟩
 | .node l x r c,acc,X,Z,hS,hX,h,hp,hZ=>by
   have hx:S x:=hS x (by simp [RB.list])
   have hL:∀ z∈l.list,S z:=fun z hz=>hS z (by simp [RB.list,hz])
   have hR:∀ z∈r.list,S z:=fun z hz=>hS z (by simp [RB.list,hz])
   obtain ⟨p1,p2,p3⟩:=List.pairwise_append.1 (show (l.list ++ x :: r.list).Pairwise _ from hp)
   obtain ⟨p4,p5⟩:=List.pairwise_cons.1 p2
   have gM:∀ z∈[x],S z:=fun z hz=>by obtain rfl:=List.mem_singleton.1 hz;exact hx
   have h0:Hw [x] (some x):=⟨by simp,fun y hy=>by obtain rfl:=List.mem_singleton.1 hy;exact o.irr y hx⟩
   unfold IB.Dd
   cases e:q x
   ·refine Qr o hL hX h p1 fun z=>?_
    rw [hZ]
    constructor
    ·rintro (h1 | ⟨h1,h2⟩)
     ·exact .inl h1
     ·rcases List.mem_append.1 (show z∈l.list ++ x :: r.list from h1) with h1 | h1
      ·exact .inr ⟨h1,h2⟩
      ·rcases List.mem_cons.1 h1 with rfl | h1
       ·rw [e] at h2;cases h2
       ·have:=p4 z h1 h2;rw [e] at this;cases this
    ·rintro (h1 | ⟨h1,h2⟩)
     ·exact .inl h1
     ·exact .inr ⟨by show z∈l.list ++ x :: r.list;simp [h1],h2⟩
   ·have jW:∀ z∈l.list,q z=true:=fun z hz=>p3 z hz x List.mem_cons_self e
    have a1:Hw (X ++ l.list) (IB.NZ acc l):=by
     have hl:=all_min o hL
     unfold IB.NZ
     cases e1:IB.all? l with
     | none=>rw [e1] at hl;rw [show l.list=[] from hl,List.append_nil];exact h
     | some a =>
       rw [e1] at hl
       unfold IB.Mf
       cases acc with
       | none=>rw [show X=[] from h];exact hl
       | some m=>exact QD o hX hL h hl (fun z=>by simp)
    have hXL:∀ z∈X ++ l.list,S z:=fun z hz=>by
     rcases List.mem_append.1 hz with hz | hz
     ·exact hX z hz
     ·exact hL z hz
    have a2:Hw (X ++ l.list ++ [x]) (IB.Mf (IB.NZ acc l) x):=by
     unfold IB.Mf
     cases e1:IB.NZ acc l with
     | none=>rw [e1] at a1;rw [show X ++ l.list=[] from a1];exact h0
     | some m=>rw [e1] at a1;exact QD o hXL gM a1 h0 (fun z=>by simp [or_assoc])
    refine Qr (X:=X ++ l.list ++ [x]) o hR (fun z hz=>?_) a2 p5 fun z=>?_
    ·rcases List.mem_append.1 hz with hz | hz
     ·exact hXL z hz
     ·exact gM z hz
    ·rw [hZ]
     constructor
     ·rintro (h1 | ⟨h1,h2⟩)
      ·exact .inl (by simp [h1])
      ·rcases List.mem_append.1 (show z∈l.list ++ x :: r.list from h1) with h1 | h1
       ·exact .inl (by simp [h1])
       ·rcases List.mem_cons.1 h1 with rfl | h1
        ·exact .inl (by simp)
        ·exact .inr ⟨h1,h2⟩
     ·rintro (h1 | ⟨h1,h2⟩)
      ·rcases List.mem_append.1 h1 with h1 | h1
       ·rcases List.mem_append.1 h1 with h1 | h1
        ·exact .inl h1
        ·exact .inr ⟨by show z∈l.list ++ x :: r.list;simp [h1],jW z h1⟩
       ·obtain rfl:=List.mem_singleton.1 h1
        exact .inr ⟨by show z∈l.list ++ z :: r.list;simp,e⟩
      ·exact .inr ⟨by show z∈l.list ++ x :: r.list;simp [h1],h2⟩
def KQ (A:As):List RT:=A.l.filter fun a=>decide (0≤J8 A a)
def Jx:List RT→Option RT
 | []=>none
 | a :: l=>some (l.foldl (fun a b=>bif due b.1.i a.1.i then b else a) a)
def Eg (A:As):Option RT:=Jx (KQ A)
def Mo (o:Option RT):Int:=match o with | none=>0 | some a=>Az a
def dZ (X:List RT):Option RT→Prop
 | none=>X=[]
 | some m=>m∈X∧∀ y∈X,due y.1.i m.1.i=false
theorem mJ {S:RT→Prop} (o:DJ (fun x y:RT=>due x.1.i y.1.i) S):∀ {X:List RT},(∀ z∈X,S z)→dZ X (Jx X)
 | [],_=>rfl
 | a :: l,h=>by
   suffices H:∀ (l:List RT) (a:RT) (Y:List RT),(∀ z∈Y,S z)→(∀ z∈l,S z)→dZ Y (some a)→dZ (Y ++ l) (some (l.foldl (fun a b=>bif due b.1.i a.1.i then b else a) a)) from
    H l a [a] (fun z hz=>h z (by simp at hz;simp [hz])) (fun z hz=>h z (List.mem_cons_of_mem _ hz)) ⟨by simp,fun y hy=>by obtain rfl:=List.mem_singleton.1 hy;exact o.irr y (h y List.mem_cons_self)⟩
   intro l
   induction l with
   | nil=>intro a Y _ _ h;rw [List.append_nil];exact h
   | cons b l ih =>
     intro a Y hY hl h
     rw [List.foldl_cons,show Y ++ b :: l=(Y ++ [b]) ++ l by simp]
     have hb:=hl b List.mem_cons_self
     have ha:=hY a h.1
     refine ih _ _ (fun z hz=>?_) (fun z hz=>hl z (List.mem_cons_of_mem _ hz)) ?_
     ·rcases List.mem_append.1 hz with hz | hz
      ·exact hY z hz
      ·obtain rfl:=List.mem_singleton.1 hz;exact hb
     ·cases e:due b.1.i a.1.i
      ·refine ⟨by simp [h.1],fun y hy=>?_⟩
       rcases List.mem_append.1 hy with hy | hy
       ·exact h.2 y hy
       ·obtain rfl:=List.mem_singleton.1 hy;exact e
      ·refine ⟨by simp,fun y hy=>?_⟩
       rcases List.mem_append.1 hy with hy | hy
       ·show due y.1.i b.1.i=false
        cases k:due y.1.i b.1.i
        ·rfl
        ·have:=o.tr y b a (hY y hy) hb ha k e
         exact absurd (h.2 y hy) (by rw [show due y.1.i a.1.i=true from this];simp)
       ·obtain rfl:=List.mem_singleton.1 hy;exact o.irr y hb
theorem DD.inj {l:List RT} (h:DD l):∀ x∈l,∀ y∈l,Az x=Az y→x=y:=fun x hx y hy e=>by
 have h1:=DL h hx
 rw [e,DL h hy] at h1
 exact (Option.some.inj h1).symm
theorem oP {b lo:Int} {x y:It} (hx:Kq b lo x) (hy:Kq b lo y) (hm:Iy lo) (h:ahead x y=true):U1 b x.p y.p:=by
 have d1:=hx.dead hm
 have d2:=hy.dead hm
 have l1:=hx.low
 have l2:=hy.low
 have hc:=cmp_le (PD hx.isin.1 hy.isin.1 (iright_all hx.isin hx.right).1 (iright_all hy.isin hy.right).1 (b:=b) (by unfold WL;unfold Iy at hm;omega))
 unfold ahead at h
 simp only [Bool.or_eq_true,Bool.and_eq_true,decide_eq_true_eq] at h
 rcases h with h | h
 ·have:=hc.1.1 h;unfold U1 at *;omega
 ·exact (hc.2.1 h.1).1
theorem cN {m:Mn} {l:List It} (h:Lf m l) {x y:It} (hx:x∈l) (hy:y∈l) (ha:ahead x y=true) (he:elig m y.p=true):elig m x.p=true:=by
 obtain ⟨lo,k⟩:=h.all
 have wx:=k.2.2 x hx
 have wy:=k.2.2 y hy
 have hl:=oP wx wy k.1 ha
 unfold elig at he ⊢
 rw [(over_ok h hx).1]
 rw [(over_ok h hy).1] at he
 simp only [Option.isSome_some,Option.getD_some,Bool.true_and,decide_eq_true_eq] at he ⊢
 have p1:=(iright_all wx.isin wx.right).2.2.2.2.2.2.1
 have p2:=(iright_all wy.isin wy.right).2.2.2.2.2.2.1
 have a0:=h.a0
 have a1:=h.a1
 have:=Rj (p:=x.p.w) (q:=y.p.w) (r:=m.w) om om om hl (show dist y.p m.b*m.w≤m.a*y.p.w by unfold HM at he;omega)
 unfold HM;omega
def V7 (A:As):It:=match Eg A with | none => .zero | some a=>a.1.i
theorem BR.aBy {s:Ss} {A:As} (h:BR s A):IB.JT (MS s.q)=V7 A∧(MS s.q).isSome=(Eg A).isSome:=by
 obtain ⟨lo,hW⟩:=h.q.win
 have aCI:=plain_win hW
 have o1:DJ (fun x y:IT=>due x.1 y.1) (·∈s.q.t.list):=aBx aCI hW.1 h.q.inj
 have hin:∀ a:RT,a∈A.l→Ba a∈s.q.t.list:=fun a ha=>h.p.mem_iff.2 (List.mem_map_of_mem ha)
 have o2:DJ (fun x y:RT=>due x.1.i y.1.i) (·∈A.l):=⟨fun a ha=>o1.irr (Ba a) (hin a ha),fun a b c ha hb hc=>o1.tr (Ba a) (Ba b) (Ba c) (hin a ha) (hin b hb) (hin c hc),fun a b ha hb k1 k2=>by
  have:=o1.tri (Ba a) (Ba b) (hin a ha) (hin b hb) k1 k2
  exact h.o.inj a ha b hb (congrArg (fun z:IT=>z.1.id) this)⟩
 have hmono:s.q.t.list.Pairwise (fun a b=>elig s.q.m b.1.p=true→elig s.q.m a.1.p=true):=by
  by_cases e:s.q.t.list=[]
  ·rw [e];exact List.Pairwise.nil
  ·refine List.Pairwise.imp_of_mem (fun {a b} ha hb hab=>?_) h.q.srt
   exact cN (h.q.cen e) (List.mem_map_of_mem ha) (List.mem_map_of_mem hb) hab
 have hE:∀ a∈A.l,elig s.q.m a.1.i.p=decide (0≤J8 A a):=fun a ha=>by
  unfold elig
  rw [(h.over ha).1];rfl
 have hm:Hw ((KQ A).map Ba) (MS s.q):=Qr (X:=[]) o1 (fun z hz=>hz) (fun z hz=>by cases hz) rfl hmono fun z=>by
  rw [List.mem_map]
  constructor
  ·rintro ⟨a,ha,rfl⟩
   obtain ⟨h1,h2⟩:=List.mem_filter.1 ha
   exact .inr ⟨hin a h1,by show elig s.q.m a.1.i.p=true;rw [hE a h1];exact h2⟩
  ·rintro (h1 | ⟨h1,h2⟩)
   ·cases h1
   ·obtain ⟨a,ha,rfl⟩:=List.mem_map.1 (h.p.mem_iff.1 h1)
    exact ⟨a,List.mem_filter.2 ⟨ha,by rw [← hE a ha];exact h2⟩,rfl⟩
 have hr:dZ (KQ A) (Eg A):=mJ o2 fun z hz=>(List.mem_filter.1 hz).1
 cases e1:MS s.q with
 | none =>
   rw [e1] at hm
   have:KQ A=[]:=List.map_eq_nil_iff.1 hm
   unfold V7 Eg
   rw [this];exact ⟨rfl,rfl⟩
 | some m =>
   rw [e1] at hm
   obtain ⟨h1,h2⟩:=hm
   obtain ⟨a,ha,rfl⟩:=List.mem_map.1 h1
   cases e2:Eg A with
   | none=>rw [e2] at hr;rw [show KQ A=[] from hr] at ha;cases ha
   | some b =>
     rw [e2] at hr
     obtain ⟨h3,h4⟩:=hr
     have:a=b:=o2.tri a b (List.mem_filter.1 ha).1 (List.mem_filter.1 h3).1 (h4 a ha) (h2 (Ba b) (List.mem_map_of_mem h3))
     subst this
     unfold V7
     rw [e2];exact ⟨rfl,rfl⟩
theorem BR.Mp {s:Ss} {A:As} (h:BR s A):Go.Proofs.Q0.Mp s.q=Mo (Eg A):=by
 unfold Go.Proofs.Q0.Mp
 rw [h.aBy.1]
 unfold V7
 cases Eg A <;> rfl
end Go.Proofs.Q0
namespace Go.Proofs.Q0
open Go Go.RowKit Go.Maps Go.Shelf
open IB (IT DX Bt)
attribute [local irreducible] XS XC XA AZ AP Aa A1 A0 A8 Ad AW SE
theorem Y2 (b c:Nat) (f:Int→Option Value) (w0:World) (h:CK w0 b f c):AO Tryz.prog 154 #[.map (some b)] w0 fun v w'=>(∃ mb,v = .map (some mb)∧CK w' mb f c∧w0.heap.size≤mb)∧AA [] w0 w':=by
 obtain ⟨D,h1,h2⟩:=h
 exact ret_of_calls (by kernel_rfl) ((AnyW.maps_Clone_owns Tryz.aAS 3 SJ b c D w0 h1).mono fun e w' ⟨he,k1,k2,k3⟩=>⟨_,he,⟨_,rfl,⟨D,k1,h2⟩,Nat.le_refl _⟩,AA.Qy k3⟩)
theorem YI (b c:Nat) (f:Int→Option Value) (w0:World) (h:CK w0 b f c):AO Tryz.prog 120 #[.map (some b)] w0 fun v w'=>(∃ mb,v = .map (some mb)∧CK w' mb f c∧w0.heap.size≤mb)∧AA [] w0 w':=by
 obtain ⟨D,h1,h2⟩:=h
 exact ret_of_calls (by kernel_rfl) ((AnyW.maps_Clone_owns Tryz.aAe 3 SJ b c D w0 h1).mono fun e w' ⟨he,k1,k2,k3⟩=>⟨_,he,⟨_,rfl,⟨D,k1,h2⟩,Nat.le_refl _⟩,AA.Qy k3⟩)
theorem fA (qb:Nat) (s:Qs) (F:List Nat) (w0:World) (h:DT w0 qb s F) :
 AO Tryz.prog 119 #[.pointer (some ⟨qb,0,none⟩)] w0 fun v w'=>(∃ q' F',v = .pointer (some ⟨q',0,none⟩)∧DT w' q' s F'∧∀ k∈F',w0.heap.size≤k)∧AA [] w0 w':=by
 obtain ⟨tb,mb,Ft,rfl,h1,h2,h3,h4,h5⟩:=h
 have hs:=(St.nil w0).AH h1 (by simp)
 refine AR Tryz.func119 Tryz.ntmps119 (k:=?_)
 refine Jd ?_
 refine dr [] hs (k:=?_);intro hX w hs
 refine tks 0 8 ?_
 refine tks 9 4 ?_
 refine tks 14 4 ?_
 refine dt 8 hX (k:=?_)
 have ho:=hs.AB [] (by simp [h1]) (by simp [D0])
 refine cl (h:=by exact IB.bE tb s.t Ft _ (h3.only ho)) (k:=?_)
 rintro v w1 ⟨⟨t',iR,rfl,k3,hF⟩,AK⟩;replace hs:=hs.AN AK;refine Jb ?_
 have n1:=ho.size
 refine dn (k:=?_)
 refine dt 13 hX (k:=?_)
 have AM:=hs.AB [] (by simp [h1]) (by simp [D0])
 refine cl (h:=by exact Y2 mb s.n _ _ (h2.keep AM (by simp))) (k:=?_)
 rintro v w2 ⟨⟨m',rfl,k2,hm⟩,AT⟩;replace hs:=hs.AN AT
 have n2:=AM.size
 have l3:=k3.lt
 have BB:=hs.AB [] (by simp [h1]) (by simp [D0])
 have kq:=hs.get At.head
 have n3:=BB.size
 have n4:=AT.size
 clear hs
 have hs:=(St.nil w2).AH kq (by simp)
 refine Jb ?_
 refine dn (k:=?_)
 refine tk 18 hX (k:=?_)
 refine dt 19 hX (k:=?_)
 repeat' (first|refine Nx.h ?_|(refine bx hs (k:=?_);intro b w hz hs)|fail)
 have n5:=hs.new _ (List.mem_cons_self) rfl
 simp only at n5
 refine dn (k:=?_)
 refine tk 20 hX (k:=?_)
 refine en (k:=?_)
 refine Jb ?_
 refine AG ?_
 have Aw:=hs.AB [] (by simp [kq]) (by simp [D0])
 exact ⟨⟨_,_,rfl,⟨t',m',iR,rfl,hs.get At.head,k2.keep Aw (by simp),(k3.only AT).only Aw,h4,h5⟩,fun k hk=>by
  simp only [List.mem_cons] at hk
  rcases hk with rfl | rfl | hk
  ·omega
  ·omega
  ·have:=hF k hk;omega⟩,BB.step Aw (by simp)⟩
theorem sclone_ret (sb:Nat) (s:Ss) (F:List Nat) (w0:World) (h:DW w0 sb s F) :
 AO Tryz.prog 80 #[.pointer (some ⟨sb,0,none⟩)] w0 fun v w'=>(∃ s' F',v = .pointer (some ⟨s',0,none⟩)∧DW w' s' s F'∧∀ k∈F',w0.heap.size≤k)∧AA [] w0 w':=by
 obtain ⟨qb,mb,Fq,rfl,h1,h2,h3,h4,h5⟩:=h
 have hs:=(St.nil w0).AH h1 (by simp)
 refine AR Tryz.func80 Tryz.ntmps80 (k:=?_)
 refine Jd ?_
 refine dr [] hs (k:=?_);intro hX w hs
 refine tks 0 4 ?_
 refine tks 5 4 ?_
 refine dt 4 hX (k:=?_)
 have ho:=hs.AB [] (by simp [h1]) (by simp [D0])
 refine cl (h:=by exact fA qb s.q Fq _ (h3.only ho)) (k:=?_)
 rintro v w1 ⟨⟨q',Fq',rfl,k3,hF⟩,AK⟩;replace hs:=hs.AN AK;refine Jb ?_
 have n1:=ho.size
 refine dn (k:=?_)
 refine dt 9 hX (k:=?_)
 have AM:=hs.AB [] (by simp [h1]) (by simp [D0])
 refine cl (h:=by exact YI mb s.l.length _ _ (h2.keep AM (by simp))) (k:=?_)
 rintro v w2 ⟨⟨m',rfl,k2,hm⟩,AT⟩;replace hs:=hs.AN AT
 have n2:=AM.size
 have l3:=k3.lt
 have BB:=hs.AB [] (by simp [h1]) (by simp [D0])
 have kq:=hs.get At.head
 have n3:=BB.size
 have n4:=AT.size
 clear hs
 have hs:=(St.nil w2).AH kq (by simp)
 refine Jb ?_
 refine dn (k:=?_)
 refine tk 10 hX (k:=?_)
 refine dt 11 hX (k:=?_)
 repeat' (first|refine Nx.h ?_|(refine bx hs (k:=?_);intro b w hz hs)|fail)
 have n5:=hs.new _ (List.mem_cons_self) rfl
 simp only at n5
 refine dn (k:=?_)
 refine tk 12 hX (k:=?_)
 refine en (k:=?_)
 refine Jb ?_
 refine AG ?_
 have Aw:=hs.AB [] (by simp [kq]) (by simp [D0])
 exact ⟨⟨_,_,rfl,⟨q',m',Fq',rfl,hs.get At.head,k2.keep Aw (by simp),(k3.only AT).only Aw,fun hm'=>by have:=l3 _ hm';omega,h5⟩,fun k hk=>by
  simp only [List.mem_cons] at hk
  rcases hk with rfl | rfl | hk
  ·omega
  ·omega
  ·have:=hF k hk;omega⟩,BB.step Aw (by simp)⟩
end Go.Proofs.Q0
namespace Go.Proofs.Q0
open Go Go.RowKit
open IB (IT DX Bt)
attribute [local irreducible] XS XC XA AZ AP Aa A1 A0 A8 Ad AW SE
def DB (w:World) (sb:Nat) (A:As) (F:List Nat):Prop:=∃ s,DW w sb s F∧BR s A
theorem DB.Ah {w w':World} {sb:Nat} {A:As} {F G:List Nat} (h:DB w sb A F) (ho:AA G w w') (hd:∀ k∈F,k∉G):DB w' sb A F:=by obtain ⟨s,h1,h2⟩:=h;exact ⟨s,h1.Ah ho hd,h2⟩
theorem DB.only {w w':World} {sb:Nat} {A:As} {F:List Nat} (h:DB w sb A F) (ho:AA [] w w'):DB w' sb A F:=h.Ah ho (by simp)
theorem DB.lt {w:World} {sb:Nat} {A:As} {F:List Nat} (h:DB w sb A F):∀ k∈F,k < w.heap.size:=by obtain ⟨s,h1,h2⟩:=h;exact h1.lt
theorem DB.not {w:World} {sb:Nat} {A:As} {F:List Nat} (h:DB w sb A F) {b:Nat} {cs:Array Value} {ty:Nat} {fz:Nat × Nat} (hb:w.heap[b]?=some (.cells cs ty fz)) (ho:Wl (.cells cs ty fz)=true):b∉F:=by obtain ⟨s,h1,h2⟩:=h;exact h1.not hb ho
def Ko (w:World) (qb:Nat) (A:As):Prop:=∃ s F,DT w qb s.q F∧BR s A
theorem Ko.only {w w':World} {qb:Nat} {A:As} (h:Ko w qb A) (ho:AA [] w w'):Ko w' qb A:=by obtain ⟨s,F,h1,h2⟩:=h;exact ⟨s,F,h1.only ho,h2⟩
theorem DB.FB {w:World} {sb:Nat} {A:As} {F:List Nat} (h:DB w sb A F):∃ qb mb,w.heap[sb]?=some (Vp qb mb)∧Ko w qb A:=by
 obtain ⟨s,⟨qb,mb,Fq,rfl,h1,h2,h3,h4⟩,hr⟩:=h
 exact ⟨qb,mb,h1,s,Fq,h3,hr⟩
theorem DB.rep {w:World} {sb:Nat} {A:As} {F:List Nat} (h:DB w sb A F):∃ s,BR s A:=by obtain ⟨s,h1,h2⟩:=h;exact ⟨s,h2⟩
theorem BR.small {s:Ss} {A:As} (h:BR s A):s.l.length < 1000000∧s.q.t.list.length+1≤1000000∧s.q.n < 1000000∧A.l.length≤1000000:=by
 have:=h.le
 have:=h.len
 have:=h.q.n
 rw [h.l];omega
def Left (w0:World) (sb:Nat) (A:As) (F:List Nat) (w':World):Prop:=∃ F',DB w' sb A F'∧(∀ k∈F',k∈F∨w0.heap.size≤k)∧AA F w0 w'
theorem qI (c:Int) (hc:BL c) (w0:World):AO Tryz.prog 63 #[.int .u64 c] w0 fun v w'=>(∃ sb F,v = .pointer (some ⟨sb,0,none⟩)∧DB w' sb ⟨[],c⟩ F∧∀ k∈F,w0.heap.size≤k)∧AA [] w0 w' :=
 (snew_ret c hc w0).mono fun v w' ⟨⟨sb,F,h1,h2,h3⟩,ho⟩=>⟨⟨sb,F,h1,⟨_,h2,BR.new c⟩,h3⟩,ho⟩
theorem dS (sb:Nat) (A:As) (F:List Nat) (r:RT) (w0:World) (h:DB w0 sb A F):AO Tryz.prog 132 #[.pointer (some ⟨sb,0,none⟩),rv r.1] w0 fun v w'=>v = .int .i64 (Da A r)∧Left w0 sb (EF A r) F w':=by
 obtain ⟨s,h1,h2⟩:=h
 obtain ⟨k1,k2⟩:=h2.enter r
 rw [← k1]
 exact (enter_ret sb s F r w0 h1 h2.small.1 h2.small.2.1 h2.small.2.2.1).mono fun v w' ⟨e,F',a,b⟩=>⟨e,F',⟨_,a,k2⟩,b⟩
theorem Qq (sb:Nat) (A:As) (F:List Nat) (r:RT) (w0:World) (h:DB w0 sb A F):AO Tryz.prog 115 #[.pointer (some ⟨sb,0,none⟩),rv r.1] w0 fun v w'=>v = .int .i64 (CZ A r)∧Left w0 sb (D7 A r) F w':=by
 obtain ⟨s,h1,h2⟩:=h
 obtain ⟨k1,k2,k3⟩:=h2.put r
 rw [← k1]
 exact (sput_ret sb s F r w0 h1 h2.small.1 h2.small.2.1 h2.small.2.2.1 k3).mono fun v w' ⟨e,F',a,b⟩=>⟨e,F',⟨_,a,k2⟩,b⟩
theorem KD (sb:Nat) (A:As) (F:List Nat) (id:Int) (w0:World) (h:DB w0 sb A F) (hid:In64 id):AO Tryz.prog 102 #[.pointer (some ⟨sb,0,none⟩),.int .i64 id] w0 fun v w'=>v = .tuple #[rv (C8 A.l id),.bool (A2 A.l id).isSome]∧AA [] w0 w':=by
 obtain ⟨s,h1,h2⟩:=h
 rw [← h2.l]
 exact wW sb s F id w0 h1 hid
theorem iZ (sb:Nat) (s:Ss) (F:List Nat) (id:Int) (w0:World) (h:DW w0 sb s F) (hid:In64 id) (hlen:s.q.t.list.length≤1000000) (hf:s.q.f id=none) :
 AO Tryz.prog 139 #[.pointer (some ⟨sb,0,none⟩),.int .i64 id] w0 fun v w'=>v = .tuple #[rv .zero,.int .i64 14]∧∃ F',DW w' sb s F'∧(∀ k∈F',k∈F∨w0.heap.size≤k)∧AA F w0 w':=by
 have hS:=h
 obtain ⟨qb,mb,Fq,rfl,h1,h2,h3,h4,h5⟩:=h
 have hs:=(St.nil w0).AH h1 (by simp)
 have hlt:=hS.lt
 refine AR Tryz.func139 Tryz.ntmps139 (k:=?_)
 refine Ai ?_
 refine Ao ?_
 refine al hs (k:=?_);intro b4 w hz hs
 have g4:=hs.new (b4,true) (by simp) rfl
 simp only at g4
 refine Jd ?_
 have ho:=hs.AB [] (by simp [h1]) (by simp [D0])
 have hsz:=ho.size
 have l4:=lt_of_block (hs.get At.head)
 refine cl (h:=by exact TB qb s.q Fq id _ (h3.only ho) hid hlen (fun a' e=>by rw [hf] at e;cases e)) (k:=?_)
 rw [show K6 s.q id=s.q by unfold K6;rw [hf],hf]
 rintro v w1 ⟨rfl,F',hQ,Cc,AK⟩
 have hno:∀ k∈Fq,k∉[b4,sb]:=fun k hk hm=>by
  have hl:=hlt k (by simp [hk])
  simp only [List.mem_cons,List.not_mem_nil,or_false] at hm
  rcases hm with rfl | rfl
  ·omega
  ·exact h3.not h1 (by decide) (by decide) (by decide) hk
 have VH:mb∉F':=fun hm=>by
  have:=hlt mb (by simp)
  rcases Cc mb hm with h | h
  ·exact h4 h
  ·omega
 have D5:∀ k∈sb :: mb :: F',k∈sb :: mb :: Fq∨w0.heap.size≤k:=fun k hk=>by
  simp only [List.mem_cons] at hk ⊢
  rcases hk with rfl | rfl | hk
  ·simp
  ·simp
  ·rcases Cc k hk with h | h
   ·simp [h]
   ·exact .inr om
 have hM1:=(h2.keep ho (by simp)).keep AK h4
 have k4:=AK.block (hs.get At.head) (fun hm=>hno _ hm (by simp))
 have k6:=AK.block (hs.get (At.tail At.head)) (fun hm=>hno _ hm (by simp))
 have OJ:b4≠sb:=by have:=hlt sb (by simp);omega
 have BB:AA (sb :: mb :: Fq) w0 w1:=(ho.weaken (by simp)).step AK (fun k hk => .inl (by simp [hk]))
 clear hs
 have hs:=((St.nil w1).AH k6 (by simp)).AH k4 (by simpa using OJ)
 repeat' (first|refine Sc ?_|(refine AU hs (k:=?_);intro w hs)|(refine al hs (k:=?_);intro b w hz hs)|fail)
 refine AG ?_
 have E8:=hs.AB [b4] (by simp [k6]) (by simp [D0])
 have hs4:b4∉F':=fun hm=>by
  rcases Cc b4 hm with h | h
  ·exact hno b4 h (by simp)
  ·omega
 exact ⟨rfl,_,⟨qb,mb,F',rfl,hs.get (At.tail (At.tail At.head)),hM1.keep E8 (by simp;have:=hlt mb (by simp);omega),hQ.Ah E8 (fun k hk hm=>by obtain rfl:=List.mem_singleton.1 hm;exact hs4 hk),VH,h5⟩,D5,BB.step E8 (fun k hk => .inr (by obtain rfl:=List.mem_singleton.1 hk;exact g4))⟩
theorem lI (sb:Nat) (A:As) (F:List Nat) (id:Int) (w0:World) (h:DB w0 sb A F) (hid:In64 id):AO Tryz.prog 139 #[.pointer (some ⟨sb,0,none⟩),.int .i64 id] w0 fun v w'=>v = .tuple #[rv (C8 A.l id),.int .i64 (N2 (A2 A.l id).isSome)]∧Left w0 sb (EV A id) F w':=by
 obtain ⟨s,h1,h2⟩:=h
 cases e:A2 A.l id with
 | some a =>
   obtain ⟨k1,k2,k3⟩:=h2.exit e
   have:=Wf sb s F id w0 h1 hid (by have:=h2.small;omega) (Ba a) k1 k2
   rw [h2.l] at this
   exact this.mono fun v w' ⟨e',F',a,b⟩=>⟨e',F',⟨_,a,k3⟩,b⟩
 | none =>
   have:=iZ sb s F id w0 h1 hid (by have:=h2.small;omega) (by rw [h2.f,e];rfl)
   refine this.mono fun v w' ⟨e',F',a,b⟩=>⟨?_,F',⟨_,a,?_⟩,b⟩
   ·rw [e'];unfold C8;rw [e];rfl
   ·unfold EV;rw [e];exact h2
theorem SU (sb:Nat) (A:As) (F:List Nat) (id:Int) (b:Bool) (w0:World) (h:DB w0 sb A F) (hid:In64 id):AO Tryz.prog 105 #[.pointer (some ⟨sb,0,none⟩),.int .i64 id,.bool b] w0 fun v w'=>v = .int .i64 (N2 (A2 A.l id).isSome)∧Left w0 sb (EB A id b) F w':=by
 obtain ⟨s,h1,h2⟩:=h
 have:=Ut sb s F id b w0 h1 hid h2.small.1
 unfold Ro at this
 rw [h2.l] at this
 exact this.mono fun v w' ⟨e,a,c⟩=>⟨e,F,⟨_,a,h2.aX id b⟩,fun k hk => .inl hk,c⟩
theorem aU (sb:Nat) (A:As) (F:List Nat) (w0:World) (h:DB w0 sb A F):AO Tryz.prog 80 #[.pointer (some ⟨sb,0,none⟩)] w0 fun v w'=>(∃ s' F',v = .pointer (some ⟨s',0,none⟩)∧DB w' s' A F'∧∀ k∈F',w0.heap.size≤k)∧AA [] w0 w':=by
 obtain ⟨s,h1,h2⟩:=h
 exact (sclone_ret sb s F w0 h1).mono fun v w' ⟨⟨s',F',e,a,b⟩,ho⟩=>⟨⟨s',F',e,⟨s,a,h2⟩,b⟩,ho⟩
theorem gJ (qb:Nat) (A:As) (id:Int) (w0:World) (h:Ko w0 qb A) (hid:In64 id):AO Tryz.prog 104 #[.pointer (some ⟨qb,0,none⟩),.int .i64 id] w0 fun v w'=>v = .tuple #[.int .i64 (Cq A id),.int .i64 (N2 (A2 A.l id).isSome)]∧AA [] w0 w':=by
 obtain ⟨s,F,h1,h2⟩:=h
 rw [← h2.Mg,← h2.fs]
 exact ME qb s.q F id w0 h1 hid
theorem Xe (qb:Nat) (A:As) (id:Int) (w0:World) (h:Ko w0 qb A) (hid:In64 id):AO Tryz.prog 48 #[.pointer (some ⟨qb,0,none⟩),.int .i64 id] w0 fun v w'=>v = .tuple #[wv (Bj A id),.int .i64 (N2 (A2 A.l id).isSome)]∧AA [] w0 w':=by
 obtain ⟨s,F,h1,h2⟩:=h
 rw [← h2.lag,← h2.fs]
 exact WA qb s.q F id w0 h1 hid
theorem pY (qb:Nat) (A:As) (w0:World) (h:Ko w0 qb A):AO Tryz.prog 20 #[.pointer (some ⟨qb,0,none⟩)] w0 fun v w'=>v = .int .u64 (GF A)∧AA [] w0 w':=by
 obtain ⟨s,F,h1,h2⟩:=h
 rw [← h2.now]
 exact N5 qb s.q F w0 h1
theorem oV (qb:Nat) (A:As) (w0:World) (h:Ko w0 qb A):AO Tryz.prog 44 #[.pointer (some ⟨qb,0,none⟩)] w0 fun v w'=>v = .int .i64 (A.l.length:Nat)∧AA [] w0 w':=by
 obtain ⟨s,F,h1,h2⟩:=h
 rw [← h2.len]
 exact Ls qb s.q F w0 h1
def Tq (A:As) (m:Mn):Prop:=if A.l=[] then m.a=0∧m.w=0∧m.n=0 else m=mA A
theorem BR.uY {s:Ss} {A:As} (h:BR s A):Tq A s.q.m:=by
 unfold Tq
 by_cases e:A.l=[]
 ·rw [if_pos e];exact h.q.nil (h.nil.2 e)
 ·rw [if_neg e];exact h.HF e
def IN (A:As):Int:=Mo (Eg (Co A).2)
theorem Yl (sb:Nat) (A:As) (F:List Nat) (w0:World) (h:DB w0 sb A F) :
 AO Tryz.prog 172 #[.pointer (some ⟨sb,0,none⟩)] w0 fun v w'=>∃ sl,v = .tuple #[sl,.int .i64 (IN A)]∧(∃ G,B7 w' 170 13 sl (Co A).1.length (IC (Co A).1) G∧∀ k∈G,w0.heap.size≤k)∧Left w0 sb (Co A).2 F w':=by
 obtain ⟨s,h1,h2⟩:=h
 obtain ⟨s',k1,k2⟩:=h2.flush
 have hl:∀ n B,(CQ n B).1.length≤n:=fun n=>by
  induction n with
  | zero=>intro B;exact Nat.le_refl _
  | succ n ih =>
    intro B
    unfold CQ
    cases B.l.find? (EP B) with
    | none=>exact Nat.zero_le _
    | some a=>simp only [List.length_cons];have:=ih (EV B (Az a));omega
 have:=h2.small
 have hle:=hl A.l.length A
 unfold IN
 rw [← k2.Mp]
 exact (settle_ret sb s s' (Co A).1 F w0 h1 om om (by show (CQ _ _).1.length≤_;omega) k1).mono fun v w' ⟨sl,e,a,F',b,c⟩=>⟨sl,e,a,F',⟨_,b,k2⟩,c⟩
end Go.Proofs.Q0
namespace Go.Proofs.Q0
open Go Go.RowKit
section
variable {P : Program} {ops : Array Oper} {QE : Exit → Env → World → Prop} {n : Nat} {rest : List Oper} {env : Env} {w : World} {T : M6}
 {d:Option Nat} {ty:Nat} {pos:String} {Ap:Array Edge} {g:Option (Nat × Bool)}
theorem WK {t e:Nat} (ht:P.underlying t=some (.slice e)) {i:TypeInfo} (hi:P.info? e=some i) {size:Nat} {v y:Value} {k:Nat} {xs ys:List Value} {G Gy:List Nat} (hO:B7 w e size v k xs G) (hY:B7 w e size y 0 ys Gy):(Builtin.append_ #[t,t] ty #[v,y]).run P w = .ok v w:=by
 rcases hY with ⟨rfl,-⟩ | ⟨b,c,cur,rfl,-⟩ <;> rcases hO with ⟨rfl,-⟩ | ⟨b',c',cur',rfl,-,hn,-⟩
 ·simp [Builtin.append_,run_underlying ht,sizeOf,typeInfo,hi,Builtin.lenOf,Builtin.firstCells]
 ·simp [Builtin.append_,run_underlying ht,sizeOf,typeInfo,hi,Builtin.lenOf,Builtin.firstCells,hn,storeCells]
 ·simp [Builtin.append_,run_underlying ht,sizeOf,typeInfo,hi,Builtin.lenOf,Builtin.firstCells,loadCells,loadCellsFrom,Result.andThen]
 ·simp [Builtin.append_,run_underlying ht,sizeOf,typeInfo,hi,Builtin.lenOf,Builtin.firstCells,loadCells,loadCellsFrom,Result.andThen,hn,storeCells]
theorem Sn (hT:Bq P T) {t e size bytes:Nat} {zs:List Value} {x y:Operand} {v u:Value} {k c:Nat} {xs ys:List Value} {G Gy:List Nat} (hw:BD ops env g=true) (DR:look t T.sls=some (e,size,bytes)) (hz:look e T.zs=some zs) (hzl:Nat.beq zs.length size=true)
 (hx:ev env x=v) (hy:ev env y=u) (h1:∀ u∈ys,u.oneCell'=true) (hO:B7 w e size v k xs G) (hY:B7 w e size u c ys Gy)
 (hk:(k+c)*bytes≤140737488355328) (hk':k+c≤9223372036854775807) (kk:∀ v' w',(∃ G',B7 w' e size v' (k+c) (xs ++ ys) G'∧∀ i∈G',i∈G∨w.heap.size≤i)→AA G w w'→XS P ops QE n rest (CD env d v') w') :
 XS P ops QE n (⟨d,.call { callee := .builtin .append,args:=#[x,y],argTypes:=#[t,t] },ty,pos,Ap,g⟩ :: rest) env w:=by
 by_cases h0:c=0
 ·subst h0
  obtain ⟨hu,i,hi,hs1,hs2⟩:=H9 (hT.sl DR)
  have hr:=WK (ty:=ty) hu hi hO hY
  have e:ys=[]:=by
   rcases hY with ⟨_,_,h,_⟩ | ⟨_,_,_,_,_,_,_,h,_⟩
   ·exact h
   ·exact List.eq_nil_of_length_eq_zero (by rw [h,Nat.zero_mul])
  refine XS.value hw (v:=v) (w':=w) ?_ (kk v w ⟨G,by rw [e,List.append_nil];exact hO,fun i hi => .inl hi⟩ (AA.refl _ _))
  simp [execOp,resolve,Sem.run_bind,invoke,builtin,hx,hy,hr]
 ·rcases hY with ⟨_,h,_⟩ | ⟨b,cap,cur,rfl,hG,hc,UQ,hl,ht,hb⟩
  ·exact absurd h h0
  ·refine CO (c:=c) (m:=cap) (a:=⟨b,0,none⟩) hT hw DR hz hzl hx hy hl om (fun j u hj=>?_) h1 hO hk hk' kk
   have:cur[j]?=some u:=by
    rw [← ht,List.getElem?_take] at hj
    split at hj
    ·exact hj
    ·cases hj
   exact lit_cells hb j u this
end
end Go.Proofs.Q0
namespace Go.Proofs.Q0
open Go Go.RowKit
attribute [local irreducible] XS XC XA AZ AP Aa A1 A0 A8 Ad AW SE
def HS (r:Rq) (p:Pt):Option Rq:=bif r.right then Bu ⟨⟨p,r.i.id,r.i.d⟩,r.left,r.slice,r.asleep⟩ else none
def CW (r:Rq) (n:Int):Option Rq:=bif r.right then Bu ⟨r.i,r.left,n,r.asleep⟩ else none
theorem TT (r:Rq) (p:Pt) (hr:r.In) (hp':p.In) (w0:World):AO Tryz.prog 113 #[rv r,pv p] w0 fun v w'=>v=lS (HS r p)∧AA [] w0 w':=by
 have hs:=St.nil w0
 refine AR Tryz.func113 Tryz.ntmps113 (k:=?_)
 repeat' (first|refine Sa ?_|(refine al hs (k:=?_);intro b w hz hs)|(refine bx hs (k:=?_);intro b w hz hs)|fail)
 refine cl (h:=by exact JS r hr _) (k:=?_)
 unfold HS
 generalize hq:r.right=q
 cases q
 ·rintro v w' ⟨rfl,ho⟩;replace hs:=hs.AN ho;repeat' (first|refine Sc ?_|(refine AU hs (k:=?_);intro w hs)|fail)
  refine AG ?_
  exact ⟨rfl,hs.AD rfl⟩
 ·rintro v w' ⟨rfl,ho⟩;replace hs:=hs.AN ho;repeat' (first|refine Sd ?_|(refine AU hs (k:=?_);intro w hs)|fail)
  refine AY hs (h:=by exact Ll ⟨⟨p,r.i.id,r.i.d⟩,r.left,r.slice,r.asleep⟩ ⟨⟨hp',hr.1.2⟩,hr.2⟩ _) (k:=?_);intro w' ho hs;repeat' (first|refine Sb ?_|(refine AU hs (k:=?_);intro w hs)|fail)
  refine AG ?_
  exact ⟨rfl,hs.AD rfl⟩
theorem Y5 (r:Rq) (n:Int) (hr:r.In) (hn:BL n) (w0:World):AO Tryz.prog 118 #[rv r,.int .u64 n] w0 fun v w'=>v=lS (CW r n)∧AA [] w0 w':=by
 have hs:=St.nil w0
 refine AR Tryz.func118 Tryz.ntmps118 (k:=?_)
 repeat' (first|refine Sa ?_|(refine al hs (k:=?_);intro b w hz hs)|(refine bx hs (k:=?_);intro b w hz hs)|fail)
 refine cl (h:=by exact JS r hr _) (k:=?_)
 unfold CW
 generalize hq:r.right=q
 cases q
 ·rintro v w' ⟨rfl,ho⟩;replace hs:=hs.AN ho;repeat' (first|refine Sc ?_|(refine AU hs (k:=?_);intro w hs)|fail)
  refine AG ?_
  exact ⟨rfl,hs.AD rfl⟩
 ·rintro v w' ⟨rfl,ho⟩;replace hs:=hs.AN ho;repeat' (first|refine Sd ?_|(refine st hs (k:=?_);intro w hs)|fail)
  refine AY hs (h:=by exact Ll ⟨r.i,r.left,n,r.asleep⟩ ⟨hr.1,hr.2.1,hn⟩ _) (k:=?_);intro w' ho hs;repeat' (first|refine Sb ?_|(refine AU hs (k:=?_);intro w hs)|fail)
  refine AG ?_
  exact ⟨rfl,hs.AD rfl⟩
structure Cs where
 A:As
 run:Int
 carr:Int
abbrev FV (sb:Nat) (run carr:Int):Obj := .cells #[.pointer (some ⟨sb,0,none⟩),.int .i64 run,.int .i64 (carr / 18446744073709551616),.int .u64 (carr % 18446744073709551616)] 72 (0,0)
def Br (w:World) (cb:Nat) (c:Cs) (F:List Nat):Prop:=∃ sb Fs,F=cb :: Fs∧w.heap[cb]?=some (FV sb c.run c.carr)∧DB w sb c.A Fs∧A7 c.carr∧In64 c.run
theorem aAA (sb:Nat) (run carr:Int):Wl (FV sb run carr)=true:=by rfl
theorem Br.OD {w:World} {cb sb:Nat} {r k:Int} {A:As} {Fs:List Nat} (h:w.heap[cb]?=some (FV sb r k)) (hS:DB w sb A Fs):cb∉Fs:=hS.not h (aAA sb r k)
theorem Br.Ah {w w':World} {cb:Nat} {c:Cs} {F G:List Nat} (h:Br w cb c F) (ho:AA G w w') (hd:∀ k∈F,k∉G):Br w' cb c F:=by
 obtain ⟨sb,Fs,rfl,h1,h2,h3⟩:=h
 exact ⟨sb,Fs,rfl,ho.block h1 (hd cb (by simp)),h2.Ah ho (fun k hk=>hd k (by simp [hk])),h3⟩
theorem Br.only {w w':World} {cb:Nat} {c:Cs} {F:List Nat} (h:Br w cb c F) (ho:AA [] w w'):Br w' cb c F:=h.Ah ho (by simp)
theorem Br.lt {w:World} {cb:Nat} {c:Cs} {F:List Nat} (h:Br w cb c F):∀ k∈F,k < w.heap.size:=by
 obtain ⟨sb,Fs,rfl,h1,h2,h3⟩:=h
 intro k hk
 rcases List.mem_cons.1 hk with rfl | hk
 ·exact lt_of_block h1
 ·exact h2.lt k hk
def sF:Obj→Bool
 | .cells cs ty f=>Wl (.cells cs ty f) && !(Nat.beq ty 72)
 | _=>false
theorem Br.not {w:World} {cb:Nat} {c:Cs} {F:List Nat} (h:Br w cb c F) {b:Nat} {cs:Array Value} {ty:Nat} {fz:Nat × Nat} (hb:w.heap[b]?=some (.cells cs ty fz)) (ho:sF (.cells cs ty fz)=true):b∉F:=fun hm=>by
 obtain ⟨sb,Fs,rfl,h1,h2,h3⟩:=h
 simp only [sF,Bool.and_eq_true,Bool.not_eq_true'] at ho
 rcases List.mem_cons.1 hm with rfl | hm
 ·exact A3 hb h1 (fun e=>by rw [e] at ho;exact absurd ho.2 (by decide)) rfl
 ·exact h2.not hb ho.1 hm
theorem Br.rep {w:World} {cb:Nat} {c:Cs} {F:List Nat} (h:Br w cb c F):(∃ s,BR s c.A)∧A7 c.carr:=by
 obtain ⟨sb,Fs,rfl,h1,h2,h3⟩:=h
 exact ⟨h2.rep,h3.1⟩
def Dw (clock:Int):Cs:=⟨⟨[],clock⟩,0,0⟩
theorem X3 (clock:Int) (hc:BL clock) (w0:World):AO Tryz.prog 31 #[.int .u64 clock] w0 fun v w'=>(∃ cb F,v = .pointer (some ⟨cb,0,none⟩)∧Br w' cb (Dw clock) F∧∀ k∈F,w0.heap.size≤k)∧AA [] w0 w':=by
 have hs:=St.nil w0
 refine AR Tryz.func31 Tryz.ntmps31 (k:=?_)
 refine Ja ?_
 refine cl (h:=by exact qI clock hc _) (k:=?_)
 rintro v w1 ⟨⟨sb,F,rfl,h1,h2⟩,AK⟩;replace hs:=hs.AN AK
 have BB:=hs.AD rfl
 have hz:=BB.size
 have hl:=h1.lt
 clear hs
 have hs:=St.nil w1
 repeat' (first|refine Sb ?_|(refine bx hs (k:=?_);intro b w hz hs)|fail)
 have hb:=hs.new _ List.mem_cons_self rfl
 simp only at hb
 refine AG ?_
 have AM:=hs.AD rfl
 exact ⟨⟨_,_,rfl,⟨sb,F,rfl,hs.get At.head,h1.only AM,OW,TN⟩,fun k hk=>by
  rcases List.mem_cons.1 hk with rfl | hk
  ·omega
  ·have:=h2 k hk;omega⟩,BB.trans AM⟩
theorem SV (cb:Nat) (c:Cs) (F:List Nat) (w0:World) (h:Br w0 cb c F):AO Tryz.prog 40 #[.pointer (some ⟨cb,0,none⟩)] w0 fun v w'=>(∃ TH F',v = .pointer (some ⟨TH,0,none⟩)∧Br w' TH c F'∧∀ k∈F',w0.heap.size≤k)∧AA [] w0 w':=by
 obtain ⟨sb,Fs,rfl,h1,h2,h3,h4⟩:=h
 have hs:=(St.nil w0).AH h1 (by simp)
 refine AR Tryz.func40 Tryz.ntmps40 (k:=?_)
 refine Jd ?_
 refine dr [] hs (k:=?_);intro hX w hs
 refine tks 0 4 ?_
 refine tks 5 8 ?_
 refine dt 4 hX (k:=?_)
 have ho:=hs.AB [] (by simp [h1]) (by simp [D0])
 refine cl (h:=by exact aU sb c.A Fs _ (h2.only ho)) (k:=?_)
 rintro v w1 ⟨⟨s',Fs',rfl,k3,hF⟩,AK⟩;replace hs:=hs.AN AK
 have n1:=ho.size
 have l3:=k3.lt
 have BB:=hs.AB [] (by simp [h1]) (by simp [D0])
 have kq:=hs.get At.head
 have n3:=BB.size
 clear hs
 have hs:=(St.nil w1).AH kq (by simp)
 refine Jb ?_
 refine dn (k:=?_)
 refine tk 13 hX (k:=?_)
 refine dt 14 hX (k:=?_)
 repeat' (first|refine Nx.h ?_|(refine bx hs (k:=?_);intro b w hz hs)|fail)
 have n5:=hs.new _ (List.mem_cons_self) rfl
 simp only at n5
 refine dn (k:=?_)
 refine tk 15 hX (k:=?_)
 refine en (k:=?_)
 refine Jb ?_
 refine AG ?_
 have Aw:=hs.AB [] (by simp [kq]) (by simp [D0])
 exact ⟨⟨_,_,rfl,⟨s',Fs',rfl,hs.get At.head,k3.only Aw,h3,h4⟩,fun k hk=>by
  rcases List.mem_cons.1 hk with rfl | hk
  ·omega
  ·have:=hF k hk;omega⟩,BB.step Aw (by simp)⟩
theorem ML (cb:Nat) (c:Cs) (F:List Nat) (id:Int) (w0:World) (h:Br w0 cb c F) (hid:In64 id):AO Tryz.prog 103 #[.pointer (some ⟨cb,0,none⟩),.int .i64 id] w0 fun v w'=>v=wv (Bj c.A id)∧AA [] w0 w':=by
 obtain ⟨sb,Fs,rfl,h1,h2,h3⟩:=h
 obtain ⟨qb,mb,g1,g2⟩:=h2.FB
 have n1:cb≠sb:=A3 h1 g1 (by decide)
 have hs:=((St.nil w0).AH g1 (by simp)).AH h1 (by simpa using n1)
 refine AR Tryz.func103 Tryz.ntmps103 (k:=?_)
 repeat' (first|refine Sa ?_|(refine al hs (k:=?_);intro b w hz hs)|fail)
 have ho:=hs.AB [] (by simp [h1,g1]) (by simp [D0])
 refine AY hs (h:=by exact Xe qb c.A id _ (g2.only ho) hid) (k:=?_);intro w' ho hs;repeat' (first|refine Sa ?_|(refine AU hs (k:=?_);intro w hs)|(refine al hs (k:=?_);intro b w hz hs)|fail)
 refine AG ?_
 exact ⟨rfl,hs.AB [] (by simp [h1,g1]) (by simp [D0])⟩
def DM (x lag:Int):Int:=if A7 (x+Jo 0 [lag]) then x+Jo 0 [lag] else Kx
theorem aAK (x:Int) (hx:A7 x):A7 (Jo 0 [x]):=by
 unfold Jo Jo
 split
 ·rename_i h;exact h
 ·exact RS
theorem M3 (x lag:Int):A7 (DM x lag):=by
 unfold DM
 split
 ·rename_i h;exact h
 ·exact RS
theorem aBT {w:World} {b:Nat} {x:Int} (hb:w.heap[b]?=some (.cells #[.int .i64 (x / 18446744073709551616),.int .u64 (x % 18446744073709551616)] 70 (0,0))):jN w (.slice (some ⟨b,0,none⟩) 1 1) [x] :=
 ⟨_,1,rfl,fun _=>⟨b,0,_,_,(0,0),rfl,hb,fun i x h=>by
  rcases i with _ | i
  ·cases h;exact ⟨rfl,rfl⟩
  ·simp at h⟩⟩
theorem nQ (w0:World):AO Tryz.prog 149 #[.agg #[.int .i64 (-9223372036854775808),.int .u64 0]] w0 fun v w'=>v=wv Kx∧AA [] w0 w':=by
 have h:=UZ (-170141183460469231731687303715884105728) (by decide) w0
 rw [show wv (-170141183460469231731687303715884105728) = .agg #[.int .i64 (-9223372036854775808),.int .u64 0] by kernel_rfl,show EJ (-170141183460469231731687303715884105728)=Kx by decide] at h
 exact h
theorem MC (cb sb:Nat) (run carr lag:Int) (w0:World) (h:w0.heap[cb]?=some (FV sb run carr)) (NB:A7 carr) (hl:A7 lag):AO Tryz.prog 114 #[.pointer (some ⟨cb,0,none⟩),wv lag] w0 fun v w'=>w'.heap[cb]?=some (FV sb run (DM carr lag))∧AA [cb] w0 w':=by
 have hs:=(St.nil w0).AH h (by simp)
 refine AR Tryz.func114 Tryz.ntmps114 (k:=?_)
 repeat' (first|refine Ao ?_|refine Nx.h ?_|(refine bx hs (k:=?_);intro b w hz hs)|fail)
 refine dr [] hs (k:=?_);intro hX w hs
 refine tks 0 5 ?_
 refine HO 11 4 hs (k:=?_);intro f X w hp;have hs:=hp.st
 apply BM 5 11 (f:=f) (X:=X) hX hp;exact rfl;exact rfl;(apply AS AJ;exact rfl);kernel_rfl;kernel_rfl;kernel_rfl;kernel_rfl;(intro X Y;(repeat (first | exact A6 | refine A5 ?_ (by exact rfl))));(intro w' hs;first|exact AI hs.hold|exact AI hs.hold.tail|exact A9 rfl);intro f X w hp;have hs:=hp.st
 refine bsP hp (k:=?_);intro b5 w5 _ hp;replace hs:=hp.st
 refine Jb ?_
 refine dn (k:=?_)
 apply BM 6 11 (f:=f) (X:=X) hX hp;exact rfl;exact rfl;(apply AS AJ;exact rfl);kernel_rfl;kernel_rfl;kernel_rfl;kernel_rfl;(intro X Y;(repeat (first | exact A6 | refine A5 ?_ (by exact rfl))));(intro w' hs;first|exact AI hs.hold|exact AI hs.hold.tail|exact A9 rfl);intro f X w hp;have hs:=hp.st
 refine cl (h:=by exact Qd [lag] _ (fun i x e=>by rcases i with _ | i;cases e;exact hl;simp at e) (by simp) _ (aBT (hs.get At.head))) (k:=?_)
 rintro v w' ⟨rfl,ho⟩;replace hp:=hp.only ho;replace hs:=hp.st;refine Jb ?_
 refine dn (k:=?_)
 have hca:=aAK lag hl
 have eC:DM carr lag=if A7 (carr+Jo 0 [lag]) then carr+Jo 0 [lag] else Kx:=rfl
 generalize Jo 0 [lag]=y at *
 apply BM 7 11 (f:=f) (X:=X) hX hp;exact rfl;exact rfl;(apply AS AJ;exact rfl);kernel_rfl;kernel_rfl;kernel_rfl;kernel_rfl;(intro X Y;(repeat (first | exact A6 | refine A5 ?_ (by exact rfl))));(intro w' hs;first|exact AI hs.hold|exact AI hs.hold.tail|exact A9 rfl);intro f X w hp;have hs:=hp.st
 refine cl (h:=by exact dY carr y NB hca _) (k:=?_)
 rintro v w' ⟨rfl,ho⟩;replace hp:=hp.only ho;replace hs:=hp.st;refine Jb ?_
 refine dn (k:=?_)
 refine tk 8 hX (hc:=by cases f <;> kernel_rfl) (k:=?_)
 refine tk 9 hX (hc:=by cases f <;> kernel_rfl) (k:=?_)
 refine tk 10 hX (hc:=by cases f <;> kernel_rfl) (k:=?_)
 apply Bi 11 (f:=f) (X:=X) hX hp;exact rfl;(apply AS AJ;exact rfl);kernel_rfl;kernel_rfl;(intro X Y;(repeat (first | exact A6 | refine A5 ?_ (by exact rfl))));(intro w' hs;first|exact AI hs.hold|exact AI hs.hold.tail|exact A9 rfl);intro b w hI hs
 refine dt 12 hX (k:=?_)
 repeat' (first|refine Nx.h ?_|(refine AU hs (k:=?_);intro w hs)|fail)
 refine dn (k:=?_)
 refine tk 13 hX (k:=?_)
 refine en (k:=?_)
 by_cases hi:A7 (carr+y)
 ·rw [if_pos hi] at eC
  rw [eC,decide_eq_true hi]
  rw [show tot (carr+y)=carr+y from if_pos hi] at hs ⊢
  repeat' (first|refine Sd ?_|(refine AU hs (k:=?_);intro w hs)|fail)
  refine JK ?_
  exact ⟨hs.get (At.tail (At.tail (At.tail At.head))),hs.AB [cb] (by simp) (by simp [D0])⟩
 ·rw [if_neg hi] at eC
  rw [eC,decide_eq_false hi]
  refine Je ?_
  refine AY hs (h:=by exact nQ _) (k:=?_);intro w' ho hs;repeat' (first|refine Sa ?_|(refine AU hs (k:=?_);intro w hs)|fail)
  refine JK ?_
  exact ⟨hs.get (At.tail (At.tail (At.tail At.head))),hs.AB [cb] (by simp) (by simp [D0])⟩
structure Pr where
 id:Int
 ns:Int
 done:Bool
deriving DecidableEq
abbrev Pr.cells (p:Pr):List Value:=[.int .i64 p.id,.int .u64 p.ns,.bool p.done]
def SR (l:List Pr):List Value:=(l.map Pr.cells).flatten
structure Rp where
 g:List Gn
 p:List Pr
def Rp.none:Rp:=⟨[],[]⟩
abbrev Z4 (w:World) (v:Value) (l:List Gn) (G:List Nat):Prop:=B7 w 170 13 v l.length (IC l) G
abbrev U7 (w:World) (v:Value) (l:List Pr) (G:List Nat):Prop:=B7 w 168 3 v l.length (SR l) G
abbrev Kl (vg vp:Value):Obj := .cells #[vg,vp] 131 (0,0)
def D9 (w:World) (rb:Nat) (r:Rp) (F:List Nat):Prop:=∃ vg vp Gg Gp,F=rb :: (Gg ++ Gp)∧w.heap[rb]?=some (Kl vg vp)∧Z4 w vg r.g Gg∧U7 w vp r.p Gp
theorem BX {w:World} {e k n:Nat} {v:Value} {xs:List Value} {G:List Nat} (h:B7 w e k v n xs G) {b:Nat} {cs:Array Value} {ty:Nat} {fz:Nat × Nat} (hb:w.heap[b]?=some (.cells cs ty fz)) (hne:ty≠e):b∉G:=fun hm=>by
 rcases h with ⟨_,_,_,rfl⟩ | ⟨g,cap,cur,_,rfl,_,_,_,_,hg⟩
 ·cases hm
 ·obtain rfl:=List.mem_singleton.1 hm
  exact A3 hb hg hne rfl
theorem Lu {w:World} {e k n:Nat} {v:Value} {xs:List Value} {G:List Nat} (h:B7 w e k v n xs G):∀ b∈G,∃ cs,w.heap[b]?=some (.cells cs e (0,0)):=fun b hb=>by
 rcases h with ⟨_,_,_,rfl⟩ | ⟨g,cap,cur,_,rfl,_,_,_,_,hg⟩
 ·cases hb
 ·obtain rfl:=List.mem_singleton.1 hb;exact ⟨_,hg⟩
theorem BZ {w:World} {e k n:Nat} {v:Value} {xs:List Value} {G:List Nat} (h:B7 w e k v n xs G):∃ ad cap,v = .slice ad n cap:=by
 rcases h with ⟨rfl,rfl,_⟩ | ⟨g,cap,cur,rfl,_⟩
 ·exact ⟨_,_,rfl⟩
 ·exact ⟨_,_,rfl⟩
theorem slv_two {w:World} {e k n e' k' n':Nat} {v v':Value} {xs xs':List Value} {G G':List Nat} (h:B7 w e k v n xs G) (h':B7 w e' k' v' n' xs' G') (hne:e≠e'):∀ b∈G,b∉G':=fun b hb=>by
 obtain ⟨cs,hc⟩:=Lu h b hb
 exact BX h' hc hne
theorem Xf {w:World} {e k n:Nat} {v:Value} {xs:List Value} {G:List Nat} (h:B7 w e k v n xs G) {cb:Nat} {c:Cs} {F:List Nat} (hc:Br w cb c F) (ho:sF (.cells #[] e (0,0))=true):∀ b∈G,b∉F:=fun b hb=>by
 obtain ⟨cs,hb'⟩:=Lu h b hb
 exact hc.not hb' ho
theorem D9.Ah {w w':World} {rb:Nat} {r:Rp} {F G:List Nat} (h:D9 w rb r F) (ho:AA G w w') (hd:∀ k∈F,k∉G):D9 w' rb r F:=by
 obtain ⟨vg,vp,Gg,Gp,rfl,h1,h2,h3⟩:=h
 exact ⟨vg,vp,Gg,Gp,rfl,ho.block h1 (hd rb (by simp)),h2.keep ho (fun k hk=>hd k (by simp [hk])),h3.keep ho (fun k hk=>hd k (by simp [hk]))⟩
theorem D9.only {w w':World} {rb:Nat} {r:Rp} {F:List Nat} (h:D9 w rb r F) (ho:AA [] w w'):D9 w' rb r F:=h.Ah ho (by simp)
theorem D9.apart {w:World} {rb:Nat} {r:Rp} {F:List Nat} (h:D9 w rb r F) {cb:Nat} {c:Cs} {Fc:List Nat} (hc:Br w cb c Fc):∀ k∈F,k∉Fc:=fun k hk=>by
 obtain ⟨vg,vp,Gg,Gp,rfl,h1,h2,h3⟩:=h
 simp only [List.mem_cons,List.mem_append] at hk
 rcases hk with rfl | hk | hk
 ·exact hc.not h1 rfl
 ·exact Xf h2 hc rfl k hk
 ·exact Xf h3 hc rfl k hk
theorem D9.lt {w:World} {rb:Nat} {r:Rp} {F:List Nat} (h:D9 w rb r F):∀ k∈F,k < w.heap.size:=fun k hk=>by
 obtain ⟨vg,vp,Gg,Gp,rfl,h1,h2,h3⟩:=h
 simp only [List.mem_cons,List.mem_append] at hk
 rcases hk with rfl | hk | hk
 ·exact lt_of_block h1
 ·exact h2.lt k hk
 ·exact h3.lt k hk
def F9 (x:Int) (l:List Gn):Int:=l.foldl (fun x g=>DM x g.lag) x
theorem Uv {x:Int} (hx:A7 x):∀ {l:List Gn},A7 (F9 x l):=fun {l}=>by
 induction l generalizing x with
 | nil=>exact hx
 | cons g l ih=>exact ih (M3 _ _)
theorem Y1 (x:Int) (l:List Gn) (g:Gn):F9 x (l ++ [g])=DM (F9 x l) g.lag:=by unfold F9;rw [List.foldl_append];rfl
def Cd (c:Cs):List Gn:=(Co c.A).1
def D6 (c:Cs):Cs:=⟨(Co c.A).2,IN c.A,F9 c.carr (Cd c)⟩
theorem Zv {s:Ss} {A:As} (h:BR s A) {a:RT} (ha:a∈A.l):A7 (Oh A a):=by
 have h1:=h.over ha
 unfold Oh
 have:=(h.cen (List.ne_nil_of_mem ha)).a0
 have:=(h.cen (List.ne_nil_of_mem ha)).a1
 rw [← h1.2.2]
 exact div_in h1.2.1 om
theorem NC {s:Ss} {A:As} (h:BR s A) (id:Int):A7 (Bj A id):=by
 unfold Bj
 cases e:A2 A.l id with
 | none=>exact OW
 | some a=>exact Zv h (Bp e).1
theorem Tc:∀ {n:Nat} {s:Ss} {A:As},BR s A→∀ g∈(CQ n A).1,A7 g.lag
 | 0,_,_,_,g,hg=>by cases hg
 | n+1,s,A,h,g,hg=>by
   unfold CQ at hg
   cases e:A.l.find? (EP A) with
   | none=>rw [e] at hg;cases hg
   | some a =>
     rw [e] at hg
     have ha:=List.mem_of_find?_eq_some e
     rcases List.mem_cons.1 hg with rfl | hg
     ·exact Zv h ha
     ·exact Tc (h.exit (DL h.o ha)).2.2 g hg
theorem N4:∀ n B,(CQ n B).1.length≤n
 | 0,B=>Nat.le_refl _
 | n+1,B=>by
   unfold CQ
   cases B.l.find? (EP B) with
   | none=>exact Nat.zero_le _
   | some a=>simp only [List.length_cons];have:=N4 n (EV B (Az a));omega
theorem mD (g:Gn):∀ u∈g.cells,u.oneCell'=true:=fun u hu=>by
 simp only [List.mem_cons,List.not_mem_nil,or_false] at hu
 rcases hu with rfl | rfl | rfl | rfl | rfl | rfl | rfl | rfl | rfl | rfl | rfl | rfl | rfl <;> rfl
theorem YR {l:List Gn}:∀ u∈IC l,u.oneCell'=true:=fun u hu=>by
 obtain ⟨cs,h1,h2⟩:=List.mem_flatten.1 hu
 obtain ⟨g,_,rfl⟩:=List.mem_map.1 h1
 exact mD g u h2
theorem gV {A:As} {s:Ss} (h:BR s A):In64 (IN A):=by
 unfold IN Mo
 obtain ⟨s',_,k⟩:=h.flush
 cases Eg (Co A).2 with
 | none=>exact TN
 | some a=>exact a.2.1.2.1
theorem wP {w:World} {cb:Nat} {c:Cs} {F:List Nat} (h:Br w cb c F):In64 (IN c.A):=by
 obtain ⟨⟨s,hr⟩,_⟩:=h.rep
 exact gV hr
theorem Q5 (cb rb:Nat) (c:Cs) (r:Rp) (F Fr:List Nat) (w0:World) (h:Br w0 cb c F) (hr:D9 w0 rb r Fr) (hm:r.g.length≤1000000) :
 AO Tryz.prog 133 #[.pointer (some ⟨cb,0,none⟩),.pointer (some ⟨rb,0,none⟩)] w0 fun v w'=>∃ F' kC,Br w' cb (D6 c) F'∧D9 w' rb ⟨r.g ++ Cd c,r.p⟩ kC∧(∀ k∈F',k∈F∨w0.heap.size≤k)∧(∀ k∈kC,k∈Fr∨w0.heap.size≤k)∧AA (F ++ Fr) w0 w':=by
 have hC:=h
 have hap:=hr.apart h
 have hrl:=hr.lt
 obtain ⟨⟨s,P6⟩,hcin⟩:=h.rep
 have hrun:=wP h
 obtain ⟨sb,Fs,rfl,h1,h2,h3⟩:=h
 have aCU:=Br.OD h1 h2
 have hs:=(St.nil w0).AH h1 (by simp)
 refine AR Tryz.func133 Tryz.ntmps133 (k:=?_)
 refine Ja ?_
 have ho:=hs.AB [] (by simp [h1]) (by simp [D0])
 have hz:=ho.size
 refine cl (h:=by exact Yl sb c.A Fs _ (h2.only ho)) (k:=?_)
 rintro v w1 ⟨sl,rfl,⟨G,hG,Dc⟩,F1,FW,DE,AK⟩
 have hle:=N4 c.A.l.length c.A
 have hlen:(Cd c).length≤1000000:=by have:=P6.le;show (CQ _ _).1.length≤_;omega
 have Zd:∀ g∈Cd c,A7 g.lag:=Tc P6
 have c1:=AK.block (hs.get At.head) aCU
 have BB:AA (cb :: Fs) w0 w1:=(ho.weaken (by simp)).step AK (fun k hk => .inl (by simp [hk]))
 have Jq:=AK.size
 have Mv:=hr.Ah BB hap
 have IK:Z4 w1 sl (Cd c) G:=hG
 have aBm:D6 c=⟨(Co c.A).2,IN c.A,F9 c.carr (Cd c)⟩:=rfl
 generalize hgo:Cd c=go at *
 have hD:Cu w1 170 13 sl (go.map Gn.cells):=IK.ls rfl (by simp) (fun x hx=>by obtain ⟨g,_,rfl⟩:=List.mem_map.1 hx;rfl)
 obtain ⟨ad,cap,rfl,hD⟩:=hD
 rw [List.length_map] at *
 clear hs
 have hs:=(St.nil w1).AH c1 (by simp)
 refine Ja ?_
 refine BS (fun (_:Unit)=>[(0,.pointer (some ⟨cb,0,none⟩)),(1,.pointer (some ⟨rb,0,none⟩)),(4,.slice ad go.length cap),(5,.int .i64 (IN c.A))]) (fun _ w=>w.heap[cb]?=some (FV sb c.run (F9 c.carr go))∧AA [cb] w1 w) ?_ ?_
 ·refine BG (fun (i:Nat)=>[(0,.pointer (some ⟨cb,0,none⟩)),(1,.pointer (some ⟨rb,0,none⟩)),(4,.slice ad go.length cap),(5,.int .i64 (IN c.A)),(16,.slice ad go.length cap),(17,.int .i64 (go.length:Nat)),(18,.int .i64 (i:Nat))])
   (fun i w=>i≤go.length∧w.heap[cb]?=some (FV sb c.run (F9 c.carr (go.take i)))∧AA [cb] w1 w) (fun i=>go.length - i) 0 Ae ⟨Nat.zero_le _,hs.get At.head,hs.AB [cb] (by simp) (by simp [D0])⟩ fun i env wl ⟨hi,hcb,BP⟩=>?_
  clear hs
  have hs:=(St.nil wl).AH hcb (by simp)
  repeat' (first|refine Sa ?_|refine Ax rfl (fun hc=>?_) fun hc=>?_|fail)
  ·have hlt:i < go.length:=by omega
   obtain ⟨b,off,cs,fz,rfl,_,hb,hcs⟩:=hD (fun h=>by have:=congrArg List.length h;rw [List.length_map,List.length_nil] at this;omega)
   have hpk:=hcs i (Gn.cells go[i]) (by rw [List.getElem?_map,List.getElem?_eq_getElem hlt];rfl)
   have ei:=Dl (m:=go.length) hlt om
   have et:F9 c.carr (go.take (i+1))=DM (F9 c.carr (go.take i)) go[i].lag:=by rw [C4 hlt,Y1]
   have hq:=Zd go[i] (List.getElem_mem hlt)
   have hin:A7 (F9 c.carr (go.take i)):=Uv hcin
   generalize go[i]=q at *
   have Jw:=BP.block hb (by simp;exact A3 hb c1 (by decide))
   refine ix (h0:=(by omega)) (h1:=(by omega)) (k:=?_)
   refine JQ Jw hpk (k:=?_)
   repeat' (first|refine Sa ?_|(refine AU hs (k:=?_);intro w hs)|(refine al hs (k:=?_);intro b w hz hs)|fail)
   refine cl (h:=by exact MC cb sb c.run _ q.lag _ (hs.get (At.tail At.head)) hin hq) (k:=?_)
   rintro v w4 ⟨hc4,Aw⟩
   have Bn:=hs.AB [cb] (by simp) (by simp [D0])
   clear hs
   have hs:=St.nil w4
   refine Ja ?_
   exact A4 (i+1) (by show go.length - (i+1) < go.length - i;omega) (by (repeat (first | exact Ak | (apply Ac;first | exact rfl | exact congrArg (Value.int .i64) ei)))) ⟨by show i+1≤_;omega,by simp only [et];exact (hs.AD rfl).block hc4 (by simp),((BP.step Bn (fun k hk => .inl hk)).step Aw (fun k hk => .inl hk)).step (hs.AD rfl) (by simp)⟩
  ·have e:i=go.length:=by omega
   subst e
   rw [List.take_length] at hcb
   exact Au () Ae ⟨hcb,BP⟩
 ·rintro _ env w2 ⟨hcb,AM⟩
  clear hs
  have MF:=AM.size
  have UQ:=lt_of_block c1
  have Ju:∀ k∈Fr,k∉[cb]:=fun k hk hm=>hap k hk (by obtain rfl:=List.mem_singleton.1 hm;exact List.mem_cons_self)
  have TE:=Mv.Ah AM Ju
  have K0:=IK.keep AM (fun k hk hm=>by obtain rfl:=List.mem_singleton.1 hm;exact BX IK c1 (by decide) hk)
  have EI:=FW.Ah AM (fun k hk hm=>by obtain rfl:=List.mem_singleton.1 hm;exact Br.OD c1 FW hk)
  obtain ⟨vg,vp,Gg,Gp,rfl,r1,r2,r3⟩:=TE
  have hrb:rb≠cb:=A3 r1 hcb (by decide)
  have hs:=((St.nil w2).AH hcb (by simp)).AH r1 (by simpa using hrb)
  refine Ja ?_
  refine Sn AJ rfl rfl rfl rfl rfl rfl YR r2 K0 om om ?_
  intro v3 w3 ⟨G3,NU,pX⟩ AT
  obtain ⟨ad3,tZ,rfl⟩:=BZ NU
  have n1:=BX r2 hcb (by decide)
  have n2:=BX r2 r1 (by decide)
  have k1:=AT.block hcb n1
  have k2:=AT.block r1 n2
  have K5:=r3.keep AT (slv_two r3 r2 (by decide))
  have OF:=AT.size
  have J4:=EI.Ah AT (fun k hk hm=>by
   obtain ⟨cs,hc⟩:=Lu r2 k hm
   exact EI.not hc rfl hk)
  clear hs
  have hs:=((St.nil w3).AH k1 (by simp)).AH k2 (by simpa using hrb)
  repeat' (first|refine Sa ?_|(refine st hs (k:=?_);intro w hs)|fail)
  refine JK ?_
  have Aw:AA [cb,rb] w3 _:=hs.AB [cb,rb] (by simp) (by simp [D0])
  have f1:=hs.get At.head
  have f2:=hs.get (At.tail At.head)
  have Tj:Z4 w3 (.slice ad3 (r.g.length+go.length) tZ) (r.g ++ go) G3:=by unfold Z4;rw [List.length_append,show IC (r.g ++ go)=IC r.g ++ IC go by simp [IC]];exact NU
  have d1:∀ k∈G3,k∉[cb,rb]:=fun k hk hm=>by
   simp only [List.mem_cons,List.not_mem_nil,or_false] at hm
   rcases hm with rfl | rfl
   ·exact BX Tj k1 (by decide) hk
   ·exact BX Tj k2 (by decide) hk
  have d2:∀ k∈Gp,k∉[cb,rb]:=fun k hk hm=>by
   simp only [List.mem_cons,List.not_mem_nil,or_false] at hm
   rcases hm with rfl | rfl
   ·exact BX K5 k1 (by decide) hk
   ·exact BX K5 k2 (by decide) hk
  have d3:∀ k∈F1,k∉[cb,rb]:=fun k hk hm=>by
   simp only [List.mem_cons,List.not_mem_nil,or_false] at hm
   rcases hm with rfl | rfl
   ·exact Br.OD k1 J4 hk
   ·exact J4.not k2 rfl hk
  have hsz:=BB.size
  rw [aBm]
  refine ⟨cb :: F1,rb :: (G3 ++ Gp),⟨sb,F1,rfl,f2,J4.Ah Aw d3,Uv hcin,hrun⟩,⟨_,vp,G3,Gp,rfl,f1,Tj.keep Aw d1,K5.keep Aw d2⟩,fun k hk=>?_,fun k hk=>?_,?_⟩
  ·rcases List.mem_cons.1 hk with rfl | hk
   ·simp
   ·rcases DE k hk with h | h
    ·simp [h]
    ·exact .inr om
  ·simp only [List.mem_cons,List.mem_append] at hk ⊢
   rcases hk with rfl | hk | hk
   ·simp
   ·rcases pX k hk with h | h
    ·simp [h]
    ·exact .inr om
   ·simp [hk]
  ·refine (((BB.weaken (by simp;intro k hk;simp [hk])).step AM (fun k hk => .inl (by simp at hk;simp [hk]))).step AT (fun k hk => .inl (by simp [hk]))).step Aw (fun k hk => .inl (by simp at hk;simp;rcases hk with h | h <;> simp [h]))
def M7 (w:World) (v:Value) (r:Rp):Prop:=∃ vg vp Gg Gp,v = .agg #[vg,vp]∧Z4 w vg r.g Gg∧U7 w vp r.p Gp
def Ob (w0 w:World) (fid:Nat) (caps:List Value) (E:List Nat) (Qx:World→Prop) (c:Cs) (e:Int) (c1:Cs) (r1:Rp):Prop :=
 ∀ cb rb F,Br w cb c F→D9 w rb .none [rb]→(∀ k∈F,w0.heap.size≤k)→w0.heap.size≤rb →
  AO Tryz.prog fid (.pointer (some ⟨cb,0,none⟩) :: .pointer (some ⟨rb,0,none⟩) :: caps).toArray w fun v w'=>v = .int .i64 e∧Qx w' ∧
   (e=0→∃ F2 Fr,Br w' cb c1 F2∧D9 w' rb r1 Fr∧(∀ k∈F2,k∈F∨w.heap.size≤k)∧(∀ k∈Fr,k=rb∨w.heap.size≤k))∧AA (rb :: F ++ E) w w'
def Bh (c:Cs) (e:Int) (c1:Cs):Cs:=if e=0 then D6 c1 else c
def BH (e:Int) (c1:Cs) (r1:Rp):Rp:=if e=0 then ⟨r1.g ++ Cd c1,r1.p⟩ else .none
theorem KF (cb:Nat) (c:Cs) (F:List Nat) (w0:World) (h:Br w0 cb c F) (fid:Nat) (caps:List Value) (E:List Nat) (Qx:World→Prop) (e:Int) (c1:Cs) (r1:Rp)
 (hQ:∀ w w' G,Qx w→AA G w w'→(∀ k∈E,k∉G)→Qx w') (hE:∀ k∈E,k∉F∧k < w0.heap.size) (hr:r1.g.length≤1000000) (Vu:∀ w,AA [] w0 w→Ob w0 w fid caps E Qx c e c1 r1) :
 AO Tryz.prog 94 #[.pointer (some ⟨cb,0,none⟩),.func (.func fid) #[] caps.toArray] w0 fun v w'=>∃ rv,v = .tuple #[rv,.int .i64 e]∧Qx w'∧M7 w' rv (BH e c1 r1) ∧
  (∃ F',Br w' cb (Bh c e c1) F'∧∀ k∈F',k∈F∨w0.heap.size≤k)∧AA (cb :: E) w0 w':=by
 have hC:=h
 obtain ⟨sb,Fs,rfl,h1,h2,h3⟩:=h
 have hs:=(St.nil w0).AH h1 (by simp)
 have lcb:=lt_of_block h1
 refine AR Tryz.func94 Tryz.ntmps94 (k:=?_)
 refine Ai ?_
 refine Ao ?_
 refine al hs (k:=?_);intro b4 w hz hs
 have g4:=hs.new (b4,true) (by simp) rfl
 simp only at g4
 repeat' (first|refine Sd ?_|(refine al hs (k:=?_);intro b w hz hs)|fail)
 have gb:=hs.new _ List.mem_cons_self rfl
 simp only at gb
 have ho:=hs.AB [] (by simp [h1]) (by simp [D0])
 refine cl (h:=by exact SV cb c _ _ (hC.only ho)) (k:=?_)
 rintro v w1 ⟨⟨TH,F',rfl,NR,Cc⟩,AK⟩;replace hs:=hs.AN AK
 have Jq:=ho.size
 have BB:=hs.AB [] (by simp [h1]) (by simp [D0])
 have k1:=hs.get At.head
 have k2:=hs.get (At.tail At.head)
 have k3:=hs.get (At.tail (At.tail At.head))
 have s8:b≠b4:=by have:=hs.nd;simp only [List.map_cons,List.nodup_cons,List.mem_cons,not_or] at this;exact this.1.1
 have EM:∀ k∈F',w0.heap.size≤k:=fun k hk=>by have:=Cc k hk;omega
 clear hs
 have hs:=(((St.nil w1).AH k3 (by simp)).AH k2 (by simp;omega)).AH k1 (by simp [s8];omega)
 refine Ja ?_
 have AM:=hs.AB [] (by simp [k1,k2,k3]) (by simp [D0])
 have L0:=NR.only AM
 have kb:=hs.get At.head
 have hR:D9 _ b .none [b]:=⟨_,_,[],[],rfl,kb,.inl ⟨rfl,rfl,rfl,rfl⟩,.inl ⟨rfl,rfl,rfl,rfl⟩⟩
 have MF:=BB.size
 have OF:=AM.size
 refine cl (h:=by exact Vu _ (BB.trans AM) TH b F' L0 hR EM gb) (k:=?_)
 rintro v w3 ⟨rfl,hX,hres,AT⟩
 have m1:cb∉b :: F' ++ E:=fun hm=>by
  simp only [List.cons_append,List.mem_cons,List.mem_append] at hm
  rcases hm with rfl | hm | hm
  ·omega
  ·have:=EM cb hm;omega
  ·exact (hE cb hm).1 (by simp)
 have m2:b4∉b :: F' ++ E:=fun hm=>by
  simp only [List.cons_append,List.mem_cons,List.mem_append] at hm
  rcases hm with rfl | hm | hm
  ·exact s8 rfl
  ·exact L0.not (hs.get (At.tail At.head)) rfl hm
  ·have:=(hE b4 hm).2;omega
 have j2:=AT.block (hs.get (At.tail At.head)) m2
 have j3:=AT.block (hs.get (At.tail (At.tail At.head))) m1
 have Bn:AA (cb :: E) w0 w3:=((BB.trans AM).weaken (by simp)).step AT (fun k hk=>by
  simp only [List.cons_append,List.mem_cons,List.mem_append] at hk ⊢
  rcases hk with rfl | hk | hk
  ·exact .inr gb
  ·exact .inr (EM k hk)
  ·exact .inl (.inr hk))
 have uD:=Bn.size
 clear hs
 have hs:=((St.nil w3).AH j3 (by simp)).AH j2 (by simp;omega)
 by_cases he:e=0
 ·subst he
  obtain ⟨F2,Fr,WW,hR3,D5,hFr⟩:=hres rfl
  refine Jd ?_
  have Aw:=hs.AB [] (by simp [j2,j3]) (by simp [D0])
  have Zh:=WW.only Aw
  have y9:=hR3.only Aw
  have PN:=Aw.size
  have Kg:∀ k∈F2,w0.heap.size≤k:=fun k hk=>by
   rcases D5 k hk with h | h
   ·exact EM k h
   ·omega
  have pI:∀ k∈Fr,w0.heap.size≤k:=fun k hk=>by
   rcases hFr k hk with rfl | h
   ·exact gb
   ·omega
  have hm4:b4∉F2 ++ Fr:=fun hm=>by
   rcases List.mem_append.1 hm with h | h
   ·exact Zh.not (hs.get At.head) rfl h
   ·rcases hFr b4 h with h | h
    ·exact s8 h.symm
    ·have:=lt_of_block k2;omega
  have hmc:cb∉F2 ++ Fr:=fun hm=>by
   rcases List.mem_append.1 hm with h | h
   ·have:=Kg cb h;omega
   ·have:=pI cb h;omega
  refine cl (h:=by exact Q5 TH b c1 r1 F2 Fr _ Zh y9 hr) (k:=?_)
  rintro v w5 ⟨F5,Fr5,Og,tR,lN,aCx,BY⟩
  have i2:=BY.block (hs.get At.head) hm4
  have i3:=BY.block (hs.get (At.tail At.head)) hmc
  have E8:AA (cb :: E) w0 w5:=(Bn.step Aw (by simp)).step BY (fun k hk=>by
   rcases List.mem_append.1 hk with h | h
   ·exact .inr (Kg k h)
   ·exact .inr (pI k h))
  have hX5:=hQ _ _ _ (hQ _ _ _ hX Aw (by simp)) BY (fun k hk hm=>by
   have:=(hE k hk).2
   rcases List.mem_append.1 hm with h | h
   ·have:=Kg k h;omega
   ·have:=pI k h;omega)
  have aA3:∀ k∈F5,w0.heap.size≤k:=fun k hk=>by
   rcases lN k hk with h | h
   ·exact Kg k h
   ·omega
  have hap:=tR.apart Og
  obtain ⟨sb5,yI,rfl,q1,q2,q3,q4⟩:=Og
  obtain ⟨vg,vp,Gg,Gp,rfl,p1,p2,p3⟩:=tR
  obtain ⟨ag,cg,rfl⟩:=BZ p2
  obtain ⟨ap,cp,rfl⟩:=BZ p3
  have e1:b≠TH:=A3 p1 q1 (by decide)
  have e2:b4≠TH:=A3 i2 q1 (by decide)
  have e3:cb≠TH:=by have:=aA3 TH (by simp);omega
  have e4:b4≠cb:=by omega
  have e5:b≠cb:=by omega
  clear hs
  have hs:=((((St.nil w5).AH q1 (by simp)).AH i3 (by simpa using e3)).AH i2 (by simp [e2,e4])).AH p1 (by simp [e1,e5,s8])
  repeat' (first|refine Sa ?_|(refine AU hs (k:=?_);intro w hs)|fail)
  refine AG ?_
  have Aq:AA [cb,b4] w5 _:=hs.AB [cb,b4] (by simp [q1,p1]) (by simp [D0])
  have f1:=hs.get (At.tail (At.tail At.head))
  have d1:∀ k∈Gg,k∉[cb,b4]:=fun k hk hm=>by
   simp only [List.mem_cons,List.not_mem_nil,or_false] at hm
   rcases hm with rfl | rfl
   ·exact BX p2 i3 (by decide) hk
   ·exact BX p2 i2 (by decide) hk
  have d2:∀ k∈Gp,k∉[cb,b4]:=fun k hk hm=>by
   simp only [List.mem_cons,List.not_mem_nil,or_false] at hm
   rcases hm with rfl | rfl
   ·exact BX p3 i3 (by decide) hk
   ·exact BX p3 i2 (by decide) hk
  have d3:∀ k∈yI,k∉[cb,b4]:=fun k hk hm=>by
   simp only [List.mem_cons,List.not_mem_nil,or_false] at hm
   rcases hm with rfl | rfl
   ·exact q2.not i3 rfl hk
   ·exact q2.not i2 rfl hk
  refine ⟨_,rfl,hQ _ _ _ hX5 Aq (fun k hk hm=>?_),⟨_,_,Gg,Gp,rfl,p2.keep Aq d1,p3.keep Aq d2⟩,⟨cb :: yI,⟨sb5,yI,rfl,f1,q2.Ah Aq d3,q3,q4⟩,fun k hk=>?_⟩,E8.step Aq (fun k hk=>?_)⟩
  ·have:=hE k hk
   simp only [List.mem_cons,List.not_mem_nil,or_false] at hm
   rcases hm with rfl | rfl
   ·exact this.1 (by simp)
   ·omega
  ·rcases List.mem_cons.1 hk with rfl | hk
   ·simp
   ·exact .inr (aA3 k (by simp [hk]))
  ·simp only [List.mem_cons,List.not_mem_nil,or_false] at hk
   rcases hk with rfl | rfl
   ·simp
   ·exact .inr om
 ·rw [show BH e c1 r1 = .none from if_neg he,show Bh c e c1=c from if_neg he]
  repeat' (first|refine Sa ?_|(refine AU hs (k:=?_);intro w hs)|refine xc_cond rfl (fun hc=>?_) fun hc=>?_|fail)
  ·refine AG ?_
   have Aq:AA [b4] w3 _:=hs.AB [b4] (by simp [j3]) (by simp [D0])
   refine ⟨_,rfl,hQ _ _ _ hX Aq (fun k hk hm=>by have:=(hE k hk).2;obtain rfl:=List.mem_singleton.1 hm;omega),⟨_,_,[],[],rfl,.inl ⟨rfl,rfl,rfl,rfl⟩,.inl ⟨rfl,rfl,rfl,rfl⟩⟩,⟨cb :: Fs,?_,fun k hk => .inl hk⟩,Bn.step Aq (fun k hk => .inr (by obtain rfl:=List.mem_singleton.1 hk;exact g4))⟩
   have hlt:=hC.lt
   refine ((hC.only (BB.trans AM)).Ah AT (fun k hk hm=>?_)).Ah Aq (fun k hk hm=>by have:=hlt k hk;obtain rfl:=List.mem_singleton.1 hm;omega)
   have:=hlt k hk
   simp only [List.cons_append,List.mem_cons,List.mem_append] at hm
   rcases hm with rfl | hm | hm
   ·omega
   ·have:=EM k hm;omega
   ·exact (hE k hm).1 hk
  ·exact absurd (by simpa using hc) he
def Tw (ty:Nat):Obj→Bool
 | .cells _ t _=>!(Nat.beq t ty)
 | _=>true
theorem St.AE {wb w:World} {D:Ctx} {H:List CB} (h:St wb D H w) {b:Nat} {cs:Array Value} {ty:Nat} {fz:Nat × Nat} (hb:w.heap[b]?=some (.cells cs ty fz)) (hn:(H.all fun e=>Tw ty e.2.1)=true:=by rfl) (hr:b∉D.ro.map (·.1):=by simp [D0]):St wb D ((b,.cells cs ty fz,false) :: H) w :=
 h.AH hb (fun hm=>by
  obtain ⟨e,he,rfl⟩:=List.mem_map.1 hm
  have h1:=List.all_eq_true.1 hn e he
  have h2:=h.at_ e he
  rw [hb] at h2
  rw [← Option.some.inj h2] at h1
  simp [Tw] at h1) hr
theorem xL {m:Mn} (h1:m.a=0) (h2:m.w=0) (h3:m.n=0) (c q lag:Int):Gz m c q lag=Gz .zero c q lag:=by
 have r1:m.right=true:=Cx.2 (.inl ⟨h3,h2,h1⟩)
 have r2:Mn.zero.right=true:=by decide
 unfold Gz
 rw [r1,r2,h3,show Mn.zero.n=0 from rfl,if_pos (rfl:(0:Int)=0),if_pos (rfl:(0:Int)=0)]
theorem DB.HF {w:World} {sb:Nat} {A:As} {F:List Nat} (h:DB w sb A F):∃ qb mb m tb QW cq,w.heap[sb]?=some (Vp qb mb)∧w.heap[qb]?=some (Lv m tb QW cq)∧m.In∧Ko w qb A∧(∀ c q lag,Gz m c q lag=Gz (mA A) c q lag)∧(A.l≠[]→m=mA A)∧sb∈F∧qb∈F:=by
 obtain ⟨s,⟨qb,mb,Fq,rfl,h1,h2,h3,h4⟩,hr⟩:=h
 have h3':=h3
 obtain ⟨tb,QW,Ft,rfl,k1,k2,k3,k4,k5⟩:=h3
 have hm:=hr.uY
 unfold Tq at hm
 refine ⟨qb,mb,s.q.m,tb,QW,s.q.c,h1,k1,k4,⟨s,_,h3',hr⟩,fun c q lag=>?_,fun e=>by rwa [if_neg e] at hm,by simp,by simp⟩
 by_cases e:A.l=[]
 ·rw [if_pos e] at hm
  rw [xL hm.1 hm.2.1 hm.2.2]
  unfold mA its;rw [e];rfl
 ·rw [if_neg e] at hm;rw [hm]
theorem Qj (q:Int) (w0:World):AO Tryz.prog 111 #[.int .u32 q] w0 fun v w'=>v = .bool (EN q)∧AA [] w0 w':=by
 have hs:=St.nil w0
 refine AR Tryz.func111 Tryz.ntmps111 (k:=?_)
 refine Ja ?_
 refine cl (h:=by exact Fe ⟨0,0,q⟩ _) (k:=?_)
 rw [show (⟨0,0,q⟩:Pt).right=EN q by unfold Pt.right EN;by_cases h:1≤q <;> simp [h] <;> omega]
 rintro v w' ⟨rfl,ho⟩;replace hs:=hs.AN ho;refine Jc ?_
 refine AG ?_
 exact ⟨rfl,hs.AD rfl⟩
theorem S7 (n:Int) (w0:World):AO Tryz.prog 117 #[.int .u64 n] w0 fun v w'=>v = .bool (Cz n)∧AA [] w0 w':=by
 have hs:=St.nil w0
 refine AR Tryz.func117 Tryz.ntmps117 (k:=?_)
 repeat' (first|refine Sf ?_|((with_reducible apply B6);exact rfl;exact rfl;intro c hc;(fail_if_success have:true=c:=hc);(fail_if_success have:false=c:=hc);cases c)|fail)
 all_goals (refine AG ?_)
 all_goals refine ⟨?_,hs.AD rfl⟩
 all_goals clear hs
 ·have h1:decide (1≤n)=false:=hc
  unfold Cz;rw [h1];rfl
 ·have h1:decide (1≤n)=true:=hc
  unfold Cz;rw [h1];rfl
def B0 (r:Rq):RT:=if h:r.In then ⟨r,h⟩ else ⟨.zero,by decide⟩
theorem KJ {r:Rq} (h:r.In):(B0 r).1=r:=by unfold B0;rw [dif_pos h]
def GX (A:As) (q lag:Int):Option Pt:=Gz (mA A) (GF A) q lag
def Fb (c:Cs) (id q ns lag:Int):Option RT:=(GX c.A q lag).bind fun p=>(newR p id ns).map B0
theorem iH {m:Mn} {c q lag:Int} {p:Pt} (hc:BL c) (hq:Fk q) (h:Gz m c q lag=some p):p.In:=by
 unfold Gz at h
 split at h
 ·split at h
  ·cases h;exact ⟨hc,(show Fk 0 by decide),hq⟩
  ·split at h
   ·exact (at_some h).1
   ·cases h
 ·cases h
theorem xG {s:Ss} {A:As} (h:BR s A) (hc:BL s.q.c):BL (GF A):=by
 rw [← h.now];exact Tt hc
theorem ZY {p:Pt} {id n:Int} {r:Rq} (hp:p.In) (hi:In64 id) (hn:BL n) (h:newR p id n=some r):r.In∧r.right=true:=Mj (⟨⟨hp,hi,(by decide:Pt.zero.In)⟩,hn,hn⟩:Rq.In ⟨⟨p,id,.zero⟩,n,n,false⟩) h
theorem Ko.zS {w:World} {qb:Nat} {A:As} (h:Ko w qb A):BL (GF A):=by
 obtain ⟨s,F,⟨tb,mb,Ft,rfl,k1,k2,k3,k4,k5⟩,hr⟩:=h
 exact xG hr k5
def Bc (c:Cs) (id q ns lag:Int):Int × Cs :=
 if id < 1∨EN q=false∨Cz ns=false then (2,c) else if (A2 c.A.l id).isSome then (13,c) else if c.A.l.length=32 then (7,c) else
  match Fb c id q ns lag with
  | none=>(8,c)
  | some r=>if Da c.A r=0 then (0,⟨EF c.A r,c.run,DM c.carr (Bj (EF c.A r) id)⟩) else (Da c.A r,c)
theorem kT (b2 b3 b4 b5:Nat) (c:Cs) (id q ns lag:Int) (wb w0:World) (hid:In64 id) (hq:Fk q) (Du:BL ns) (IU:In64 lag)
 (B2:w0.heap[b2]?=some (.cells #[.int .i64 id] 3 (0,0))) (B3:w0.heap[b3]?=some (.cells #[.int .u32 q] 49 (0,0))) (B4:w0.heap[b4]?=some (.cells #[.int .u64 ns] 22 (0,0))) (B5:w0.heap[b5]?=some (.cells #[.int .i64 lag] 2 (0,0))) :
 Ob wb w0 129 [.pointer (some ⟨b2,0,none⟩),.pointer (some ⟨b3,0,none⟩),.pointer (some ⟨b4,0,none⟩),.pointer (some ⟨b5,0,none⟩)] [] (fun _=>True) c (Bc c id q ns lag).1 (Bc c id q ns lag).2 .none:=by
 intro cb rb F hC hR Zg hrb
 have FX:=hC
 have NM:=hR
 obtain ⟨sb,Fs,rfl,h1,hS,h3,h4⟩:=hC
 obtain ⟨qb,mb,m,tb,QW,cq,g1,g2,gin,gQ,gpl,gm,_,_⟩:=hS.HF
 have hs:=(((((((St.nil w0).AE h1).AE g1).AE g2).AE B2).AE B3).AE B4).AE B5
 refine AR Tryz.func129 Tryz.ntmps129 (k:=?_)
 refine Ja ?_
 refine dr [] hs (k:=?_);intro hX w hs
 refine tks 0 5 ?_
 refine HO 9 9 hs (k:=?_);intro f X w hp;have hs:=hp.st
 apply BM 5 9 (f:=f) (X:=X) hX hp;exact rfl;exact rfl;(apply AS AJ;exact rfl);kernel_rfl;kernel_rfl;kernel_rfl;kernel_rfl;(intro X Y;(repeat (first | exact A6 | refine A5 ?_ (by exact rfl))));(intro w' hs;first|exact AI hs.hold|exact AI hs.hold.tail|exact A9 rfl);intro f X w hp;have hs:=hp.st
 have ho:=hs.AB [] (by simp [h1,g1,g2,B2,B3,B4,B5]) (by simp [D0])
 refine cl (h:=by exact KD sb c.A Fs id _ (hS.only ho) hid) (k:=?_)
 rintro v w' ⟨rfl,ho⟩;replace hp:=hp.only ho;replace hs:=hp.st;refine Jb ?_
 refine dn (k:=?_)
 refine tk 6 hX (hc:=by cases f <;> kernel_rfl) (k:=?_)
 refine tk 7 hX (hc:=by cases f <;> kernel_rfl) (k:=?_)
 refine tk 8 hX (hc:=by cases f <;> kernel_rfl) (k:=?_)
 apply Bi 9 (f:=f) (X:=X) hX hp;exact rfl;(apply AS AJ;exact rfl);kernel_rfl;kernel_rfl;(intro X Y;(repeat (first | exact A6 | refine A5 ?_ (by exact rfl))));(intro w' hs;first|exact AI hs.hold|exact AI hs.hold.tail|exact A9 rfl);intro b w hI hs
 refine dt 10 hX (k:=?_)
 repeat' (first|refine Nx.h ?_|(refine AU hs (k:=?_);intro w hs)|fail)
 refine dn (k:=?_)
 refine tk 11 hX (k:=?_)
 refine en (k:=?_)
 refine Jb ?_
 refine Ao ?_
 have eJ:Bc c id q ns lag=if id < 1∨EN q=false∨Cz ns=false then (2,c) else if (A2 c.A.l id).isSome then (13,c) else if c.A.l.length=32 then (7,c) else
  match Fb c id q ns lag with
  | none=>(8,c)
  | some r=>if Da c.A r=0 then (0,⟨EF c.A r,c.run,DM c.carr (Bj (EF c.A r) id)⟩) else (Da c.A r,c):=rfl
 generalize Bc c id q ns lag=J at *
 have bad:∀ (n:Int) (w':World),J=(n,c)→n≠0→AA [] w0 w'→Value.int .i64 n = .int .i64 J.1∧True∧(J.1=0→∃ F2 Fr,Br w' cb J.2 F2∧D9 w' rb .none Fr∧(∀ k∈F2,k∈cb :: Fs∨w0.heap.size≤k)∧∀ k∈Fr,k=rb∨w0.heap.size≤k)∧AA (rb :: (cb :: Fs) ++ []) w0 w':=fun n w' e hn ho=>by
  subst e;exact ⟨rfl,trivial,fun h=>absurd h hn,ho.weaken (by simp)⟩
 refine vs (k:=?_)
 refine vs (k:=?_)
 by_cases c1:id < 1
 ·rw [if_pos (.inl c1)] at eJ
  rw [decide_eq_true c1]
  refine Jh ?_
  refine AG ?_
  exact bad 2 _ eJ (by decide) (hs.AB [] (by simp [h1,g1,g2,B2,B3,B4,B5]) (by simp [D0]))
 rw [decide_eq_false c1]
 refine Jf ?_
 refine cl (h:=by exact Qj q _) (k:=?_)
 cases c2:EN q
 ·rw [if_pos (.inr (.inl c2))] at eJ
  rintro v w' ⟨rfl,ho⟩;replace hs:=hs.AN ho;refine Jh ?_
  refine AG ?_
  exact bad 2 _ eJ (by decide) (hs.AB [] (by simp [h1,g1,g2,B2,B3,B4,B5]) (by simp [D0]))
 rintro v w' ⟨rfl,ho⟩;replace hs:=hs.AN ho;refine Jf ?_
 refine cl (h:=by exact S7 ns _) (k:=?_)
 cases c3:Cz ns
 ·rw [if_pos (.inr (.inr c3))] at eJ
  rintro v w' ⟨rfl,ho⟩;replace hs:=hs.AN ho;refine Je ?_
  refine AG ?_
  exact bad 2 _ eJ (by decide) (hs.AB [] (by simp [h1,g1,g2,B2,B3,B4,B5]) (by simp [D0]))
 rw [if_neg (by simp [c1,c2,c3])] at eJ
 rintro v w' ⟨rfl,ho⟩;replace hs:=hs.AN ho;repeat' (first|refine Sd ?_|refine xc_cond rfl (fun hc=>?_) fun hc=>?_|fail)
 ·rw [if_pos hc] at eJ
  refine AG ?_
  exact bad 13 _ eJ (by decide) (hs.AB [] (by simp [h1,g1,g2,B2,B3,B4,B5]) (by simp [D0]))
 rw [if_neg (by simp [hc])] at eJ
 have ho:=hs.AB [] (by simp [h1,g1,g2,B2,B3,B4,B5]) (by simp [D0])
 refine AY hs (h:=by exact oV qb c.A _ (gQ.only ho)) (k:=?_);intro w' ho hs;repeat' (first|refine Sa ?_|refine Ax rfl (fun hc=>?_) fun hc=>?_|fail)
 ·rw [if_pos om] at eJ
  refine AG ?_
  exact bad 7 _ eJ (by decide) (hs.AB [] (by simp [h1,g1,g2,B2,B3,B4,B5]) (by simp [D0]))
 rw [if_neg om] at eJ
 refine dr [] hs (k:=?_);intro hX w hs
 refine tks 0 17 ?_
 refine tks 18 2 ?_
 refine HO 24 11 hs (k:=?_);intro f X w hp;have hs:=hp.st
 apply BM 17 24 (f:=f) (X:=X) hX hp;exact rfl;exact rfl;(apply AS AJ;exact rfl);kernel_rfl;kernel_rfl;kernel_rfl;kernel_rfl;(intro X Y;(repeat (first | exact A6 | refine A5 ?_ (by exact rfl))));(intro w' hs;first|exact AI hs.hold|exact AI hs.hold.tail|exact A9 rfl);intro f X w hp;have hs:=hp.st
 have ho:=hs.AB [] (by simp [h1,g1,g2,B2,B3,B4,B5]) (by simp [D0])
 refine cl (h:=by exact pY qb c.A _ (gQ.only ho)) (k:=?_)
 rintro v w' ⟨rfl,ho⟩;replace hp:=hp.only ho;replace hs:=hp.st;refine Jb ?_
 refine dn (k:=?_)
 apply BM 20 24 (f:=f) (X:=X) hX hp;exact rfl;exact rfl;(apply AS AJ;exact rfl);kernel_rfl;kernel_rfl;kernel_rfl;kernel_rfl;(intro X Y;(repeat (first | exact A6 | refine A5 ?_ (by exact rfl))));(intro w' hs;first|exact AI hs.hold|exact AI hs.hold.tail|exact A9 rfl);intro f X w hp;have hs:=hp.st
 have aCE:=gQ.zS
 have eP:Fb c id q ns lag=(GX c.A q lag).bind fun p=>(newR p id ns).map B0:=rfl
 have oW:∀ p,GX c.A q lag=some p→p.In:=fun p h=>iH aCE hq h
 refine cl (h:=by exact VT m (GF c.A) q lag gin hq IU _) (k:=?_)
 rw [show Gz m (GF c.A) q lag=GX c.A q lag from gpl _ _ _]
 generalize GX c.A q lag=op at *
 cases op with
 | none =>
   rw [show Fb c id q ns lag=none from eP] at eJ
   rintro v w' ⟨rfl,ho⟩;replace hp:=hp.only ho;replace hs:=hp.st;refine Jb ?_
   refine dn (k:=?_)
   refine tk 21 hX (hc:=by cases f <;> kernel_rfl) (k:=?_)
   refine tk 22 hX (hc:=by cases f <;> kernel_rfl) (k:=?_)
   refine tk 23 hX (hc:=by cases f <;> kernel_rfl) (k:=?_)
   apply Bi 24 (f:=f) (X:=X) hX hp;exact rfl;(apply AS AJ;exact rfl);kernel_rfl;kernel_rfl;(intro X Y;(repeat (first | exact A6 | refine A5 ?_ (by exact rfl))));(intro w' hs;first|exact AI hs.hold|exact AI hs.hold.tail|exact A9 rfl);intro b w hI hs
   refine dt 25 hX (k:=?_)
   repeat' (first|refine Nx.h ?_|(refine AU hs (k:=?_);intro w hs)|fail)
   refine dn (k:=?_)
   refine tk 26 hX (k:=?_)
   refine en (k:=?_)
   refine Ja ?_
   refine cl (h:=by exact LR .zero id ns (by decide) hid Du _) (k:=?_)
   generalize newR .zero id ns=o
   cases o
   ·rintro v w' ⟨rfl,ho⟩;replace hs:=hs.AN ho;repeat' (first|refine Se ?_|(refine AU hs (k:=?_);intro w hs)|(refine al hs (k:=?_);intro b w hz hs)|fail)
    refine AG ?_
    exact bad 8 _ eJ (by decide) (hs.AB [] (by simp [h1,g1,g2,B2,B3,B4,B5]) (by simp [D0]))
   ·rintro v w' ⟨rfl,ho⟩;replace hs:=hs.AN ho;repeat' (first|refine Se ?_|(refine AU hs (k:=?_);intro w hs)|(refine al hs (k:=?_);intro b w hz hs)|fail)
    refine AG ?_
    exact bad 8 _ eJ (by decide) (hs.AB [] (by simp [h1,g1,g2,B2,B3,B4,B5]) (by simp [D0]))
 | some p =>
   have N1:=oW p rfl
   have tW:Fb c id q ns lag=(newR p id ns).map B0:=eP
   rintro v w' ⟨rfl,ho⟩;replace hp:=hp.only ho;replace hs:=hp.st;refine Jb ?_
   refine dn (k:=?_)
   refine tk 21 hX (hc:=by cases f <;> kernel_rfl) (k:=?_)
   refine tk 22 hX (hc:=by cases f <;> kernel_rfl) (k:=?_)
   refine tk 23 hX (hc:=by cases f <;> kernel_rfl) (k:=?_)
   apply Bi 24 (f:=f) (X:=X) hX hp;exact rfl;(apply AS AJ;exact rfl);kernel_rfl;kernel_rfl;(intro X Y;(repeat (first | exact A6 | refine A5 ?_ (by exact rfl))));(intro w' hs;first|exact AI hs.hold|exact AI hs.hold.tail|exact A9 rfl);intro b w hI hs
   refine dt 25 hX (k:=?_)
   repeat' (first|refine Nx.h ?_|(refine AU hs (k:=?_);intro w hs)|fail)
   refine dn (k:=?_)
   refine tk 26 hX (k:=?_)
   refine en (k:=?_)
   refine Ja ?_
   refine cl (h:=by exact LR p id ns N1 hid Du _) (k:=?_)
   cases hr:newR p id ns with
   | none =>
     rw [hr] at tW
     rw [show Fb c id q ns lag=none from tW] at eJ
     rintro v w' ⟨rfl,ho⟩;replace hs:=hs.AN ho;repeat' (first|refine Sc ?_|(refine AU hs (k:=?_);intro w hs)|(refine al hs (k:=?_);intro b w hz hs)|fail)
     refine AG ?_
     exact bad 8 _ eJ (by decide) (hs.AB [] (by simp [h1,g1,g2,B2,B3,B4,B5]) (by simp [D0]))
   | some r =>
     obtain ⟨Xj,rrt⟩:=ZY N1 hid Du hr
     rw [hr] at tW
     rw [show Fb c id q ns lag=some ⟨r,Xj⟩ by rw [tW];exact congrArg some (dif_pos Xj)] at eJ
     simp only at eJ
     rintro v w' ⟨rfl,ho⟩;replace hs:=hs.AN ho;repeat' (first|refine Sd ?_|(refine AU hs (k:=?_);intro w hs)|(refine al hs (k:=?_);intro b w hz hs)|fail)
     have ho:=hs.AB [] (by simp [h1,g1,g2,B2,B3,B4,B5]) (by simp [D0])
     have x1:=hs.get (b:=cb) (o:=FV sb c.run c.carr) (by repeat (first | exact At.head | (with_reducible apply At.tail)))
     have x2:=hs.get (b:=b) (by repeat (first | exact At.head | (with_reducible apply At.tail)))
     have x3:=hs.get (b:=b2) (by repeat (first | exact At.head | (with_reducible apply At.tail)))
     have hb:=hs.new _ List.mem_cons_self rfl
     simp only at hb
     clear hs
     have hs:=(((St.nil _).AE x1).AE x2).AE x3
     refine dr [] hs (k:=?_);intro hX w hs
     refine tks 0 5 ?_
     refine dt 5 hX (k:=?_)
     have AK:=hs.AB [] (by simp [x1,x2,x3]) (by simp [D0])
     have HV:=hS.only (ho.trans AK)
     refine cl (h:=by exact dS sb c.A Fs ⟨r,Xj⟩ _ HV) (k:=?_)
     rintro v w2 ⟨rfl,F2,EI,D5,AM⟩
     have n1:cb∉Fs:=Br.OD h1 hS
     have n2:b∉Fs:=HV.not (hs.get (b:=b) (by repeat (first | exact At.head | (with_reducible apply At.tail)))) rfl
     have n3:b2∉Fs:=hS.not B2 rfl
     have y1:=AM.block (hs.get (b:=cb) (o:=FV sb c.run c.carr) (by repeat (first | exact At.head | (with_reducible apply At.tail)))) n1
     have y2:=AM.block (hs.get (b:=b) (by repeat (first | exact At.head | (with_reducible apply At.tail)))) n2
     have y3:=AM.block (hs.get (b:=b2) (by repeat (first | exact At.head | (with_reducible apply At.tail)))) n3
     have BB:AA (rb :: (cb :: Fs) ++ []) w0 w2:=((ho.trans AK).weaken (by simp)).step AM (fun k hk => .inl (by simp [hk]))
     have OZ:=(ho.trans AK).size
     have KZ:D9 w2 rb .none [rb]:=(hR.only (ho.trans AK)).Ah AM (fun k hk hm=>by
      obtain rfl:=List.mem_singleton.1 hk
      exact NM.apart FX k (by simp) (by simp [hm]))
     clear hs
     have hs:=(((St.nil w2).AE y1).AE y2).AE y3
     refine Jb ?_
     refine dn (k:=?_)
     refine tk 6 hX (k:=?_)
     refine en (k:=?_)
     by_cases hE:Da c.A ⟨r,Xj⟩=0
     ·rw [if_pos hE] at eJ
      rw [hE]
      refine Jd ?_
      have AT:=hs.AB [] (by simp [y1,y2,y3]) (by simp [D0])
      have L0:Br w2 cb ⟨EF c.A ⟨r,Xj⟩,c.run,c.carr⟩ (cb :: F2):=⟨sb,F2,rfl,y1,EI,h3,h4⟩
      refine AY hs (h:=by exact ML cb ⟨EF c.A ⟨r,Xj⟩,c.run,c.carr⟩ _ id _ (L0.only AT) hid) (k:=?_);intro w' ho hs;skip
      have Aw:=hs.AB [] (by simp [y1,y2,y3]) (by simp [D0])
      obtain ⟨s2,aBY⟩:=EI.rep
      have Zz:=EI.only Aw
      refine cl (h:=by exact MC cb sb c.run c.carr _ _ (hs.get (b:=cb) (o:=FV sb c.run c.carr) (by repeat (first | exact At.head | (with_reducible apply At.tail)))) h3 (NC aBY id)) (k:=?_)
      rintro v w5 ⟨mE,BY⟩
      have n5:cb∉F2:=Br.OD y1 EI
      clear hs
      have hs:=St.nil w5
      refine Ja ?_
      refine AG ?_
      have Aq:=hs.AD rfl
      subst eJ
      have Bn:=(Aw.weaken (G:=[cb]) (by simp)).step BY (fun k hk => .inl hk)
      refine ⟨rfl,trivial,fun _=>⟨cb :: F2,[rb],⟨sb,F2,rfl,Aq.block mE (by simp),(Zz.Ah BY (fun k hk hm=>by obtain rfl:=List.mem_singleton.1 hm;exact n5 hk)).only Aq,M3 _ _,h4⟩,((KZ.Ah Bn (fun k hk hm=>by
       obtain rfl:=List.mem_singleton.1 hk
       obtain rfl:=List.mem_singleton.1 hm
       exact NM.apart FX k (by simp) (by simp))).only Aq),fun k hk=>?_,fun k hk => .inl (by simpa using hk)⟩,(BB.step Bn (fun k hk => .inl (by obtain rfl:=List.mem_singleton.1 hk;simp))).step Aq (by simp)⟩
      rcases List.mem_cons.1 hk with rfl | hk
      ·simp
      ·rcases D5 k hk with h | h
       ·simp [h]
       ·exact .inr om
     ·rw [if_neg hE] at eJ
      subst eJ
      generalize Da c.A ⟨r,Xj⟩=n at *
      repeat' (first|refine Sa ?_|refine xc_cond rfl (fun hc=>?_) fun hc=>?_|fail)
      ·refine AG ?_
       have Aq:=hs.AB [] (by simp [y1,y2,y3]) (by simp [D0])
       exact ⟨rfl,trivial,fun h=>absurd h hE,BB.step Aq (by simp)⟩
      ·exact absurd (by simpa using hc) hE
theorem Rm (cb:Nat) (c:Cs) (F:List Nat) (id q ns lag:Int) (w0:World) (h:Br w0 cb c F) (hid:In64 id) (hq:Fk q) (Du:BL ns) (IU:In64 lag) :
 AO Tryz.prog 93 #[.pointer (some ⟨cb,0,none⟩),.int .i64 id,.int .u32 q,.int .u64 ns,.int .i64 lag] w0 fun v w'=>∃ rv,v = .tuple #[rv,.int .i64 (Bc c id q ns lag).1]∧M7 w' rv (BH (Bc c id q ns lag).1 (Bc c id q ns lag).2 .none) ∧
  (∃ F',Br w' cb (Bh c (Bc c id q ns lag).1 (Bc c id q ns lag).2) F'∧∀ k∈F',k∈F∨w0.heap.size≤k)∧AA [cb] w0 w':=by
 have hs:=St.nil w0
 refine AR Tryz.func93 Tryz.ntmps93 (k:=?_)
 refine Ai ?_
 refine Ao ?_
 refine bx hs (k:=?_);intro b6 w _ hs
 refine bx hs (k:=?_);intro b7 w _ hs
 refine bx hs (k:=?_);intro b8 w _ hs
 refine bx hs (k:=?_);intro b9 w _ hs
 refine al hs (k:=?_);intro FO w hz hs
 refine Ja ?_
 have ho:=hs.AD rfl
 have hz:=ho.size
 have x6:=hs.get (b:=b6) (by repeat (first | exact At.head | (with_reducible apply At.tail)))
 have x7:=hs.get (b:=b7) (by repeat (first | exact At.head | (with_reducible apply At.tail)))
 have x8:=hs.get (b:=b8) (by repeat (first | exact At.head | (with_reducible apply At.tail)))
 have x9:=hs.get (b:=b9) (by repeat (first | exact At.head | (with_reducible apply At.tail)))
 have IX:=hs.get (b:=FO) (by repeat (first | exact At.head | (with_reducible apply At.tail)))
 have FC:=h.only ho
 have hb:=hs.new _ List.mem_cons_self rfl
 simp only at hb
 refine cl (h:=by exact KF cb c F _ FC 129 [.pointer (some ⟨b6,0,none⟩),.pointer (some ⟨b7,0,none⟩),.pointer (some ⟨b8,0,none⟩),.pointer (some ⟨b9,0,none⟩)] [] (fun _=>True) (Bc c id q ns lag).1 (Bc c id q ns lag).2 .none (fun _ _ _ _ _ _=>trivial) (by simp) (by simp [Rp.none]) (fun w1 AK=>kT b6 b7 b8 b9 c id q ns lag _ w1 hid hq Du IU (AK.block x6 (by simp)) (AK.block x7 (by simp)) (AK.block x8 (by simp)) (AK.block x9 (by simp)))) (k:=?_)
 rintro v w2 ⟨rv,rfl,_,I4,⟨F',hC',Cc⟩,AM⟩
 obtain ⟨vg,vp,Gg,Gp,rfl,p1,p2⟩:=I4
 obtain ⟨ag,cg,rfl⟩:=BZ p1
 obtain ⟨ap,cp,rfl⟩:=BZ p2
 have x2:=AM.block IX (fun hm=>by obtain rfl:=List.mem_singleton.1 hm;exact FC.not IX rfl (by obtain ⟨_,_,rfl,_⟩:=FC;simp))
 clear hs
 have hs:=(St.nil w2).AE x2
 repeat' (first|refine Sb ?_|(refine AU hs (k:=?_);intro w hs)|fail)
 refine AG ?_
 have AT:AA [FO] w2 _:=hs.AB [FO] (by simp) (by simp [D0])
 exact ⟨_,rfl,⟨_,_,Gg,Gp,rfl,p1.keep AT (fun k hk hm=>by obtain rfl:=List.mem_singleton.1 hm;exact BX p1 x2 (by decide) hk),p2.keep AT (fun k hk hm=>by obtain rfl:=List.mem_singleton.1 hm;exact BX p2 x2 (by decide) hk)⟩,⟨F',hC'.Ah AT (fun k hk hm=>by obtain rfl:=List.mem_singleton.1 hm;exact hC'.not x2 rfl hk),fun k hk=>by
  rcases Cc k hk with h | h
  ·exact .inl h
  ·exact .inr om⟩,((ho.weaken (by simp)).step AM (fun k hk => .inl hk)).step AT (fun k hk => .inr (by obtain rfl:=List.mem_singleton.1 hk;exact hb))⟩
theorem LL (l:List RT) (i:Int):(C8 l i).In:=by
 unfold C8
 cases A2 l i with
 | none=>decide
 | some a=>exact a.2
def BW (c:Cs) (most:Int):Int:=EG most (C8 c.A.l c.run).left
def FT (c:Cs) (most:Int):Option (Rq × Bool):=C1 (C8 c.A.l c.run) (BW c most)
def Dj (c:Cs) (most:Int):RT:=B0 (match FT c most with | some x=>x.1 | none => .zero)
def ER (c:Cs) (most:Int):Int:=CZ c.A (Dj c most)
def D2 (c:Cs) (most:Int):Cs:=⟨D7 c.A (Dj c most),c.run,c.carr⟩
def Ib (c:Cs) (most:Int):Pr:=⟨c.run,BW c most,match FT c most with | some x=>x.2 | none=>false⟩
def Gk (c:Cs) (most:Int) (r:Rp):Rp:=⟨r.g ++ Cd (D2 c most),r.p ++ [Ib c most]⟩
theorem ZS (c:Cs) (most:Int) (hm:BL most):(Dj c most).1=(match FT c most with | some x=>x.1 | none => .zero)∧BL (BW c most):=by
 have h1:BL (BW c most):=Qp hm (LL _ _).2.1
 refine ⟨KJ ?_,h1⟩
 cases e:FT c most with
 | none=>show Rq.zero.In;decide
 | some x=>exact VY (LL c.A.l c.run) h1 (show C1 _ _=some (x.1,x.2) from e)
theorem Ym (l:List Pr) (p:Pr):SR (l ++ [p])=SR l ++ p.cells:=by simp [SR]
theorem kL (cb rb:Nat) (c:Cs) (most:Int) (r:Rp) (F Fr:List Nat) (w0:World) (h:Br w0 cb c F) (hr:D9 w0 rb r Fr) (hm:BL most) (hg:r.g.length≤1000000) (hp':r.p.length < 2000000000000) :
 AO Tryz.prog 96 #[.pointer (some ⟨cb,0,none⟩),.int .u64 most,.pointer (some ⟨rb,0,none⟩)] w0 fun v w'=>v = .tuple #[.int .u64 (if ER c most=0 then BW c most else 0),.int .i64 (ER c most)] ∧
  (ER c most=0→∃ F' kC,Br w' cb (D6 (D2 c most)) F'∧D9 w' rb (Gk c most r) kC∧(∀ k∈F',k∈F∨w0.heap.size≤k)∧(∀ k∈kC,k∈Fr∨w0.heap.size≤k))∧AA (F ++ Fr) w0 w':=by
 have FX:=h
 have NM:=hr
 have hap:=hr.apart h
 obtain ⟨sb,Fs,rfl,h1,hS,h3,h4⟩:=h
 obtain ⟨vg,vp,Gg,Gp,rfl,r1,r2,r3⟩:=hr
 have hs:=((St.nil w0).AE h1).AE r1
 refine AR Tryz.func96 Tryz.ntmps96 (k:=?_)
 refine Ja ?_
 refine dr [] hs (k:=?_);intro hX w hs
 refine tks 0 8 ?_
 refine HO 12 8 hs (k:=?_);intro f X w hp;have hs:=hp.st
 apply BM 8 12 (f:=f) (X:=X) hX hp;exact rfl;exact rfl;(apply AS AJ;exact rfl);kernel_rfl;kernel_rfl;kernel_rfl;kernel_rfl;(intro X Y;(repeat (first | exact A6 | refine A5 ?_ (by exact rfl))));(intro w' hs;first|exact AI hs.hold|exact AI hs.hold.tail|exact A9 rfl);intro f X w hp;have hs:=hp.st
 have ho:=hs.AB [] (by simp [h1,r1]) (by simp [D0])
 refine cl (h:=by exact KD sb c.A Fs c.run _ (hS.only ho) h4) (k:=?_)
 have hx:=LL c.A.l c.run
 obtain ⟨eY,eN⟩:=ZS c most hm
 have eN':BW c most=EG most (C8 c.A.l c.run).left:=rfl
 have eO:FT c most=C1 (C8 c.A.l c.run) (BW c most):=rfl
 have eP:Ib c most=⟨c.run,BW c most,match FT c most with | some x=>x.2 | none=>false⟩:=rfl
 have eE:ER c most=CZ c.A (Dj c most):=rfl
 have eA:D2 c most=⟨D7 c.A (Dj c most),c.run,c.carr⟩:=rfl
 have eR:Gk c most r=⟨r.g ++ Cd (D2 c most),r.p ++ [Ib c most]⟩:=rfl
 generalize C8 c.A.l c.run=x at *
 rintro v w' ⟨rfl,ho⟩;replace hp:=hp.only ho;replace hs:=hp.st;refine Jb ?_
 refine dn (k:=?_)
 refine tk 9 hX (hc:=by cases f <;> kernel_rfl) (k:=?_)
 refine tk 10 hX (hc:=by cases f <;> kernel_rfl) (k:=?_)
 refine tk 11 hX (hc:=by cases f <;> kernel_rfl) (k:=?_)
 apply Bi 12 (f:=f) (X:=X) hX hp;exact rfl;(apply AS AJ;exact rfl);kernel_rfl;kernel_rfl;(intro X Y;(repeat (first | exact A6 | refine A5 ?_ (by exact rfl))));(intro w' hs;first|exact AI hs.hold|exact AI hs.hold.tail|exact A9 rfl);intro b w hI hs
 refine dt 13 hX (k:=?_)
 repeat' (first|refine Nx.h ?_|(refine AU hs (k:=?_);intro w hs)|fail)
 refine dn (k:=?_)
 refine tk 14 hX (k:=?_)
 refine en (k:=?_)
 refine Ja ?_
 rw [show (if x.left < most then x.left else most)=BW c most from eN'.symm]
 generalize BW c most=n at *
 have jI:∃ u bd ok,svV (FT c most) = .tuple #[rv u,.bool bd,.bool ok]∧(Dj c most).1=u∧Ib c most=⟨c.run,n,bd⟩:=by
  rw [eY,eP]
  cases FT c most with
  | none=>exact ⟨_,_,_,rfl,rfl,rfl⟩
  | some y=>exact ⟨_,_,_,rfl,rfl,rfl⟩
 obtain ⟨u,bd,ok,jI,hYu,hPe⟩:=jI
 rw [eO] at jI
 refine cl (h:=by exact S9 x n hx eN _) (k:=?_)
 rw [jI]
 clear eO eP jI eY
 generalize Dj c most=Y at *
 generalize Ib c most=P at *
 generalize D2 c most=c2 at *
 generalize ER c most=e at *
 generalize Gk c most r=R at *
 subst hYu hPe
 rintro v w' ⟨rfl,ho⟩;replace hs:=hs.AN ho;repeat' (first|refine Sb ?_|(refine AU hs (k:=?_);intro w hs)|(refine al hs (k:=?_);intro b w hz hs)|fail)
 have ho:=hs.AB [] (by simp [h1,r1]) (by simp [D0])
 have x1:=hs.get (b:=cb) (o:=FV sb c.run c.carr) (by repeat (first | exact At.head | (with_reducible apply At.tail)))
 have x2:=hs.get (b:=b) (by repeat (first | exact At.head | (with_reducible apply At.tail)))
 have x3:=hs.get (b:=rb) (o:=Kl vg vp) (by repeat (first | exact At.head | (with_reducible apply At.tail)))
 clear hs
 obtain ⟨bY,rfl⟩:∃ z,z=b:=⟨_,rfl⟩
 have hs:=(((St.nil _).AE x1).AE x2).AE x3
 refine dr [] hs (k:=?_);intro hX w hs
 refine tks 0 5 ?_
 refine dt 5 hX (k:=?_)
 have AK:=hs.AB [] (by simp [x1,x2,x3]) (by simp [D0])
 have HV:=hS.only (ho.trans AK)
 refine cl (h:=by exact Qq sb c.A Fs Y _ HV) (k:=?_)
 rw [← eE]
 rintro v w2 ⟨rfl,F2,EI,D5,AM⟩
 have n1:cb∉Fs:=Br.OD h1 hS
 have n3:rb∉Fs:=hS.not r1 rfl
 have y1:=AM.block (hs.get (b:=cb) (o:=FV sb c.run c.carr) (by repeat (first | exact At.head | (with_reducible apply At.tail)))) n1
 have y3:=AM.block (hs.get (b:=rb) (o:=Kl vg vp) (by repeat (first | exact At.head | (with_reducible apply At.tail)))) n3
 have y2:=AM.block (hs.get (b:=bY) (by repeat (first | exact At.head | (with_reducible apply At.tail)))) (HV.not (hs.get (b:=bY) (by repeat (first | exact At.head | (with_reducible apply At.tail)))) rfl)
 have BB:AA ((cb :: Fs) ++ (rb :: (Gg ++ Gp))) w0 w2:=((ho.trans AK).weaken (by simp)).step AM (fun k hk => .inl (by simp [hk]))
 have OZ:=(ho.trans AK).size
 have KZ:D9 w2 rb r (rb :: (Gg ++ Gp)):=(NM.only (ho.trans AK)).Ah AM (fun k hk hm=>hap k hk (by simp [hm]))
 clear hs
 have hs:=(((St.nil w2).AE y1).AE y2).AE y3
 refine Jb ?_
 refine dn (k:=?_)
 refine tk 6 hX (k:=?_)
 refine en (k:=?_)
 by_cases he:e=0
 ·subst he
  rw [if_pos (rfl:(0:Int)=0)]
  refine Jd ?_
  obtain ⟨vg',vp',sM,tG,eF,q1,q2,q3⟩:=KZ
  obtain ⟨rfl,rfl⟩:vg=vg'∧vp=vp':=by rw [y3] at q1;simp only [Option.some.injEq,Obj.cells.injEq] at q1;have:=congrArg Array.toList q1.1;simp at this;exact this
  refine dr [16] hs (k:=?_);intro hX w hs
  refine tks 0 12 ?_
  refine dt 12 hX (k:=?_)
  repeat' (first|refine Nx.h ?_|(refine bs hs (k:=?_);intro b w hz hs)|fail)
  refine dn (k:=?_)
  refine dt 13 hX (k:=?_)
  have Bn:=hs.AB [] (by simp [y1,y2,y3]) (by simp [D0])
  refine CO AJ rfl rfl rfl rfl rfl rfl rfl (by decide) (lit_cells (news:=Pr.cells ⟨c.run,n,bd⟩) (hs.get At.head)) (by simp [Value.oneCell']) (q3.keep Bn (by simp)) om om ?_
  intro v3 w3 ⟨G3,NU,pX⟩ AT
  obtain ⟨a3,tZ,rfl⟩:=BZ NU
  have d1:∀ k∈tG,k≠cb∧k≠rb∧k≠bY:=fun k hk=>⟨fun e=>BX q3 y1 (by decide) (e ▸ hk),fun e=>BX q3 y3 (by decide) (e ▸ hk),fun e=>BX q3 y2 (by decide) (e ▸ hk)⟩
  have z1:=AT.block (hs.get (b:=cb) (o:=FV sb c.run c.carr) (by repeat (first | exact At.head | (with_reducible apply At.tail)))) (fun hm=>(d1 _ hm).1 rfl)
  have z2:=AT.block (hs.get (b:=bY) (by repeat (first | exact At.head | (with_reducible apply At.tail)))) (fun hm=>(d1 _ hm).2.2 rfl)
  have z3:=AT.block (hs.get (b:=rb) (o:=Kl vg vp) (by repeat (first | exact At.head | (with_reducible apply At.tail)))) (fun hm=>(d1 _ hm).2.1 rfl)
  have fG:AA tG w2 w3:=(Bn.weaken (by simp)).step AT (fun k hk => .inl hk)
  have OF:=fG.size
  have uD:=Bn.size
  have aBP:AA (F2 ++ (rb :: (Gg ++ Gp))) w2 w3:=fG.weaken (fun k hk=>by
   have:k∈rb :: (sM ++ tG):=by simp [hk]
   rw [← eF] at this
   exact List.mem_append_right _ this)
  have hSn:∀ k∈F2,k∉tG:=fun k hk hm=>by
   obtain ⟨cs,hc⟩:=Lu q3 k hm
   exact EI.not hc rfl hk
  have J4:=EI.Ah fG hSn
  have Tj:=q2.keep fG (slv_two q2 q3 (by decide))
  clear hs
  have hs:=(((St.nil w3).AE z1).AE z2).AE z3
  refine Jb ?_
  refine dn (k:=?_)
  refine tks 14 2 ?_
  refine dt 16 hX (k:=?_)
  repeat' (first|refine Nx.h ?_|(refine st hs (k:=?_);intro w hs)|fail)
  refine dn (k:=?_)
  refine en (k:=?_)
  have f1:=hs.get (b:=cb) (o:=FV sb c.run c.carr) (by repeat (first | exact At.head | (with_reducible apply At.tail)))
  have f3:=hs.get (b:=rb) (by repeat (first | exact At.head | (with_reducible apply At.tail)))
  have CP:AA [rb] w3 _:=hs.AB [rb] (by simp [z1,z2]) (by simp [D0])
  have n4:rb∉F2:=fun hm=>by
   rcases D5 rb hm with h | h
   ·exact n3 h
   ·have:=lt_of_block r1;omega
  have Zz:=J4.Ah CP (fun k hk hm=>by obtain rfl:=List.mem_singleton.1 hm;exact n4 hk)
  have hG4:=Tj.keep CP (fun k hk hm=>by obtain rfl:=List.mem_singleton.1 hm;exact BX Tj z3 (by decide) hk)
  have hP4:=NU.keep CP (fun k hk hm=>by obtain rfl:=List.mem_singleton.1 hm;exact BX NU z3 (by decide) hk)
  have y9:D9 _ rb ⟨r.g,r.p ++ [⟨c.run,n,bd⟩]⟩ (rb :: (sM ++ G3)):=⟨_,_,sM,G3,rfl,f3,hG4,by
   unfold U7;rw [List.length_append,Ym];exact hP4⟩
  have Zh:Br _ cb c2 (cb :: F2):=⟨sb,F2,rfl,by rw [eA];exact f1,by rw [eA];exact Zz,by rw [eA];exact h3,by rw [eA];exact h4⟩
  have FA:AA ((cb :: Fs) ++ (rb :: (Gg ++ Gp))) w0 _:=(BB.step aBP (fun k hk=>by
   rcases List.mem_append.1 hk with h | h
   ·rcases D5 k h with h | h
    ·exact .inl (by simp [h])
    ·exact .inr om
   ·exact .inl (List.mem_append_right _ h))).step CP (fun k hk => .inl (by obtain rfl:=List.mem_singleton.1 hk;simp))
  have Kg:∀ k∈cb :: F2,k∈cb :: Fs∨w0.heap.size≤k:=fun k hk=>by
   rcases List.mem_cons.1 hk with rfl | hk
   ·simp
   ·rcases D5 k hk with h | h
    ·exact .inl (by simp [h])
    ·exact .inr om
  have aAo:∀ k∈rb :: (sM ++ G3),k∈rb :: (Gg ++ Gp)∨w0.heap.size≤k:=fun k hk=>by
   rw [eF]
   simp only [List.mem_cons,List.mem_append] at hk ⊢
   rcases hk with rfl | hk | hk
   ·simp
   ·simp [hk]
   ·have tM:=BB.size
    rcases pX k hk with h | h
    ·simp [h]
    ·exact .inr om
  have hzE:=FA.size
  refine Ja ?_
  refine cl (h:=by exact Q5 cb rb c2 ⟨r.g,r.p ++ [⟨c.run,n,bd⟩]⟩ _ _ _ Zh y9 hg) (k:=?_)
  rintro v w6 ⟨F6,Fr6,nR,hR6,X8,aB5,Aq⟩
  clear hs
  have hs:=St.nil w6
  refine Ja ?_
  refine AG ?_
  have Cb:=hs.AD rfl
  refine ⟨rfl,fun _=>⟨F6,Fr6,nR.only Cb,by rw [eR];exact hR6.only Cb,fun k hk=>?_,fun k hk=>?_⟩,(FA.step Aq (fun k hk=>?_)).step Cb (by simp)⟩
  ·rcases X8 k hk with h | h
   ·exact Kg k h
   ·exact .inr om
  ·rcases aB5 k hk with h | h
   ·exact aAo k h
   ·exact .inr om
  ·rcases List.mem_append.1 hk with h | h
   ·rcases Kg k h with h | h
    ·exact .inl (List.mem_append_left _ h)
    ·exact .inr h
   ·rcases aAo k h with h | h
    ·exact .inl (List.mem_append_right _ h)
    ·exact .inr h
 ·rw [if_neg he]
  repeat' (first|refine Sa ?_|refine xc_cond rfl (fun hc=>?_) fun hc=>?_|fail)
  ·refine AG ?_
   have Aq:=hs.AB [] (by simp [y1,y2,y3]) (by simp [D0])
   exact ⟨rfl,fun h=>absurd h he,BB.step Aq (by simp)⟩
  ·exact absurd (by simpa using hc) he
def Cy:Nat→Int→Cs→Rp→Int × Cs × Rp
 | 0,_,c,r=>(0,c,r)
 | k+1,left,c,r=>if 0 < left∧c.run≠0 then (if ER c left=0 then Cy k (left - BW c left) (D6 (D2 c left)) (Gk c left r) else (ER c left,c,r)) else (0,c,r)
def AX (c:Cs) (ns:Int):Int × Cs × Rp:=if 1≤ns∧ns≤1099511627776 then Cy (ns.toNat+1) ns c .none else (2,c,.none)
theorem srv_step {c:Cs} {most:Int} (hm:BL most) (h:ER c most=0):1≤BW c most∧BW c most≤most:=by
 obtain ⟨h1,h2⟩:=ZS c most hm
 unfold ER CZ Fz at h
 cases k:(Dj c most).1.right with
 | false=>rw [k] at h;cases h
 | true =>
   rw [h1] at k
   cases e:FT c most with
   | none=>rw [e] at k;exact absurd k (by decide)
   | some x =>
     unfold FT C1 at e
     split at e
     ·rename_i h3
      have:=h2.1
      refine ⟨by have:=h3.2.1;omega,?_⟩
      show EG most _≤most
      unfold EG;split <;> omega
     ·cases e
theorem WD:∀ (k:Nat) (left:Int) (c:Cs) (r:Rp),r.p.length≤(Cy k left c r).2.2.p.length∧r.g.length≤(Cy k left c r).2.2.g.length
 | 0,_,_,_=>⟨Nat.le_refl _,Nat.le_refl _⟩
 | k+1,left,c,r=>by
   unfold Cy
   split
   ·split
    ·have:=WD k (left - BW c left) (D6 (D2 c left)) (Gk c left r)
     simp only [Gk,List.length_append,List.length_cons,List.length_nil] at this ⊢
     omega
    ·exact ⟨Nat.le_refl _,Nat.le_refl _⟩
   ·exact ⟨Nat.le_refl _,Nat.le_refl _⟩
theorem gD (b2:Nat) (c:Cs) (ns:Int) (wb w0:World) (Du:BL ns) (B2:w0.heap[b2]?=some (.cells #[.int .u64 ns] 22 (0,0)))
 (hTp:(AX c ns).2.2.p.length < 2000000000000) (xZ:(AX c ns).2.2.g.length≤1000000) :
 Ob wb w0 95 [.pointer (some ⟨b2,0,none⟩)] [] (fun _=>True) c (AX c ns).1 (AX c ns).2.1 (AX c ns).2.2:=by
 intro cb rb F hC hR Zg hrb
 have hap:=hR.apart hC
 have hs:=(St.nil w0).AE B2
 have eT:AX c ns=if 1≤ns∧ns≤1099511627776 then Cy (ns.toNat+1) ns c .none else (2,c,.none):=rfl
 generalize AX c ns=T at *
 have bad:∀ (w':World),T=(2,c,.none)→AA [] w0 w'→Value.int .i64 2 = .int .i64 T.1∧True∧(T.1=0→∃ F2 Fr,Br w' cb T.2.1 F2∧D9 w' rb T.2.2 Fr∧(∀ k∈F2,k∈F∨w0.heap.size≤k)∧∀ k∈Fr,k=rb∨w0.heap.size≤k)∧AA (rb :: F ++ []) w0 w':=fun w' e ho=>by
  subst e;exact ⟨rfl,trivial,fun h=>absurd h (show ¬ (2:Int)=0 by decide),ho.weaken (by simp)⟩
 refine AR Tryz.func95 Tryz.ntmps95 (k:=?_)
 refine Jb ?_
 refine Ao ?_
 refine vs (k:=?_)
 refine Jb ?_
 refine Ao ?_
 refine vs (k:=?_)
 refine vs (k:=?_)
 by_cases c1:ns < 1
 ·rw [if_neg om] at eT
  rw [decide_eq_true c1]
  refine Jh ?_
  refine AG ?_
  exact bad _ eT (hs.AB [] (by simp [B2]) (by simp [D0]))
 rw [decide_eq_false c1]
 refine vs (k:=?_)
 refine vs (k:=?_)
 refine vs (k:=?_)
 by_cases c2:ns > 1099511627776
 ·rw [if_neg om] at eT
  rw [decide_eq_true c2]
  refine Je ?_
  refine AG ?_
  exact bad _ eT (hs.AB [] (by simp [B2]) (by simp [D0]))
 rw [decide_eq_false c2]
 rw [if_pos om] at eT
 refine Jd ?_
 have ho:=hs.AB [] (by simp [B2]) (by simp [D0])
 let Inv (left:Int) (c':Cs) (r:Rp) (F' Fr:List Nat) (w:World):Prop:=BL left∧(∃ k:Nat,left < k∧Cy k left c' r=T)∧Br w cb c' F'∧D9 w rb r Fr∧(∀ k∈F',k∈F∨w0.heap.size≤k)∧(∀ k∈Fr,k=rb∨w0.heap.size≤k)∧AA (rb :: F ++ []) w0 w
 refine BS (fun (_:Unit)=>[]) (fun _ w=>T.1=0∧∃ F2 Fr,Br w cb T.2.1 F2∧D9 w rb T.2.2 Fr∧(∀ k∈F2,k∈F∨w0.heap.size≤k)∧(∀ k∈Fr,k=rb∨w0.heap.size≤k)∧AA (rb :: F ++ []) w0 w) ?_ ?_
 ·refine BG (fun (x:Int × Cs × Rp × List Nat × List Nat)=>[(0,.pointer (some ⟨cb,0,none⟩)),(1,.pointer (some ⟨rb,0,none⟩)),(6,.int .u64 x.1)])
   (fun x w=>Inv x.1 x.2.1 x.2.2.1 x.2.2.2.1 x.2.2.2.2 w) (fun x=>x.1.toNat) (ns,c,.none,F,[rb]) Ae ⟨Du,⟨ns.toNat+1,by omega,eT.symm⟩,hC.only ho,hR.only ho,fun k hk => .inl hk,fun k hk => .inl (by simpa using hk),ho.weaken (by simp)⟩ fun x env wl hI=>?_
  obtain ⟨left,c',r,F',Fr⟩:=x
  obtain ⟨hl,⟨k,hk,hT⟩,NR,JF,DE,X9,Am⟩:=hI
  simp only at hl hk hT NR JF DE X9
  have L0:=NR
  obtain ⟨sb,Fs',rfl,q1,q2,q3,q4⟩:=L0
  have htl:=WD k left c' r
  rw [hT] at htl
  clear hs
  have hs:=(St.nil wl).AE q1
  cases k with
  | zero=>have:=hl.1;omega
  | succ k =>
  unfold Cy at hT
  refine Jb ?_
  refine Ao ?_
  refine vs (k:=?_)
  refine vs (k:=?_)
  by_cases l0:left > 0
  ·rw [decide_eq_true l0]
   by_cases hrun:c'.run=0
   ·rw [if_neg om] at hT
    subst hT
    have hs0:=hs
    rw [hrun] at hs
    refine Jl ?_
    have ho:=hs.AB [] (by simp [q1,hrun]) (by simp [D0])
    exact Au () Ae ⟨rfl,_,_,NR.only ho,JF.only ho,DE,X9,Am.step ho (by simp)⟩
   ·rw [if_pos ⟨by omega,hrun⟩] at hT
    repeat' (first|refine Sa ?_|refine xc_cond rfl (fun hc=>?_) fun hc=>?_|fail)
    ·have ho:=hs.AB [] (by simp [q1]) (by simp [D0])
     have hz:=Am.size
     have hzo:=ho.size
     refine cl (h:=by exact kL cb rb c' left r _ _ _ (NR.only ho) (JF.only ho) hl om om) (k:=?_)
     rintro v w3 ⟨rfl,hok,AT⟩
     have sL:AA (rb :: F ++ []) w0 w3:=(Am.step ho (by simp)).step AT (fun k hk=>by
      rcases List.mem_append.1 hk with h | h
      ·rcases DE k h with h | h
       ·exact .inl (by simp [h])
       ·exact .inr h
      ·rcases X9 k h with h | h
       ·exact .inl (by simp [h])
       ·exact .inr h)
     clear hs
     have hs:=St.nil w3
     by_cases hE:ER c' left=0
     ·rw [if_pos hE] at hT
      obtain ⟨F2,Fr2,a1,a2,a3,a4⟩:=hok hE
      obtain ⟨s1,s2⟩:=srv_step hl hE
      have ew:IntKind.u64.wrap (left - BW c' left)=left - BW c' left:=by rw [wrap_u64];unfold BL at hl;omega
      rw [hE,if_pos rfl]
      refine Jd ?_
      refine A4 (left - BW c' left,D6 (D2 c' left),Gk c' left r,F2,Fr2) (by show (left - BW c' left).toNat < left.toNat;omega) (by (repeat (first | exact Ak | (apply Ac;first | exact rfl | exact congrArg (Value.int .u64) ew | exact congrArg (Value.int .u64) ew)))) ⟨?_,⟨k,?_,hT⟩,a1.only (hs.AD rfl),a2.only (hs.AD rfl),fun k hk=>?_,fun k hk=>?_,sL.step (hs.AD rfl) (by simp)⟩
      ·unfold BL at hl ⊢;simp only;omega
      ·simp only;omega
      ·rcases a3 k hk with h | h
       ·exact DE k h
       ·exact .inr om
      ·rcases a4 k hk with h | h
       ·exact X9 k h
       ·exact .inr om
     ·rw [if_neg hE] at hT
      subst hT
      rw [if_neg hE]
      generalize ER c' left=e at *
      repeat' (first|refine Sa ?_|refine xc_cond rfl (fun hc=>?_) fun hc=>?_|fail)
      ·refine AG ?_
       exact ⟨rfl,trivial,fun h=>absurd h hE,sL.step (hs.AD rfl) (by simp)⟩
      ·exact absurd (by simpa using hc) hE
    ·exact absurd (by simpa using hc) hrun
  ·rw [if_neg om] at hT
   subst hT
   rw [decide_eq_false l0]
   repeat' (first|refine vs (k:=?_)|refine ps (k:=?_)|refine Nx.h ?_|refine FD ?_|fail)
   have ho:=hs.AB [] (by simp [q1]) (by simp [D0])
   exact Au () Ae ⟨rfl,_,_,NR.only ho,JF.only ho,DE,X9,Am.step ho (by simp)⟩
 ·clear hs
  rintro _ env w ⟨zL,F2,Fr,a1,a2,a3,a4,sL⟩
  have hs:=St.nil w
  refine Ja ?_
  refine AG ?_
  exact ⟨by rw [zL];rfl,trivial,fun _=>⟨F2,Fr,a1.only (hs.AD rfl),a2.only (hs.AD rfl),a3,a4⟩,sL.step (hs.AD rfl) (by simp)⟩
def HY (w0:World) (cb:Nat) (F:List Nat) (rv:Value) (e:Int) (c c1:Cs) (r1:Rp) (w':World):Prop :=
 M7 w' rv (BH e c1 r1)∧(∃ F',Br w' cb (Bh c e c1) F'∧∀ k∈F',k∈F∨w0.heap.size≤k)∧AA [cb] w0 w'
theorem Xm (cb:Nat) (c:Cs) (F:List Nat) (ns:Int) (w0:World) (h:Br w0 cb c F) (Du:BL ns) (hTp:(AX c ns).2.2.p.length < 2000000000000) (xZ:(AX c ns).2.2.g.length≤1000000) :
 AO Tryz.prog 59 #[.pointer (some ⟨cb,0,none⟩),.int .u64 ns] w0 fun v w'=>∃ rv,v = .tuple #[rv,.int .i64 (AX c ns).1]∧HY w0 cb F rv (AX c ns).1 c (AX c ns).2.1 (AX c ns).2.2 w':=by
 have hs:=St.nil w0
 refine AR Tryz.func59 Tryz.ntmps59 (k:=?_)
 refine Ai ?_
 refine Ao ?_
 refine bx hs (k:=?_);intro b6 w _ hs
 refine al hs (k:=?_);intro FO w hz hs
 refine Ja ?_
 have ho:=hs.AD rfl
 have hz:=ho.size
 have x6:=hs.get (b:=b6) (by repeat (first | exact At.head | (with_reducible apply At.tail)))
 have IX:=hs.get (b:=FO) (by repeat (first | exact At.head | (with_reducible apply At.tail)))
 have FC:=h.only ho
 have hb:=hs.new _ List.mem_cons_self rfl
 simp only at hb
 refine cl (h:=by exact KF cb c F _ FC 95 [.pointer (some ⟨b6,0,none⟩)] [] (fun _=>True) (AX c ns).1 (AX c ns).2.1 (AX c ns).2.2 (fun _ _ _ _ _ _=>trivial) (by simp) xZ (fun w1 AK=>gD b6 c ns _ w1 Du (AK.block x6 (by simp)) hTp xZ)) (k:=?_)
 rintro v w2 ⟨rv,rfl,_,I4,⟨F',hC',Cc⟩,AM⟩
 obtain ⟨vg,vp,Gg,Gp,rfl,p1,p2⟩:=I4
 obtain ⟨ag,cg,rfl⟩:=BZ p1
 obtain ⟨ap,cp,rfl⟩:=BZ p2
 have x2:=AM.block IX (fun hm=>by obtain rfl:=List.mem_singleton.1 hm;exact FC.not IX rfl (by obtain ⟨_,_,rfl,_⟩:=FC;simp))
 clear hs
 have hs:=(St.nil w2).AE x2
 repeat' (first|refine Sb ?_|(refine AU hs (k:=?_);intro w hs)|fail)
 refine AG ?_
 have AT:AA [FO] w2 _:=hs.AB [FO] (by simp) (by simp [D0])
 exact ⟨_,rfl,⟨_,_,Gg,Gp,rfl,p1.keep AT (fun k hk hm=>by obtain rfl:=List.mem_singleton.1 hm;exact BX p1 x2 (by decide) hk),p2.keep AT (fun k hk hm=>by obtain rfl:=List.mem_singleton.1 hm;exact BX p2 x2 (by decide) hk)⟩,⟨F',hC'.Ah AT (fun k hk hm=>by obtain rfl:=List.mem_singleton.1 hm;exact hC'.not x2 rfl hk),fun k hk=>by
  rcases Cc k hk with h | h
  ·exact .inl h
  ·exact .inr om⟩,((ho.weaken (by simp)).step AM (fun k hk => .inl hk)).step AT (fun k hk => .inr (by obtain rfl:=List.mem_singleton.1 hk;exact hb))⟩
theorem bP (p q:Pr):(CY (.int .i64 p.id) (.int .i64 q.id) && (CY (.int .u64 p.ns) (.int .u64 q.ns) && CY (.bool p.done) (.bool q.done)))=decide (p=q):=by
 show ((p.id == q.id) && ((p.ns == q.ns) && (p.done == q.done)))=_
 obtain ⟨a,b,c⟩:=p
 obtain ⟨a',b',c'⟩:=q
 simp only [Pr.mk.injEq]
 by_cases h1:a=a' <;> by_cases h2:b=b' <;> by_cases h3:c=c' <;> simp [h1,h2,h3]
theorem vG (va vb:Value) (A B:List Pr) (hm:A.length≤9223372036854775807) (w0:World) (hA:Cu w0 168 3 va (A.map Pr.cells)) (hB:Cu w0 168 3 vb (B.map Pr.cells)) :
 AO Tryz.prog 232 #[va,vb] w0 fun v w'=>v = .bool (decide (A=B))∧AA [] w0 w':=by
 obtain ⟨Si,ca,rfl,hA⟩:=hA
 obtain ⟨TI,cb,rfl,hB⟩:=hB
 rw [List.length_map] at *
 rw [List.length_map] at *
 have hs:=St.nil w0
 refine AR Tryz.func232 Tryz.ntmps232 (k:=?_)
 repeat' (first|refine Sa ?_|refine xc_cond rfl (fun hc=>?_) fun hc=>?_|fail)
 ·refine AG ?_
  refine ⟨congrArg Value.bool ?_,hs.AD rfl⟩
  have hne:A≠B:=fun e=>by subst e;simp at hc
  exact (decide_eq_false hne).symm
 ·have MK:A.length=B.length:=by
   have h:((A.length:Nat):Int)=B.length:=by simpa using hc
   omega
  refine BS (fun _:Unit=>[]) (fun _ w=>A=B∧AA [] w0 w) ?_ ?_
  ·refine BG (fun (i:Nat)=>[(0,.slice Si A.length ca),(1,.slice TI B.length cb),(12,.int .i64 (A.length:Nat)),(13,.int .i64 (i:Nat))])
    (fun i w=>i≤A.length∧A.take i=B.take i∧AA [] w0 w)
    (fun i=>A.length - i) 0 Ae ⟨Nat.zero_le _,by simp,hs.AD rfl⟩ fun i env w ⟨hi,ht,ho⟩=>?_
   clear hs
   have hs:=St.nil w
   repeat' (first|refine Sa ?_|refine Ax rfl (fun hc=>?_) fun hc=>?_|fail)
   ·have hlt:i < A.length:=by omega
    have Il:i < B.length:=by omega
    obtain ⟨ba,oa,lW,fa,rfl,a2,a3,a4⟩:=hA (fun h=>by have:=congrArg List.length h;rw [List.length_map,List.length_nil] at this;omega)
    obtain ⟨bb,ob,fV,fb,rfl,b2,b3,b4⟩:=hB (fun h=>by have:=congrArg List.length h;rw [List.length_map,List.length_nil] at this;omega)
    have ga:=a4 i _ (by rw [List.getElem?_map,List.getElem?_eq_getElem hlt];rfl)
    have gb:=b4 i _ (by rw [List.getElem?_map,List.getElem?_eq_getElem Il];rfl)
    have a3:=ho.block a3 (by simp)
    have b3:=ho.block b3 (by simp)
    have key:A[i]=B[i]→A.take (i+1)=B.take (i+1):=fun he=>by rw [List.take_add_one,List.take_add_one,ht,List.getElem?_eq_getElem hlt,List.getElem?_eq_getElem Il,he]
    have JE:A[i]≠B[i]→A≠B:=fun h e=>h (by subst e;rfl)
    have ei:=Dl hlt hm
    generalize A[i]=x at *
    generalize B[i]=y at *
    by_cases e:ba=bb
    ·subst e
     rw [a3] at b3
     cases b3
     replace hs:=hs.AH a3 (by simp)
     refine dr [] hs (k:=?_);intro hX w hs
     refine tks 0 2 ?_
     refine tk 2 hX (hr:=fun w' hH=>BJ AJ rfl rfl rfl om om) (k:=?_)
     refine tk 3 hX (hr:=fun w' hH=>EU AJ rfl rfl (hH rfl) At.head ga) (k:=?_)
     refine tks 4 2 ?_
     refine tk 6 hX (hr:=fun w' hH=>BJ AJ rfl rfl rfl om om) (k:=?_)
     refine tk 7 hX (hr:=fun w' hH=>EU AJ rfl rfl (hH rfl) At.head gb) (k:=?_)
     refine tk 8 hX (k:=?_)
     refine en (k:=?_)
     repeat' (first|refine Sa ?_|refine xc_cond rfl (fun hc=>?_) fun hc=>?_|fail)
     ·rw [bP] at hc
      refine AG ?_
      exact ⟨congrArg Value.bool (decide_eq_false (JE (by simpa using hc))).symm,ho.step (hs.AB [] (by simp [a3]) (by simp [D0])) (by simp)⟩
     ·rw [bP] at hc
      exact A4 (i+1) om (by (repeat (first | exact Ak | (apply Ac;first | exact rfl | exact congrArg (Value.int .i64) ei)))) ⟨by omega,key (by simpa using hc),ho.step (hs.AB [] (by simp [a3]) (by simp [D0])) (by simp)⟩
    ·replace hs:=(hs.AH a3 (by simp)).AH b3 (by simpa using Ne.symm e)
     refine dr [] hs (k:=?_);intro hX w hs
     refine tks 0 2 ?_
     refine tk 2 hX (hr:=fun w' hH=>BJ AJ rfl rfl rfl om om) (k:=?_)
     refine tk 3 hX (hr:=fun w' hH=>EU AJ rfl rfl (hH rfl) (At.tail At.head) ga) (k:=?_)
     refine tks 4 2 ?_
     refine tk 6 hX (hr:=fun w' hH=>BJ AJ rfl rfl rfl om om) (k:=?_)
     refine tk 7 hX (hr:=fun w' hH=>EU AJ rfl rfl (hH rfl) At.head gb) (k:=?_)
     refine tk 8 hX (k:=?_)
     refine en (k:=?_)
     repeat' (first|refine Sa ?_|refine xc_cond rfl (fun hc=>?_) fun hc=>?_|fail)
     ·rw [bP] at hc
      refine AG ?_
      exact ⟨congrArg Value.bool (decide_eq_false (JE (by simpa using hc))).symm,ho.step (hs.AB [] (by simp [a3,b3]) (by simp [D0])) (by simp)⟩
     ·rw [bP] at hc
      exact A4 (i+1) om (by (repeat (first | exact Ak | (apply Ac;first | exact rfl | exact congrArg (Value.int .i64) ei)))) ⟨by omega,key (by simpa using hc),ho.step (hs.AB [] (by simp [a3,b3]) (by simp [D0])) (by simp)⟩
   ·have e:i=A.length:=by omega
    have TP:A=B:=by
     have h1:A.take i=A:=List.take_of_length_le om
     have h2:B.take i=B:=List.take_of_length_le om
     rw [← h1,ht,h2]
    exact Au () Ae ⟨TP,ho.step (hs.AD rfl) (by simp)⟩
  ·rintro _ env w ⟨rfl,ho⟩
   clear hs
   have hs:=St.nil w
   refine Ja ?_
   refine AG ?_
   exact ⟨congrArg Value.bool (decide_eq_true rfl).symm,ho.step (hs.AD rfl) (by simp)⟩
end Go.Proofs.Q0
namespace Go.Proofs.Q0
open Go Go.RowKit
open IB (IT DX Bt)
attribute [local irreducible] XS XC XA AZ AP Aa A1 A0 A8 Ad AW SE
def rk:RT:=⟨⟨⟨⟨3,0,1⟩,1,⟨5242883,0,1⟩⟩,5,5,false⟩,by decide⟩
theorem k1:newR ⟨3,0,1⟩ 1 5=some rk.1:=by kernel_rfl
theorem k2:Ln (Iq 0) rk=0:=by kernel_rfl
theorem k3:(Gu (Iq 0) rk).l=[rk]:=by kernel_rfl
theorem k4:(NL (Gu (Iq 0) rk) 1 true).l=[Gl rk true]:=by kernel_rfl
theorem k5:Ro (Gu (Iq 0) rk) 1=0:=by kernel_rfl
theorem ZB (w0:World) (ht:D3 w0):AO Tryz.prog 251 #[] w0 fun v w'=>v = .bool true∧AA [] w0 w':=by
 have hs:=St.nil w0
 refine AR Tryz.func251 Tryz.ntmps251 (k:=?_)
 refine Ja ?_
 refine cl (h:=by exact snew_ret 0 (by decide) _) (k:=?_)
 rintro v w1 ⟨⟨sb,F0,rfl,hS,EM⟩,AK⟩
 have EM:∀ k∈F0,w0.heap.size≤k:=fun k hk=>by have:=EM k hk;have:=hs.size;omega
 have Jq:=AK.size
 have hq:=hs.AN AK
 have Tg:=hq.AD rfl
 clear hs hq
 have hs:=St.nil w1
 refine Ja ?_
 refine cl (h:=by exact Lq sb (Iq 0) F0 _ hS (by decide)) (k:=?_)
 rw [show runN (Iq 0).l=0 from rfl]
 rintro v w2 ⟨rfl,AM⟩;replace hs:=hs.AN AM
 refine Jd ?_
 refine cl (h:=by exact LR ⟨3,0,1⟩ 1 5 (by decide) (by decide) (by decide) _) (k:=?_)
 rw [k1]
 rintro v w' ⟨rfl,ho⟩;replace hs:=hs.AN ho;repeat' (first|refine Sa ?_|(refine AU hs (k:=?_);intro w hs)|(refine al hs (k:=?_);intro b w hz hs)|fail)
 have HV:=hS.only (hs.AD rfl)
 have hzw:=hs.size
 refine cl (h:=by exact enter_ret sb (Iq 0) F0 rk _ HV (by decide) (by decide) (by decide)) (k:=?_)
 rw [k2]
 rintro v w3 ⟨rfl,F1,J4,DE,AT⟩
 replace hs:=hs.call AT (HV.apart hs rfl) (by simp [D0])
 have XP:∀ k∈F1,w0.heap.size≤k:=fun k hk=>by
  rcases DE k hk with h | h
  ·exact EM k h
  ·omega
 have hm:∀ w',AA (F0 ++ []) w1 w'→AA [] w0 w':=fun w' ho=>Tg.step ho (fun k hk=>by
  rw [List.append_nil] at hk
  exact .inr (EM k hk))
 have hm2:∀ w',AA (F1 ++ (F0 ++ [])) w1 w'→AA [] w0 w':=fun w' ho=>Tg.step ho (fun k hk=>by
  rw [List.append_nil,List.mem_append] at hk
  rcases hk with hk | hk
  ·exact .inr (XP k hk)
  ·exact .inr (EM k hk))
 have e3:=k3
 have e4:=k4
 have e5:=k5
 generalize Gu (Iq 0) rk=s1 at *
 refine Ja ?_
 refine cl (h:=by exact Yo _ (tab_only ht (hm _ hs.only))) (k:=?_)
 rintro v w4 ⟨rfl,Aw⟩;replace J4:=J4.only Aw;replace hs:=hs.AN Aw
 refine Jf ?_
 refine cl (h:=by exact Lq sb s1 F1 _ J4 (by rw [e3];decide)) (k:=?_)
 rw [e3,show runN [rk]=1 from rfl]
 rintro v w5 ⟨rfl,BY⟩;replace J4:=J4.only BY;replace hs:=hs.AN BY
 refine Jf ?_
 refine cl (h:=by exact Ut sb s1 F1 1 true _ J4 (by decide) (by rw [e3];decide)) (k:=?_)
 rw [e5]
 rintro v w6 ⟨rfl,UT,Aq⟩
 replace hs:=hs.call Aq (J4.apart hs rfl) (by simp [D0])
 refine Jf ?_
 refine cl (h:=by exact Lq sb (NL s1 1 true) F1 _ UT (by rw [e4];decide)) (k:=?_)
 rw [e4,show runN [Gl rk true]=0 from rfl]
 rintro v w7 ⟨rfl,Cb⟩;replace hs:=hs.AN Cb
 refine Jc ?_
 refine AG ?_
 exact ⟨rfl,hm2 _ hs.only⟩
theorem Yd (w0:World) (ht:D3 w0):AO Tryz.prog 250 #[] w0 fun v w'=>v = .bool true∧AA [] w0 w':=by
 have hs:=St.nil w0
 refine AR Tryz.func250 Tryz.ntmps250 (k:=?_)
 refine Ja ?_
 refine AY hs (h:=by exact ZB _ ht) (k:=?_);intro w' ho hs;refine Jc ?_
 refine AG ?_
 exact ⟨rfl,hs.AD rfl⟩
def rs:RT:=Gl rk true
def O8:Ss:=Gu (Iq 0) rs
def g17:Gn:=⟨1,0,rs.1⟩
theorem p1:Ln (Iq 0) rs=0:=by kernel_rfl
theorem p2:Ia O8=some g17:=by kernel_rfl
theorem p3:O8.q.f 1=some (Ba rs):=by kernel_rfl
theorem p4:Gh (Ba rs) O8.q.t:=fun _=>⟨by kernel_rfl,by kernel_rfl⟩
theorem p5:Ia (HJ O8 1)=none:=by kernel_rfl
theorem p6:Mp (HJ O8 1).q=0:=by kernel_rfl
theorem f17:IG O8 [g17] (HJ O8 1) := .step p2 p3 p4 (.done p5)
theorem YX (w0:World) (ht:D3 w0):AO Tryz.prog 241 #[] w0 fun v w'=>v = .bool true∧AA [] w0 w':=by
 have hs:=St.nil w0
 refine AR Tryz.func241 Tryz.ntmps241 (k:=?_)
 refine Ja ?_
 refine cl (h:=by exact snew_ret 0 (by decide) _) (k:=?_)
 rintro v w1 ⟨⟨sb,F0,rfl,hS,EM⟩,AK⟩
 have EM:∀ k∈F0,w0.heap.size≤k:=fun k hk=>by have:=EM k hk;have:=hs.size;omega
 have Jq:=AK.size
 have hq:=hs.AN AK
 have Tg:=hq.AD rfl
 clear hs hq
 have hs:=St.nil w1
 refine Ja ?_
 refine cl (h:=by exact LR ⟨3,0,1⟩ 1 5 (by decide) (by decide) (by decide) _) (k:=?_)
 rw [k1]
 rintro v w' ⟨rfl,ho⟩;replace hs:=hs.AN ho;repeat' (first|refine Sa ?_|(refine st hs (k:=?_);intro w hs)|(refine AU hs (k:=?_);intro w hs)|(refine al hs (k:=?_);intro b w hz hs)|fail)
 have HV:=hS.only (hs.AD rfl)
 have hzw:=hs.size
 refine cl (h:=by exact enter_ret sb (Iq 0) F0 rs _ HV (by decide) (by decide) (by decide)) (k:=?_)
 rw [p1,show Gu (Iq 0) rs=O8 from rfl]
 rintro v w3 ⟨rfl,F1,J4,DE,AT⟩
 replace hs:=hs.call AT (HV.apart hs rfl) (by simp [D0])
 have XP:∀ k∈F1,w0.heap.size≤k:=fun k hk=>by
  rcases DE k hk with h | h
  ·exact EM k h
  ·omega
 have BB:AA [] w0 w3:=Tg.step hs.only (fun k hk=>by
  have hk:k∈F0 ++ []:=hk
  rw [List.append_nil] at hk
  exact .inr (EM k hk))
 have e6:=p6
 have hf:=f17
 have hn:=(show O8.l.length≤1000000 by decide)
 have hq:=(show O8.q.t.list.length≤1000000 by decide)
 generalize O8=s at *
 generalize HJ s 1=s' at *
 have OF:=BB.size
 clear hs
 have hs:=St.nil w3
 refine Jd ?_
 refine cl (h:=by exact settle_ret sb s s' [g17] F1 _ J4 hn hq (by decide) hf) (k:=?_)
 rw [e6]
 rintro v w4 ⟨sl,rfl,⟨G,hG,Dc⟩,F2,Zz,D5,Aw⟩
 have hL:=hG.ls (xs:=[g17.cells]) rfl rfl (by simp)
 obtain ⟨ad,cap,rfl,hD⟩:=hL
 obtain ⟨bb,off,cs,fz,rfl,_,xY,hcs⟩:=hD (by simp)
 have hpk:=hcs 0 g17.cells rfl
 have Bn:AA [] w0 w4:=BB.step Aw (fun k hk => .inr (XP k hk))
 clear hs
 have hs:=St.nil w4
 refine Ja ?_
 refine cl (h:=by exact Yd _ (tab_only ht Bn)) (k:=?_)
 rintro v w5 ⟨rfl,BY⟩
 have Vt:=BY.block xY (by simp)
 have E8:=Bn.trans BY
 clear hs
 have hs:=St.nil w5
 refine Jf ?_
 refine ix (h0:=(by decide)) (h1:=(by decide)) (k:=?_)
 refine Jf ?_
 refine lh Vt (by cases hpk with | cons h _=>exact h) (k:=?_)
 refine Jf ?_
 refine ix (h0:=(by decide)) (h1:=(by decide)) (k:=?_)
 refine vs (k:=?_)
 have aCQ:EA cs (off+1) 2 [.int .i64 0,.int .u64 0]:=by
  cases hpk with | cons _ h=>cases h with | cons h1 h=>cases h with | cons h2 _=>exact .cons h1 (.cons h2 .nil)
 refine JQ Vt aCQ (k:=?_)
 skip
 refine AY hs (h:=by exact RE 0 (by decide) _) (k:=?_);intro w' ho hs;refine Jc ?_
 refine AG ?_
 exact ⟨rfl,E8.trans (hs.AD rfl)⟩
end Go.Proofs.Q0
