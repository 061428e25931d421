/- A part of the proof: what its functions compute. -/
import Derived.Test.YtjiiakjheghcoaaGreatDoorGb6
import Derived.Shelf.SlMaps.Clone
import Derived.Ground.SlmcProg
import Derived.Laws.OwnMore
set_option linter.unusedVariables false
set_option linter.unusedSimpArgs false
set_option maxRecDepth 100000
set_option maxHeartbeats 64000000
set_option linter.unusedSectionVars false
namespace Go.Proofs.Q0
open Go Go.RowKit
open IB (IT DB Bh)
attribute [local irreducible] XS XC XA AX AO A7 A0 AZ A8 Aa AV SE
def HJ (s:Qs) (a:IT):Int:=(Oz (plain (DJ a.1.id s.t.list))).getD a.1.p.t
def Ku (s:Qs) (a:IT):Int :=
 bif !a.1.right then 2 else bif !(s.f a.1.id).isSome then 14 else bif !within (HJ s a) (plain (DJ a.1.id s.t.list ++ [a])) then 8 else 0
def ZV (s:Qs) (o a:IT):Qs:={ Kv (Ey s o) a with c:=s.c }
def Pw (s:Qs) (a:IT):Qs:=bif decide (Ku s a=0) then (match s.f a.1.id with | some o=>ZV s o a | none=>s) else s
theorem jD (f:Int→Option IT) (i:Int):(vals f i).getD (iv .zero)=iv (IB.JA (f i)):=by unfold vals;cases f i <;> rfl
theorem Xe (qb:Nat) (s:Qs) (F:List Nat) (a:IT) (w0:World) (h:Cw w0 qb s F) (hlen:s.t.list.length+1≤1000000) (hn:s.n < 1000000) (hd:∀ o,s.f a.1.id=some o→Fx o s.t) :
 AM Tryz.prog 152 #[.pointer (some ⟨qb,0,none⟩),iv a.1] w0 fun v w'=>v = .int .i64 (Ku s a)∧∃ F',Cw w' qb (Pw s a) F'∧(∀ k∈F',k∈F∨w0.heap.size≤k)∧AA F w0 w':=by
 have hq:=h
 obtain ⟨tb,mb,Ft,rfl,h1,h2,h3,h4,h5⟩:=h
 have hs:=(St.nil w0).AG h1 (by simp)
 have same:∀ w',AA [] w0 w'→∃ F',Cw w' qb s F'∧(∀ k∈F',k∈qb :: mb :: Ft∨w0.heap.size≤k)∧AA (qb :: mb :: Ft) w0 w':=fun w' ho=>⟨_,hq.only ho,fun k hk => .inl hk,ho.weaken (by simp)⟩
 refine AQ Tryz.func152 Tryz.ntmps152 (k:=?_);refine Ag ?_;refine Al ?_;refine bx hs (k:=?_);intro bq wq Lm hs;refine Jd ?_
 have JB:=hs.new (bq,true) (by simp) rfl
 simp only at JB
 refine dr [] hs (k:=?_);intro hX w hs
 refine tks 0 6 ?_
 refine GS 10 5 hs (k:=?_);intro f X w hp;have hs:=hp.st
 apply BH 6 10 (f:=f) (X:=X) hX hp;exact rfl;exact rfl;(apply AR AI;exact rfl);kernel_rfl;kernel_rfl;kernel_rfl;kernel_rfl;(intro X Y;(repeat (first | exact A4 | refine A3 ?_ (by exact rfl))));(intro w' hs;first|exact AH hs.hold|exact AH hs.hold.tail|exact A6 rfl);intro f X w hp;have hs:=hp.st
 have ho:=hs.AB [] (by simp [h1]) (by simp [D0])
 refine JQ (e:=64) (z:=iv .zero) (h2.keep ho (by simp)) a.2.2.1 (by kernel_rfl) (by kernel_rfl) (k:=?_)
 rw [jD,FR]
 generalize hx:IB.JA (s.f a.1.id)=x
 refine Jb ?_
 refine dn (k:=?_)
 refine tk 7 hX (hc:=by cases f <;> kernel_rfl) (k:=?_)
 refine tk 8 hX (hc:=by cases f <;> kernel_rfl) (k:=?_)
 refine tk 9 hX (hc:=by cases f <;> kernel_rfl) (k:=?_)
 apply B9 10 (f:=f) (X:=X) hX hp;exact rfl;(apply AR AI;exact rfl);kernel_rfl;kernel_rfl;(intro X Y;(repeat (first | exact A4 | refine A3 ?_ (by exact rfl))));(intro w' hs;first|exact AH hs.hold|exact AH hs.hold.tail|exact A6 rfl);intro b w hI hs
 refine dt 11 hX (k:=?_)
 repeat' (first|refine Nx.h ?_|(refine AU hs (k:=?_);intro w hs)|fail)
 refine dn (k:=?_)
 refine tk 12 hX (k:=?_)
 refine en (k:=?_)
 refine Ja ?_
 have Uy:=hs.new _ List.mem_cons_self rfl
 simp only at Uy
 have ho:=hs.AB [] (by simp [h1]) (by simp [D0])
 have lb5:=lt_of_block (hs.get At.head)
 have lbq:=lt_of_block (hs.get (At.tail At.head))
 have lqb:=lt_of_block (hs.get (At.tail (At.tail At.head)))
 refine cl (h:=by exact YL qb s _ a.1.id _ (hq.only ho) om) (k:=?_)
 rintro v1 w1 ⟨⟨G,hG,Ds⟩,AJ⟩;replace hs:=hs.AK AJ
 have hz:=ho.size
 have J7:∀ k∈G,w0.heap.size≤k:=fun k hk=>by have:=Ds k hk;omega
 have lK:∀ k∈G,k≠b∧k≠bq∧k≠qb:=fun k hk=>by have:=Ds k hk;omega
 have Aw:=hs.AB [] (by simp [h1]) (by simp [D0])
 have c1:=hs.get At.head
 have c2:=hs.get (At.tail At.head)
 have c3:=hs.get (At.tail (At.tail At.head))
 have hnd:=hs.nd
 simp only [List.map_cons,List.nodup_cons,List.mem_cons,List.map_nil,List.not_mem_nil,or_false,not_or] at hnd
 have hle:=TB a.1.id s.t.list
 have hL:Iw w1 v1 (plain (DJ a.1.id s.t.list)):=IB.Nk hG
 clear hs
 have hs:=(((St.nil w1).AG c3 (by simp)).AG c2 (by simpa using hnd.2.1)).AG c1 (by simp [hnd.1.1,hnd.1.2])
 have e0:HJ s a=(Oz (plain (DJ a.1.id s.t.list))).getD a.1.p.t:=rfl
 have eE:Ku s a=bif !a.1.right then 2 else bif !(s.f a.1.id).isSome then 14 else bif !within (HJ s a) (plain (DJ a.1.id s.t.list ++ [a])) then 8 else 0:=rfl
 generalize HJ s a=B at *
 generalize hO:DJ a.1.id s.t.list=O at *
 refine Ja ?_
 have AN:=hs.AB [] (by simp [c1,c2,c3]) (by simp [D0])
 refine cl (h:=by exact ZG (plain O) v1 (fun x hx=>by obtain ⟨y,_,rfl⟩:=List.mem_map.1 hx;exact y.2) (by simp [plain];omega) _ (hL.only AN)) (k:=?_)
 rintro v2 w2 ⟨rfl,ho⟩;replace hs:=hs.AK ho
 refine vs (k:=?_)
 refine vs (k:=?_)
 refine vs (k:=?_)
 refine vs (k:=?_)
 refine vs (k:=?_)
 refine XS.nil ?_
 refine Dw ?_
 refine Ag ?_
 refine B7 (fun _:Unit=>[(0,.pointer (some ⟨qb,0,none⟩)),(3,.pointer (some ⟨bq,0,none⟩)),(4,.int .i64 0),(5,.pointer (some ⟨b,0,none⟩)),(6,.bool (s.f a.1.id).isSome),(7,v1),(8,.int .u64 B)]) (fun _ w=>St w1 D0 [(b,oT x,false),(bq,oT a.1,false),(qb,Ko s.m tb mb s.c,false)] w) ?_ ?_
 ·cases hA:Oz (plain O) with
  | none =>
    rw [hA] at e0
    rw [e0]
    refine Je ?_
    exact AP () Ab hs
  | some t =>
    rw [hA] at e0
    rw [e0]
    refine Jd ?_
    exact AP () Ab hs
 clear hs ho
 rintro _ env w hs
 refine Ja ?_
 refine cl (h:=by exact Mk a.1 _) (k:=?_)
 have xR:∀ n,Ku s a=n→n≠0→Pw s a=s:=fun n e hn=>by unfold Pw;rw [e,decide_eq_false hn];rfl
 rintro v w' ⟨rfl,ho⟩;replace hs:=hs.AK ho;repeat' (first|refine Sa ?_|(refine bs hs (k:=?_);intro b w hz hs)|refine xc_cond rfl (fun hc=>?_) fun hc=>?_|fail)
 ·refine AF ?_
  have ho:=hs.AB [] (by simp [c1,c2,c3]) (by simp [D0])
  have e:Ku s a=2:=by rw [eE,show (!a.1.right)=true by simpa using hc];rfl
  refine ⟨by rw [e];rfl,?_⟩
  rw [xR 2 e (by decide)]
  exact same _ (Aw.trans ho)
 ·refine AF ?_
  have ho:=hs.AB [] (by simp [c1,c2,c3]) (by simp [D0])
  have e:Ku s a=14:=by rw [eE,show (!a.1.right)=false by assumption,hc];rfl
  refine ⟨by rw [e];rfl,?_⟩
  rw [xR 14 e (by decide)]
  exact same _ (Aw.trans ho)
 ·have r1:(!a.1.right)=false:=by assumption
  have r2:(s.f a.1.id).isSome=true:=by simpa using hc
  obtain ⟨o,hf⟩:=Option.isSome_iff_exists.1 r2
  rw [hf] at hx
  obtain rfl:o.1=x:=hx
  rw [r1,r2] at eE
  have hb4:=hs.get At.head
  have Ao:=hs.AB [] (by simp [c1,c2,c3]) (by simp [D0])
  refine CM AI rfl rfl rfl rfl rfl rfl rfl (by decide) (lit_cells (news:=a.1.cells) hb4) (by simp [Value.oneCell']) (hG.keep Ao (by simp)) om om ?_
  intro v2 w2 ⟨G',Ju,Qc⟩ AT
  have B8:AA [] w0 w2:=(Aw.trans Ao).news J7 AT
  have d1:=AT.block (hs.get (At.tail At.head)) (fun hm=>(lK _ hm).1 rfl)
  have d2:=AT.block (hs.get (At.tail (At.tail At.head))) (fun hm=>(lK _ hm).2.1 rfl)
  have d3:=AT.block (hs.get (At.tail (At.tail (At.tail At.head)))) (fun hm=>(lK _ hm).2.2 rfl)
  have hL2:Iw w2 v2 (plain (O ++ [a])):=IB.Nk (G:=G') (by
   rw [IB.LX,List.length_append]
   exact Ju)
  clear hs
  have hs:=(((St.nil w2).AG d3 (by simp)).AG d2 (by simpa using hnd.2.1)).AG d1 (by simp [hnd.1.1,hnd.1.2])
  skip
  have BK:=hs.AB [] (by simp [d1,d2,d3]) (by simp [D0])
  refine cl (h:=by exact K6 B (plain (O ++ [a])) v2 (by simp [plain];omega) _ (hL2.only BK)) (k:=?_)
  generalize hwi:within B (plain (O ++ [a]))=wi
  rw [hwi] at eE
  cases wi
  ·rintro v w' ⟨rfl,ho⟩;replace hs:=hs.AK ho;refine Je ?_
   refine AF ?_
   have ho:=hs.AB [] (by simp [d1,d2,d3]) (by simp [D0])
   refine ⟨by rw [eE];rfl,?_⟩
   rw [xR 8 eE (by decide)]
   exact same _ (B8.trans ho)
  ·have hQ:Pw s a=ZV s o a:=by unfold Pw;rw [eE,hf];rfl
   rintro v w' ⟨rfl,ho⟩;replace hs:=hs.AK ho;refine Jd ?_
   have ho:=hs.AB [] (by simp [d1,d2,d3]) (by simp [D0])
   have EH:=B8.trans ho
   have hqC:=hq.only EH
   have hzC:=EH.size
   refine cl (h:=by exact V5 qb s _ o _ hqC om (hd o hf)) (k:=?_)
   rintro v3 w3 ⟨F1,oH,Ck,Ak⟩
   have q2:=Ak.block (hs.get (At.tail At.head)) (hqC.not (hs.get (At.tail At.head)) (by decide) (by decide) (by decide))
   have aBO:(Ey s o).t.list.length≤s.t.list.length:=Vy (hd o hf)
   have hnc:(Ey s o).n≤s.n:=by show (if (s.f o.1.id).isSome then s.n - 1 else s.n)≤s.n;split <;> omega
   have CE:AA (qb :: mb :: Ft) w0 w3:=(EH.weaken (by simp)).step Ak (fun k hk => .inl hk)
   have hzD:=CE.size
   clear hs
   have hs:=(St.nil w3).AG q2 (by simp)
   refine Ja ?_
   have C1:=hs.AB [] (by simp [q2]) (by simp [D0])
   have hA2:=oH.only C1
   have Yn:=C1.size
   refine cl (h:=by exact WS qb (Ey s o) F1 a _ hA2 om om) (k:=?_)
   rintro v4 w4 ⟨F2,Wm,DQ,E3⟩
   obtain ⟨EZ,Pn,gK,rfl,g1,g2,g3,g4,g5⟩:=Wm
   have Ed:AA (qb :: mb :: Ft) w0 w4:=(CE.step C1 (by simp)).step E3 (fun k hk=>by
    rcases Ck k hk with h | h
    ·exact .inl h
    ·exact .inr om)
   have hQP:QP w4 qb EZ Pn gK (Kv (Ey s o) a):=⟨g1,g2,g3⟩
   clear hs
   have hs:=(St.nil w4).AG g1 (by simp)
   repeat' (first|refine Sa ?_|(refine st hs (k:=?_);intro w hs)|fail)
   refine AF ?_
   have MO:AA [qb] w4 _:=hs.AB [qb] (by simp) (by simp [D0])
   have hP:=hQP.own MO (hs.get At.head)
   refine ⟨by rw [eE];rfl,?_⟩
   rw [hQ]
   refine ⟨qb :: Pn :: gK,⟨EZ,Pn,gK,rfl,hP.q,hP.M,hP.T,g4,h5⟩,fun k hk=>?_,Ed.step MO (fun k hk => .inl (by obtain rfl:=List.mem_singleton.1 hk;simp))⟩
   rcases DQ k hk with h | h
   ·rcases Ck k h with h | h
    ·exact .inl h
    ·exact .inr om
   ·exact .inr om
theorem nN (qb:Nat) (s:Qs) (F:List Nat) (r:RT) (w0:World) (h:Cw w0 qb s F) (hlen:s.t.list.length+1≤1000000) (hn:s.n < 1000000) (hd:∀ o,s.f (BW r).1.id=some o→Fx o s.t) :
 AM Tryz.prog 151 #[.pointer (some ⟨qb,0,none⟩),rv r.1] w0 fun v w'=>v = .int .i64 (Ku s (BW r))∧∃ F',Cw w' qb (Pw s (BW r)) F'∧(∀ k∈F',k∈F∨w0.heap.size≤k)∧AA F w0 w':=by
 have hs:=St.nil w0
 refine AQ Tryz.func151 Tryz.ntmps151 (k:=?_)
 repeat' (first|refine Sa ?_|(refine bx hs (k:=?_);intro b w hz hs)|fail)
 have ho:=hs.AD rfl
 refine cl (h:=by exact Xe qb s F (BW r) _ (h.only ho) hlen hn hd) (k:=?_)
 rintro v w1 ⟨rfl,F',hA,CV,AJ⟩
 have hz:=ho.size
 clear hs
 have hs:=St.nil w1
 refine Jc ?_
 refine AF ?_
 exact ⟨rfl,F',hA.only (hs.AD rfl),fun k hk=>by rcases CV k hk with h | h;exact .inl h;exact .inr om,((ho.weaken (by simp)).step AJ (fun k hk => .inl hk)).step (hs.AD rfl) (by simp)⟩
def Ru (s:Ss) (r:RT):Int:=Fz r.1 (Ku s.q (BW r))
def S8 (s:Ss) (r:RT):Ss:=KX s r (Ku s.q (BW r)) (Pw s.q (BW r))
theorem sput_ret (sb:Nat) (s:Ss) (F:List Nat) (r:RT) (w0:World) (h:Cz w0 sb s F) (hl:s.l.length < 1000000) (hlen:s.q.t.list.length+1≤1000000) (hn:s.q.n < 1000000) (hd:∀ o,s.q.f (BW r).1.id=some o→Fx o s.q.t) :
 AM Tryz.prog 115 #[.pointer (some ⟨sb,0,none⟩),rv r.1] w0 fun v w'=>v = .int .i64 (Ru s r)∧∃ F',Cz w' sb (S8 s r) F'∧(∀ k∈F',k∈F∨w0.heap.size≤k)∧AA F w0 w':=by
 have hs:=St.nil w0
 refine AQ Tryz.func115 Tryz.ntmps115 (k:=?_)
 repeat' (first|refine Sa ?_|(refine bx hs (k:=?_);intro b w hz hs)|fail)
 have ho:=hs.AD rfl
 refine cl (h:=by exact Vi 151 sb s F r (Ku s.q (BW r)) (Pw s.q (BW r)) _ (h.only ho) hl (fun qb Fq w hq _=>nN qb s.q Fq r w hq hlen hn hd)) (k:=?_)
 rintro v w1 ⟨rfl,F',hA,CV,AJ⟩
 have hz:=ho.size
 clear hs
 have hs:=St.nil w1
 refine Jc ?_
 refine AF ?_
 exact ⟨rfl,F',hA.only (hs.AD rfl),fun k hk=>by rcases CV k hk with h | h;exact .inl h;exact .inr om,((ho.weaken (by simp)).step AJ (fun k hk => .inl hk)).step (hs.AD rfl) (by simp)⟩
end Go.Proofs.Q0
namespace Go.Proofs.Q0
open IB (IT)
theorem fC {lo:Int}:∀ {l2 l1:List It} {m:Mn},C7 m.b lo (l1 ++ l2)→K2 m l1→∃ m',LL m (places l2)=some m'∧m'.b=m.b∧K2 m' (l1 ++ l2)
 | [],l1,m,h,k=>⟨m,rfl,rfl,by rwa [List.append_nil]⟩
 | a :: l2,l1,m,h,k=>by
   have hp:(l1 ++ a :: l2).Perm ((a :: l1) ++ l2):=List.perm_middle
   have h2:=h.perm hp
   have h3:C7 m.b lo (a :: l1):=⟨h2.1,by have:=h2.2.1;simp only [List.length_append,List.length_cons] at this ⊢;omega,fun x hx=>h2.2.2 x (List.mem_append_left _ hx)⟩
   obtain ⟨m1,e1,e2,e3⟩:=jB h3 k
   obtain ⟨m2,e4,e5,e6⟩:=fC (l2:=l2) (l1:=a :: l1) (m:=m1) (by rw [e2];exact h2) e3
   refine ⟨m2,?_,e5.trans e2,e6.perm hp.symm⟩
   show (EJ m a.p).bind (fun m=>LL m (places l2))=some m2
   rw [e1];exact e4
theorem C7.at {b lo:Int} {x:It} {l:List It} (h:C7 b lo (x :: l)):C7 x.p.t (lo - sn x.p.t b) (x :: l):=(h.move h.head.low (h.head.dead h.1).2.2).1
theorem mean_of {b lo:Int} {l:List It} (h:C7 b lo l) (hl:l≠[]):LO (Ix l) l∧Oz l=some (Ix l).b:=by
 obtain ⟨x,r,rfl⟩:=List.exists_cons_of_ne_nil hl
 have hw:=h.at
 obtain ⟨m,e1,e2,e3⟩:=fC (l1:=[]) (l2:=x :: r) (m:=⟨x.p.t,0,0,0⟩) hw ⟨rfl,rfl,rfl⟩
 have e2':m.b=x.p.t:=e2
 have hw':C7 m.b (lo - sn x.p.t b) (x :: r):=by rw [e2'];exact hw
 obtain ⟨m',e4,e5⟩:=OK hw' e3 hl
 have hf:=QT hw' e3 hl
 have e6:=e5.eq hl
 rw [← e6]
 refine ⟨e5,?_⟩
 show (ofM x.p.t (places (x :: r))).bind IW=_
 unfold ofM
 rw [e1,Option.bind_some,hf]
 rw [hf] at e4
 simp only [Option.getD_some,Ic] at e4
 split at e4
 ·cases e4;rfl
 ·cases e4
theorem bR {b lo:Int} {l l':List It} (h:C7 b lo l) (p:l.Perm l'):Ix l=Ix l':=by
 by_cases e:l=[]
 ·subst e;rw [p.nil_eq]
 ·exact ((mean_of h e).1.perm p).eq (fun k=>e (by subst k;exact p.symm.nil_eq.symm))
theorem QI.aAz {s:Qs} (h:QI s) {a:IT} (hr:a.1.right=true) (hn:s.t.list.length < 32) {L:List It} (hL:L.Perm (a.1 :: plain s.t.list)) (hw:within (FP s a).b L=true):∃ lo,C7 (FP s a).b lo (a.1 :: plain s.t.list):=by
 obtain ⟨lo,k⟩:=h.win
 rw [NM (l':=a.1 :: plain s.t.list) (fun x=>hL.mem_iff)] at hw
 refine jG (fun x hx=>?_) hw ?_ ?_ (by simp only [plain,List.length_cons,List.length_map];omega)
 ·rcases List.mem_cons.1 hx with rfl | hx
  ·exact ⟨a.2,hr⟩
  ·exact ⟨(k.2.2 x hx).isin,(k.2.2 x hx).right⟩
 all_goals by_cases e:s.t.list=[]
 ·rw [LS e];exact ⟨a.1,by simp,by show sn a.1.p.t a.1.p.t≤0;rw [PL];omega⟩
 ·rw [Km e];obtain ⟨⟨x,k1,k2⟩,_⟩:=TJ (h.cen e) (plain_ne e);exact ⟨x,by simp [k1],k2⟩
 ·rw [LS e];exact ⟨a.1,by simp,by show 0≤sn a.1.p.t a.1.p.t;rw [PL];omega⟩
 ·rw [Km e];obtain ⟨_,⟨x,k1,k2⟩⟩:=TJ (h.cen e) (plain_ne e);exact ⟨x,by simp [k1],k2⟩
theorem QI.clock {s:Qs} (h:QI s) (c:Int):QI { s with c:=c }:=⟨h.good,h.srt,h.f,h.n,h.len,h.cen,h.nil⟩
theorem KA {r:RT}:∀ {l:List RT},Cl l→(CF r l).Perm (r :: Dh (Az r) l)
 | [],_ => .refl _
 | a :: l,h=>by
   have hd:=h.head
   have hlt:∀ {b:RT},Az r≤Az a→b∈l→decide (Az b≠Az r)=true:=fun h1 hb=>by have:=hd _ hb;simp;omega
   have ih:=KA (r:=r) h.tail
   unfold CF Dh
   rw [List.filter_cons]
   split
   ·rename_i h1
    rw [if_pos (by simp;omega),List.filter_eq_self.2 (fun b hb=>hlt om hb)]
   ·split
    ·rename_i h1 h2
     rw [if_neg (by simp;omega),List.filter_eq_self.2 (fun b hb=>hlt om hb)]
    ·rename_i h1 h2
     rw [if_pos (by simp;omega)]
     exact (ih.cons a).trans (.swap _ _ _)
def Qr (A:As) (id:Int):List It:=its (Dh id A.l)
def Sv (A:As) (a:It):Int:=if Qr A a.id=[] then a.p.t else (Ix (Qr A a.id)).b
def Kn (A:As) (a:It):Int:=bif !a.right then 2 else bif !(Ah A.l a.id).isSome then 14 else bif !within (Sv A a) (Qr A a.id ++ [a]) then 8 else 0
def Dn (A:As) (r:RT):Int:=Fz r.1 (Kn A r.1.i)
def GX (A:As) (r:RT):As:=if Dn A r=0 then ⟨CF r A.l,A.c⟩ else A
theorem oth_perm {s:Ss} {A:As} (h:BJ s A) (id:Int):(DJ id s.q.t.list).Perm ((Dh id A.l).map BW):=by
 unfold DJ Dh
 have:((A.l.filter fun a=>decide (Az a≠id)).map BW)=(A.l.map BW).filter fun a=>decide (a.1.id≠id):=by rw [List.filter_map];rfl
 rw [this]
 exact h.p.filter _
theorem BJ.oth {s:Ss} {A:As} (h:BJ s A) (id:Int):(plain (DJ id s.q.t.list)).Perm (Qr A id):=by
 unfold Qr
 rw [← Y1];exact plain_perm (oth_perm h id)
theorem BJ.HJ {s:Ss} {A:As} (h:BJ s A) (a:IT):Go.Proofs.Q0.HJ s.q a=Sv A a.1:=by
 unfold Go.Proofs.Q0.HJ Sv
 have hp:=h.oth a.1.id
 by_cases e:Qr A a.1.id=[]
 ·rw [if_pos e]
  rw [e] at hp
  rw [hp.eq_nil];rfl
 ·rw [if_neg e]
  obtain ⟨lo,k⟩:=h.q.win
  have k2:C7 s.q.m.b lo (plain (DJ a.1.id s.q.t.list)):=⟨k.1,by have:=k.2.1;have:=TB a.1.id s.q.t.list;simp only [plain,List.length_map] at *;omega,fun x hx=>by
   obtain ⟨y,hy,rfl⟩:=List.mem_map.1 hx
   exact plain_win k y (List.mem_filter.1 hy).1⟩
  have ne:plain (DJ a.1.id s.q.t.list)≠[]:=fun k=>e (by rw [k] at hp;exact hp.nil_eq.symm)
  rw [(mean_of k2 ne).2,Option.getD_some,bR k2 hp]
theorem BJ.put {s:Ss} {A:As} (h:BJ s A) (r:RT):Ru s r=Dn A r∧BJ (S8 s r) (GX A r)∧∀ o,s.q.f (BW r).1.id=some o→Fx o s.q.t:=by
 have aAV:∀ o,s.q.f (BW r).1.id=some o→Fx o s.q.t:=fun o ho=>(h.q.cut ((h.q.f _ _).1 ho).1).2.2.2.2
 have hch:Ku s.q (BW r)=Kn A r.1.i:=by
  unfold Ku Kn
  rw [h.fs,h.HJ,NM (l:=plain (DJ (BW r).1.id s.q.t.list ++ [BW r])) (l':=Qr A r.1.i.id ++ [r.1.i]) (fun x=>by
   rw [show plain (DJ (BW r).1.id s.q.t.list ++ [BW r])=plain (DJ (BW r).1.id s.q.t.list) ++ [(BW r).1] from List.map_append ..,List.mem_append,List.mem_append,(h.oth _).mem_iff];rfl)]
  rfl
 have he:Ru s r=Dn A r:=by unfold Ru Dn;rw [hch]
 refine ⟨he,?_,aAV⟩
 unfold GX
 by_cases e0:Dn A r=0
 ·rw [if_pos e0]
  have hr:r.1.right=true:=by
   unfold Dn Fz at e0
   cases k:r.1.right
   ·rw [k] at e0;cases e0
   ·rfl
  have hj:Kn A r.1.i=0:=by unfold Dn Fz at e0;rw [hr] at e0;exact e0
  have hjq:Ku s.q (BW r)=0:=by rw [hch];exact hj
  have hj':=hjq
  unfold Ku at hj'
  cases k1:(BW r).1.right with
  | false=>rw [k1] at hj';cases hj'
  | true =>
  cases k2:s.q.f (BW r).1.id with
  | none=>rw [k1,k2] at hj';cases hj'
  | some o =>
  cases k4:within (Go.Proofs.Q0.HJ s.q (BW r)) (plain (DJ (BW r).1.id s.q.t.list ++ [BW r])) with
  | false=>rw [k1,k2,k4] at hj';cases hj'
  | true =>
    obtain ⟨AJ,AN⟩:=(h.q.f _ _).1 k2
    obtain ⟨c1,c2,c3,c4,c5⟩:=h.q.cut AJ
    have oF:DJ (BW r).1.id s.q.t.list=RB.sans o s.q.t.list:=by
     unfold DJ RB.sans
     refine List.filter_congr fun x hx=>?_
     by_cases e:x=o
     ·subst e;simp [AN]
     ·have:x.1.id≠(BW r).1.id:=fun e'=>e (h.q.inj x hx o AJ om)
      simp [this,e]
    have hb:(FP (Ey s.q o) (BW r)).b=Go.Proofs.Q0.HJ s.q (BW r):=by
     unfold Go.Proofs.Q0.HJ
     rw [oF,← c2]
     by_cases e:(Ey s.q o).t.list=[]
     ·rw [LS e,e];rfl
     ·obtain ⟨lo,k⟩:=c1.win
      have hm:=mean_of k (plain_ne e)
      rw [Km e,hm.2,← (c1.cen e).eq (plain_ne e)];rfl
    have hfn:(Ey s.q o).f (BW r).1.id=none:=by
     cases k:(Ey s.q o).f (BW r).1.id with
     | none=>rfl
     | some y =>
       obtain ⟨y1,y2⟩:=(c1.f _ _).1 k
       rw [c2,← oF] at y1
       have:=(List.mem_filter.1 y1).2
       simp only [decide_eq_true_eq] at this
       exact absurd y2 this
    have hlen:=c3.length_eq
    have hle:=h.q.len
    simp only [List.length_cons] at hlen
    obtain ⟨lo,hw⟩:=c1.aAz (a:=BW r) k1 (by rw [c2];omega) (L:=plain (DJ (BW r).1.id s.q.t.list ++ [BW r])) (by
     rw [oF,c2,show plain (RB.sans o s.q.t.list ++ [BW r])=plain (RB.sans o s.q.t.list) ++ [(BW r).1] from List.map_append ..]
     exact List.perm_append_comm) (by rw [hb];exact k4)
    obtain ⟨p1,p2,p3⟩:=c1.put (a:=BW r) hfn hw
    have hE:S8 s r=⟨ZV s.q o (BW r),CF r s.l⟩:=by
     unfold S8 KX Pw;rw [hr,hjq,k2];rfl
    rw [hE]
    refine ⟨p1.clock _,by rw [h.l],?_,h.c,fun x hx=>?_,ord_put h.o⟩
    ·show (Kv (Ey s.q o) (BW r)).t.list.Perm ((CF r A.l).map BW)
     refine p2.trans ?_
     rw [c2,← oF]
     exact ((oth_perm h _).cons _).trans ((KA h.o).map BW).symm
    ·rcases MP hx with rfl | hx
     ·exact hr
     ·exact h.r x hx
 ·rw [if_neg e0]
  have:S8 s r=s:=by
   unfold S8 KX
   cases k:r.1.right
   ·rfl
   ·have:Ku s.q (BW r)≠0:=fun e=>e0 (by rw [← he];unfold Ru Fz;rw [k];exact e)
    unfold Pw
    rw [decide_eq_false this];rfl
  rw [this];exact h
def GZ (A:As) (id:Int) (b:Bool):As:=match Ah A.l id with | some a=>⟨CF (HZ a b) A.l,A.c⟩ | none=>A
theorem del_perm {l:List RT} {a:RT} {i:Int} (ho:Cl l) (hf:Ah l i=some a):l.Perm (a :: Dh i l):=by
 obtain ⟨h1,h2⟩:=CA hf
 have:l.Nodup:=(List.Pairwise.imp (fun h e=>by subst e;omega) (List.pairwise_map.1 ho))
 clear hf
 induction l with
 | nil=>cases h1
 | cons b l ih =>
   have hd:=ho.head
   unfold Dh
   rw [List.filter_cons]
   rcases List.mem_cons.1 h1 with rfl | h1
   ·rw [if_neg (by simp [h2]),List.filter_eq_self.2 (fun x hx=>by have:=hd x hx;simp;omega)]
   ·have:=hd a h1
    rw [if_pos (by simp;omega)]
    exact ((ih ho.tail h1 (List.nodup_cons.1 ‹(b :: l).Nodup›).2).cons b).trans (.swap _ _ _)
theorem BJ.Z1 {s:Ss} {A:As} (h:BJ s A) (id:Int) (b:Bool):BJ (MU s id b) (GZ A id b):=by
 unfold MU GZ
 rw [h.l]
 cases e:Ah A.l id with
 | none=>exact h
 | some a =>
   obtain ⟨h1,h2⟩:=CA e
   refine ⟨h.q,rfl,?_,h.c,fun x hx=>?_,ord_put h.o⟩
   ·refine h.p.trans (((del_perm h.o e).map BW).trans ?_)
    have hi:Az (HZ a b)=id:=h2
    have:=(KA (r:=HZ a b) h.o).map BW
    rw [hi] at this
    exact this.symm
   ·rcases MP hx with rfl | hx
    ·exact h.r a h1
    ·exact h.r x hx
end Go.Proofs.Q0
namespace Go.Proofs.Q0
open Go Go.RowKit
open IB (IT DB Bh)
attribute [local irreducible] XS XC XA AX AO A7 A0 AZ A8 Aa AV SE
def MN (q:Qs):Int:=(IB.JA (Ll q)).id
theorem settle_ret (sb:Nat) (s s':Ss) (l:List Gn) (F:List Nat) (w0:World) (h:Cz w0 sb s F) (hn:s.l.length≤1000000) (hq:s.q.t.list.length≤1000000) (hl:l.length≤1000000) (hF:HR s l s') :
 AM Tryz.prog 172 #[.pointer (some ⟨sb,0,none⟩)] w0 fun v w'=>∃ sl,v = .tuple #[sl,.int .i64 (MN s'.q)]∧(∃ G,Ba w' 170 13 sl l.length (HT l) G∧∀ k∈G,w0.heap.size≤k)∧∃ F',Cz w' sb s' F'∧(∀ k∈F',k∈F∨w0.heap.size≤k)∧AA F w0 w':=by
 have hs:=St.nil w0
 refine AQ Tryz.func172 Tryz.ntmps172 (k:=?_)
 refine Jd ?_
 have CP:=hs.AD rfl
 have hz:=CP.size
 refine cl (h:=by exact fT sb s s' l F _ (h.only CP) hn hq hl hF) (k:=?_)
 rintro v1 w1 ⟨⟨G,hG,Ds⟩,F1,EK,Ck,AJ⟩
 have aAr:=EK
 obtain ⟨qb,mb,Fq,rfl,h1,h2,h3,h4,h5⟩:=EK
 clear hs
 have hs:=(St.nil w1).AG h1 (by simp)
 refine Ja ?_
 have AN:=hs.AB [] (by simp [h1]) (by simp [D0])
 refine AY hs (h:=by exact OZ qb s'.q Fq _ (h3.only AN)) (k:=?_);intro w' ho hs;repeat' (first|refine Sb ?_|(refine AU hs (k:=?_);intro w hs)|(refine al hs (k:=?_);intro b w hz hs)|fail)
 refine dr [] hs (k:=?_);intro hX w hs
 refine tks 0 5 ?_
 refine en (k:=?_)
 refine Jb ?_
 refine AF ?_
 have AT:=hs.AB [] (by simp [h1]) (by simp [D0])
 exact ⟨v1,rfl,⟨G,hG.keep AT (by simp),fun k hk=>by have:=Ds k hk;omega⟩,_,aAr.only AT,fun k hk=>by
  rcases Ck k hk with h | h
  ·exact .inl h
  ·exact .inr om,((CP.weaken (by simp)).step AJ (fun k hk => .inl hk)).step AT (by simp)⟩
end Go.Proofs.Q0
namespace Go.Proofs.Q0
open IB (IT)
theorem over_ok {m:Mn} {l:List It} (h:LO m l) {x:It} (hx:x∈l):F4 m x.p=some (H6 m x.p)∧A9 (H6 m x.p):=by
 obtain ⟨lo,k⟩:=h.all
 have hw:=k.2.2 x hx
 have hr:=k.right h.is
 obtain ⟨r1,_,_,_,_,_,⟨w1,w2,w3,w4⟩,_⟩:=iright_all hw.isin hw.right
 have hn:m.n≠0:=by rw [h.is.n];have:=List.length_pos_of_mem hx;omega
 have h8:=ZD hw.isin.1 hr r1
 have hm:=Cd.1 hr
 have a0:=h.a0
 have a1:=h.a1
 have h9:=mul_rng (w:=m.a) (s:=x.p.w) (W:=33554432) (S:=1048576) om om om om
 have h10:=mul_rng (w:=m.w) (s:=dist x.p m.b) (W:=33554432) (S:=9671406556917033397649408+1048576) om om h8.2.1 h8.2.2
 have e:=Int.mul_comm (dist x.p m.b) m.w
 have i1:A9 (m.a*x.p.w):=by unfold A9;omega
 have i2:A9 (H6 m x.p):=by unfold H6 A9;rw [e];omega
 unfold F4
 exact ⟨if_pos ⟨hr,hn,r1,i1,i2⟩,i2⟩
def mA (A:As):Mn:=Ix (its A.l)
def N8 (A:As) (a:RT):Int:=H6 (mA A) a.1.i.p
def VY (A:As) (a:RT):Int:=N8 A a / (mA A).w
def De (A:As) (id:Int):Int:=match Ah A.l id with | some a=>CX (N8 A a) 0 | none=>0
def CW (A:As) (id:Int):Int:=match Ah A.l id with | some a=>VY A a | none=>0
theorem BJ.over {s:Ss} {A:As} (h:BJ s A) {a:RT} (ha:a∈A.l):F4 s.q.m a.1.i.p=some (N8 A a)∧A9 (N8 A a)∧s.q.m=mA A:=by
 have hne:A.l≠[]:=List.ne_nil_of_mem ha
 have e:=h.GY hne
 have:=over_ok (h.cen hne) (x:=a.1.i) (List.mem_map_of_mem ha)
 rw [e] at this
 exact ⟨by rw [e];exact this.1,this.2,e⟩
theorem BJ.MG {s:Ss} {A:As} (h:BJ s A) (id:Int):L7 s.q id=De A id:=by
 unfold L7 De
 rw [h.f]
 cases e:Ah A.l id with
 | none=>rfl
 | some a =>
   have:=h.over (CA e).1
   show CX ((F4 s.q.m a.1.i.p).getD 0) 0=_
   rw [this.1];rfl
theorem BJ.lag {s:Ss} {A:As} (h:BJ s A) (id:Int):Vd s.q id=CW A id:=by
 unfold Vd CW
 rw [h.f]
 cases e:Ah A.l id with
 | none=>rfl
 | some a =>
   have:=h.over (CA e).1
   show ((W9 s.q.m a.1.i.p).getD 0)=_
   unfold W9 VY
   rw [this.1,this.2.2];rfl
def GB (A:As) (a:RT):Bool:=a.1.asleep && decide (0≤N8 A a)
def oW (A:As) (a:RT):Gn:=⟨Az a,VY A a,a.1⟩
def Cm:Nat→As→List Gn × As
 | 0,A=>([],A)
 | n+1,A=>match A.l.find? (GB A) with
   | none=>([],A)
   | some a=>(oW A a :: (Cm n (Fk A (Az a))).1,(Cm n (Fk A (Az a))).2)
def DP (A:As):List Gn × As:=Cm A.l.length A
theorem bH {x:Int}:CX x 0≥0↔0≤x:=by unfold CX;split <;> (try split) <;> omega
theorem find_congr {α:Type} {p q:α→Bool}:∀ {l:List α},(∀ x∈l,p x=q x)→l.find? p=l.find? q
 | [],_=>rfl
 | a :: l,h=>by
   rw [List.find?_cons,List.find?_cons,h a List.mem_cons_self,find_congr fun x hx=>h x (List.mem_cons_of_mem _ hx)]
theorem BJ.next {s:Ss} {A:As} (h:BJ s A):Hy s=(A.l.find? (GB A)).map (oW A):=by
 unfold Hy
 rw [h.l,find_congr (q:=GB A) (fun a ha=>by
  unfold goes GB
  rw [h.MG]
  unfold De
  rw [Ct h.o ha]
  simp only [bH])]
 cases e:A.l.find? (GB A) with
 | none=>rfl
 | some a =>
   have ha:=List.mem_of_find?_eq_some e
   show some (ZJ s.q a)=some (oW A a)
   unfold ZJ oW
   rw [h.lag]
   unfold CW
   rw [Ct h.o ha]
theorem BJ.Cm:∀ {n:Nat} {s:Ss} {A:As},BJ s A→A.l.length≤n→∃ s',HR s (Cm n A).1 s'∧BJ s' (Cm n A).2
 | 0,s,A,h,hn=>⟨s,.done (by rw [h.next,List.eq_nil_of_length_eq_zero (Nat.le_zero.1 hn)];rfl),h⟩
 | n+1,s,A,h,hn=>by
   unfold Go.Proofs.Q0.Cm
   cases e:A.l.find? (GB A) with
   | none=>exact ⟨s,.done (by rw [h.next,e];rfl),h⟩
   | some a =>
     have ha:=List.mem_of_find?_eq_some e
     have hf:=Ct h.o ha
     obtain ⟨e1,e2,e3⟩:=h.exit hf
     have hl:(Fk A (Az a)).l.length≤n:=by
      unfold Fk
      simp only [hf,Option.isSome_some,if_true]
      have:=(del_perm h.o hf).length_eq
      simp only [List.length_cons] at this ⊢
      omega
     obtain ⟨s',k1,k2⟩:=e3.Cm hl
     exact ⟨s',.step (by rw [h.next,e];rfl) e1 e2 k1,k2⟩
theorem BJ.flush {s:Ss} {A:As} (h:BJ s A):∃ s',HR s (DP A).1 s'∧BJ s' (DP A).2:=h.Cm (Nat.le_refl _)
def HO (X:List IT):Option IT→Prop
 | none=>X=[]
 | some m=>m∈X∧∀ y∈X,due y.1 m.1=false
theorem PD {S:IT→Prop} (o:Cp (fun x y:IT=>due x.1 y.1) S) {X Y:List IT} (hX:∀ z∈X,S z) (hY:∀ z∈Y,S z) {x y:IT} (h1:HO X (some x)) (h2:HO Y (some y)) {Z:List IT} (hZ:∀ z,z∈Z↔z∈X∨z∈Y):HO Z (some (IB.snr x y)):=by
 obtain ⟨x1,x2⟩:=h1
 obtain ⟨y1,y2⟩:=h2
 have sx:=hX x x1
 have sy:=hY y y1
 unfold IB.snr
 cases e:due y.1 x.1
 ·refine ⟨(hZ _).2 (.inl x1),fun z hz=>?_⟩
  rcases (hZ z).1 hz with hz | hz
  ·exact x2 z hz
  ·cases k:due z.1 x.1
   ·exact k
   ·exfalso
    cases k2:due y.1 z.1
    ·have:=o.tri z y (hY z hz) sy (y2 z hz) k2
     subst this;rw [e] at k;cases k
    ·have:=o.tr y z x sy (hY z hz) sx k2 k
     rw [show due y.1 x.1=true from this] at e;cases e
 ·refine ⟨(hZ _).2 (.inr y1),fun z hz=>?_⟩
  rcases (hZ z).1 hz with hz | hz
  ·cases k:due z.1 y.1
   ·exact k
   ·have:=o.tr z y x (hX z hz) sy sx k e
    exact absurd (x2 z hz) (by rw [show due z.1 x.1=true from this];simp)
  ·exact y2 z hz
theorem all_min {S:IT→Prop} (o:Cp (fun x y:IT=>due x.1 y.1) S):∀ {t:RB IT},(∀ z∈t.list,S z)→HO t.list (IB.all? t)
 | .nil,_=>rfl
 | .node l x r c,h=>by
   have hl:=all_min o (t:=l) fun z hz=>h z (by simp [RB.list,hz])
   have hr:=all_min o (t:=r) fun z hz=>h z (by simp [RB.list,hz])
   have hx:S x:=h x (by simp [RB.list])
   have h0:HO [x] (some x):=⟨by simp,fun y hy=>by obtain rfl:=List.mem_singleton.1 hy;exact o.irr y hx⟩
   have hL:∀ z∈l.list,S z:=fun z hz=>h z (by simp [RB.list,hz])
   have hR:∀ z∈r.list,S z:=fun z hz=>h z (by simp [RB.list,hz])
   have cK:∀ z∈[x],S z:=fun z hz=>by obtain rfl:=List.mem_singleton.1 hz;exact hx
   have h1:HO (l.list ++ [x]) (some (match IB.all? l with | none=>x | some a=>IB.snr a x)):=by
    cases e:IB.all? l with
    | none=>rw [e] at hl;rw [show l.list=[] from hl];exact h0
    | some a=>rw [e] at hl;exact PD o hL cK hl h0 (fun z=>by simp)
   have h1':∀ z∈l.list ++ [x],S z:=fun z hz=>by
    rcases List.mem_append.1 hz with hz | hz
    ·exact hL z hz
    ·exact cK z hz
   show HO (l.list ++ x :: r.list) (some _)
   cases e:IB.all? r with
   | none=>rw [e] at hr;rw [show r.list=[] from hr];exact h1
   | some b=>rw [e] at hr;exact PD o h1' hR h1 hr (fun z=>by simp [or_assoc])
theorem QU {S:IT→Prop} (o:Cp (fun x y:IT=>due x.1 y.1) S) {q:IT→Bool}:∀ {t:RB IT} {acc:Option IT} {X Z:List IT},(∀ z∈t.list,S z)→(∀ z∈X,S z)→HO X acc→t.list.Pairwise (fun a b=>q b=true→q a=true)→(∀ z,z∈Z↔z∈X∨(z∈t.list∧q z=true))→HO Z (IB.DK q t acc)
 | .nil,acc,X,Z,_,_,h,_,hZ=>by
   have:∀ z,z∈Z↔z∈X:=fun z=>by rw [hZ];simp [RB.list]
   unfold IB.DK
   cases acc with
   | none=>exact List.eq_nil_iff_forall_not_mem.2 fun z hz=>by have:=(this z).1 hz;rw [show X=[] from h] at this;cases this
   | some m=>exact ⟨(this m).2 h.1,fun y hy=>h.2 y ((this y).1 hy)⟩
 | .node l x r c,acc,X,Z,hS,hX,h,hp,hZ=>by
   have hx:S x:=hS x (by simp [RB.list])
   have hL:∀ z∈l.list,S z:=fun z hz=>hS z (by simp [RB.list,hz])
   have hR:∀ z∈r.list,S z:=fun z hz=>hS z (by simp [RB.list,hz])
   obtain ⟨p1,p2,p3⟩:=List.pairwise_append.1 (show (l.list ++ x :: r.list).Pairwise _ from hp)
   obtain ⟨p4,p5⟩:=List.pairwise_cons.1 p2
   have cK:∀ z∈[x],S z:=fun z hz=>by obtain rfl:=List.mem_singleton.1 hz;exact hx
   have h0:HO [x] (some x):=⟨by simp,fun y hy=>by obtain rfl:=List.mem_singleton.1 hy;exact o.irr y hx⟩
   unfold IB.DK
   cases e:q x
   ·refine QU o hL hX h p1 fun z=>?_
    rw [hZ]
    constructor
    ·rintro (h1 | ⟨h1,h2⟩)
     ·exact .inl h1
     ·rcases List.mem_append.1 (show z∈l.list ++ x :: r.list from h1) with h1 | h1
      ·exact .inr ⟨h1,h2⟩
      ·rcases List.mem_cons.1 h1 with rfl | h1
       ·rw [e] at h2;cases h2
       ·have:=p4 z h1 h2;rw [e] at this;cases this
    ·rintro (h1 | ⟨h1,h2⟩)
     ·exact .inl h1
     ·exact .inr ⟨by show z∈l.list ++ x :: r.list;simp [h1],h2⟩
   ·have dH:∀ z∈l.list,q z=true:=fun z hz=>p3 z hz x List.mem_cons_self e
    have a1:HO (X ++ l.list) (IB.Mw acc l):=by
     have hl:=all_min o hL
     unfold IB.Mw
     cases e1:IB.all? l with
     | none=>rw [e1] at hl;rw [show l.list=[] from hl,List.append_nil];exact h
     | some a =>
       rw [e1] at hl
       unfold IB.MD
       cases acc with
       | none=>rw [show X=[] from h];exact hl
       | some m=>exact PD o hX hL h hl (fun z=>by simp)
    have hXL:∀ z∈X ++ l.list,S z:=fun z hz=>by
     rcases List.mem_append.1 hz with hz | hz
     ·exact hX z hz
     ·exact hL z hz
    have a2:HO (X ++ l.list ++ [x]) (IB.MD (IB.Mw acc l) x):=by
     unfold IB.MD
     cases e1:IB.Mw acc l with
     | none=>rw [e1] at a1;rw [show X ++ l.list=[] from a1];exact h0
     | some m=>rw [e1] at a1;exact PD o hXL cK a1 h0 (fun z=>by simp [or_assoc])
    refine QU (X:=X ++ l.list ++ [x]) o hR (fun z hz=>?_) a2 p5 fun z=>?_
    ·rcases List.mem_append.1 hz with hz | hz
     ·exact hXL z hz
     ·exact cK z hz
    ·rw [hZ]
     constructor
     ·rintro (h1 | ⟨h1,h2⟩)
      ·exact .inl (by simp [h1])
      ·rcases List.mem_append.1 (show z∈l.list ++ x :: r.list from h1) with h1 | h1
       ·exact .inl (by simp [h1])
       ·rcases List.mem_cons.1 h1 with rfl | h1
        ·exact .inl (by simp)
        ·exact .inr ⟨h1,h2⟩
     ·rintro (h1 | ⟨h1,h2⟩)
      ·rcases List.mem_append.1 h1 with h1 | h1
       ·rcases List.mem_append.1 h1 with h1 | h1
        ·exact .inl h1
        ·exact .inr ⟨by show z∈l.list ++ x :: r.list;simp [h1],dH z h1⟩
       ·obtain rfl:=List.mem_singleton.1 h1
        exact .inr ⟨by show z∈l.list ++ z :: r.list;simp,e⟩
      ·exact .inr ⟨by show z∈l.list ++ x :: r.list;simp [h1],h2⟩
def Ln (A:As):List RT:=A.l.filter fun a=>decide (0≤N8 A a)
def Q0:List RT→Option RT
 | []=>none
 | a :: l=>some (l.foldl (fun a b=>bif due b.1.i a.1.i then b else a) a)
def HS (A:As):Option RT:=Q0 (Ln A)
def TN (o:Option RT):Int:=match o with | none=>0 | some a=>Az a
def Zd (X:List RT):Option RT→Prop
 | none=>X=[]
 | some m=>m∈X∧∀ y∈X,due y.1.i m.1.i=false
theorem gC {S:RT→Prop} (o:Cp (fun x y:RT=>due x.1.i y.1.i) S):∀ {X:List RT},(∀ z∈X,S z)→Zd X (Q0 X)
 | [],_=>rfl
 | a :: l,h=>by
   suffices H:∀ (l:List RT) (a:RT) (Y:List RT),(∀ z∈Y,S z)→(∀ z∈l,S z)→Zd Y (some a)→Zd (Y ++ l) (some (l.foldl (fun a b=>bif due b.1.i a.1.i then b else a) a)) from
    H l a [a] (fun z hz=>h z (by simp at hz;simp [hz])) (fun z hz=>h z (List.mem_cons_of_mem _ hz)) ⟨by simp,fun y hy=>by obtain rfl:=List.mem_singleton.1 hy;exact o.irr y (h y List.mem_cons_self)⟩
   intro l
   induction l with
   | nil=>intro a Y _ _ h;rw [List.append_nil];exact h
   | cons b l ih =>
     intro a Y hY hl h
     rw [List.foldl_cons,show Y ++ b :: l=(Y ++ [b]) ++ l by simp]
     have hb:=hl b List.mem_cons_self
     have ha:=hY a h.1
     refine ih _ _ (fun z hz=>?_) (fun z hz=>hl z (List.mem_cons_of_mem _ hz)) ?_
     ·rcases List.mem_append.1 hz with hz | hz
      ·exact hY z hz
      ·obtain rfl:=List.mem_singleton.1 hz;exact hb
     ·cases e:due b.1.i a.1.i
      ·refine ⟨by simp [h.1],fun y hy=>?_⟩
       rcases List.mem_append.1 hy with hy | hy
       ·exact h.2 y hy
       ·obtain rfl:=List.mem_singleton.1 hy;exact e
      ·refine ⟨by simp,fun y hy=>?_⟩
       rcases List.mem_append.1 hy with hy | hy
       ·show due y.1.i b.1.i=false
        cases k:due y.1.i b.1.i
        ·rfl
        ·have:=o.tr y b a (hY y hy) hb ha k e
         exact absurd (h.2 y hy) (by rw [show due y.1.i a.1.i=true from this];simp)
       ·obtain rfl:=List.mem_singleton.1 hy;exact o.irr y hb
theorem Cl.inj {l:List RT} (h:Cl l):∀ x∈l,∀ y∈l,Az x=Az y→x=y:=fun x hx y hy e=>by
 have h1:=Ct h hx
 rw [e,Ct h hy] at h1
 exact (Option.some.inj h1).symm
theorem mD {b lo:Int} {x y:It} (hx:K3 b lo x) (hy:K3 b lo y) (hm:I2 lo) (h:ahead x y=true):U3 b x.p y.p:=by
 have d1:=hx.dead hm
 have d2:=hy.dead hm
 have l1:=hx.low
 have l2:=hy.low
 have hc:=cmp_le (OY hx.isin.1 hy.isin.1 (iright_all hx.isin hx.right).1 (iright_all hy.isin hy.right).1 (b:=b) (by unfold Vs;unfold I2 at hm;omega))
 unfold ahead at h
 simp only [Bool.or_eq_true,Bool.and_eq_true,decide_eq_true_eq] at h
 rcases h with h | h
 ·have:=hc.1.1 h;unfold U3 at *;omega
 ·exact (hc.2.1 h.1).1
theorem aR {m:Mn} {l:List It} (h:LO m l) {x y:It} (hx:x∈l) (hy:y∈l) (ha:ahead x y=true) (he:elig m y.p=true):elig m x.p=true:=by
 obtain ⟨lo,k⟩:=h.all
 have wx:=k.2.2 x hx
 have wy:=k.2.2 y hy
 have hl:=mD wx wy k.1 ha
 unfold elig at he ⊢
 rw [(over_ok h hx).1]
 rw [(over_ok h hy).1] at he
 simp only [Option.isSome_some,Option.getD_some,Bool.true_and,decide_eq_true_eq] at he ⊢
 have p1:=(iright_all wx.isin wx.right).2.2.2.2.2.2.1
 have p2:=(iright_all wy.isin wy.right).2.2.2.2.2.2.1
 have a0:=h.a0
 have a1:=h.a1
 have:=Qz (p:=x.p.w) (q:=y.p.w) (r:=m.w) om om om hl (show dist y.p m.b*m.w≤m.a*y.p.w by unfold H6 at he;omega)
 unfold H6;omega
def Ui (A:As):It:=match HS A with | none => .zero | some a=>a.1.i
theorem BJ.aAp {s:Ss} {A:As} (h:BJ s A):IB.JA (Ll s.q)=Ui A∧(Ll s.q).isSome=(HS A).isSome:=by
 obtain ⟨lo,hW⟩:=h.q.win
 have aAh:=plain_win hW
 have o1:Cp (fun x y:IT=>due x.1 y.1) (·∈s.q.t.list):=aAa aAh hW.1 h.q.inj
 have hin:∀ a:RT,a∈A.l→BW a∈s.q.t.list:=fun a ha=>h.p.mem_iff.2 (List.mem_map_of_mem ha)
 have o2:Cp (fun x y:RT=>due x.1.i y.1.i) (·∈A.l):=⟨fun a ha=>o1.irr (BW a) (hin a ha),fun a b c ha hb hc=>o1.tr (BW a) (BW b) (BW c) (hin a ha) (hin b hb) (hin c hc),fun a b ha hb k1 k2=>by
  have:=o1.tri (BW a) (BW b) (hin a ha) (hin b hb) k1 k2
  exact h.o.inj a ha b hb (congrArg (fun z:IT=>z.1.id) this)⟩
 have hmono:s.q.t.list.Pairwise (fun a b=>elig s.q.m b.1.p=true→elig s.q.m a.1.p=true):=by
  by_cases e:s.q.t.list=[]
  ·rw [e];exact List.Pairwise.nil
  ·refine List.Pairwise.imp_of_mem (fun {a b} ha hb hab=>?_) h.q.srt
   exact aR (h.q.cen e) (List.mem_map_of_mem ha) (List.mem_map_of_mem hb) hab
 have hE:∀ a∈A.l,elig s.q.m a.1.i.p=decide (0≤N8 A a):=fun a ha=>by
  unfold elig
  rw [(h.over ha).1];rfl
 have hm:HO ((Ln A).map BW) (Ll s.q):=QU (X:=[]) o1 (fun z hz=>hz) (fun z hz=>by cases hz) rfl hmono fun z=>by
  rw [List.mem_map]
  constructor
  ·rintro ⟨a,ha,rfl⟩
   obtain ⟨h1,h2⟩:=List.mem_filter.1 ha
   exact .inr ⟨hin a h1,by show elig s.q.m a.1.i.p=true;rw [hE a h1];exact h2⟩
  ·rintro (h1 | ⟨h1,h2⟩)
   ·cases h1
   ·obtain ⟨a,ha,rfl⟩:=List.mem_map.1 (h.p.mem_iff.1 h1)
    exact ⟨a,List.mem_filter.2 ⟨ha,by rw [← hE a ha];exact h2⟩,rfl⟩
 have hr:Zd (Ln A) (HS A):=gC o2 fun z hz=>(List.mem_filter.1 hz).1
 cases e1:Ll s.q with
 | none =>
   rw [e1] at hm
   have:Ln A=[]:=List.map_eq_nil_iff.1 hm
   unfold Ui HS
   rw [this];exact ⟨rfl,rfl⟩
 | some m =>
   rw [e1] at hm
   obtain ⟨h1,h2⟩:=hm
   obtain ⟨a,ha,rfl⟩:=List.mem_map.1 h1
   cases e2:HS A with
   | none=>rw [e2] at hr;rw [show Ln A=[] from hr] at ha;cases ha
   | some b =>
     rw [e2] at hr
     obtain ⟨h3,h4⟩:=hr
     have:a=b:=o2.tri a b (List.mem_filter.1 ha).1 (List.mem_filter.1 h3).1 (h4 a ha) (h2 (BW b) (List.mem_map_of_mem h3))
     subst this
     unfold Ui
     rw [e2];exact ⟨rfl,rfl⟩
theorem BJ.MN {s:Ss} {A:As} (h:BJ s A):Go.Proofs.Q0.MN s.q=TN (HS A):=by
 unfold Go.Proofs.Q0.MN
 rw [h.aAp.1]
 unfold Ui
 cases HS A <;> rfl
end Go.Proofs.Q0
namespace Go.Proofs.Q0
open Go Go.RowKit Go.Maps Go.Shelf
open IB (IT DB Bh)
attribute [local irreducible] XS XC XA AX AO A7 A0 AZ A8 Aa AV SE
theorem YE (b c:Nat) (f:Int→Option Value) (w0:World) (h:Bw w0 b f c):AM Tryz.prog 154 #[.map (some b)] w0 fun v w'=>(∃ mb,v = .map (some mb)∧Bw w' mb f c∧w0.heap.size≤mb)∧AA [] w0 w':=by
 obtain ⟨D,h1,h2⟩:=h
 exact ret_of_calls (by kernel_rfl) ((AnyW.maps_Clone_owns Tryz.xH 3 Rf b c D w0 h1).mono fun e w' ⟨he,k1,k2,k3⟩=>⟨_,he,⟨_,rfl,⟨D,k1,h2⟩,Nat.le_refl _⟩,AA.Qb k3⟩)
theorem X8 (b c:Nat) (f:Int→Option Value) (w0:World) (h:Bw w0 b f c):AM Tryz.prog 120 #[.map (some b)] w0 fun v w'=>(∃ mb,v = .map (some mb)∧Bw w' mb f c∧w0.heap.size≤mb)∧AA [] w0 w':=by
 obtain ⟨D,h1,h2⟩:=h
 exact ret_of_calls (by kernel_rfl) ((AnyW.maps_Clone_owns Tryz.xQ 3 Rf b c D w0 h1).mono fun e w' ⟨he,k1,k2,k3⟩=>⟨_,he,⟨_,rfl,⟨D,k1,h2⟩,Nat.le_refl _⟩,AA.Qb k3⟩)
theorem aY (qb:Nat) (s:Qs) (F:List Nat) (w0:World) (h:Cw w0 qb s F) :
 AM Tryz.prog 119 #[.pointer (some ⟨qb,0,none⟩)] w0 fun v w'=>(∃ q' F',v = .pointer (some ⟨q',0,none⟩)∧Cw w' q' s F'∧∀ k∈F',w0.heap.size≤k)∧AA [] w0 w':=by
 obtain ⟨tb,mb,Ft,rfl,h1,h2,h3,h4,h5⟩:=h
 have hs:=(St.nil w0).AG h1 (by simp)
 refine AQ Tryz.func119 Tryz.ntmps119 (k:=?_)
 refine Jd ?_
 refine dr [] hs (k:=?_);intro hX w hs
 refine tks 0 8 ?_
 refine tks 9 4 ?_
 refine tks 14 4 ?_
 refine dt 8 hX (k:=?_)
 have ho:=hs.AB [] (by simp [h1]) (by simp [D0])
 refine cl (h:=by exact IB.Z5 tb s.t Ft _ (h3.only ho)) (k:=?_)
 rintro v w1 ⟨⟨t',gK,rfl,k3,hF⟩,AJ⟩;replace hs:=hs.AK AJ;refine Jb ?_
 have n1:=ho.size
 refine dn (k:=?_)
 refine dt 13 hX (k:=?_)
 have AN:=hs.AB [] (by simp [h1]) (by simp [D0])
 refine cl (h:=by exact YE mb s.n _ _ (h2.keep AN (by simp))) (k:=?_)
 rintro v w2 ⟨⟨m',rfl,k2,hm⟩,AT⟩;replace hs:=hs.AK AT
 have n2:=AN.size
 have l3:=k3.lt
 have Aw:=hs.AB [] (by simp [h1]) (by simp [D0])
 have kq:=hs.get At.head
 have n3:=Aw.size
 have n4:=AT.size
 clear hs
 have hs:=(St.nil w2).AG kq (by simp)
 refine Jb ?_
 refine dn (k:=?_)
 refine tk 18 hX (k:=?_)
 refine dt 19 hX (k:=?_)
 repeat' (first|refine Nx.h ?_|(refine bx hs (k:=?_);intro b w hz hs)|fail)
 have n5:=hs.new _ (List.mem_cons_self) rfl
 simp only at n5
 refine dn (k:=?_)
 refine tk 20 hX (k:=?_)
 refine en (k:=?_)
 refine Jb ?_
 refine AF ?_
 have Ao:=hs.AB [] (by simp [kq]) (by simp [D0])
 exact ⟨⟨_,_,rfl,⟨t',m',gK,rfl,hs.get At.head,k2.keep Ao (by simp),(k3.only AT).only Ao,h4,h5⟩,fun k hk=>by
  simp only [List.mem_cons] at hk
  rcases hk with rfl | rfl | hk
  ·omega
  ·omega
  ·have:=hF k hk;omega⟩,Aw.step Ao (by simp)⟩
theorem sclone_ret (sb:Nat) (s:Ss) (F:List Nat) (w0:World) (h:Cz w0 sb s F) :
 AM Tryz.prog 80 #[.pointer (some ⟨sb,0,none⟩)] w0 fun v w'=>(∃ s' F',v = .pointer (some ⟨s',0,none⟩)∧Cz w' s' s F'∧∀ k∈F',w0.heap.size≤k)∧AA [] w0 w':=by
 obtain ⟨qb,mb,Fq,rfl,h1,h2,h3,h4,h5⟩:=h
 have hs:=(St.nil w0).AG h1 (by simp)
 refine AQ Tryz.func80 Tryz.ntmps80 (k:=?_)
 refine Jd ?_
 refine dr [] hs (k:=?_);intro hX w hs
 refine tks 0 4 ?_
 refine tks 5 4 ?_
 refine dt 4 hX (k:=?_)
 have ho:=hs.AB [] (by simp [h1]) (by simp [D0])
 refine cl (h:=by exact aY qb s.q Fq _ (h3.only ho)) (k:=?_)
 rintro v w1 ⟨⟨q',Fq',rfl,k3,hF⟩,AJ⟩;replace hs:=hs.AK AJ;refine Jb ?_
 have n1:=ho.size
 refine dn (k:=?_)
 refine dt 9 hX (k:=?_)
 have AN:=hs.AB [] (by simp [h1]) (by simp [D0])
 refine cl (h:=by exact X8 mb s.l.length _ _ (h2.keep AN (by simp))) (k:=?_)
 rintro v w2 ⟨⟨m',rfl,k2,hm⟩,AT⟩;replace hs:=hs.AK AT
 have n2:=AN.size
 have l3:=k3.lt
 have Aw:=hs.AB [] (by simp [h1]) (by simp [D0])
 have kq:=hs.get At.head
 have n3:=Aw.size
 have n4:=AT.size
 clear hs
 have hs:=(St.nil w2).AG kq (by simp)
 refine Jb ?_
 refine dn (k:=?_)
 refine tk 10 hX (k:=?_)
 refine dt 11 hX (k:=?_)
 repeat' (first|refine Nx.h ?_|(refine bx hs (k:=?_);intro b w hz hs)|fail)
 have n5:=hs.new _ (List.mem_cons_self) rfl
 simp only at n5
 refine dn (k:=?_)
 refine tk 12 hX (k:=?_)
 refine en (k:=?_)
 refine Jb ?_
 refine AF ?_
 have Ao:=hs.AB [] (by simp [kq]) (by simp [D0])
 exact ⟨⟨_,_,rfl,⟨q',m',Fq',rfl,hs.get At.head,k2.keep Ao (by simp),(k3.only AT).only Ao,fun hm'=>by have:=l3 _ hm';omega,h5⟩,fun k hk=>by
  simp only [List.mem_cons] at hk
  rcases hk with rfl | rfl | hk
  ·omega
  ·omega
  ·have:=hF k hk;omega⟩,Aw.step Ao (by simp)⟩
end Go.Proofs.Q0
namespace Go.Proofs.Q0
open Go Go.RowKit
open IB (IT DB Bh)
attribute [local irreducible] XS XC XA AX AO A7 A0 AZ A8 Aa AV SE
def C9 (w:World) (sb:Nat) (A:As) (F:List Nat):Prop:=∃ s,Cz w sb s F∧BJ s A
theorem C9.Ae {w w':World} {sb:Nat} {A:As} {F G:List Nat} (h:C9 w sb A F) (ho:AA G w w') (hd:∀ k∈F,k∉G):C9 w' sb A F:=by obtain ⟨s,h1,h2⟩:=h;exact ⟨s,h1.Ae ho hd,h2⟩
theorem C9.only {w w':World} {sb:Nat} {A:As} {F:List Nat} (h:C9 w sb A F) (ho:AA [] w w'):C9 w' sb A F:=h.Ae ho (by simp)
theorem C9.lt {w:World} {sb:Nat} {A:As} {F:List Nat} (h:C9 w sb A F):∀ k∈F,k < w.heap.size:=by obtain ⟨s,h1,h2⟩:=h;exact h1.lt
theorem C9.not {w:World} {sb:Nat} {A:As} {F:List Nat} (h:C9 w sb A F) {b:Nat} {cs:Array Value} {ty:Nat} {fz:Nat × Nat} (hb:w.heap[b]?=some (.cells cs ty fz)) (ho:Wj (.cells cs ty fz)=true):b∉F:=by obtain ⟨s,h1,h2⟩:=h;exact h1.not hb ho
def KS (w:World) (qb:Nat) (A:As):Prop:=∃ s F,Cw w qb s.q F∧BJ s A
theorem KS.only {w w':World} {qb:Nat} {A:As} (h:KS w qb A) (ho:AA [] w w'):KS w' qb A:=by obtain ⟨s,F,h1,h2⟩:=h;exact ⟨s,F,h1.only ho,h2⟩
theorem C9.EB {w:World} {sb:Nat} {A:As} {F:List Nat} (h:C9 w sb A F):∃ qb mb,w.heap[sb]?=some (Vf qb mb)∧KS w qb A:=by
 obtain ⟨s,⟨qb,mb,Fq,rfl,h1,h2,h3,h4⟩,hr⟩:=h
 exact ⟨qb,mb,h1,s,Fq,h3,hr⟩
theorem C9.rep {w:World} {sb:Nat} {A:As} {F:List Nat} (h:C9 w sb A F):∃ s,BJ s A:=by obtain ⟨s,h1,h2⟩:=h;exact ⟨s,h2⟩
theorem BJ.small {s:Ss} {A:As} (h:BJ s A):s.l.length < 1000000∧s.q.t.list.length+1≤1000000∧s.q.n < 1000000∧A.l.length≤1000000:=by
 have:=h.le
 have:=h.len
 have:=h.q.n
 rw [h.l];omega
def Left (w0:World) (sb:Nat) (A:As) (F:List Nat) (w':World):Prop:=∃ F',C9 w' sb A F'∧(∀ k∈F',k∈F∨w0.heap.size≤k)∧AA F w0 w'
theorem lG (c:Int) (hc:BV c) (w0:World):AM Tryz.prog 63 #[.int .u64 c] w0 fun v w'=>(∃ sb F,v = .pointer (some ⟨sb,0,none⟩)∧C9 w' sb ⟨[],c⟩ F∧∀ k∈F,w0.heap.size≤k)∧AA [] w0 w' :=
 (snew_ret c hc w0).mono fun v w' ⟨⟨sb,F,h1,h2,h3⟩,ho⟩=>⟨⟨sb,F,h1,⟨_,h2,BJ.new c⟩,h3⟩,ho⟩
theorem bM (sb:Nat) (A:As) (F:List Nat) (r:RT) (w0:World) (h:C9 w0 sb A F):AM Tryz.prog 132 #[.pointer (some ⟨sb,0,none⟩),rv r.1] w0 fun v w'=>v = .int .i64 (FO A r)∧Left w0 sb (G0 A r) F w':=by
 obtain ⟨s,h1,h2⟩:=h
 obtain ⟨k1,k2⟩:=h2.enter r
 rw [← k1]
 exact (enter_ret sb s F r w0 h1 h2.small.1 h2.small.2.1 h2.small.2.2.1).mono fun v w' ⟨e,F',a,b⟩=>⟨e,F',⟨_,a,k2⟩,b⟩
theorem Qw (sb:Nat) (A:As) (F:List Nat) (r:RT) (w0:World) (h:C9 w0 sb A F):AM Tryz.prog 115 #[.pointer (some ⟨sb,0,none⟩),rv r.1] w0 fun v w'=>v = .int .i64 (Dn A r)∧Left w0 sb (GX A r) F w':=by
 obtain ⟨s,h1,h2⟩:=h
 obtain ⟨k1,k2,k3⟩:=h2.put r
 rw [← k1]
 exact (sput_ret sb s F r w0 h1 h2.small.1 h2.small.2.1 h2.small.2.2.1 k3).mono fun v w' ⟨e,F',a,b⟩=>⟨e,F',⟨_,a,k2⟩,b⟩
theorem J1 (sb:Nat) (A:As) (F:List Nat) (id:Int) (w0:World) (h:C9 w0 sb A F) (hid:In64 id):AM Tryz.prog 102 #[.pointer (some ⟨sb,0,none⟩),.int .i64 id] w0 fun v w'=>v = .tuple #[rv (DH A.l id),.bool (Ah A.l id).isSome]∧AA [] w0 w':=by
 obtain ⟨s,h1,h2⟩:=h
 rw [← h2.l]
 exact sE sb s F id w0 h1 hid
theorem gU (sb:Nat) (s:Ss) (F:List Nat) (id:Int) (w0:World) (h:Cz w0 sb s F) (hid:In64 id) (hlen:s.q.t.list.length≤1000000) (hf:s.q.f id=none) :
 AM Tryz.prog 139 #[.pointer (some ⟨sb,0,none⟩),.int .i64 id] w0 fun v w'=>v = .tuple #[rv .zero,.int .i64 14]∧∃ F',Cz w' sb s F'∧(∀ k∈F',k∈F∨w0.heap.size≤k)∧AA F w0 w':=by
 have hS:=h
 obtain ⟨qb,mb,Fq,rfl,h1,h2,h3,h4,h5⟩:=h
 have hs:=(St.nil w0).AG h1 (by simp)
 have hlt:=hS.lt
 refine AQ Tryz.func139 Tryz.ntmps139 (k:=?_)
 refine Ag ?_
 refine Al ?_
 refine al hs (k:=?_);intro b4 w hz hs
 have g4:=hs.new (b4,true) (by simp) rfl
 simp only at g4
 refine Jd ?_
 have ho:=hs.AB [] (by simp [h1]) (by simp [D0])
 have hsz:=ho.size
 have l4:=lt_of_block (hs.get At.head)
 refine cl (h:=by exact RP qb s.q Fq id _ (h3.only ho) hid hlen (fun a' e=>by rw [hf] at e;cases e)) (k:=?_)
 rw [show Jz s.q id=s.q by unfold Jz;rw [hf],hf]
 rintro v w1 ⟨rfl,F',hQ,CV,AJ⟩
 have hno:∀ k∈Fq,k∉[b4,sb]:=fun k hk hm=>by
  have hl:=hlt k (by simp [hk])
  simp only [List.mem_cons,List.not_mem_nil,or_false] at hm
  rcases hm with rfl | rfl
  ·omega
  ·exact h3.not h1 (by decide) (by decide) (by decide) hk
 have UQ:mb∉F':=fun hm=>by
  have:=hlt mb (by simp)
  rcases CV mb hm with h | h
  ·exact h4 h
  ·omega
 have DQ:∀ k∈sb :: mb :: F',k∈sb :: mb :: Fq∨w0.heap.size≤k:=fun k hk=>by
  simp only [List.mem_cons] at hk ⊢
  rcases hk with rfl | rfl | hk
  ·simp
  ·simp
  ·rcases CV k hk with h | h
   ·simp [h]
   ·exact .inr om
 have hM1:=(h2.keep ho (by simp)).keep AJ h4
 have k4:=AJ.block (hs.get At.head) (fun hm=>hno _ hm (by simp))
 have k6:=AJ.block (hs.get (At.tail At.head)) (fun hm=>hno _ hm (by simp))
 have N5:b4≠sb:=by have:=hlt sb (by simp);omega
 have Aw:AA (sb :: mb :: Fq) w0 w1:=(ho.weaken (by simp)).step AJ (fun k hk => .inl (by simp [hk]))
 clear hs
 have hs:=((St.nil w1).AG k6 (by simp)).AG k4 (by simpa using N5)
 repeat' (first|refine Sc ?_|(refine AU hs (k:=?_);intro w hs)|(refine al hs (k:=?_);intro b w hz hs)|fail)
 refine AF ?_
 have EH:=hs.AB [b4] (by simp [k6]) (by simp [D0])
 have hs4:b4∉F':=fun hm=>by
  rcases CV b4 hm with h | h
  ·exact hno b4 h (by simp)
  ·omega
 exact ⟨rfl,_,⟨qb,mb,F',rfl,hs.get (At.tail (At.tail At.head)),hM1.keep EH (by simp;have:=hlt mb (by simp);omega),hQ.Ae EH (fun k hk hm=>by obtain rfl:=List.mem_singleton.1 hm;exact hs4 hk),UQ,h5⟩,DQ,Aw.step EH (fun k hk => .inr (by obtain rfl:=List.mem_singleton.1 hk;exact g4))⟩
theorem fB (sb:Nat) (A:As) (F:List Nat) (id:Int) (w0:World) (h:C9 w0 sb A F) (hid:In64 id):AM Tryz.prog 139 #[.pointer (some ⟨sb,0,none⟩),.int .i64 id] w0 fun v w'=>v = .tuple #[rv (DH A.l id),.int .i64 (Na (Ah A.l id).isSome)]∧Left w0 sb (Fk A id) F w':=by
 obtain ⟨s,h1,h2⟩:=h
 cases e:Ah A.l id with
 | some a =>
   obtain ⟨k1,k2,k3⟩:=h2.exit e
   have:=Ur sb s F id w0 h1 hid (by have:=h2.small;omega) (BW a) k1 k2
   rw [h2.l] at this
   exact this.mono fun v w' ⟨e',F',a,b⟩=>⟨e',F',⟨_,a,k3⟩,b⟩
 | none =>
   have:=gU sb s F id w0 h1 hid (by have:=h2.small;omega) (by rw [h2.f,e];rfl)
   refine this.mono fun v w' ⟨e',F',a,b⟩=>⟨?_,F',⟨_,a,?_⟩,b⟩
   ·rw [e'];unfold DH;rw [e];rfl
   ·unfold Fk;rw [e];exact h2
theorem RE (sb:Nat) (A:As) (F:List Nat) (id:Int) (b:Bool) (w0:World) (h:C9 w0 sb A F) (hid:In64 id):AM Tryz.prog 105 #[.pointer (some ⟨sb,0,none⟩),.int .i64 id,.bool b] w0 fun v w'=>v = .int .i64 (Na (Ah A.l id).isSome)∧Left w0 sb (GZ A id b) F w':=by
 obtain ⟨s,h1,h2⟩:=h
 have:=UH sb s F id b w0 h1 hid h2.small.1
 unfold RJ at this
 rw [h2.l] at this
 exact this.mono fun v w' ⟨e,a,c⟩=>⟨e,F,⟨_,a,h2.Z1 id b⟩,fun k hk => .inl hk,c⟩
theorem IY (sb:Nat) (A:As) (F:List Nat) (w0:World) (h:C9 w0 sb A F):AM Tryz.prog 17 #[.pointer (some ⟨sb,0,none⟩)] w0 fun v w'=>(∃ G,Ba w' 66 10 v A.l.length (HP A.l) G∧∀ k∈G,w0.heap.size≤k)∧AA [] w0 w':=by
 obtain ⟨s,h1,h2⟩:=h
 rw [← h2.l]
 exact Qh sb s F w0 h1 (by have:=h2.small;omega)
theorem Z8 (sb:Nat) (A:As) (F:List Nat) (w0:World) (h:C9 w0 sb A F):AM Tryz.prog 80 #[.pointer (some ⟨sb,0,none⟩)] w0 fun v w'=>(∃ s' F',v = .pointer (some ⟨s',0,none⟩)∧C9 w' s' A F'∧∀ k∈F',w0.heap.size≤k)∧AA [] w0 w':=by
 obtain ⟨s,h1,h2⟩:=h
 exact (sclone_ret sb s F w0 h1).mono fun v w' ⟨⟨s',F',e,a,b⟩,ho⟩=>⟨⟨s',F',e,⟨s,a,h2⟩,b⟩,ho⟩
theorem cL (qb:Nat) (A:As) (id:Int) (w0:World) (h:KS w0 qb A) (hid:In64 id):AM Tryz.prog 104 #[.pointer (some ⟨qb,0,none⟩),.int .i64 id] w0 fun v w'=>v = .tuple #[.int .i64 (De A id),.int .i64 (Na (Ah A.l id).isSome)]∧AA [] w0 w':=by
 obtain ⟨s,F,h1,h2⟩:=h
 rw [← h2.MG,← h2.fs]
 exact L9 qb s.q F id w0 h1 hid
theorem mW (qb:Nat) (A:As) (id:Int) (w0:World) (h:KS w0 qb A) (hid:In64 id):AM Tryz.prog 48 #[.pointer (some ⟨qb,0,none⟩),.int .i64 id] w0 fun v w'=>v = .tuple #[wv (CW A id),.int .i64 (Na (Ah A.l id).isSome)]∧AA [] w0 w':=by
 obtain ⟨s,F,h1,h2⟩:=h
 rw [← h2.lag,← h2.fs]
 exact WK qb s.q F id w0 h1 hid
theorem II (qb:Nat) (A:As) (w0:World) (h:KS w0 qb A):AM Tryz.prog 20 #[.pointer (some ⟨qb,0,none⟩)] w0 fun v w'=>v = .int .u64 (HA A)∧AA [] w0 w':=by
 obtain ⟨s,F,h1,h2⟩:=h
 rw [← h2.now]
 exact Mx qb s.q F w0 h1
theorem mN (qb:Nat) (A:As) (w0:World) (h:KS w0 qb A):AM Tryz.prog 44 #[.pointer (some ⟨qb,0,none⟩)] w0 fun v w'=>v = .int .i64 (A.l.length:Nat)∧AA [] w0 w':=by
 obtain ⟨s,F,h1,h2⟩:=h
 rw [← h2.len]
 exact LD qb s.q F w0 h1
def TG (A:As) (m:Mn):Prop:=if A.l=[] then m.a=0∧m.w=0∧m.n=0 else m=mA A
theorem BJ.rM {s:Ss} {A:As} (h:BJ s A):TG A s.q.m:=by
 unfold TG
 by_cases e:A.l=[]
 ·rw [if_pos e];exact h.q.nil (h.nil.2 e)
 ·rw [if_neg e];exact h.GY e
def KZ (A:As):Int:=TN (HS (DP A).2)
theorem Xt (sb:Nat) (A:As) (F:List Nat) (w0:World) (h:C9 w0 sb A F) :
 AM Tryz.prog 172 #[.pointer (some ⟨sb,0,none⟩)] w0 fun v w'=>∃ sl,v = .tuple #[sl,.int .i64 (KZ A)]∧(∃ G,Ba w' 170 13 sl (DP A).1.length (HT (DP A).1) G∧∀ k∈G,w0.heap.size≤k)∧Left w0 sb (DP A).2 F w':=by
 obtain ⟨s,h1,h2⟩:=h
 obtain ⟨s',k1,k2⟩:=h2.flush
 have hl:∀ n B,(Cm n B).1.length≤n:=fun n=>by
  induction n with
  | zero=>intro B;exact Nat.le_refl _
  | succ n ih =>
    intro B
    unfold Cm
    cases B.l.find? (GB B) with
    | none=>exact Nat.zero_le _
    | some a=>simp only [List.length_cons];have:=ih (Fk B (Az a));omega
 have:=h2.small
 have hle:=hl A.l.length A
 unfold KZ
 rw [← k2.MN]
 exact (settle_ret sb s s' (DP A).1 F w0 h1 om om (by show (Cm _ _).1.length≤_;omega) k1).mono fun v w' ⟨sl,e,a,F',b,c⟩=>⟨sl,e,a,F',⟨_,b,k2⟩,c⟩
end Go.Proofs.Q0
namespace Go.Proofs.Q0
open Go Go.RowKit
section
variable {P : Program} {ops : Array Oper} {QE : Exit → Env → World → Prop} {n : Nat} {rest : List Oper} {env : Env} {w : World} {T : Lc}
 {d:Option Nat} {ty:Nat} {pos:String} {Am:Array Edge} {g:Option (Nat × Bool)}
theorem Vn {t e:Nat} (ht:P.underlying t=some (.slice e)) {i:TypeInfo} (hi:P.info? e=some i) {size:Nat} {v y:Value} {k:Nat} {xs ys:List Value} {G Gy:List Nat} (hO:Ba w e size v k xs G) (hY:Ba w e size y 0 ys Gy):(Builtin.append_ #[t,t] ty #[v,y]).run P w = .ok v w:=by
 rcases hY with ⟨rfl,-⟩ | ⟨b,c,cur,rfl,-⟩ <;> rcases hO with ⟨rfl,-⟩ | ⟨b',c',cur',rfl,-,hn,-⟩
 ·simp [Builtin.append_,run_underlying ht,sizeOf,typeInfo,hi,Builtin.lenOf,Builtin.firstCells]
 ·simp [Builtin.append_,run_underlying ht,sizeOf,typeInfo,hi,Builtin.lenOf,Builtin.firstCells,hn,storeCells]
 ·simp [Builtin.append_,run_underlying ht,sizeOf,typeInfo,hi,Builtin.lenOf,Builtin.firstCells,loadCells,loadCellsFrom,Result.andThen]
 ·simp [Builtin.append_,run_underlying ht,sizeOf,typeInfo,hi,Builtin.lenOf,Builtin.firstCells,loadCells,loadCellsFrom,Result.andThen,hn,storeCells]
theorem SC (hT:Bf P T) {t e size bytes:Nat} {zs:List Value} {x y:Operand} {v u:Value} {k c:Nat} {xs ys:List Value} {G Gy:List Nat} (hw:BA ops env g=true) (Cx:look t T.sls=some (e,size,bytes)) (hz:look e T.zs=some zs) (hzl:Nat.beq zs.length size=true)
 (hx:ev env x=v) (hy:ev env y=u) (h1:∀ u∈ys,u.oneCell'=true) (hO:Ba w e size v k xs G) (hY:Ba w e size u c ys Gy)
 (hk:(k+c)*bytes≤140737488355328) (hk':k+c≤9223372036854775807) (kk:∀ v' w',(∃ G',Ba w' e size v' (k+c) (xs ++ ys) G'∧∀ i∈G',i∈G∨w.heap.size≤i)→AA G w w'→XS P ops QE n rest (Bp env d v') w') :
 XS P ops QE n (⟨d,.call { callee := .builtin .append,args:=#[x,y],argTypes:=#[t,t] },ty,pos,Am,g⟩ :: rest) env w:=by
 by_cases h0:c=0
 ·subst h0
  obtain ⟨hu,i,hi,hs1,hs2⟩:=Gw (hT.sl Cx)
  have hr:=Vn (ty:=ty) hu hi hO hY
  have e:ys=[]:=by
   rcases hY with ⟨_,_,h,_⟩ | ⟨_,_,_,_,_,_,_,h,_⟩
   ·exact h
   ·exact List.eq_nil_of_length_eq_zero (by rw [h,Nat.zero_mul])
  refine XS.value hw (v:=v) (w':=w) ?_ (kk v w ⟨G,by rw [e,List.append_nil];exact hO,fun i hi => .inl hi⟩ (AA.refl _ _))
  simp [execOp,resolve,Sem.run_bind,invoke,builtin,hx,hy,hr]
 ·rcases hY with ⟨_,h,_⟩ | ⟨b,cap,cur,rfl,hG,hc,UB,hl,ht,hb⟩
  ·exact absurd h h0
  ·refine CM (c:=c) (m:=cap) (a:=⟨b,0,none⟩) hT hw Cx hz hzl hx hy hl om (fun j u hj=>?_) h1 hO hk hk' kk
   have:cur[j]?=some u:=by
    rw [← ht,List.getElem?_take] at hj
    split at hj
    ·exact hj
    ·cases hj
   exact lit_cells hb j u this
end
end Go.Proofs.Q0
namespace Go.Proofs.Q0
open Go Go.RowKit
attribute [local irreducible] XS XC XA AX AO A7 A0 AZ A8 Aa AV SE
def Io (r:Rq) (p:Pt):Option Rq:=bif r.right then CK ⟨⟨p,r.i.id,r.i.d⟩,r.left,r.slice,r.asleep⟩ else none
def D6 (r:Rq) (n:Int):Option Rq:=bif r.right then CK ⟨r.i,r.left,n,r.asleep⟩ else none
theorem SL (r:Rq) (p:Pt) (hr:r.In) (hp':p.In) (w0:World):AM Tryz.prog 113 #[rv r,pv p] w0 fun v w'=>v=iV (Io r p)∧AA [] w0 w':=by
 have hs:=St.nil w0
 refine AQ Tryz.func113 Tryz.ntmps113 (k:=?_)
 repeat' (first|refine Sa ?_|(refine al hs (k:=?_);intro b w hz hs)|(refine bx hs (k:=?_);intro b w hz hs)|fail)
 refine cl (h:=by exact Il r hr _) (k:=?_)
 unfold Io
 generalize hq:r.right=q
 cases q
 ·rintro v w' ⟨rfl,ho⟩;replace hs:=hs.AK ho;repeat' (first|refine Sc ?_|(refine AU hs (k:=?_);intro w hs)|fail)
  refine AF ?_
  exact ⟨rfl,hs.AD rfl⟩
 ·rintro v w' ⟨rfl,ho⟩;replace hs:=hs.AK ho;repeat' (first|refine Sd ?_|(refine AU hs (k:=?_);intro w hs)|fail)
  refine AY hs (h:=by exact LG ⟨⟨p,r.i.id,r.i.d⟩,r.left,r.slice,r.asleep⟩ ⟨⟨hp',hr.1.2⟩,hr.2⟩ _) (k:=?_);intro w' ho hs;repeat' (first|refine Sb ?_|(refine AU hs (k:=?_);intro w hs)|fail)
  refine AF ?_
  exact ⟨rfl,hs.AD rfl⟩
theorem Xb (r:Rq) (n:Int) (hr:r.In) (hn:BV n) (w0:World):AM Tryz.prog 118 #[rv r,.int .u64 n] w0 fun v w'=>v=iV (D6 r n)∧AA [] w0 w':=by
 have hs:=St.nil w0
 refine AQ Tryz.func118 Tryz.ntmps118 (k:=?_)
 repeat' (first|refine Sa ?_|(refine al hs (k:=?_);intro b w hz hs)|(refine bx hs (k:=?_);intro b w hz hs)|fail)
 refine cl (h:=by exact Il r hr _) (k:=?_)
 unfold D6
 generalize hq:r.right=q
 cases q
 ·rintro v w' ⟨rfl,ho⟩;replace hs:=hs.AK ho;repeat' (first|refine Sc ?_|(refine AU hs (k:=?_);intro w hs)|fail)
  refine AF ?_
  exact ⟨rfl,hs.AD rfl⟩
 ·rintro v w' ⟨rfl,ho⟩;replace hs:=hs.AK ho;repeat' (first|refine Sd ?_|(refine st hs (k:=?_);intro w hs)|fail)
  refine AY hs (h:=by exact LG ⟨r.i,r.left,n,r.asleep⟩ ⟨hr.1,hr.2.1,hn⟩ _) (k:=?_);intro w' ho hs;repeat' (first|refine Sb ?_|(refine AU hs (k:=?_);intro w hs)|fail)
  refine AF ?_
  exact ⟨rfl,hs.AD rfl⟩
structure Cs where
 A:As
 run:Int
 carr:Int
abbrev Et (sb:Nat) (run carr:Int):Obj := .cells #[.pointer (some ⟨sb,0,none⟩),.int .i64 run,.int .i64 (carr / 18446744073709551616),.int .u64 (carr % 18446744073709551616)] 72 (0,0)
def Bc (w:World) (cb:Nat) (c:Cs) (F:List Nat):Prop:=∃ sb Fs,F=cb :: Fs∧w.heap[cb]?=some (Et sb c.run c.carr)∧C9 w sb c.A Fs∧A9 c.carr∧In64 c.run
theorem vJ (sb:Nat) (run carr:Int):Wj (Et sb run carr)=true:=by rfl
theorem Bc.N0 {w:World} {cb sb:Nat} {r k:Int} {A:As} {Fs:List Nat} (h:w.heap[cb]?=some (Et sb r k)) (hS:C9 w sb A Fs):cb∉Fs:=hS.not h (vJ sb r k)
theorem Bc.Ae {w w':World} {cb:Nat} {c:Cs} {F G:List Nat} (h:Bc w cb c F) (ho:AA G w w') (hd:∀ k∈F,k∉G):Bc w' cb c F:=by
 obtain ⟨sb,Fs,rfl,h1,h2,h3⟩:=h
 exact ⟨sb,Fs,rfl,ho.block h1 (hd cb (by simp)),h2.Ae ho (fun k hk=>hd k (by simp [hk])),h3⟩
theorem Bc.only {w w':World} {cb:Nat} {c:Cs} {F:List Nat} (h:Bc w cb c F) (ho:AA [] w w'):Bc w' cb c F:=h.Ae ho (by simp)
theorem Bc.lt {w:World} {cb:Nat} {c:Cs} {F:List Nat} (h:Bc w cb c F):∀ k∈F,k < w.heap.size:=by
 obtain ⟨sb,Fs,rfl,h1,h2,h3⟩:=h
 intro k hk
 rcases List.mem_cons.1 hk with rfl | hk
 ·exact lt_of_block h1
 ·exact h2.lt k hk
def oN:Obj→Bool
 | .cells cs ty f=>Wj (.cells cs ty f) && !(Nat.beq ty 72)
 | _=>false
theorem Bc.not {w:World} {cb:Nat} {c:Cs} {F:List Nat} (h:Bc w cb c F) {b:Nat} {cs:Array Value} {ty:Nat} {fz:Nat × Nat} (hb:w.heap[b]?=some (.cells cs ty fz)) (ho:oN (.cells cs ty fz)=true):b∉F:=fun hm=>by
 obtain ⟨sb,Fs,rfl,h1,h2,h3⟩:=h
 simp only [oN,Bool.and_eq_true,Bool.not_eq_true'] at ho
 rcases List.mem_cons.1 hm with rfl | hm
 ·exact AW hb h1 (fun e=>by rw [e] at ho;exact absurd ho.2 (by decide)) rfl
 ·exact h2.not hb ho.1 hm
theorem Bc.rep {w:World} {cb:Nat} {c:Cs} {F:List Nat} (h:Bc w cb c F):(∃ s,BJ s c.A)∧A9 c.carr:=by
 obtain ⟨sb,Fs,rfl,h1,h2,h3⟩:=h
 exact ⟨h2.rep,h3.1⟩
def EV (clock:Int):Cs:=⟨⟨[],clock⟩,0,0⟩
theorem Vc (clock:Int) (hc:BV clock) (w0:World):AM Tryz.prog 31 #[.int .u64 clock] w0 fun v w'=>(∃ cb F,v = .pointer (some ⟨cb,0,none⟩)∧Bc w' cb (EV clock) F∧∀ k∈F,w0.heap.size≤k)∧AA [] w0 w':=by
 have hs:=St.nil w0
 refine AQ Tryz.func31 Tryz.ntmps31 (k:=?_)
 refine Ja ?_
 refine cl (h:=by exact lG clock hc _) (k:=?_)
 rintro v w1 ⟨⟨sb,F,rfl,h1,h2⟩,AJ⟩;replace hs:=hs.AK AJ
 have Aw:=hs.AD rfl
 have hz:=Aw.size
 have hl:=h1.lt
 clear hs
 have hs:=St.nil w1
 repeat' (first|refine Sb ?_|(refine bx hs (k:=?_);intro b w hz hs)|fail)
 have hb:=hs.new _ List.mem_cons_self rfl
 simp only at hb
 refine AF ?_
 have AN:=hs.AD rfl
 exact ⟨⟨_,_,rfl,⟨sb,F,rfl,hs.get At.head,h1.only AN,Nv,SA⟩,fun k hk=>by
  rcases List.mem_cons.1 hk with rfl | hk
  ·omega
  ·have:=h2 k hk;omega⟩,Aw.trans AN⟩
theorem Mm (cb:Nat) (c:Cs) (F:List Nat) (w0:World) (h:Bc w0 cb c F):AM Tryz.prog 40 #[.pointer (some ⟨cb,0,none⟩)] w0 fun v w'=>(∃ SG F',v = .pointer (some ⟨SG,0,none⟩)∧Bc w' SG c F'∧∀ k∈F',w0.heap.size≤k)∧AA [] w0 w':=by
 obtain ⟨sb,Fs,rfl,h1,h2,h3,h4⟩:=h
 have hs:=(St.nil w0).AG h1 (by simp)
 refine AQ Tryz.func40 Tryz.ntmps40 (k:=?_)
 refine Jd ?_
 refine dr [] hs (k:=?_);intro hX w hs
 refine tks 0 4 ?_
 refine tks 5 8 ?_
 refine dt 4 hX (k:=?_)
 have ho:=hs.AB [] (by simp [h1]) (by simp [D0])
 refine cl (h:=by exact Z8 sb c.A Fs _ (h2.only ho)) (k:=?_)
 rintro v w1 ⟨⟨s',Fs',rfl,k3,hF⟩,AJ⟩;replace hs:=hs.AK AJ
 have n1:=ho.size
 have l3:=k3.lt
 have Aw:=hs.AB [] (by simp [h1]) (by simp [D0])
 have kq:=hs.get At.head
 have n3:=Aw.size
 clear hs
 have hs:=(St.nil w1).AG kq (by simp)
 refine Jb ?_
 refine dn (k:=?_)
 refine tk 13 hX (k:=?_)
 refine dt 14 hX (k:=?_)
 repeat' (first|refine Nx.h ?_|(refine bx hs (k:=?_);intro b w hz hs)|fail)
 have n5:=hs.new _ (List.mem_cons_self) rfl
 simp only at n5
 refine dn (k:=?_)
 refine tk 15 hX (k:=?_)
 refine en (k:=?_)
 refine Jb ?_
 refine AF ?_
 have Ao:=hs.AB [] (by simp [kq]) (by simp [D0])
 exact ⟨⟨_,_,rfl,⟨s',Fs',rfl,hs.get At.head,k3.only Ao,h3,h4⟩,fun k hk=>by
  rcases List.mem_cons.1 hk with rfl | hk
  ·omega
  ·have:=hF k hk;omega⟩,Aw.step Ao (by simp)⟩
theorem Ls (cb:Nat) (c:Cs) (F:List Nat) (id:Int) (w0:World) (h:Bc w0 cb c F) (hid:In64 id):AM Tryz.prog 103 #[.pointer (some ⟨cb,0,none⟩),.int .i64 id] w0 fun v w'=>v=wv (CW c.A id)∧AA [] w0 w':=by
 obtain ⟨sb,Fs,rfl,h1,h2,h3⟩:=h
 obtain ⟨qb,mb,g1,g2⟩:=h2.EB
 have n1:cb≠sb:=AW h1 g1 (by decide)
 have hs:=((St.nil w0).AG g1 (by simp)).AG h1 (by simpa using n1)
 refine AQ Tryz.func103 Tryz.ntmps103 (k:=?_)
 repeat' (first|refine Sa ?_|(refine al hs (k:=?_);intro b w hz hs)|fail)
 have ho:=hs.AB [] (by simp [h1,g1]) (by simp [D0])
 refine AY hs (h:=by exact mW qb c.A id _ (g2.only ho) hid) (k:=?_);intro w' ho hs;repeat' (first|refine Sa ?_|(refine AU hs (k:=?_);intro w hs)|(refine al hs (k:=?_);intro b w hz hs)|fail)
 refine AF ?_
 exact ⟨rfl,hs.AB [] (by simp [h1,g1]) (by simp [D0])⟩
def E0 (x lag:Int):Int:=if A9 (x+Iv 0 [lag]) then x+Iv 0 [lag] else K9
theorem xD (x:Int) (hx:A9 x):A9 (Iv 0 [x]):=by
 unfold Iv Iv
 split
 ·rename_i h;exact h
 ·exact QO
theorem Lp (x lag:Int):A9 (E0 x lag):=by
 unfold E0
 split
 ·rename_i h;exact h
 ·exact QO
theorem zS {w:World} {b:Nat} {x:Int} (hb:w.heap[b]?=some (.cells #[.int .i64 (x / 18446744073709551616),.int .u64 (x % 18446744073709551616)] 70 (0,0))):eV w (.slice (some ⟨b,0,none⟩) 1 1) [x] :=
 ⟨_,1,rfl,fun _=>⟨b,0,_,_,(0,0),rfl,hb,fun i x h=>by
  rcases i with _ | i
  ·cases h;exact ⟨rfl,rfl⟩
  ·simp at h⟩⟩
theorem iE (w0:World):AM Tryz.prog 149 #[.agg #[.int .i64 (-9223372036854775808),.int .u64 0]] w0 fun v w'=>v=wv K9∧AA [] w0 w':=by
 have h:=Tm (-170141183460469231731687303715884105728) (by decide) w0
 rw [show wv (-170141183460469231731687303715884105728) = .agg #[.int .i64 (-9223372036854775808),.int .u64 0] by kernel_rfl,show Dg (-170141183460469231731687303715884105728)=K9 by decide] at h
 exact h
theorem Lq (cb sb:Nat) (run carr lag:Int) (w0:World) (h:w0.heap[cb]?=some (Et sb run carr)) (M0:A9 carr) (hl:A9 lag):AM Tryz.prog 114 #[.pointer (some ⟨cb,0,none⟩),wv lag] w0 fun v w'=>w'.heap[cb]?=some (Et sb run (E0 carr lag))∧AA [cb] w0 w':=by
 have hs:=(St.nil w0).AG h (by simp)
 refine AQ Tryz.func114 Tryz.ntmps114 (k:=?_)
 repeat' (first|refine Al ?_|refine Nx.h ?_|(refine bx hs (k:=?_);intro b w hz hs)|fail)
 refine dr [] hs (k:=?_);intro hX w hs
 refine tks 0 5 ?_
 refine GS 11 4 hs (k:=?_);intro f X w hp;have hs:=hp.st
 apply BH 5 11 (f:=f) (X:=X) hX hp;exact rfl;exact rfl;(apply AR AI;exact rfl);kernel_rfl;kernel_rfl;kernel_rfl;kernel_rfl;(intro X Y;(repeat (first | exact A4 | refine A3 ?_ (by exact rfl))));(intro w' hs;first|exact AH hs.hold|exact AH hs.hold.tail|exact A6 rfl);intro f X w hp;have hs:=hp.st
 refine vI hp (k:=?_);intro b5 w5 _ hp;replace hs:=hp.st
 refine Jb ?_
 refine dn (k:=?_)
 apply BH 6 11 (f:=f) (X:=X) hX hp;exact rfl;exact rfl;(apply AR AI;exact rfl);kernel_rfl;kernel_rfl;kernel_rfl;kernel_rfl;(intro X Y;(repeat (first | exact A4 | refine A3 ?_ (by exact rfl))));(intro w' hs;first|exact AH hs.hold|exact AH hs.hold.tail|exact A6 rfl);intro f X w hp;have hs:=hp.st
 refine cl (h:=by exact PY [lag] _ (fun i x e=>by rcases i with _ | i;cases e;exact hl;simp at e) (by simp) _ (zS (hs.get At.head))) (k:=?_)
 rintro v w' ⟨rfl,ho⟩;replace hp:=hp.only ho;replace hs:=hp.st;refine Jb ?_
 refine dn (k:=?_)
 have hca:=xD lag hl
 have eC:E0 carr lag=if A9 (carr+Iv 0 [lag]) then carr+Iv 0 [lag] else K9:=rfl
 generalize Iv 0 [lag]=y at *
 apply BH 7 11 (f:=f) (X:=X) hX hp;exact rfl;exact rfl;(apply AR AI;exact rfl);kernel_rfl;kernel_rfl;kernel_rfl;kernel_rfl;(intro X Y;(repeat (first | exact A4 | refine A3 ?_ (by exact rfl))));(intro w' hs;first|exact AH hs.hold|exact AH hs.hold.tail|exact A6 rfl);intro f X w hp;have hs:=hp.st
 refine cl (h:=by exact Za carr y M0 hca _) (k:=?_)
 rintro v w' ⟨rfl,ho⟩;replace hp:=hp.only ho;replace hs:=hp.st;refine Jb ?_
 refine dn (k:=?_)
 refine tk 8 hX (hc:=by cases f <;> kernel_rfl) (k:=?_)
 refine tk 9 hX (hc:=by cases f <;> kernel_rfl) (k:=?_)
 refine tk 10 hX (hc:=by cases f <;> kernel_rfl) (k:=?_)
 apply B9 11 (f:=f) (X:=X) hX hp;exact rfl;(apply AR AI;exact rfl);kernel_rfl;kernel_rfl;(intro X Y;(repeat (first | exact A4 | refine A3 ?_ (by exact rfl))));(intro w' hs;first|exact AH hs.hold|exact AH hs.hold.tail|exact A6 rfl);intro b w hI hs
 refine dt 12 hX (k:=?_)
 repeat' (first|refine Nx.h ?_|(refine AU hs (k:=?_);intro w hs)|fail)
 refine dn (k:=?_)
 refine tk 13 hX (k:=?_)
 refine en (k:=?_)
 by_cases hi:A9 (carr+y)
 ·rw [if_pos hi] at eC
  rw [eC,decide_eq_true hi]
  rw [show tot (carr+y)=carr+y from if_pos hi] at hs ⊢
  repeat' (first|refine Sd ?_|(refine AU hs (k:=?_);intro w hs)|fail)
  refine JG ?_
  exact ⟨hs.get (At.tail (At.tail (At.tail At.head))),hs.AB [cb] (by simp) (by simp [D0])⟩
 ·rw [if_neg hi] at eC
  rw [eC,decide_eq_false hi]
  refine Je ?_
  refine AY hs (h:=by exact iE _) (k:=?_);intro w' ho hs;repeat' (first|refine Sa ?_|(refine AU hs (k:=?_);intro w hs)|fail)
  refine JG ?_
  exact ⟨hs.get (At.tail (At.tail (At.tail At.head))),hs.AB [cb] (by simp) (by simp [D0])⟩
structure Pr where
 id:Int
 ns:Int
 done:Bool
deriving DecidableEq
abbrev Pr.cells (p:Pr):List Value:=[.int .i64 p.id,.int .u64 p.ns,.bool p.done]
def SO (l:List Pr):List Value:=(l.map Pr.cells).flatten
structure Rp where
 g:List Gn
 p:List Pr
def Rp.none:Rp:=⟨[],[]⟩
abbrev Y7 (w:World) (v:Value) (l:List Gn) (G:List Nat):Prop:=Ba w 170 13 v l.length (HT l) G
abbrev UP (w:World) (v:Value) (l:List Pr) (G:List Nat):Prop:=Ba w 168 3 v l.length (SO l) G
abbrev KW (vg vp:Value):Obj := .cells #[vg,vp] 131 (0,0)
def DI (w:World) (rb:Nat) (r:Rp) (F:List Nat):Prop:=∃ vg vp Gg Gp,F=rb :: (Gg ++ Gp)∧w.heap[rb]?=some (KW vg vp)∧Y7 w vg r.g Gg∧UP w vp r.p Gp
theorem BQ {w:World} {e k n:Nat} {v:Value} {xs:List Value} {G:List Nat} (h:Ba w e k v n xs G) {b:Nat} {cs:Array Value} {ty:Nat} {fz:Nat × Nat} (hb:w.heap[b]?=some (.cells cs ty fz)) (hne:ty≠e):b∉G:=fun hm=>by
 rcases h with ⟨_,_,_,rfl⟩ | ⟨g,cap,cur,_,rfl,_,_,_,_,hg⟩
 ·cases hm
 ·obtain rfl:=List.mem_singleton.1 hm
  exact AW hb hg hne rfl
theorem LN {w:World} {e k n:Nat} {v:Value} {xs:List Value} {G:List Nat} (h:Ba w e k v n xs G):∀ b∈G,∃ cs,w.heap[b]?=some (.cells cs e (0,0)):=fun b hb=>by
 rcases h with ⟨_,_,_,rfl⟩ | ⟨g,cap,cur,_,rfl,_,_,_,_,hg⟩
 ·cases hb
 ·obtain rfl:=List.mem_singleton.1 hb;exact ⟨_,hg⟩
theorem BO {w:World} {e k n:Nat} {v:Value} {xs:List Value} {G:List Nat} (h:Ba w e k v n xs G):∃ ad cap,v = .slice ad n cap:=by
 rcases h with ⟨rfl,rfl,_⟩ | ⟨g,cap,cur,rfl,_⟩
 ·exact ⟨_,_,rfl⟩
 ·exact ⟨_,_,rfl⟩
theorem slv_two {w:World} {e k n e' k' n':Nat} {v v':Value} {xs xs':List Value} {G G':List Nat} (h:Ba w e k v n xs G) (h':Ba w e' k' v' n' xs' G') (hne:e≠e'):∀ b∈G,b∉G':=fun b hb=>by
 obtain ⟨cs,hc⟩:=LN h b hb
 exact BQ h' hc hne
theorem Wy {w:World} {e k n:Nat} {v:Value} {xs:List Value} {G:List Nat} (h:Ba w e k v n xs G) {cb:Nat} {c:Cs} {F:List Nat} (hc:Bc w cb c F) (ho:oN (.cells #[] e (0,0))=true):∀ b∈G,b∉F:=fun b hb=>by
 obtain ⟨cs,hb'⟩:=LN h b hb
 exact hc.not hb' ho
theorem DI.Ae {w w':World} {rb:Nat} {r:Rp} {F G:List Nat} (h:DI w rb r F) (ho:AA G w w') (hd:∀ k∈F,k∉G):DI w' rb r F:=by
 obtain ⟨vg,vp,Gg,Gp,rfl,h1,h2,h3⟩:=h
 exact ⟨vg,vp,Gg,Gp,rfl,ho.block h1 (hd rb (by simp)),h2.keep ho (fun k hk=>hd k (by simp [hk])),h3.keep ho (fun k hk=>hd k (by simp [hk]))⟩
theorem DI.only {w w':World} {rb:Nat} {r:Rp} {F:List Nat} (h:DI w rb r F) (ho:AA [] w w'):DI w' rb r F:=h.Ae ho (by simp)
theorem DI.apart {w:World} {rb:Nat} {r:Rp} {F:List Nat} (h:DI w rb r F) {cb:Nat} {c:Cs} {Fc:List Nat} (hc:Bc w cb c Fc):∀ k∈F,k∉Fc:=fun k hk=>by
 obtain ⟨vg,vp,Gg,Gp,rfl,h1,h2,h3⟩:=h
 simp only [List.mem_cons,List.mem_append] at hk
 rcases hk with rfl | hk | hk
 ·exact hc.not h1 rfl
 ·exact Wy h2 hc rfl k hk
 ·exact Wy h3 hc rfl k hk
theorem DI.lt {w:World} {rb:Nat} {r:Rp} {F:List Nat} (h:DI w rb r F):∀ k∈F,k < w.heap.size:=fun k hk=>by
 obtain ⟨vg,vp,Gg,Gp,rfl,h1,h2,h3⟩:=h
 simp only [List.mem_cons,List.mem_append] at hk
 rcases hk with rfl | hk | hk
 ·exact lt_of_block h1
 ·exact h2.lt k hk
 ·exact h3.lt k hk
def Gm (x:Int) (l:List Gn):Int:=l.foldl (fun x g=>E0 x g.lag) x
theorem UZ {x:Int} (hx:A9 x):∀ {l:List Gn},A9 (Gm x l):=fun {l}=>by
 induction l generalizing x with
 | nil=>exact hx
 | cons g l ih=>exact ih (Lp _ _)
theorem Xd (x:Int) (l:List Gn) (g:Gn):Gm x (l ++ [g])=E0 (Gm x l) g.lag:=by unfold Gm;rw [List.foldl_append];rfl
def DY (c:Cs):List Gn:=(DP c.A).1
def Da (c:Cs):Cs:=⟨(DP c.A).2,KZ c.A,Gm c.carr (DY c)⟩
theorem YS {s:Ss} {A:As} (h:BJ s A) {a:RT} (ha:a∈A.l):A9 (VY A a):=by
 have h1:=h.over ha
 unfold VY
 have:=(h.cen (List.ne_nil_of_mem ha)).a0
 have:=(h.cen (List.ne_nil_of_mem ha)).a1
 rw [← h1.2.2]
 exact div_in h1.2.1 om
theorem M7 {s:Ss} {A:As} (h:BJ s A) (id:Int):A9 (CW A id):=by
 unfold CW
 cases e:Ah A.l id with
 | none=>exact Nv
 | some a=>exact YS h (CA e).1
theorem TF:∀ {n:Nat} {s:Ss} {A:As},BJ s A→∀ g∈(Cm n A).1,A9 g.lag
 | 0,_,_,_,g,hg=>by cases hg
 | n+1,s,A,h,g,hg=>by
   unfold Cm at hg
   cases e:A.l.find? (GB A) with
   | none=>rw [e] at hg;cases hg
   | some a =>
     rw [e] at hg
     have ha:=List.mem_of_find?_eq_some e
     rcases List.mem_cons.1 hg with rfl | hg
     ·exact YS h ha
     ·exact TF (h.exit (Ct h.o ha)).2.2 g hg
theorem NK:∀ n B,(Cm n B).1.length≤n
 | 0,B=>Nat.le_refl _
 | n+1,B=>by
   unfold Cm
   cases B.l.find? (GB B) with
   | none=>exact Nat.zero_le _
   | some a=>simp only [List.length_cons];have:=NK n (Fk B (Az a));omega
theorem kA (g:Gn):∀ u∈g.cells,u.oneCell'=true:=fun u hu=>by
 simp only [List.mem_cons,List.not_mem_nil,or_false] at hu
 rcases hu with rfl | rfl | rfl | rfl | rfl | rfl | rfl | rfl | rfl | rfl | rfl | rfl | rfl <;> rfl
theorem X4 {l:List Gn}:∀ u∈HT l,u.oneCell'=true:=fun u hu=>by
 obtain ⟨cs,h1,h2⟩:=List.mem_flatten.1 hu
 obtain ⟨g,_,rfl⟩:=List.mem_map.1 h1
 exact kA g u h2
theorem jV {A:As} {s:Ss} (h:BJ s A):In64 (KZ A):=by
 unfold KZ TN
 obtain ⟨s',_,k⟩:=h.flush
 cases HS (DP A).2 with
 | none=>exact SA
 | some a=>exact a.2.1.2.1
theorem sJ {w:World} {cb:Nat} {c:Cs} {F:List Nat} (h:Bc w cb c F):In64 (KZ c.A):=by
 obtain ⟨⟨s,hr⟩,_⟩:=h.rep
 exact jV hr
theorem Pa (cb rb:Nat) (c:Cs) (r:Rp) (F Fr:List Nat) (w0:World) (h:Bc w0 cb c F) (hr:DI w0 rb r Fr) (hm:r.g.length≤1000000) :
 AM Tryz.prog 133 #[.pointer (some ⟨cb,0,none⟩),.pointer (some ⟨rb,0,none⟩)] w0 fun v w'=>∃ F' jA,Bc w' cb (Da c) F'∧DI w' rb ⟨r.g ++ DY c,r.p⟩ jA∧(∀ k∈F',k∈F∨w0.heap.size≤k)∧(∀ k∈jA,k∈Fr∨w0.heap.size≤k)∧AA (F ++ Fr) w0 w':=by
 have hC:=h
 have hap:=hr.apart h
 have hrl:=hr.lt
 obtain ⟨⟨s,Ns⟩,hcin⟩:=h.rep
 have hrun:=sJ h
 obtain ⟨sb,Fs,rfl,h1,h2,h3⟩:=h
 have aAw:=Bc.N0 h1 h2
 have hs:=(St.nil w0).AG h1 (by simp)
 refine AQ Tryz.func133 Tryz.ntmps133 (k:=?_)
 refine Ja ?_
 have ho:=hs.AB [] (by simp [h1]) (by simp [D0])
 have hz:=ho.size
 refine cl (h:=by exact Xt sb c.A Fs _ (h2.only ho)) (k:=?_)
 rintro v w1 ⟨sl,rfl,⟨G,hG,Ds⟩,F1,EK,Ck,AJ⟩
 have hle:=NK c.A.l.length c.A
 have hlen:(DY c).length≤1000000:=by have:=Ns.le;show (Cm _ _).1.length≤_;omega
 have Y3:∀ g∈DY c,A9 g.lag:=TF Ns
 have c1:=AJ.block (hs.get At.head) aAw
 have Aw:AA (cb :: Fs) w0 w1:=(ho.weaken (by simp)).step AJ (fun k hk => .inl (by simp [hk]))
 have JK:=AJ.size
 have MJ:=hr.Ae Aw hap
 have JF:Y7 w1 sl (DY c) G:=hG
 have aA0:Da c=⟨(DP c.A).2,KZ c.A,Gm c.carr (DY c)⟩:=rfl
 generalize hgo:DY c=go at *
 have hD:Cn w1 170 13 sl (go.map Gn.cells):=JF.ls rfl (by simp) (fun x hx=>by obtain ⟨g,_,rfl⟩:=List.mem_map.1 hx;rfl)
 obtain ⟨ad,cap,rfl,hD⟩:=hD
 rw [List.length_map] at *
 clear hs
 have hs:=(St.nil w1).AG c1 (by simp)
 refine Ja ?_
 refine BN (fun (_:Unit)=>[(0,.pointer (some ⟨cb,0,none⟩)),(1,.pointer (some ⟨rb,0,none⟩)),(4,.slice ad go.length cap),(5,.int .i64 (KZ c.A))]) (fun _ w=>w.heap[cb]?=some (Et sb c.run (Gm c.carr go))∧AA [cb] w1 w) ?_ ?_
 ·refine BD (fun (i:Nat)=>[(0,.pointer (some ⟨cb,0,none⟩)),(1,.pointer (some ⟨rb,0,none⟩)),(4,.slice ad go.length cap),(5,.int .i64 (KZ c.A)),(16,.slice ad go.length cap),(17,.int .i64 (go.length:Nat)),(18,.int .i64 (i:Nat))])
   (fun i w=>i≤go.length∧w.heap[cb]?=some (Et sb c.run (Gm c.carr (go.take i)))∧AA [cb] w1 w) (fun i=>go.length - i) 0 Ab ⟨Nat.zero_le _,hs.get At.head,hs.AB [cb] (by simp) (by simp [D0])⟩ fun i env wl ⟨hi,hcb,BS⟩=>?_
  clear hs
  have hs:=(St.nil wl).AG hcb (by simp)
  repeat' (first|refine Sa ?_|refine Au rfl (fun hc=>?_) fun hc=>?_|fail)
  ·have hlt:i < go.length:=by omega
   obtain ⟨b,off,cs,fz,rfl,_,hb,hcs⟩:=hD (fun h=>by have:=congrArg List.length h;rw [List.length_map,List.length_nil] at this;omega)
   have hpk:=hcs i (Gn.cells go[i]) (by rw [List.getElem?_map,List.getElem?_eq_getElem hlt];rfl)
   have ei:=D2 (m:=go.length) hlt om
   have et:Gm c.carr (go.take (i+1))=E0 (Gm c.carr (go.take i)) go[i].lag:=by rw [C4 hlt,Xd]
   have hq:=Y3 go[i] (List.getElem_mem hlt)
   have hin:A9 (Gm c.carr (go.take i)):=UZ hcin
   generalize go[i]=q at *
   have JN:=BS.block hb (by simp;exact AW hb c1 (by decide))
   refine ix (h0:=(by omega)) (h1:=(by omega)) (k:=?_)
   refine KH JN hpk (k:=?_)
   repeat' (first|refine Sa ?_|(refine AU hs (k:=?_);intro w hs)|(refine al hs (k:=?_);intro b w hz hs)|fail)
   refine cl (h:=by exact Lq cb sb c.run _ q.lag _ (hs.get (At.tail At.head)) hin hq) (k:=?_)
   rintro v w4 ⟨hc4,Ao⟩
   have B8:=hs.AB [cb] (by simp) (by simp [D0])
   clear hs
   have hs:=St.nil w4
   refine Ja ?_
   exact A2 (i+1) (by show go.length - (i+1) < go.length - i;omega) (by (repeat (first | exact Ac | (apply A5;first | exact rfl | exact congrArg (Value.int .i64) ei)))) ⟨by show i+1≤_;omega,by simp only [et];exact (hs.AD rfl).block hc4 (by simp),((BS.step B8 (fun k hk => .inl hk)).step Ao (fun k hk => .inl hk)).step (hs.AD rfl) (by simp)⟩
  ·have e:i=go.length:=by omega
   subst e
   rw [List.take_length] at hcb
   exact Ar () Ab ⟨hcb,BS⟩
 ·rintro _ env w2 ⟨hcb,AN⟩
  clear hs
  have MK:=AN.size
  have UB:=lt_of_block c1
  have Ia:∀ k∈Fr,k∉[cb]:=fun k hk hm=>hap k hk (by obtain rfl:=List.mem_singleton.1 hm;exact List.mem_cons_self)
  have Ra:=MJ.Ae AN Ia
  have Ju:=JF.keep AN (fun k hk hm=>by obtain rfl:=List.mem_singleton.1 hm;exact BQ JF c1 (by decide) hk)
  have Di:=EK.Ae AN (fun k hk hm=>by obtain rfl:=List.mem_singleton.1 hm;exact Bc.N0 c1 EK hk)
  obtain ⟨vg,vp,Gg,Gp,rfl,r1,r2,r3⟩:=Ra
  have hrb:rb≠cb:=AW r1 hcb (by decide)
  have hs:=((St.nil w2).AG hcb (by simp)).AG r1 (by simpa using hrb)
  refine Ja ?_
  refine SC AI rfl rfl rfl rfl rfl rfl X4 r2 Ju om om ?_
  intro v3 w3 ⟨G3,N4,mI⟩ AT
  obtain ⟨vZ,qQ,rfl⟩:=BO N4
  have n1:=BQ r2 hcb (by decide)
  have n2:=BQ r2 r1 (by decide)
  have k1:=AT.block hcb n1
  have k2:=AT.block r1 n2
  have KD:=r3.keep AT (slv_two r3 r2 (by decide))
  have N2:=AT.size
  have I8:=Di.Ae AT (fun k hk hm=>by
   obtain ⟨cs,hc⟩:=LN r2 k hm
   exact Di.not hc rfl hk)
  clear hs
  have hs:=((St.nil w3).AG k1 (by simp)).AG k2 (by simpa using hrb)
  repeat' (first|refine Sa ?_|(refine st hs (k:=?_);intro w hs)|fail)
  refine JG ?_
  have Ao:AA [cb,rb] w3 _:=hs.AB [cb,rb] (by simp) (by simp [D0])
  have f1:=hs.get At.head
  have f2:=hs.get (At.tail At.head)
  have TH:Y7 w3 (.slice vZ (r.g.length+go.length) qQ) (r.g ++ go) G3:=by unfold Y7;rw [List.length_append,show HT (r.g ++ go)=HT r.g ++ HT go by simp [HT]];exact N4
  have d1:∀ k∈G3,k∉[cb,rb]:=fun k hk hm=>by
   simp only [List.mem_cons,List.not_mem_nil,or_false] at hm
   rcases hm with rfl | rfl
   ·exact BQ TH k1 (by decide) hk
   ·exact BQ TH k2 (by decide) hk
  have d2:∀ k∈Gp,k∉[cb,rb]:=fun k hk hm=>by
   simp only [List.mem_cons,List.not_mem_nil,or_false] at hm
   rcases hm with rfl | rfl
   ·exact BQ KD k1 (by decide) hk
   ·exact BQ KD k2 (by decide) hk
  have d3:∀ k∈F1,k∉[cb,rb]:=fun k hk hm=>by
   simp only [List.mem_cons,List.not_mem_nil,or_false] at hm
   rcases hm with rfl | rfl
   ·exact Bc.N0 k1 I8 hk
   ·exact I8.not k2 rfl hk
  have hsz:=Aw.size
  rw [aA0]
  refine ⟨cb :: F1,rb :: (G3 ++ Gp),⟨sb,F1,rfl,f2,I8.Ae Ao d3,UZ hcin,hrun⟩,⟨_,vp,G3,Gp,rfl,f1,TH.keep Ao d1,KD.keep Ao d2⟩,fun k hk=>?_,fun k hk=>?_,?_⟩
  ·rcases List.mem_cons.1 hk with rfl | hk
   ·simp
   ·rcases Ck k hk with h | h
    ·simp [h]
    ·exact .inr om
  ·simp only [List.mem_cons,List.mem_append] at hk ⊢
   rcases hk with rfl | hk | hk
   ·simp
   ·rcases mI k hk with h | h
    ·simp [h]
    ·exact .inr om
   ·simp [hk]
  ·refine (((Aw.weaken (by simp;intro k hk;simp [hk])).step AN (fun k hk => .inl (by simp at hk;simp [hk]))).step AT (fun k hk => .inl (by simp [hk]))).step Ao (fun k hk => .inl (by simp at hk;simp;rcases hk with h | h <;> simp [h]))
def Lt (w:World) (v:Value) (r:Rp):Prop:=∃ vg vp Gg Gp,v = .agg #[vg,vp]∧Y7 w vg r.g Gg∧UP w vp r.p Gp
def Ob (w0 w:World) (fid:Nat) (caps:List Value) (E:List Nat) (Qx:World→Prop) (c:Cs) (e:Int) (c1:Cs) (r1:Rp):Prop :=
 ∀ cb rb F,Bc w cb c F→DI w rb .none [rb]→(∀ k∈F,w0.heap.size≤k)→w0.heap.size≤rb →
  AM Tryz.prog fid (.pointer (some ⟨cb,0,none⟩) :: .pointer (some ⟨rb,0,none⟩) :: caps).toArray w fun v w'=>v = .int .i64 e∧Qx w' ∧
   (e=0→∃ F2 Fr,Bc w' cb c1 F2∧DI w' rb r1 Fr∧(∀ k∈F2,k∈F∨w.heap.size≤k)∧(∀ k∈Fr,k=rb∨w.heap.size≤k))∧AA (rb :: F ++ E) w w'
def Cr (c:Cs) (e:Int) (c1:Cs):Cs:=if e=0 then Da c1 else c
def BU (e:Int) (c1:Cs) (r1:Rp):Rp:=if e=0 then ⟨r1.g ++ DY c1,r1.p⟩ else .none
theorem J5 (cb:Nat) (c:Cs) (F:List Nat) (w0:World) (h:Bc w0 cb c F) (fid:Nat) (caps:List Value) (E:List Nat) (Qx:World→Prop) (e:Int) (c1:Cs) (r1:Rp)
 (hQ:∀ w w' G,Qx w→AA G w w'→(∀ k∈E,k∉G)→Qx w') (hE:∀ k∈E,k∉F∧k < w0.heap.size) (hr:r1.g.length≤1000000) (VW:∀ w,AA [] w0 w→Ob w0 w fid caps E Qx c e c1 r1) :
 AM Tryz.prog 94 #[.pointer (some ⟨cb,0,none⟩),.func (.func fid) #[] caps.toArray] w0 fun v w'=>∃ rv,v = .tuple #[rv,.int .i64 e]∧Qx w'∧Lt w' rv (BU e c1 r1) ∧
  (∃ F',Bc w' cb (Cr c e c1) F'∧∀ k∈F',k∈F∨w0.heap.size≤k)∧AA (cb :: E) w0 w':=by
 have hC:=h
 obtain ⟨sb,Fs,rfl,h1,h2,h3⟩:=h
 have hs:=(St.nil w0).AG h1 (by simp)
 have lcb:=lt_of_block h1
 refine AQ Tryz.func94 Tryz.ntmps94 (k:=?_)
 refine Ag ?_
 refine Al ?_
 refine al hs (k:=?_);intro b4 w hz hs
 have g4:=hs.new (b4,true) (by simp) rfl
 simp only at g4
 repeat' (first|refine Sd ?_|(refine al hs (k:=?_);intro b w hz hs)|fail)
 have gb:=hs.new _ List.mem_cons_self rfl
 simp only at gb
 have ho:=hs.AB [] (by simp [h1]) (by simp [D0])
 refine cl (h:=by exact Mm cb c _ _ (hC.only ho)) (k:=?_)
 rintro v w1 ⟨⟨SG,F',rfl,Dr,CV⟩,AJ⟩;replace hs:=hs.AK AJ
 have JK:=ho.size
 have Aw:=hs.AB [] (by simp [h1]) (by simp [D0])
 have k1:=hs.get At.head
 have k2:=hs.get (At.tail At.head)
 have k3:=hs.get (At.tail (At.tail At.head))
 have oS:b≠b4:=by have:=hs.nd;simp only [List.map_cons,List.nodup_cons,List.mem_cons,not_or] at this;exact this.1.1
 have Dm:∀ k∈F',w0.heap.size≤k:=fun k hk=>by have:=CV k hk;omega
 clear hs
 have hs:=(((St.nil w1).AG k3 (by simp)).AG k2 (by simp;omega)).AG k1 (by simp [oS];omega)
 refine Ja ?_
 have AN:=hs.AB [] (by simp [k1,k2,k3]) (by simp [D0])
 have E5:=Dr.only AN
 have kb:=hs.get At.head
 have hR:DI _ b .none [b]:=⟨_,_,[],[],rfl,kb,.inl ⟨rfl,rfl,rfl,rfl⟩,.inl ⟨rfl,rfl,rfl,rfl⟩⟩
 have MK:=Aw.size
 have N2:=AN.size
 refine cl (h:=by exact VW _ (Aw.trans AN) SG b F' E5 hR Dm gb) (k:=?_)
 rintro v w3 ⟨rfl,hX,hres,AT⟩
 have m1:cb∉b :: F' ++ E:=fun hm=>by
  simp only [List.cons_append,List.mem_cons,List.mem_append] at hm
  rcases hm with rfl | hm | hm
  ·omega
  ·have:=Dm cb hm;omega
  ·exact (hE cb hm).1 (by simp)
 have m2:b4∉b :: F' ++ E:=fun hm=>by
  simp only [List.cons_append,List.mem_cons,List.mem_append] at hm
  rcases hm with rfl | hm | hm
  ·exact oS rfl
  ·exact E5.not (hs.get (At.tail At.head)) rfl hm
  ·have:=(hE b4 hm).2;omega
 have j2:=AT.block (hs.get (At.tail At.head)) m2
 have j3:=AT.block (hs.get (At.tail (At.tail At.head))) m1
 have B8:AA (cb :: E) w0 w3:=((Aw.trans AN).weaken (by simp)).step AT (fun k hk=>by
  simp only [List.cons_append,List.mem_cons,List.mem_append] at hk ⊢
  rcases hk with rfl | hk | hk
  ·exact .inr gb
  ·exact .inr (Dm k hk)
  ·exact .inl (.inr hk))
 have pO:=B8.size
 clear hs
 have hs:=((St.nil w3).AG j3 (by simp)).AG j2 (by simp;omega)
 by_cases he:e=0
 ·subst he
  obtain ⟨F2,Fr,VG,hR3,DQ,hFr⟩:=hres rfl
  refine Jd ?_
  have Ao:=hs.AB [] (by simp [j2,j3]) (by simp [D0])
  have Yz:=VG.only Ao
  have tH:=hR3.only Ao
  have PT:=Ao.size
  have KR:∀ k∈F2,w0.heap.size≤k:=fun k hk=>by
   rcases DQ k hk with h | h
   ·exact Dm k h
   ·omega
  have mU:∀ k∈Fr,w0.heap.size≤k:=fun k hk=>by
   rcases hFr k hk with rfl | h
   ·exact gb
   ·omega
  have hm4:b4∉F2 ++ Fr:=fun hm=>by
   rcases List.mem_append.1 hm with h | h
   ·exact Yz.not (hs.get At.head) rfl h
   ·rcases hFr b4 h with h | h
    ·exact oS h.symm
    ·have:=lt_of_block k2;omega
  have hmc:cb∉F2 ++ Fr:=fun hm=>by
   rcases List.mem_append.1 hm with h | h
   ·have:=KR cb h;omega
   ·have:=mU cb h;omega
  refine cl (h:=by exact Pa SG b c1 r1 F2 Fr _ Yz tH hr) (k:=?_)
  rintro v w5 ⟨F5,Fr5,OG,pE,jE,aBg,BK⟩
  have i2:=BK.block (hs.get At.head) hm4
  have i3:=BK.block (hs.get (At.tail At.head)) hmc
  have EH:AA (cb :: E) w0 w5:=(B8.step Ao (by simp)).step BK (fun k hk=>by
   rcases List.mem_append.1 hk with h | h
   ·exact .inr (KR k h)
   ·exact .inr (mU k h))
  have hX5:=hQ _ _ _ (hQ _ _ _ hX Ao (by simp)) BK (fun k hk hm=>by
   have:=(hE k hk).2
   rcases List.mem_append.1 hm with h | h
   ·have:=KR k h;omega
   ·have:=mU k h;omega)
  have vG:∀ k∈F5,w0.heap.size≤k:=fun k hk=>by
   rcases jE k hk with h | h
   ·exact KR k h
   ·omega
  have hap:=pE.apart OG
  obtain ⟨sb5,wP,rfl,q1,q2,q3,q4⟩:=OG
  obtain ⟨vg,vp,Gg,Gp,rfl,p1,p2,p3⟩:=pE
  obtain ⟨ag,cg,rfl⟩:=BO p2
  obtain ⟨ap,cp,rfl⟩:=BO p3
  have e1:b≠SG:=AW p1 q1 (by decide)
  have e2:b4≠SG:=AW i2 q1 (by decide)
  have e3:cb≠SG:=by have:=vG SG (by simp);omega
  have e4:b4≠cb:=by omega
  have e5:b≠cb:=by omega
  clear hs
  have hs:=((((St.nil w5).AG q1 (by simp)).AG i3 (by simpa using e3)).AG i2 (by simp [e2,e4])).AG p1 (by simp [e1,e5,oS])
  repeat' (first|refine Sa ?_|(refine AU hs (k:=?_);intro w hs)|fail)
  refine AF ?_
  have Ak:AA [cb,b4] w5 _:=hs.AB [cb,b4] (by simp [q1,p1]) (by simp [D0])
  have f1:=hs.get (At.tail (At.tail At.head))
  have d1:∀ k∈Gg,k∉[cb,b4]:=fun k hk hm=>by
   simp only [List.mem_cons,List.not_mem_nil,or_false] at hm
   rcases hm with rfl | rfl
   ·exact BQ p2 i3 (by decide) hk
   ·exact BQ p2 i2 (by decide) hk
  have d2:∀ k∈Gp,k∉[cb,b4]:=fun k hk hm=>by
   simp only [List.mem_cons,List.not_mem_nil,or_false] at hm
   rcases hm with rfl | rfl
   ·exact BQ p3 i3 (by decide) hk
   ·exact BQ p3 i2 (by decide) hk
  have d3:∀ k∈wP,k∉[cb,b4]:=fun k hk hm=>by
   simp only [List.mem_cons,List.not_mem_nil,or_false] at hm
   rcases hm with rfl | rfl
   ·exact q2.not i3 rfl hk
   ·exact q2.not i2 rfl hk
  refine ⟨_,rfl,hQ _ _ _ hX5 Ak (fun k hk hm=>?_),⟨_,_,Gg,Gp,rfl,p2.keep Ak d1,p3.keep Ak d2⟩,⟨cb :: wP,⟨sb5,wP,rfl,f1,q2.Ae Ak d3,q3,q4⟩,fun k hk=>?_⟩,EH.step Ak (fun k hk=>?_)⟩
  ·have:=hE k hk
   simp only [List.mem_cons,List.not_mem_nil,or_false] at hm
   rcases hm with rfl | rfl
   ·exact this.1 (by simp)
   ·omega
  ·rcases List.mem_cons.1 hk with rfl | hk
   ·simp
   ·exact .inr (vG k (by simp [hk]))
  ·simp only [List.mem_cons,List.not_mem_nil,or_false] at hk
   rcases hk with rfl | rfl
   ·simp
   ·exact .inr om
 ·rw [show BU e c1 r1 = .none from if_neg he,show Cr c e c1=c from if_neg he]
  repeat' (first|refine Sa ?_|(refine AU hs (k:=?_);intro w hs)|refine xc_cond rfl (fun hc=>?_) fun hc=>?_|fail)
  ·refine AF ?_
   have Ak:AA [b4] w3 _:=hs.AB [b4] (by simp [j3]) (by simp [D0])
   refine ⟨_,rfl,hQ _ _ _ hX Ak (fun k hk hm=>by have:=(hE k hk).2;obtain rfl:=List.mem_singleton.1 hm;omega),⟨_,_,[],[],rfl,.inl ⟨rfl,rfl,rfl,rfl⟩,.inl ⟨rfl,rfl,rfl,rfl⟩⟩,⟨cb :: Fs,?_,fun k hk => .inl hk⟩,B8.step Ak (fun k hk => .inr (by obtain rfl:=List.mem_singleton.1 hk;exact g4))⟩
   have hlt:=hC.lt
   refine ((hC.only (Aw.trans AN)).Ae AT (fun k hk hm=>?_)).Ae Ak (fun k hk hm=>by have:=hlt k hk;obtain rfl:=List.mem_singleton.1 hm;omega)
   have:=hlt k hk
   simp only [List.cons_append,List.mem_cons,List.mem_append] at hm
   rcases hm with rfl | hm | hm
   ·omega
   ·have:=Dm k hm;omega
   ·exact (hE k hm).1 hk
  ·exact absurd (by simpa using hc) he
def TK (ty:Nat):Obj→Bool
 | .cells _ t _=>!(Nat.beq t ty)
 | _=>true
theorem St.AE {wb w:World} {D:Ctx} {H:List Bn} (h:St wb D H w) {b:Nat} {cs:Array Value} {ty:Nat} {fz:Nat × Nat} (hb:w.heap[b]?=some (.cells cs ty fz)) (hn:(H.all fun e=>TK ty e.2.1)=true:=by rfl) (hr:b∉D.ro.map (·.1):=by simp [D0]):St wb D ((b,.cells cs ty fz,false) :: H) w :=
 h.AG hb (fun hm=>by
  obtain ⟨e,he,rfl⟩:=List.mem_map.1 hm
  have h1:=List.all_eq_true.1 hn e he
  have h2:=h.at_ e he
  rw [hb] at h2
  rw [← Option.some.inj h2] at h1
  simp [TK] at h1) hr
theorem rP {m:Mn} (h1:m.a=0) (h2:m.w=0) (h3:m.n=0) (c q lag:Int):Gl m c q lag=Gl .zero c q lag:=by
 have r1:m.right=true:=Cd.2 (.inl ⟨h3,h2,h1⟩)
 have r2:Mn.zero.right=true:=by decide
 unfold Gl
 rw [r1,r2,h3,show Mn.zero.n=0 from rfl,if_pos (rfl:(0:Int)=0),if_pos (rfl:(0:Int)=0)]
theorem C9.GY {w:World} {sb:Nat} {A:As} {F:List Nat} (h:C9 w sb A F):∃ qb mb m tb Pn cq,w.heap[sb]?=some (Vf qb mb)∧w.heap[qb]?=some (Ko m tb Pn cq)∧m.In∧KS w qb A∧(∀ c q lag,Gl m c q lag=Gl (mA A) c q lag)∧(A.l≠[]→m=mA A)∧sb∈F∧qb∈F:=by
 obtain ⟨s,⟨qb,mb,Fq,rfl,h1,h2,h3,h4⟩,hr⟩:=h
 have h3':=h3
 obtain ⟨tb,Pn,Ft,rfl,k1,k2,k3,k4,k5⟩:=h3
 have hm:=hr.rM
 unfold TG at hm
 refine ⟨qb,mb,s.q.m,tb,Pn,s.q.c,h1,k1,k4,⟨s,_,h3',hr⟩,fun c q lag=>?_,fun e=>by rwa [if_neg e] at hm,by simp,by simp⟩
 by_cases e:A.l=[]
 ·rw [if_pos e] at hm
  rw [rP hm.1 hm.2.1 hm.2.2]
  unfold mA its;rw [e];rfl
 ·rw [if_neg e] at hm;rw [hm]
theorem Pb (q:Int) (w0:World):AM Tryz.prog 111 #[.int .u32 q] w0 fun v w'=>v = .bool (Ek q)∧AA [] w0 w':=by
 have hs:=St.nil w0
 refine AQ Tryz.func111 Tryz.ntmps111 (k:=?_)
 refine Ja ?_
 refine cl (h:=by exact FI ⟨0,0,q⟩ _) (k:=?_)
 rw [show (⟨0,0,q⟩:Pt).right=Ek q by unfold Pt.right Ek;by_cases h:1≤q <;> simp [h] <;> omega]
 rintro v w' ⟨rfl,ho⟩;replace hs:=hs.AK ho;refine Jc ?_
 refine AF ?_
 exact ⟨rfl,hs.AD rfl⟩
theorem Rb (n:Int) (w0:World):AM Tryz.prog 117 #[.int .u64 n] w0 fun v w'=>v = .bool (EW n)∧AA [] w0 w':=by
 have hs:=St.nil w0
 refine AQ Tryz.func117 Tryz.ntmps117 (k:=?_)
 repeat' (first|refine Sf ?_|((with_reducible apply BM);exact rfl;exact rfl;intro c hc;(fail_if_success have:true=c:=hc);(fail_if_success have:false=c:=hc);cases c)|fail)
 all_goals (refine AF ?_)
 all_goals refine ⟨?_,hs.AD rfl⟩
 all_goals clear hs
 ·have h1:decide (1≤n)=false:=hc
  unfold EW;rw [h1];rfl
 ·have h1:decide (1≤n)=true:=hc
  unfold EW;rw [h1];rfl
def C3 (r:Rq):RT:=if h:r.In then ⟨r,h⟩ else ⟨.zero,by decide⟩
theorem JY {r:Rq} (h:r.In):(C3 r).1=r:=by unfold C3;rw [dif_pos h]
def LV (A:As) (q lag:Int):Option Pt:=Gl (mA A) (HA A) q lag
def Hv (c:Cs) (id q ns lag:Int):Option RT:=(LV c.A q lag).bind fun p=>(newR p id ns).map C3
theorem vA {m:Mn} {c q lag:Int} {p:Pt} (hc:BV c) (hq:F7 q) (h:Gl m c q lag=some p):p.In:=by
 unfold Gl at h
 split at h
 ·split at h
  ·cases h;exact ⟨hc,(show F7 0 by decide),hq⟩
  ·split at h
   ·exact (at_some h).1
   ·cases h
 ·cases h
theorem sY {s:Ss} {A:As} (h:BJ s A) (hc:BV s.q.c):BV (HA A):=by
 rw [← h.now];exact TT hc
theorem rA {p:Pt} {id n:Int} {r:Rq} (hp:p.In) (hi:In64 id) (hn:BV n) (h:newR p id n=some r):r.In∧r.right=true:=M8 (⟨⟨hp,hi,(by decide:Pt.zero.In)⟩,hn,hn⟩:Rq.In ⟨⟨p,id,.zero⟩,n,n,false⟩) h
theorem KS.aBM {w:World} {qb:Nat} {A:As} (h:KS w qb A):BV (HA A):=by
 obtain ⟨s,F,⟨tb,mb,Ft,rfl,k1,k2,k3,k4,k5⟩,hr⟩:=h
 exact sY hr k5
def Bi (c:Cs) (id q ns lag:Int):Int × Cs :=
 if id < 1∨Ek q=false∨EW ns=false then (2,c) else if (Ah c.A.l id).isSome then (13,c) else if c.A.l.length=32 then (7,c) else
  match Hv c id q ns lag with
  | none=>(8,c)
  | some r=>if FO c.A r=0 then (0,⟨G0 c.A r,c.run,E0 c.carr (CW (G0 c.A r) id)⟩) else (FO c.A r,c)
theorem dR (b2 b3 b4 b5:Nat) (c:Cs) (id q ns lag:Int) (wb w0:World) (hid:In64 id) (hq:F7 q) (DZ:BV ns) (H7:In64 lag)
 (B2:w0.heap[b2]?=some (.cells #[.int .i64 id] 3 (0,0))) (B3:w0.heap[b3]?=some (.cells #[.int .u32 q] 49 (0,0))) (B4:w0.heap[b4]?=some (.cells #[.int .u64 ns] 22 (0,0))) (B5:w0.heap[b5]?=some (.cells #[.int .i64 lag] 2 (0,0))) :
 Ob wb w0 129 [.pointer (some ⟨b2,0,none⟩),.pointer (some ⟨b3,0,none⟩),.pointer (some ⟨b4,0,none⟩),.pointer (some ⟨b5,0,none⟩)] [] (fun _=>True) c (Bi c id q ns lag).1 (Bi c id q ns lag).2 .none:=by
 intro cb rb F hC hR Yk hrb
 have Eu:=hC
 have Mb:=hR
 obtain ⟨sb,Fs,rfl,h1,hS,h3,h4⟩:=hC
 obtain ⟨qb,mb,m,tb,Pn,cq,g1,g2,vR,gQ,gpl,gm,_,_⟩:=hS.GY
 have hs:=(((((((St.nil w0).AE h1).AE g1).AE g2).AE B2).AE B3).AE B4).AE B5
 refine AQ Tryz.func129 Tryz.ntmps129 (k:=?_)
 refine Ja ?_
 refine dr [] hs (k:=?_);intro hX w hs
 refine tks 0 5 ?_
 refine GS 9 9 hs (k:=?_);intro f X w hp;have hs:=hp.st
 apply BH 5 9 (f:=f) (X:=X) hX hp;exact rfl;exact rfl;(apply AR AI;exact rfl);kernel_rfl;kernel_rfl;kernel_rfl;kernel_rfl;(intro X Y;(repeat (first | exact A4 | refine A3 ?_ (by exact rfl))));(intro w' hs;first|exact AH hs.hold|exact AH hs.hold.tail|exact A6 rfl);intro f X w hp;have hs:=hp.st
 have ho:=hs.AB [] (by simp [h1,g1,g2,B2,B3,B4,B5]) (by simp [D0])
 refine cl (h:=by exact J1 sb c.A Fs id _ (hS.only ho) hid) (k:=?_)
 rintro v w' ⟨rfl,ho⟩;replace hp:=hp.only ho;replace hs:=hp.st;refine Jb ?_
 refine dn (k:=?_)
 refine tk 6 hX (hc:=by cases f <;> kernel_rfl) (k:=?_)
 refine tk 7 hX (hc:=by cases f <;> kernel_rfl) (k:=?_)
 refine tk 8 hX (hc:=by cases f <;> kernel_rfl) (k:=?_)
 apply B9 9 (f:=f) (X:=X) hX hp;exact rfl;(apply AR AI;exact rfl);kernel_rfl;kernel_rfl;(intro X Y;(repeat (first | exact A4 | refine A3 ?_ (by exact rfl))));(intro w' hs;first|exact AH hs.hold|exact AH hs.hold.tail|exact A6 rfl);intro b w hI hs
 refine dt 10 hX (k:=?_)
 repeat' (first|refine Nx.h ?_|(refine AU hs (k:=?_);intro w hs)|fail)
 refine dn (k:=?_)
 refine tk 11 hX (k:=?_)
 refine en (k:=?_)
 refine Jb ?_
 refine Al ?_
 have eJ:Bi c id q ns lag=if id < 1∨Ek q=false∨EW ns=false then (2,c) else if (Ah c.A.l id).isSome then (13,c) else if c.A.l.length=32 then (7,c) else
  match Hv c id q ns lag with
  | none=>(8,c)
  | some r=>if FO c.A r=0 then (0,⟨G0 c.A r,c.run,E0 c.carr (CW (G0 c.A r) id)⟩) else (FO c.A r,c):=rfl
 generalize Bi c id q ns lag=J at *
 have bad:∀ (n:Int) (w':World),J=(n,c)→n≠0→AA [] w0 w'→Value.int .i64 n = .int .i64 J.1∧True∧(J.1=0→∃ F2 Fr,Bc w' cb J.2 F2∧DI w' rb .none Fr∧(∀ k∈F2,k∈cb :: Fs∨w0.heap.size≤k)∧∀ k∈Fr,k=rb∨w0.heap.size≤k)∧AA (rb :: (cb :: Fs) ++ []) w0 w':=fun n w' e hn ho=>by
  subst e;exact ⟨rfl,trivial,fun h=>absurd h hn,ho.weaken (by simp)⟩
 refine vs (k:=?_)
 refine vs (k:=?_)
 by_cases c1:id < 1
 ·rw [if_pos (.inl c1)] at eJ
  rw [decide_eq_true c1]
  refine Jh ?_
  refine AF ?_
  exact bad 2 _ eJ (by decide) (hs.AB [] (by simp [h1,g1,g2,B2,B3,B4,B5]) (by simp [D0]))
 rw [decide_eq_false c1]
 refine Jf ?_
 refine cl (h:=by exact Pb q _) (k:=?_)
 cases c2:Ek q
 ·rw [if_pos (.inr (.inl c2))] at eJ
  rintro v w' ⟨rfl,ho⟩;replace hs:=hs.AK ho;refine Jh ?_
  refine AF ?_
  exact bad 2 _ eJ (by decide) (hs.AB [] (by simp [h1,g1,g2,B2,B3,B4,B5]) (by simp [D0]))
 rintro v w' ⟨rfl,ho⟩;replace hs:=hs.AK ho;refine Jf ?_
 refine cl (h:=by exact Rb ns _) (k:=?_)
 cases c3:EW ns
 ·rw [if_pos (.inr (.inr c3))] at eJ
  rintro v w' ⟨rfl,ho⟩;replace hs:=hs.AK ho;refine Je ?_
  refine AF ?_
  exact bad 2 _ eJ (by decide) (hs.AB [] (by simp [h1,g1,g2,B2,B3,B4,B5]) (by simp [D0]))
 rw [if_neg (by simp [c1,c2,c3])] at eJ
 rintro v w' ⟨rfl,ho⟩;replace hs:=hs.AK ho;repeat' (first|refine Sd ?_|refine xc_cond rfl (fun hc=>?_) fun hc=>?_|fail)
 ·rw [if_pos hc] at eJ
  refine AF ?_
  exact bad 13 _ eJ (by decide) (hs.AB [] (by simp [h1,g1,g2,B2,B3,B4,B5]) (by simp [D0]))
 rw [if_neg (by simp [hc])] at eJ
 have ho:=hs.AB [] (by simp [h1,g1,g2,B2,B3,B4,B5]) (by simp [D0])
 refine AY hs (h:=by exact mN qb c.A _ (gQ.only ho)) (k:=?_);intro w' ho hs;repeat' (first|refine Sa ?_|refine Au rfl (fun hc=>?_) fun hc=>?_|fail)
 ·rw [if_pos om] at eJ
  refine AF ?_
  exact bad 7 _ eJ (by decide) (hs.AB [] (by simp [h1,g1,g2,B2,B3,B4,B5]) (by simp [D0]))
 rw [if_neg om] at eJ
 refine dr [] hs (k:=?_);intro hX w hs
 refine tks 0 17 ?_
 refine tks 18 2 ?_
 refine GS 24 11 hs (k:=?_);intro f X w hp;have hs:=hp.st
 apply BH 17 24 (f:=f) (X:=X) hX hp;exact rfl;exact rfl;(apply AR AI;exact rfl);kernel_rfl;kernel_rfl;kernel_rfl;kernel_rfl;(intro X Y;(repeat (first | exact A4 | refine A3 ?_ (by exact rfl))));(intro w' hs;first|exact AH hs.hold|exact AH hs.hold.tail|exact A6 rfl);intro f X w hp;have hs:=hp.st
 have ho:=hs.AB [] (by simp [h1,g1,g2,B2,B3,B4,B5]) (by simp [D0])
 refine cl (h:=by exact II qb c.A _ (gQ.only ho)) (k:=?_)
 rintro v w' ⟨rfl,ho⟩;replace hp:=hp.only ho;replace hs:=hp.st;refine Jb ?_
 refine dn (k:=?_)
 apply BH 20 24 (f:=f) (X:=X) hX hp;exact rfl;exact rfl;(apply AR AI;exact rfl);kernel_rfl;kernel_rfl;kernel_rfl;kernel_rfl;(intro X Y;(repeat (first | exact A4 | refine A3 ?_ (by exact rfl))));(intro w' hs;first|exact AH hs.hold|exact AH hs.hold.tail|exact A6 rfl);intro f X w hp;have hs:=hp.st
 have aAn:=gQ.aBM
 have eP:Hv c id q ns lag=(LV c.A q lag).bind fun p=>(newR p id ns).map C3:=rfl
 have mR:∀ p,LV c.A q lag=some p→p.In:=fun p h=>vA aAn hq h
 refine cl (h:=by exact Tz m (HA c.A) q lag vR hq H7 _) (k:=?_)
 rw [show Gl m (HA c.A) q lag=LV c.A q lag from gpl _ _ _]
 generalize LV c.A q lag=op at *
 cases op with
 | none =>
   rw [show Hv c id q ns lag=none from eP] at eJ
   rintro v w' ⟨rfl,ho⟩;replace hp:=hp.only ho;replace hs:=hp.st;refine Jb ?_
   refine dn (k:=?_)
   refine tk 21 hX (hc:=by cases f <;> kernel_rfl) (k:=?_)
   refine tk 22 hX (hc:=by cases f <;> kernel_rfl) (k:=?_)
   refine tk 23 hX (hc:=by cases f <;> kernel_rfl) (k:=?_)
   apply B9 24 (f:=f) (X:=X) hX hp;exact rfl;(apply AR AI;exact rfl);kernel_rfl;kernel_rfl;(intro X Y;(repeat (first | exact A4 | refine A3 ?_ (by exact rfl))));(intro w' hs;first|exact AH hs.hold|exact AH hs.hold.tail|exact A6 rfl);intro b w hI hs
   refine dt 25 hX (k:=?_)
   repeat' (first|refine Nx.h ?_|(refine AU hs (k:=?_);intro w hs)|fail)
   refine dn (k:=?_)
   refine tk 26 hX (k:=?_)
   refine en (k:=?_)
   refine Ja ?_
   refine cl (h:=by exact Kr .zero id ns (by decide) hid DZ _) (k:=?_)
   generalize newR .zero id ns=o
   cases o
   ·rintro v w' ⟨rfl,ho⟩;replace hs:=hs.AK ho;repeat' (first|refine Se ?_|(refine AU hs (k:=?_);intro w hs)|(refine al hs (k:=?_);intro b w hz hs)|fail)
    refine AF ?_
    exact bad 8 _ eJ (by decide) (hs.AB [] (by simp [h1,g1,g2,B2,B3,B4,B5]) (by simp [D0]))
   ·rintro v w' ⟨rfl,ho⟩;replace hs:=hs.AK ho;repeat' (first|refine Se ?_|(refine AU hs (k:=?_);intro w hs)|(refine al hs (k:=?_);intro b w hz hs)|fail)
    refine AF ?_
    exact bad 8 _ eJ (by decide) (hs.AB [] (by simp [h1,g1,g2,B2,B3,B4,B5]) (by simp [D0]))
 | some p =>
   have ND:=mR p rfl
   have qR:Hv c id q ns lag=(newR p id ns).map C3:=eP
   rintro v w' ⟨rfl,ho⟩;replace hp:=hp.only ho;replace hs:=hp.st;refine Jb ?_
   refine dn (k:=?_)
   refine tk 21 hX (hc:=by cases f <;> kernel_rfl) (k:=?_)
   refine tk 22 hX (hc:=by cases f <;> kernel_rfl) (k:=?_)
   refine tk 23 hX (hc:=by cases f <;> kernel_rfl) (k:=?_)
   apply B9 24 (f:=f) (X:=X) hX hp;exact rfl;(apply AR AI;exact rfl);kernel_rfl;kernel_rfl;(intro X Y;(repeat (first | exact A4 | refine A3 ?_ (by exact rfl))));(intro w' hs;first|exact AH hs.hold|exact AH hs.hold.tail|exact A6 rfl);intro b w hI hs
   refine dt 25 hX (k:=?_)
   repeat' (first|refine Nx.h ?_|(refine AU hs (k:=?_);intro w hs)|fail)
   refine dn (k:=?_)
   refine tk 26 hX (k:=?_)
   refine en (k:=?_)
   refine Ja ?_
   refine cl (h:=by exact Kr p id ns ND hid DZ _) (k:=?_)
   cases hr:newR p id ns with
   | none =>
     rw [hr] at qR
     rw [show Hv c id q ns lag=none from qR] at eJ
     rintro v w' ⟨rfl,ho⟩;replace hs:=hs.AK ho;repeat' (first|refine Sc ?_|(refine AU hs (k:=?_);intro w hs)|(refine al hs (k:=?_);intro b w hz hs)|fail)
     refine AF ?_
     exact bad 8 _ eJ (by decide) (hs.AB [] (by simp [h1,g1,g2,B2,B3,B4,B5]) (by simp [D0]))
   | some r =>
     obtain ⟨Wn,rrt⟩:=rA ND hid DZ hr
     rw [hr] at qR
     rw [show Hv c id q ns lag=some ⟨r,Wn⟩ by rw [qR];exact congrArg some (dif_pos Wn)] at eJ
     simp only at eJ
     rintro v w' ⟨rfl,ho⟩;replace hs:=hs.AK ho;repeat' (first|refine Sd ?_|(refine AU hs (k:=?_);intro w hs)|(refine al hs (k:=?_);intro b w hz hs)|fail)
     have ho:=hs.AB [] (by simp [h1,g1,g2,B2,B3,B4,B5]) (by simp [D0])
     have x1:=hs.get (b:=cb) (o:=Et sb c.run c.carr) (by repeat (first | exact At.head | (with_reducible apply At.tail)))
     have x2:=hs.get (b:=b) (by repeat (first | exact At.head | (with_reducible apply At.tail)))
     have x3:=hs.get (b:=b2) (by repeat (first | exact At.head | (with_reducible apply At.tail)))
     have hb:=hs.new _ List.mem_cons_self rfl
     simp only at hb
     clear hs
     have hs:=(((St.nil _).AE x1).AE x2).AE x3
     refine dr [] hs (k:=?_);intro hX w hs
     refine tks 0 5 ?_
     refine dt 5 hX (k:=?_)
     have AJ:=hs.AB [] (by simp [x1,x2,x3]) (by simp [D0])
     have Gf:=hS.only (ho.trans AJ)
     refine cl (h:=by exact bM sb c.A Fs ⟨r,Wn⟩ _ Gf) (k:=?_)
     rintro v w2 ⟨rfl,F2,Di,DQ,AN⟩
     have n1:cb∉Fs:=Bc.N0 h1 hS
     have n2:b∉Fs:=Gf.not (hs.get (b:=b) (by repeat (first | exact At.head | (with_reducible apply At.tail)))) rfl
     have n3:b2∉Fs:=hS.not B2 rfl
     have y1:=AN.block (hs.get (b:=cb) (o:=Et sb c.run c.carr) (by repeat (first | exact At.head | (with_reducible apply At.tail)))) n1
     have y2:=AN.block (hs.get (b:=b) (by repeat (first | exact At.head | (with_reducible apply At.tail)))) n2
     have y3:=AN.block (hs.get (b:=b2) (by repeat (first | exact At.head | (with_reducible apply At.tail)))) n3
     have Aw:AA (rb :: (cb :: Fs) ++ []) w0 w2:=((ho.trans AJ).weaken (by simp)).step AN (fun k hk => .inl (by simp [hk]))
     have Pj:=(ho.trans AJ).size
     have LP:DI w2 rb .none [rb]:=(hR.only (ho.trans AJ)).Ae AN (fun k hk hm=>by
      obtain rfl:=List.mem_singleton.1 hk
      exact Mb.apart Eu k (by simp) (by simp [hm]))
     clear hs
     have hs:=(((St.nil w2).AE y1).AE y2).AE y3
     refine Jb ?_
     refine dn (k:=?_)
     refine tk 6 hX (k:=?_)
     refine en (k:=?_)
     by_cases hE:FO c.A ⟨r,Wn⟩=0
     ·rw [if_pos hE] at eJ
      rw [hE]
      refine Jd ?_
      have AT:=hs.AB [] (by simp [y1,y2,y3]) (by simp [D0])
      have E5:Bc w2 cb ⟨G0 c.A ⟨r,Wn⟩,c.run,c.carr⟩ (cb :: F2):=⟨sb,F2,rfl,y1,Di,h3,h4⟩
      refine AY hs (h:=by exact Ls cb ⟨G0 c.A ⟨r,Wn⟩,c.run,c.carr⟩ _ id _ (E5.only AT) hid) (k:=?_);intro w' ho hs;skip
      have Ao:=hs.AB [] (by simp [y1,y2,y3]) (by simp [D0])
      obtain ⟨s2,yT⟩:=Di.rep
      have Rz:=Di.only Ao
      refine cl (h:=by exact Lq cb sb c.run c.carr _ _ (hs.get (b:=cb) (o:=Et sb c.run c.carr) (by repeat (first | exact At.head | (with_reducible apply At.tail)))) h3 (M7 yT id)) (k:=?_)
      rintro v w5 ⟨fR,BK⟩
      have n5:cb∉F2:=Bc.N0 y1 Di
      clear hs
      have hs:=St.nil w5
      refine Ja ?_
      refine AF ?_
      have Ak:=hs.AD rfl
      subst eJ
      have B8:=(Ao.weaken (G:=[cb]) (by simp)).step BK (fun k hk => .inl hk)
      refine ⟨rfl,trivial,fun _=>⟨cb :: F2,[rb],⟨sb,F2,rfl,Ak.block fR (by simp),(Rz.Ae BK (fun k hk hm=>by obtain rfl:=List.mem_singleton.1 hm;exact n5 hk)).only Ak,Lp _ _,h4⟩,((LP.Ae B8 (fun k hk hm=>by
       obtain rfl:=List.mem_singleton.1 hk
       obtain rfl:=List.mem_singleton.1 hm
       exact Mb.apart Eu k (by simp) (by simp))).only Ak),fun k hk=>?_,fun k hk => .inl (by simpa using hk)⟩,(Aw.step B8 (fun k hk => .inl (by obtain rfl:=List.mem_singleton.1 hk;simp))).step Ak (by simp)⟩
      rcases List.mem_cons.1 hk with rfl | hk
      ·simp
      ·rcases DQ k hk with h | h
       ·simp [h]
       ·exact .inr om
     ·rw [if_neg hE] at eJ
      subst eJ
      generalize FO c.A ⟨r,Wn⟩=n at *
      repeat' (first|refine Sa ?_|refine xc_cond rfl (fun hc=>?_) fun hc=>?_|fail)
      ·refine AF ?_
       have Ak:=hs.AB [] (by simp [y1,y2,y3]) (by simp [D0])
       exact ⟨rfl,trivial,fun h=>absurd h hE,Aw.step Ak (by simp)⟩
      ·exact absurd (by simpa using hc) hE
theorem Qg (cb:Nat) (c:Cs) (F:List Nat) (id q ns lag:Int) (w0:World) (h:Bc w0 cb c F) (hid:In64 id) (hq:F7 q) (DZ:BV ns) (H7:In64 lag) :
 AM Tryz.prog 93 #[.pointer (some ⟨cb,0,none⟩),.int .i64 id,.int .u32 q,.int .u64 ns,.int .i64 lag] w0 fun v w'=>∃ rv,v = .tuple #[rv,.int .i64 (Bi c id q ns lag).1]∧Lt w' rv (BU (Bi c id q ns lag).1 (Bi c id q ns lag).2 .none) ∧
  (∃ F',Bc w' cb (Cr c (Bi c id q ns lag).1 (Bi c id q ns lag).2) F'∧∀ k∈F',k∈F∨w0.heap.size≤k)∧AA [cb] w0 w':=by
 have hs:=St.nil w0
 refine AQ Tryz.func93 Tryz.ntmps93 (k:=?_)
 refine Ag ?_
 refine Al ?_
 refine bx hs (k:=?_);intro b6 w _ hs
 refine bx hs (k:=?_);intro b7 w _ hs
 refine bx hs (k:=?_);intro b8 w _ hs
 refine bx hs (k:=?_);intro b9 w _ hs
 refine al hs (k:=?_);intro Ep w hz hs
 refine Ja ?_
 have ho:=hs.AD rfl
 have hz:=ho.size
 have x6:=hs.get (b:=b6) (by repeat (first | exact At.head | (with_reducible apply At.tail)))
 have x7:=hs.get (b:=b7) (by repeat (first | exact At.head | (with_reducible apply At.tail)))
 have x8:=hs.get (b:=b8) (by repeat (first | exact At.head | (with_reducible apply At.tail)))
 have x9:=hs.get (b:=b9) (by repeat (first | exact At.head | (with_reducible apply At.tail)))
 have Hl:=hs.get (b:=Ep) (by repeat (first | exact At.head | (with_reducible apply At.tail)))
 have Ee:=h.only ho
 have hb:=hs.new _ List.mem_cons_self rfl
 simp only at hb
 refine cl (h:=by exact J5 cb c F _ Ee 129 [.pointer (some ⟨b6,0,none⟩),.pointer (some ⟨b7,0,none⟩),.pointer (some ⟨b8,0,none⟩),.pointer (some ⟨b9,0,none⟩)] [] (fun _=>True) (Bi c id q ns lag).1 (Bi c id q ns lag).2 .none (fun _ _ _ _ _ _=>trivial) (by simp) (by simp [Rp.none]) (fun w1 AJ=>dR b6 b7 b8 b9 c id q ns lag _ w1 hid hq DZ H7 (AJ.block x6 (by simp)) (AJ.block x7 (by simp)) (AJ.block x8 (by simp)) (AJ.block x9 (by simp)))) (k:=?_)
 rintro v w2 ⟨rv,rfl,_,Hu,⟨F',hC',CV⟩,AN⟩
 obtain ⟨vg,vp,Gg,Gp,rfl,p1,p2⟩:=Hu
 obtain ⟨ag,cg,rfl⟩:=BO p1
 obtain ⟨ap,cp,rfl⟩:=BO p2
 have x2:=AN.block Hl (fun hm=>by obtain rfl:=List.mem_singleton.1 hm;exact Ee.not Hl rfl (by obtain ⟨_,_,rfl,_⟩:=Ee;simp))
 clear hs
 have hs:=(St.nil w2).AE x2
 repeat' (first|refine Sb ?_|(refine AU hs (k:=?_);intro w hs)|fail)
 refine AF ?_
 have AT:AA [Ep] w2 _:=hs.AB [Ep] (by simp) (by simp [D0])
 exact ⟨_,rfl,⟨_,_,Gg,Gp,rfl,p1.keep AT (fun k hk hm=>by obtain rfl:=List.mem_singleton.1 hm;exact BQ p1 x2 (by decide) hk),p2.keep AT (fun k hk hm=>by obtain rfl:=List.mem_singleton.1 hm;exact BQ p2 x2 (by decide) hk)⟩,⟨F',hC'.Ae AT (fun k hk hm=>by obtain rfl:=List.mem_singleton.1 hm;exact hC'.not x2 rfl hk),fun k hk=>by
  rcases CV k hk with h | h
  ·exact .inl h
  ·exact .inr om⟩,((ho.weaken (by simp)).step AN (fun k hk => .inl hk)).step AT (fun k hk => .inr (by obtain rfl:=List.mem_singleton.1 hk;exact hb))⟩
theorem Ki (l:List RT) (i:Int):(DH l i).In:=by
 unfold DH
 cases Ah l i with
 | none=>decide
 | some a=>exact a.2
def BX (c:Cs) (most:Int):Int:=EF most (DH c.A.l c.run).left
def Fw (c:Cs) (most:Int):Option (Rq × Bool):=DD (DH c.A.l c.run) (BX c most)
def D3 (c:Cs) (most:Int):RT:=C3 (match Fw c most with | some x=>x.1 | none => .zero)
def FV (c:Cs) (most:Int):Int:=Dn c.A (D3 c most)
def Df (c:Cs) (most:Int):Cs:=⟨GX c.A (D3 c most),c.run,c.carr⟩
def MF (c:Cs) (most:Int):Pr:=⟨c.run,BX c most,match Fw c most with | some x=>x.2 | none=>false⟩
def IJ (c:Cs) (most:Int) (r:Rp):Rp:=⟨r.g ++ DY (Df c most),r.p ++ [MF c most]⟩
theorem Yc (c:Cs) (most:Int) (hm:BV most):(D3 c most).1=(match Fw c most with | some x=>x.1 | none => .zero)∧BV (BX c most):=by
 have h1:BV (BX c most):=Qo hm (Ki _ _).2.1
 refine ⟨JY ?_,h1⟩
 cases e:Fw c most with
 | none=>show Rq.zero.In;decide
 | some x=>exact Tu (Ki c.A.l c.run) h1 (show DD _ _=some (x.1,x.2) from e)
theorem X0 (l:List Pr) (p:Pr):SO (l ++ [p])=SO l ++ p.cells:=by simp [SO]
theorem fV (cb rb:Nat) (c:Cs) (most:Int) (r:Rp) (F Fr:List Nat) (w0:World) (h:Bc w0 cb c F) (hr:DI w0 rb r Fr) (hm:BV most) (hg:r.g.length≤1000000) (hp':r.p.length < 2000000000000) :
 AM Tryz.prog 96 #[.pointer (some ⟨cb,0,none⟩),.int .u64 most,.pointer (some ⟨rb,0,none⟩)] w0 fun v w'=>v = .tuple #[.int .u64 (if FV c most=0 then BX c most else 0),.int .i64 (FV c most)] ∧
  (FV c most=0→∃ F' jA,Bc w' cb (Da (Df c most)) F'∧DI w' rb (IJ c most r) jA∧(∀ k∈F',k∈F∨w0.heap.size≤k)∧(∀ k∈jA,k∈Fr∨w0.heap.size≤k))∧AA (F ++ Fr) w0 w':=by
 have Eu:=h
 have Mb:=hr
 have hap:=hr.apart h
 obtain ⟨sb,Fs,rfl,h1,hS,h3,h4⟩:=h
 obtain ⟨vg,vp,Gg,Gp,rfl,r1,r2,r3⟩:=hr
 have hs:=((St.nil w0).AE h1).AE r1
 refine AQ Tryz.func96 Tryz.ntmps96 (k:=?_)
 refine Ja ?_
 refine dr [] hs (k:=?_);intro hX w hs
 refine tks 0 8 ?_
 refine GS 12 8 hs (k:=?_);intro f X w hp;have hs:=hp.st
 apply BH 8 12 (f:=f) (X:=X) hX hp;exact rfl;exact rfl;(apply AR AI;exact rfl);kernel_rfl;kernel_rfl;kernel_rfl;kernel_rfl;(intro X Y;(repeat (first | exact A4 | refine A3 ?_ (by exact rfl))));(intro w' hs;first|exact AH hs.hold|exact AH hs.hold.tail|exact A6 rfl);intro f X w hp;have hs:=hp.st
 have ho:=hs.AB [] (by simp [h1,r1]) (by simp [D0])
 refine cl (h:=by exact J1 sb c.A Fs c.run _ (hS.only ho) h4) (k:=?_)
 have hx:=Ki c.A.l c.run
 obtain ⟨eY,eN⟩:=Yc c most hm
 have eN':BX c most=EF most (DH c.A.l c.run).left:=rfl
 have eO:Fw c most=DD (DH c.A.l c.run) (BX c most):=rfl
 have eP:MF c most=⟨c.run,BX c most,match Fw c most with | some x=>x.2 | none=>false⟩:=rfl
 have eE:FV c most=Dn c.A (D3 c most):=rfl
 have eA:Df c most=⟨GX c.A (D3 c most),c.run,c.carr⟩:=rfl
 have eR:IJ c most r=⟨r.g ++ DY (Df c most),r.p ++ [MF c most]⟩:=rfl
 generalize DH c.A.l c.run=x at *
 rintro v w' ⟨rfl,ho⟩;replace hp:=hp.only ho;replace hs:=hp.st;refine Jb ?_
 refine dn (k:=?_)
 refine tk 9 hX (hc:=by cases f <;> kernel_rfl) (k:=?_)
 refine tk 10 hX (hc:=by cases f <;> kernel_rfl) (k:=?_)
 refine tk 11 hX (hc:=by cases f <;> kernel_rfl) (k:=?_)
 apply B9 12 (f:=f) (X:=X) hX hp;exact rfl;(apply AR AI;exact rfl);kernel_rfl;kernel_rfl;(intro X Y;(repeat (first | exact A4 | refine A3 ?_ (by exact rfl))));(intro w' hs;first|exact AH hs.hold|exact AH hs.hold.tail|exact A6 rfl);intro b w hI hs
 refine dt 13 hX (k:=?_)
 repeat' (first|refine Nx.h ?_|(refine AU hs (k:=?_);intro w hs)|fail)
 refine dn (k:=?_)
 refine tk 14 hX (k:=?_)
 refine en (k:=?_)
 refine Ja ?_
 rw [show (if x.left < most then x.left else most)=BX c most from eN'.symm]
 generalize BX c most=n at *
 have fU:∃ u bd ok,svV (Fw c most) = .tuple #[rv u,.bool bd,.bool ok]∧(D3 c most).1=u∧MF c most=⟨c.run,n,bd⟩:=by
  rw [eY,eP]
  cases Fw c most with
  | none=>exact ⟨_,_,_,rfl,rfl,rfl⟩
  | some y=>exact ⟨_,_,_,rfl,rfl,rfl⟩
 obtain ⟨u,bd,ok,fU,hYu,hPe⟩:=fU
 rw [eO] at fU
 refine cl (h:=by exact Rt x n hx eN _) (k:=?_)
 rw [fU]
 clear eO eP fU eY
 generalize D3 c most=Y at *
 generalize MF c most=P at *
 generalize Df c most=c2 at *
 generalize FV c most=e at *
 generalize IJ c most r=R at *
 subst hYu hPe
 rintro v w' ⟨rfl,ho⟩;replace hs:=hs.AK ho;repeat' (first|refine Sb ?_|(refine AU hs (k:=?_);intro w hs)|(refine al hs (k:=?_);intro b w hz hs)|fail)
 have ho:=hs.AB [] (by simp [h1,r1]) (by simp [D0])
 have x1:=hs.get (b:=cb) (o:=Et sb c.run c.carr) (by repeat (first | exact At.head | (with_reducible apply At.tail)))
 have x2:=hs.get (b:=b) (by repeat (first | exact At.head | (with_reducible apply At.tail)))
 have x3:=hs.get (b:=rb) (o:=KW vg vp) (by repeat (first | exact At.head | (with_reducible apply At.tail)))
 clear hs
 obtain ⟨bY,rfl⟩:∃ z,z=b:=⟨_,rfl⟩
 have hs:=(((St.nil _).AE x1).AE x2).AE x3
 refine dr [] hs (k:=?_);intro hX w hs
 refine tks 0 5 ?_
 refine dt 5 hX (k:=?_)
 have AJ:=hs.AB [] (by simp [x1,x2,x3]) (by simp [D0])
 have Gf:=hS.only (ho.trans AJ)
 refine cl (h:=by exact Qw sb c.A Fs Y _ Gf) (k:=?_)
 rw [← eE]
 rintro v w2 ⟨rfl,F2,Di,DQ,AN⟩
 have n1:cb∉Fs:=Bc.N0 h1 hS
 have n3:rb∉Fs:=hS.not r1 rfl
 have y1:=AN.block (hs.get (b:=cb) (o:=Et sb c.run c.carr) (by repeat (first | exact At.head | (with_reducible apply At.tail)))) n1
 have y3:=AN.block (hs.get (b:=rb) (o:=KW vg vp) (by repeat (first | exact At.head | (with_reducible apply At.tail)))) n3
 have y2:=AN.block (hs.get (b:=bY) (by repeat (first | exact At.head | (with_reducible apply At.tail)))) (Gf.not (hs.get (b:=bY) (by repeat (first | exact At.head | (with_reducible apply At.tail)))) rfl)
 have Aw:AA ((cb :: Fs) ++ (rb :: (Gg ++ Gp))) w0 w2:=((ho.trans AJ).weaken (by simp)).step AN (fun k hk => .inl (by simp [hk]))
 have Pj:=(ho.trans AJ).size
 have LP:DI w2 rb r (rb :: (Gg ++ Gp)):=(Mb.only (ho.trans AJ)).Ae AN (fun k hk hm=>hap k hk (by simp [hm]))
 clear hs
 have hs:=(((St.nil w2).AE y1).AE y2).AE y3
 refine Jb ?_
 refine dn (k:=?_)
 refine tk 6 hX (k:=?_)
 refine en (k:=?_)
 by_cases he:e=0
 ·subst he
  rw [if_pos (rfl:(0:Int)=0)]
  refine Jd ?_
  obtain ⟨vg',vp',oU,nU,eF,q1,q2,q3⟩:=LP
  obtain ⟨rfl,rfl⟩:vg=vg'∧vp=vp':=by rw [y3] at q1;simp only [Option.some.injEq,Obj.cells.injEq] at q1;have:=congrArg Array.toList q1.1;simp at this;exact this
  refine dr [16] hs (k:=?_);intro hX w hs
  refine tks 0 12 ?_
  refine dt 12 hX (k:=?_)
  repeat' (first|refine Nx.h ?_|(refine bs hs (k:=?_);intro b w hz hs)|fail)
  refine dn (k:=?_)
  refine dt 13 hX (k:=?_)
  have B8:=hs.AB [] (by simp [y1,y2,y3]) (by simp [D0])
  refine CM AI rfl rfl rfl rfl rfl rfl rfl (by decide) (lit_cells (news:=Pr.cells ⟨c.run,n,bd⟩) (hs.get At.head)) (by simp [Value.oneCell']) (q3.keep B8 (by simp)) om om ?_
  intro v3 w3 ⟨G3,N4,mI⟩ AT
  obtain ⟨a3,qQ,rfl⟩:=BO N4
  have d1:∀ k∈nU,k≠cb∧k≠rb∧k≠bY:=fun k hk=>⟨fun e=>BQ q3 y1 (by decide) (e ▸ hk),fun e=>BQ q3 y3 (by decide) (e ▸ hk),fun e=>BQ q3 y2 (by decide) (e ▸ hk)⟩
  have z1:=AT.block (hs.get (b:=cb) (o:=Et sb c.run c.carr) (by repeat (first | exact At.head | (with_reducible apply At.tail)))) (fun hm=>(d1 _ hm).1 rfl)
  have z2:=AT.block (hs.get (b:=bY) (by repeat (first | exact At.head | (with_reducible apply At.tail)))) (fun hm=>(d1 _ hm).2.2 rfl)
  have z3:=AT.block (hs.get (b:=rb) (o:=KW vg vp) (by repeat (first | exact At.head | (with_reducible apply At.tail)))) (fun hm=>(d1 _ hm).2.1 rfl)
  have bJ:AA nU w2 w3:=(B8.weaken (by simp)).step AT (fun k hk => .inl hk)
  have N2:=bJ.size
  have pO:=B8.size
  have y9:AA (F2 ++ (rb :: (Gg ++ Gp))) w2 w3:=bJ.weaken (fun k hk=>by
   have:k∈rb :: (oU ++ nU):=by simp [hk]
   rw [← eF] at this
   exact List.mem_append_right _ this)
  have hSn:∀ k∈F2,k∉nU:=fun k hk hm=>by
   obtain ⟨cs,hc⟩:=LN q3 k hm
   exact Di.not hc rfl hk
  have I8:=Di.Ae bJ hSn
  have TH:=q2.keep bJ (slv_two q2 q3 (by decide))
  clear hs
  have hs:=(((St.nil w3).AE z1).AE z2).AE z3
  refine Jb ?_
  refine dn (k:=?_)
  refine tks 14 2 ?_
  refine dt 16 hX (k:=?_)
  repeat' (first|refine Nx.h ?_|(refine st hs (k:=?_);intro w hs)|fail)
  refine dn (k:=?_)
  refine en (k:=?_)
  have f1:=hs.get (b:=cb) (o:=Et sb c.run c.carr) (by repeat (first | exact At.head | (with_reducible apply At.tail)))
  have f3:=hs.get (b:=rb) (by repeat (first | exact At.head | (with_reducible apply At.tail)))
  have CE:AA [rb] w3 _:=hs.AB [rb] (by simp [z1,z2]) (by simp [D0])
  have n4:rb∉F2:=fun hm=>by
   rcases DQ rb hm with h | h
   ·exact n3 h
   ·have:=lt_of_block r1;omega
  have Rz:=I8.Ae CE (fun k hk hm=>by obtain rfl:=List.mem_singleton.1 hm;exact n4 hk)
  have hG4:=TH.keep CE (fun k hk hm=>by obtain rfl:=List.mem_singleton.1 hm;exact BQ TH z3 (by decide) hk)
  have hP4:=N4.keep CE (fun k hk hm=>by obtain rfl:=List.mem_singleton.1 hm;exact BQ N4 z3 (by decide) hk)
  have tH:DI _ rb ⟨r.g,r.p ++ [⟨c.run,n,bd⟩]⟩ (rb :: (oU ++ G3)):=⟨_,_,oU,G3,rfl,f3,hG4,by
   unfold UP;rw [List.length_append,X0];exact hP4⟩
  have Yz:Bc _ cb c2 (cb :: F2):=⟨sb,F2,rfl,by rw [eA];exact f1,by rw [eA];exact Rz,by rw [eA];exact h3,by rw [eA];exact h4⟩
  have Ed:AA ((cb :: Fs) ++ (rb :: (Gg ++ Gp))) w0 _:=(Aw.step y9 (fun k hk=>by
   rcases List.mem_append.1 hk with h | h
   ·rcases DQ k h with h | h
    ·exact .inl (by simp [h])
    ·exact .inr om
   ·exact .inl (List.mem_append_right _ h))).step CE (fun k hk => .inl (by obtain rfl:=List.mem_singleton.1 hk;simp))
  have KR:∀ k∈cb :: F2,k∈cb :: Fs∨w0.heap.size≤k:=fun k hk=>by
   rcases List.mem_cons.1 hk with rfl | hk
   ·simp
   ·rcases DQ k hk with h | h
    ·exact .inl (by simp [h])
    ·exact .inr om
  have uD:∀ k∈rb :: (oU ++ G3),k∈rb :: (Gg ++ Gp)∨w0.heap.size≤k:=fun k hk=>by
   rw [eF]
   simp only [List.mem_cons,List.mem_append] at hk ⊢
   rcases hk with rfl | hk | hk
   ·simp
   ·simp [hk]
   ·have nX:=Aw.size
    rcases mI k hk with h | h
    ·simp [h]
    ·exact .inr om
  have hzE:=Ed.size
  refine Ja ?_
  refine cl (h:=by exact Pa cb rb c2 ⟨r.g,r.p ++ [⟨c.run,n,bd⟩]⟩ _ _ _ Yz tH hg) (k:=?_)
  rintro v w6 ⟨F6,Fr6,jT,hR6,VK,aAy,Ak⟩
  clear hs
  have hs:=St.nil w6
  refine Ja ?_
  refine AF ?_
  have C1:=hs.AD rfl
  refine ⟨rfl,fun _=>⟨F6,Fr6,jT.only C1,by rw [eR];exact hR6.only C1,fun k hk=>?_,fun k hk=>?_⟩,(Ed.step Ak (fun k hk=>?_)).step C1 (by simp)⟩
  ·rcases VK k hk with h | h
   ·exact KR k h
   ·exact .inr om
  ·rcases aAy k hk with h | h
   ·exact uD k h
   ·exact .inr om
  ·rcases List.mem_append.1 hk with h | h
   ·rcases KR k h with h | h
    ·exact .inl (List.mem_append_left _ h)
    ·exact .inr h
   ·rcases uD k h with h | h
    ·exact .inl (List.mem_append_right _ h)
    ·exact .inr h
 ·rw [if_neg he]
  repeat' (first|refine Sa ?_|refine xc_cond rfl (fun hc=>?_) fun hc=>?_|fail)
  ·refine AF ?_
   have Ak:=hs.AB [] (by simp [y1,y2,y3]) (by simp [D0])
   exact ⟨rfl,fun h=>absurd h he,Aw.step Ak (by simp)⟩
  ·exact absurd (by simpa using hc) he
def DV:Nat→Int→Cs→Rp→Int × Cs × Rp
 | 0,_,c,r=>(0,c,r)
 | k+1,left,c,r=>if 0 < left∧c.run≠0 then (if FV c left=0 then DV k (left - BX c left) (Da (Df c left)) (IJ c left r) else (FV c left,c,r)) else (0,c,r)
def Aq (c:Cs) (ns:Int):Int × Cs × Rp:=if 1≤ns∧ns≤1099511627776 then DV (ns.toNat+1) ns c .none else (2,c,.none)
theorem Mr {c:Cs} {most:Int} (hm:BV most) (h:FV c most=0):1≤BX c most∧BX c most≤most:=by
 obtain ⟨h1,h2⟩:=Yc c most hm
 unfold FV Dn Fz at h
 cases k:(D3 c most).1.right with
 | false=>rw [k] at h;cases h
 | true =>
   rw [h1] at k
   cases e:Fw c most with
   | none=>rw [e] at k;exact absurd k (by decide)
   | some x =>
     unfold Fw DD at e
     split at e
     ·rename_i h3
      have:=h2.1
      refine ⟨by have:=h3.2.1;omega,?_⟩
      show EF most _≤most
      unfold EF;split <;> omega
     ·cases e
theorem WM:∀ (k:Nat) (left:Int) (c:Cs) (r:Rp),r.p.length≤(DV k left c r).2.2.p.length∧r.g.length≤(DV k left c r).2.2.g.length
 | 0,_,_,_=>⟨Nat.le_refl _,Nat.le_refl _⟩
 | k+1,left,c,r=>by
   unfold DV
   split
   ·split
    ·have:=WM k (left - BX c left) (Da (Df c left)) (IJ c left r)
     simp only [IJ,List.length_append,List.length_cons,List.length_nil] at this ⊢
     omega
    ·exact ⟨Nat.le_refl _,Nat.le_refl _⟩
   ·exact ⟨Nat.le_refl _,Nat.le_refl _⟩
theorem gD (b2:Nat) (c:Cs) (ns:Int) (wb w0:World) (DZ:BV ns) (B2:w0.heap[b2]?=some (.cells #[.int .u64 ns] 22 (0,0)))
 (hTp:(Aq c ns).2.2.p.length < 2000000000000) (tT:(Aq c ns).2.2.g.length≤1000000) :
 Ob wb w0 95 [.pointer (some ⟨b2,0,none⟩)] [] (fun _=>True) c (Aq c ns).1 (Aq c ns).2.1 (Aq c ns).2.2:=by
 intro cb rb F hC hR Yk hrb
 have hap:=hR.apart hC
 have hs:=(St.nil w0).AE B2
 have eT:Aq c ns=if 1≤ns∧ns≤1099511627776 then DV (ns.toNat+1) ns c .none else (2,c,.none):=rfl
 generalize Aq c ns=T at *
 have bad:∀ (w':World),T=(2,c,.none)→AA [] w0 w'→Value.int .i64 2 = .int .i64 T.1∧True∧(T.1=0→∃ F2 Fr,Bc w' cb T.2.1 F2∧DI w' rb T.2.2 Fr∧(∀ k∈F2,k∈F∨w0.heap.size≤k)∧∀ k∈Fr,k=rb∨w0.heap.size≤k)∧AA (rb :: F ++ []) w0 w':=fun w' e ho=>by
  subst e;exact ⟨rfl,trivial,fun h=>absurd h (show ¬ (2:Int)=0 by decide),ho.weaken (by simp)⟩
 refine AQ Tryz.func95 Tryz.ntmps95 (k:=?_)
 refine Jb ?_
 refine Al ?_
 refine vs (k:=?_)
 refine Jb ?_
 refine Al ?_
 refine vs (k:=?_)
 refine vs (k:=?_)
 by_cases c1:ns < 1
 ·rw [if_neg om] at eT
  rw [decide_eq_true c1]
  refine Jh ?_
  refine AF ?_
  exact bad _ eT (hs.AB [] (by simp [B2]) (by simp [D0]))
 rw [decide_eq_false c1]
 refine vs (k:=?_)
 refine vs (k:=?_)
 refine vs (k:=?_)
 by_cases c2:ns > 1099511627776
 ·rw [if_neg om] at eT
  rw [decide_eq_true c2]
  refine Je ?_
  refine AF ?_
  exact bad _ eT (hs.AB [] (by simp [B2]) (by simp [D0]))
 rw [decide_eq_false c2]
 rw [if_pos om] at eT
 refine Jd ?_
 have ho:=hs.AB [] (by simp [B2]) (by simp [D0])
 let Inv (left:Int) (c':Cs) (r:Rp) (F' Fr:List Nat) (w:World):Prop:=BV left∧(∃ k:Nat,left < k∧DV k left c' r=T)∧Bc w cb c' F'∧DI w rb r Fr∧(∀ k∈F',k∈F∨w0.heap.size≤k)∧(∀ k∈Fr,k=rb∨w0.heap.size≤k)∧AA (rb :: F ++ []) w0 w
 refine BN (fun (_:Unit)=>[]) (fun _ w=>T.1=0∧∃ F2 Fr,Bc w cb T.2.1 F2∧DI w rb T.2.2 Fr∧(∀ k∈F2,k∈F∨w0.heap.size≤k)∧(∀ k∈Fr,k=rb∨w0.heap.size≤k)∧AA (rb :: F ++ []) w0 w) ?_ ?_
 ·refine BD (fun (x:Int × Cs × Rp × List Nat × List Nat)=>[(0,.pointer (some ⟨cb,0,none⟩)),(1,.pointer (some ⟨rb,0,none⟩)),(6,.int .u64 x.1)])
   (fun x w=>Inv x.1 x.2.1 x.2.2.1 x.2.2.2.1 x.2.2.2.2 w) (fun x=>x.1.toNat) (ns,c,.none,F,[rb]) Ab ⟨DZ,⟨ns.toNat+1,by omega,eT.symm⟩,hC.only ho,hR.only ho,fun k hk => .inl hk,fun k hk => .inl (by simpa using hk),ho.weaken (by simp)⟩ fun x env wl hI=>?_
  obtain ⟨left,c',r,F',Fr⟩:=x
  obtain ⟨hl,⟨k,hk,hT⟩,Dr,KC,Ck,Vo,Aj⟩:=hI
  simp only at hl hk hT Dr KC Ck Vo
  have E5:=Dr
  obtain ⟨sb,Fs',rfl,q1,q2,q3,q4⟩:=E5
  have htl:=WM k left c' r
  rw [hT] at htl
  clear hs
  have hs:=(St.nil wl).AE q1
  cases k with
  | zero=>have:=hl.1;omega
  | succ k =>
  unfold DV at hT
  refine Jb ?_
  refine Al ?_
  refine vs (k:=?_)
  refine vs (k:=?_)
  by_cases l0:left > 0
  ·rw [decide_eq_true l0]
   by_cases hrun:c'.run=0
   ·rw [if_neg om] at hT
    subst hT
    have hs0:=hs
    rw [hrun] at hs
    refine Jl ?_
    have ho:=hs.AB [] (by simp [q1,hrun]) (by simp [D0])
    exact Ar () Ab ⟨rfl,_,_,Dr.only ho,KC.only ho,Ck,Vo,Aj.step ho (by simp)⟩
   ·rw [if_pos ⟨by omega,hrun⟩] at hT
    repeat' (first|refine Sa ?_|refine xc_cond rfl (fun hc=>?_) fun hc=>?_|fail)
    ·have ho:=hs.AB [] (by simp [q1]) (by simp [D0])
     have hz:=Aj.size
     have hzo:=ho.size
     refine cl (h:=by exact fV cb rb c' left r _ _ _ (Dr.only ho) (KC.only ho) hl om om) (k:=?_)
     rintro v w3 ⟨rfl,hok,AT⟩
     have qJ:AA (rb :: F ++ []) w0 w3:=(Aj.step ho (by simp)).step AT (fun k hk=>by
      rcases List.mem_append.1 hk with h | h
      ·rcases Ck k h with h | h
       ·exact .inl (by simp [h])
       ·exact .inr h
      ·rcases Vo k h with h | h
       ·exact .inl (by simp [h])
       ·exact .inr h)
     clear hs
     have hs:=St.nil w3
     by_cases hE:FV c' left=0
     ·rw [if_pos hE] at hT
      obtain ⟨F2,Fr2,a1,a2,a3,a4⟩:=hok hE
      obtain ⟨s1,s2⟩:=Mr hl hE
      have ew:IntKind.u64.wrap (left - BX c' left)=left - BX c' left:=by rw [wrap_u64];unfold BV at hl;omega
      rw [hE,if_pos rfl]
      refine Jd ?_
      refine A2 (left - BX c' left,Da (Df c' left),IJ c' left r,F2,Fr2) (by show (left - BX c' left).toNat < left.toNat;omega) (by (repeat (first | exact Ac | (apply A5;first | exact rfl | exact congrArg (Value.int .u64) ew | exact congrArg (Value.int .u64) ew)))) ⟨?_,⟨k,?_,hT⟩,a1.only (hs.AD rfl),a2.only (hs.AD rfl),fun k hk=>?_,fun k hk=>?_,qJ.step (hs.AD rfl) (by simp)⟩
      ·unfold BV at hl ⊢;simp only;omega
      ·simp only;omega
      ·rcases a3 k hk with h | h
       ·exact Ck k h
       ·exact .inr om
      ·rcases a4 k hk with h | h
       ·exact Vo k h
       ·exact .inr om
     ·rw [if_neg hE] at hT
      subst hT
      rw [if_neg hE]
      generalize FV c' left=e at *
      repeat' (first|refine Sa ?_|refine xc_cond rfl (fun hc=>?_) fun hc=>?_|fail)
      ·refine AF ?_
       exact ⟨rfl,trivial,fun h=>absurd h hE,qJ.step (hs.AD rfl) (by simp)⟩
      ·exact absurd (by simpa using hc) hE
    ·exact absurd (by simpa using hc) hrun
  ·rw [if_neg om] at hT
   subst hT
   rw [decide_eq_false l0]
   repeat' (first|refine vs (k:=?_)|refine ps (k:=?_)|refine Nx.h ?_|refine ES ?_|fail)
   have ho:=hs.AB [] (by simp [q1]) (by simp [D0])
   exact Ar () Ab ⟨rfl,_,_,Dr.only ho,KC.only ho,Ck,Vo,Aj.step ho (by simp)⟩
 ·clear hs
  rintro _ env w ⟨tA,F2,Fr,a1,a2,a3,a4,qJ⟩
  have hs:=St.nil w
  refine Ja ?_
  refine AF ?_
  exact ⟨by rw [tA];rfl,trivial,fun _=>⟨F2,Fr,a1.only (hs.AD rfl),a2.only (hs.AD rfl),a3,a4⟩,qJ.step (hs.AD rfl) (by simp)⟩
def Gx (w0:World) (cb:Nat) (F:List Nat) (rv:Value) (e:Int) (c c1:Cs) (r1:Rp) (w':World):Prop :=
 Lt w' rv (BU e c1 r1)∧(∃ F',Bc w' cb (Cr c e c1) F'∧∀ k∈F',k∈F∨w0.heap.size≤k)∧AA [cb] w0 w'
theorem Vz (cb:Nat) (c:Cs) (F:List Nat) (ns:Int) (w0:World) (h:Bc w0 cb c F) (DZ:BV ns) (hTp:(Aq c ns).2.2.p.length < 2000000000000) (tT:(Aq c ns).2.2.g.length≤1000000) :
 AM Tryz.prog 59 #[.pointer (some ⟨cb,0,none⟩),.int .u64 ns] w0 fun v w'=>∃ rv,v = .tuple #[rv,.int .i64 (Aq c ns).1]∧Gx w0 cb F rv (Aq c ns).1 c (Aq c ns).2.1 (Aq c ns).2.2 w':=by
 have hs:=St.nil w0
 refine AQ Tryz.func59 Tryz.ntmps59 (k:=?_)
 refine Ag ?_
 refine Al ?_
 refine bx hs (k:=?_);intro b6 w _ hs
 refine al hs (k:=?_);intro Ep w hz hs
 refine Ja ?_
 have ho:=hs.AD rfl
 have hz:=ho.size
 have x6:=hs.get (b:=b6) (by repeat (first | exact At.head | (with_reducible apply At.tail)))
 have Hl:=hs.get (b:=Ep) (by repeat (first | exact At.head | (with_reducible apply At.tail)))
 have Ee:=h.only ho
 have hb:=hs.new _ List.mem_cons_self rfl
 simp only at hb
 refine cl (h:=by exact J5 cb c F _ Ee 95 [.pointer (some ⟨b6,0,none⟩)] [] (fun _=>True) (Aq c ns).1 (Aq c ns).2.1 (Aq c ns).2.2 (fun _ _ _ _ _ _=>trivial) (by simp) tT (fun w1 AJ=>gD b6 c ns _ w1 DZ (AJ.block x6 (by simp)) hTp tT)) (k:=?_)
 rintro v w2 ⟨rv,rfl,_,Hu,⟨F',hC',CV⟩,AN⟩
 obtain ⟨vg,vp,Gg,Gp,rfl,p1,p2⟩:=Hu
 obtain ⟨ag,cg,rfl⟩:=BO p1
 obtain ⟨ap,cp,rfl⟩:=BO p2
 have x2:=AN.block Hl (fun hm=>by obtain rfl:=List.mem_singleton.1 hm;exact Ee.not Hl rfl (by obtain ⟨_,_,rfl,_⟩:=Ee;simp))
 clear hs
 have hs:=(St.nil w2).AE x2
 repeat' (first|refine Sb ?_|(refine AU hs (k:=?_);intro w hs)|fail)
 refine AF ?_
 have AT:AA [Ep] w2 _:=hs.AB [Ep] (by simp) (by simp [D0])
 exact ⟨_,rfl,⟨_,_,Gg,Gp,rfl,p1.keep AT (fun k hk hm=>by obtain rfl:=List.mem_singleton.1 hm;exact BQ p1 x2 (by decide) hk),p2.keep AT (fun k hk hm=>by obtain rfl:=List.mem_singleton.1 hm;exact BQ p2 x2 (by decide) hk)⟩,⟨F',hC'.Ae AT (fun k hk hm=>by obtain rfl:=List.mem_singleton.1 hm;exact hC'.not x2 rfl hk),fun k hk=>by
  rcases CV k hk with h | h
  ·exact .inl h
  ·exact .inr om⟩,((ho.weaken (by simp)).step AN (fun k hk => .inl hk)).step AT (fun k hk => .inr (by obtain rfl:=List.mem_singleton.1 hk;exact hb))⟩
theorem aZ (p q:Pr):(By (.int .i64 p.id) (.int .i64 q.id) && (By (.int .u64 p.ns) (.int .u64 q.ns) && By (.bool p.done) (.bool q.done)))=decide (p=q):=by
 show ((p.id == q.id) && ((p.ns == q.ns) && (p.done == q.done)))=_
 obtain ⟨a,b,c⟩:=p
 obtain ⟨a',b',c'⟩:=q
 simp only [Pr.mk.injEq]
 by_cases h1:a=a' <;> by_cases h2:b=b' <;> by_cases h3:c=c' <;> simp [h1,h2,h3]
theorem rX (va vb:Value) (A B:List Pr) (hm:A.length≤9223372036854775807) (w0:World) (hA:Cn w0 168 3 va (A.map Pr.cells)) (hB:Cn w0 168 3 vb (B.map Pr.cells)) :
 AM Tryz.prog 232 #[va,vb] w0 fun v w'=>v = .bool (decide (A=B))∧AA [] w0 w':=by
 obtain ⟨SD,ca,rfl,hA⟩:=hA
 obtain ⟨SU,cb,rfl,hB⟩:=hB
 rw [List.length_map] at *
 rw [List.length_map] at *
 have hs:=St.nil w0
 refine AQ Tryz.func232 Tryz.ntmps232 (k:=?_)
 repeat' (first|refine Sa ?_|refine xc_cond rfl (fun hc=>?_) fun hc=>?_|fail)
 ·refine AF ?_
  refine ⟨congrArg Value.bool ?_,hs.AD rfl⟩
  have hne:A≠B:=fun e=>by subst e;simp at hc
  exact (decide_eq_false hne).symm
 ·have IX:A.length=B.length:=by
   have h:((A.length:Nat):Int)=B.length:=by simpa using hc
   omega
  refine BN (fun _:Unit=>[]) (fun _ w=>A=B∧AA [] w0 w) ?_ ?_
  ·refine BD (fun (i:Nat)=>[(0,.slice SD A.length ca),(1,.slice SU B.length cb),(12,.int .i64 (A.length:Nat)),(13,.int .i64 (i:Nat))])
    (fun i w=>i≤A.length∧A.take i=B.take i∧AA [] w0 w)
    (fun i=>A.length - i) 0 Ab ⟨Nat.zero_le _,by simp,hs.AD rfl⟩ fun i env w ⟨hi,ht,ho⟩=>?_
   clear hs
   have hs:=St.nil w
   repeat' (first|refine Sa ?_|refine Au rfl (fun hc=>?_) fun hc=>?_|fail)
   ·have hlt:i < A.length:=by omega
    have IA:i < B.length:=by omega
    obtain ⟨ba,oa,gJ,fa,rfl,a2,a3,a4⟩:=hA (fun h=>by have:=congrArg List.length h;rw [List.length_map,List.length_nil] at this;omega)
    obtain ⟨bb,ob,fH,fb,rfl,b2,b3,b4⟩:=hB (fun h=>by have:=congrArg List.length h;rw [List.length_map,List.length_nil] at this;omega)
    have ga:=a4 i _ (by rw [List.getElem?_map,List.getElem?_eq_getElem hlt];rfl)
    have gb:=b4 i _ (by rw [List.getElem?_map,List.getElem?_eq_getElem IA];rfl)
    have a3:=ho.block a3 (by simp)
    have b3:=ho.block b3 (by simp)
    have key:A[i]=B[i]→A.take (i+1)=B.take (i+1):=fun he=>by rw [List.take_add_one,List.take_add_one,ht,List.getElem?_eq_getElem hlt,List.getElem?_eq_getElem IA,he]
    have Ij:A[i]≠B[i]→A≠B:=fun h e=>h (by subst e;rfl)
    have ei:=D2 hlt hm
    generalize A[i]=x at *
    generalize B[i]=y at *
    by_cases e:ba=bb
    ·subst e
     rw [a3] at b3
     cases b3
     replace hs:=hs.AG a3 (by simp)
     refine dr [] hs (k:=?_);intro hX w hs
     refine tks 0 2 ?_
     refine tk 2 hX (hr:=fun w' hH=>BG AI rfl rfl rfl om om) (k:=?_)
     refine tk 3 hX (hr:=fun w' hH=>Dy AI rfl rfl (hH rfl) At.head ga) (k:=?_)
     refine tks 4 2 ?_
     refine tk 6 hX (hr:=fun w' hH=>BG AI rfl rfl rfl om om) (k:=?_)
     refine tk 7 hX (hr:=fun w' hH=>Dy AI rfl rfl (hH rfl) At.head gb) (k:=?_)
     refine tk 8 hX (k:=?_)
     refine en (k:=?_)
     repeat' (first|refine Sa ?_|refine xc_cond rfl (fun hc=>?_) fun hc=>?_|fail)
     ·rw [aZ] at hc
      refine AF ?_
      exact ⟨congrArg Value.bool (decide_eq_false (Ij (by simpa using hc))).symm,ho.step (hs.AB [] (by simp [a3]) (by simp [D0])) (by simp)⟩
     ·rw [aZ] at hc
      exact A2 (i+1) om (by (repeat (first | exact Ac | (apply A5;first | exact rfl | exact congrArg (Value.int .i64) ei)))) ⟨by omega,key (by simpa using hc),ho.step (hs.AB [] (by simp [a3]) (by simp [D0])) (by simp)⟩
    ·replace hs:=(hs.AG a3 (by simp)).AG b3 (by simpa using Ne.symm e)
     refine dr [] hs (k:=?_);intro hX w hs
     refine tks 0 2 ?_
     refine tk 2 hX (hr:=fun w' hH=>BG AI rfl rfl rfl om om) (k:=?_)
     refine tk 3 hX (hr:=fun w' hH=>Dy AI rfl rfl (hH rfl) (At.tail At.head) ga) (k:=?_)
     refine tks 4 2 ?_
     refine tk 6 hX (hr:=fun w' hH=>BG AI rfl rfl rfl om om) (k:=?_)
     refine tk 7 hX (hr:=fun w' hH=>Dy AI rfl rfl (hH rfl) At.head gb) (k:=?_)
     refine tk 8 hX (k:=?_)
     refine en (k:=?_)
     repeat' (first|refine Sa ?_|refine xc_cond rfl (fun hc=>?_) fun hc=>?_|fail)
     ·rw [aZ] at hc
      refine AF ?_
      exact ⟨congrArg Value.bool (decide_eq_false (Ij (by simpa using hc))).symm,ho.step (hs.AB [] (by simp [a3,b3]) (by simp [D0])) (by simp)⟩
     ·rw [aZ] at hc
      exact A2 (i+1) om (by (repeat (first | exact Ac | (apply A5;first | exact rfl | exact congrArg (Value.int .i64) ei)))) ⟨by omega,key (by simpa using hc),ho.step (hs.AB [] (by simp [a3,b3]) (by simp [D0])) (by simp)⟩
   ·have e:i=A.length:=by omega
    have SP:A=B:=by
     have h1:A.take i=A:=List.take_of_length_le om
     have h2:B.take i=B:=List.take_of_length_le om
     rw [← h1,ht,h2]
    exact Ar () Ab ⟨SP,ho.step (hs.AD rfl) (by simp)⟩
  ·rintro _ env w ⟨rfl,ho⟩
   clear hs
   have hs:=St.nil w
   refine Ja ?_
   refine AF ?_
   exact ⟨congrArg Value.bool (decide_eq_true rfl).symm,ho.step (hs.AD rfl) (by simp)⟩
end Go.Proofs.Q0
namespace Go.Proofs.Q0
open Go Go.RowKit
open IB (IT DB Bh)
attribute [local irreducible] XS XC XA AX AO A7 A0 AZ A8 Aa AV SE
def rk:RT:=⟨⟨⟨⟨3,0,1⟩,1,⟨5242883,0,1⟩⟩,5,5,false⟩,by decide⟩
theorem k1:newR ⟨3,0,1⟩ 1 5=some rk.1:=by kernel_rfl
theorem k2:Kt (IE 0) rk=0:=by kernel_rfl
theorem k3:(GM (IE 0) rk).l=[rk]:=by kernel_rfl
theorem k4:(MU (GM (IE 0) rk) 1 true).l=[HZ rk true]:=by kernel_rfl
theorem k5:RJ (GM (IE 0) rk) 1=0:=by kernel_rfl
theorem YI (w0:World) (ht:DF w0):AM Tryz.prog 251 #[] w0 fun v w'=>v = .bool true∧AA [] w0 w':=by
 have hs:=St.nil w0
 refine AQ Tryz.func251 Tryz.ntmps251 (k:=?_)
 refine Ja ?_
 refine cl (h:=by exact snew_ret 0 (by decide) _) (k:=?_)
 rintro v w1 ⟨⟨sb,F0,rfl,hS,Dm⟩,AJ⟩
 have Dm:∀ k∈F0,w0.heap.size≤k:=fun k hk=>by have:=Dm k hk;have:=hs.size;omega
 have JK:=AJ.size
 have hq:=hs.AK AJ
 have TC:=hq.AD rfl
 clear hs hq
 have hs:=St.nil w1
 refine Ja ?_
 refine cl (h:=by exact LU sb (IE 0) F0 _ hS (by decide)) (k:=?_)
 rw [show runN (IE 0).l=0 from rfl]
 rintro v w2 ⟨rfl,AN⟩;replace hs:=hs.AK AN
 refine Jd ?_
 refine cl (h:=by exact Kr ⟨3,0,1⟩ 1 5 (by decide) (by decide) (by decide) _) (k:=?_)
 rw [k1]
 rintro v w' ⟨rfl,ho⟩;replace hs:=hs.AK ho;repeat' (first|refine Sa ?_|(refine AU hs (k:=?_);intro w hs)|(refine al hs (k:=?_);intro b w hz hs)|fail)
 have Gf:=hS.only (hs.AD rfl)
 have hzw:=hs.size
 refine cl (h:=by exact enter_ret sb (IE 0) F0 rk _ Gf (by decide) (by decide) (by decide)) (k:=?_)
 rw [k2]
 rintro v w3 ⟨rfl,F1,I8,Ck,AT⟩
 replace hs:=hs.call AT (Gf.apart hs rfl) (by simp [D0])
 have QN:∀ k∈F1,w0.heap.size≤k:=fun k hk=>by
  rcases Ck k hk with h | h
  ·exact Dm k h
  ·omega
 have hm:∀ w',AA (F0 ++ []) w1 w'→AA [] w0 w':=fun w' ho=>TC.step ho (fun k hk=>by
  rw [List.append_nil] at hk
  exact .inr (Dm k hk))
 have hm2:∀ w',AA (F1 ++ (F0 ++ [])) w1 w'→AA [] w0 w':=fun w' ho=>TC.step ho (fun k hk=>by
  rw [List.append_nil,List.mem_append] at hk
  rcases hk with hk | hk
  ·exact .inr (QN k hk)
  ·exact .inr (Dm k hk))
 have e3:=k3
 have e4:=k4
 have e5:=k5
 generalize GM (IE 0) rk=s1 at *
 refine Ja ?_
 refine cl (h:=by exact YG _ (tab_only ht (hm _ hs.only))) (k:=?_)
 rintro v w4 ⟨rfl,Ao⟩;replace I8:=I8.only Ao;replace hs:=hs.AK Ao
 refine Jf ?_
 refine cl (h:=by exact LU sb s1 F1 _ I8 (by rw [e3];decide)) (k:=?_)
 rw [e3,show runN [rk]=1 from rfl]
 rintro v w5 ⟨rfl,BK⟩;replace I8:=I8.only BK;replace hs:=hs.AK BK
 refine Jf ?_
 refine cl (h:=by exact UH sb s1 F1 1 true _ I8 (by decide) (by rw [e3];decide)) (k:=?_)
 rw [e5]
 rintro v w6 ⟨rfl,UE,Ak⟩
 replace hs:=hs.call Ak (I8.apart hs rfl) (by simp [D0])
 refine Jf ?_
 refine cl (h:=by exact LU sb (MU s1 1 true) F1 _ UE (by rw [e4];decide)) (k:=?_)
 rw [e4,show runN [HZ rk true]=0 from rfl]
 rintro v w7 ⟨rfl,C1⟩;replace hs:=hs.AK C1
 refine Jc ?_
 refine AF ?_
 exact ⟨rfl,hm2 _ hs.only⟩
theorem YM (w0:World) (ht:DF w0):AM Tryz.prog 250 #[] w0 fun v w'=>v = .bool true∧AA [] w0 w':=by
 have hs:=St.nil w0
 refine AQ Tryz.func250 Tryz.ntmps250 (k:=?_)
 refine Ja ?_
 refine AY hs (h:=by exact YI _ ht) (k:=?_);intro w' ho hs;refine Jc ?_
 refine AF ?_
 exact ⟨rfl,hs.AD rfl⟩
def rs:RT:=HZ rk true
def Nc:Ss:=GM (IE 0) rs
def g17:Gn:=⟨1,0,rs.1⟩
theorem p1:Kt (IE 0) rs=0:=by kernel_rfl
theorem p2:Hy Nc=some g17:=by kernel_rfl
theorem p3:Nc.q.f 1=some (BW rs):=by kernel_rfl
theorem p4:Fx (BW rs) Nc.q.t:=fun _=>⟨by kernel_rfl,by kernel_rfl⟩
theorem p5:Hy (Gh Nc 1)=none:=by kernel_rfl
theorem p6:MN (Gh Nc 1).q=0:=by kernel_rfl
theorem f17:HR Nc [g17] (Gh Nc 1) := .step p2 p3 p4 (.done p5)
theorem Xl (w0:World) (ht:DF w0):AM Tryz.prog 241 #[] w0 fun v w'=>v = .bool true∧AA [] w0 w':=by
 have hs:=St.nil w0
 refine AQ Tryz.func241 Tryz.ntmps241 (k:=?_)
 refine Ja ?_
 refine cl (h:=by exact snew_ret 0 (by decide) _) (k:=?_)
 rintro v w1 ⟨⟨sb,F0,rfl,hS,Dm⟩,AJ⟩
 have Dm:∀ k∈F0,w0.heap.size≤k:=fun k hk=>by have:=Dm k hk;have:=hs.size;omega
 have JK:=AJ.size
 have hq:=hs.AK AJ
 have TC:=hq.AD rfl
 clear hs hq
 have hs:=St.nil w1
 refine Ja ?_
 refine cl (h:=by exact Kr ⟨3,0,1⟩ 1 5 (by decide) (by decide) (by decide) _) (k:=?_)
 rw [k1]
 rintro v w' ⟨rfl,ho⟩;replace hs:=hs.AK ho;repeat' (first|refine Sa ?_|(refine st hs (k:=?_);intro w hs)|(refine AU hs (k:=?_);intro w hs)|(refine al hs (k:=?_);intro b w hz hs)|fail)
 have Gf:=hS.only (hs.AD rfl)
 have hzw:=hs.size
 refine cl (h:=by exact enter_ret sb (IE 0) F0 rs _ Gf (by decide) (by decide) (by decide)) (k:=?_)
 rw [p1,show GM (IE 0) rs=Nc from rfl]
 rintro v w3 ⟨rfl,F1,I8,Ck,AT⟩
 replace hs:=hs.call AT (Gf.apart hs rfl) (by simp [D0])
 have QN:∀ k∈F1,w0.heap.size≤k:=fun k hk=>by
  rcases Ck k hk with h | h
  ·exact Dm k h
  ·omega
 have Aw:AA [] w0 w3:=TC.step hs.only (fun k hk=>by
  have hk:k∈F0 ++ []:=hk
  rw [List.append_nil] at hk
  exact .inr (Dm k hk))
 have e6:=p6
 have hf:=f17
 have hn:=(show Nc.l.length≤1000000 by decide)
 have hq:=(show Nc.q.t.list.length≤1000000 by decide)
 generalize Nc=s at *
 generalize Gh s 1=s' at *
 have N2:=Aw.size
 clear hs
 have hs:=St.nil w3
 refine Jd ?_
 refine cl (h:=by exact settle_ret sb s s' [g17] F1 _ I8 hn hq (by decide) hf) (k:=?_)
 rw [e6]
 rintro v w4 ⟨sl,rfl,⟨G,hG,Ds⟩,F2,Rz,DQ,Ao⟩
 have hL:=hG.ls (xs:=[g17.cells]) rfl rfl (by simp)
 obtain ⟨ad,cap,rfl,hD⟩:=hL
 obtain ⟨bb,off,cs,fz,rfl,_,wQ,hcs⟩:=hD (by simp)
 have hpk:=hcs 0 g17.cells rfl
 have B8:AA [] w0 w4:=Aw.step Ao (fun k hk => .inr (QN k hk))
 clear hs
 have hs:=St.nil w4
 refine Ja ?_
 refine cl (h:=by exact YM _ (tab_only ht B8)) (k:=?_)
 rintro v w5 ⟨rfl,BK⟩
 have Uy:=BK.block wQ (by simp)
 have EH:=B8.trans BK
 clear hs
 have hs:=St.nil w5
 refine Jf ?_
 refine ix (h0:=(by decide)) (h1:=(by decide)) (k:=?_)
 refine Jf ?_
 refine lh Uy (by cases hpk with | cons h _=>exact h) (k:=?_)
 refine Jf ?_
 refine ix (h0:=(by decide)) (h1:=(by decide)) (k:=?_)
 refine vs (k:=?_)
 have aAT:Dc cs (off+1) 2 [.int .i64 0,.int .u64 0]:=by
  cases hpk with | cons _ h=>cases h with | cons h1 h=>cases h with | cons h2 _=>exact .cons h1 (.cons h2 .nil)
 refine KH Uy aAT (k:=?_)
 skip
 refine AY hs (h:=by exact QG 0 (by decide) _) (k:=?_);intro w' ho hs;refine Jc ?_
 refine AF ?_
 exact ⟨rfl,EH.trans (hs.AD rfl)⟩
end Go.Proofs.Q0
