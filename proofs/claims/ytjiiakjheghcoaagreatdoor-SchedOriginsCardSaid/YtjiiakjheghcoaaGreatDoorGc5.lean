/- A part of the proof: what its functions compute. -/
import Derived.Test.YtjiiakjheghcoaaGreatDoorGc4
import Derived.Maps.OwnSet
set_option linter.unusedVariables false
set_option linter.unusedSimpArgs false
set_option maxRecDepth 100000
set_option maxHeartbeats 64000000
set_option linter.unusedSectionVars false
namespace Go.Proofs.Q0.IB
open Go Go.RowKit
attribute [local irreducible] XS XC XA AZ AP Aa A1 A0 A8 Ad AW SE
def I7 (l:List IT):RB IT:=l.foldl (fun t x=>RB.insert t x) .nil
theorem Q1 (l:List IT) (x:IT):I7 (l ++ [x])=RB.insert (I7 l) x:=by unfold I7;rw [List.foldl_append];rfl
theorem bM (t:RB IT) (x:IT):(RB.insert t x).list.length≤t.list.length+1:=by
 unfold RB.insert
 cases RB.has DK x t
 ·rw [cond_false,RB.JH,F7];exact Nat.le_refl _
 ·rw [cond_true];omega
theorem Nw (l:List IT):∀ i,(I7 (l.take i)).list.length≤i
 | 0=>by simp [I7,RB.list]
 | i+1=>by
   rcases Nat.lt_or_ge i l.length with h | h
   ·rw [C4 h,Q1]
    have:=Nw l i
    have:=bM (I7 (l.take i)) l[i]
    omega
   ·have:=Nw l i
    rw [List.take_of_length_le h] at this
    rw [List.take_of_length_le om]
    omega
theorem Ck.Ah {w w':World} {tb:Nat} {t:RB IT} {F G:List Nat} (h:Ck w tb t F) (ho:AA G w w') (hd:∀ k∈F,k∉G):Ck w' tb t F:=by
 obtain ⟨p,fp,rfl,h1,h2,h3⟩:=h
 exact ⟨p,fp,rfl,ho.block h1 (hd tb List.mem_cons_self),h2.Ah ho (fun k hk=>hd k (List.mem_cons_of_mem _ hk)),h3⟩
theorem Ck.only {w w':World} {tb:Nat} {t:RB IT} {F:List Nat} (h:Ck w tb t F) (ho:AA [] w w'):Ck w' tb t F:=h.Ah ho (by simp)
theorem Ck.lt {w:World} {tb:Nat} {t:RB IT} {F:List Nat} (h:Ck w tb t F):∀ b∈F,b < w.heap.size:=by
 obtain ⟨p,fp,rfl,h1,h2,h3⟩:=h
 intro b hb
 rcases List.mem_cons.1 hb with rfl | hb
 ·exact lt_of_block h1
 ·exact h2.nodes.lt b hb
theorem Ck.not {w:World} {tb:Nat} {t:RB IT} {F:List Nat} (h:Ck w tb t F) {b:Nat} {cs:Array Value} {ty:Nat} {fz:Nat × Nat} (hb:w.heap[b]?=some (.cells cs ty fz)) (h1:ty≠276) (h2:ty≠199):b∉F:=fun hm=>by
 obtain ⟨p,fp,rfl,k1,k2,k3⟩:=h
 rcases List.mem_cons.1 hm with rfl | hm
 ·exact A3 hb k1 h2 rfl
 ·obtain ⟨cs',jP,k4⟩:=k2.nodes b hm
  exact A3 hb k4 h1 rfl
theorem Q0 (l:List IT) (sl:Value) (hm:l.length≤1000000) (w0:World) (hP:DX w0 sl l) :
 AO Tryz.prog 136 #[sl] w0 fun v w'=>(∃ tb F,v = .agg #[.pointer (some ⟨tb,0,none⟩)]∧Ck w' tb (I7 l) F∧∀ k∈F,w0.heap.size≤k)∧AA [] w0 w':=by
 obtain ⟨ad,cap,rfl,hD⟩:=hP
 rw [List.length_map,List.length_map] at *
 have hs:=St.nil w0
 refine AR Tryz.func136 Tryz.ntmps136 (k:=?_)
 refine Ai ?_
 refine Ao ?_
 refine al hs (k:=?_);intro b2 w hz hs
 repeat' (first|refine Ao ?_|refine Nx.h ?_|fail)
 refine cl (h:=by exact Me _) (k:=?_)
 rintro v w1 ⟨⟨tb,F0,rfl,zL,EM⟩,ho⟩;replace hs:=hs.AN ho
 have n2:=hs.new (b2,true) (by simp) rfl
 simp only at n2
 have ED:=hs.get At.head
 have AK:AA [] w0 w1:=hs.AD rfl
 have Jq:=AK.size
 have DE:∀ k∈F0,w0.heap.size≤k:=fun k hk=>by have:=EM k hk;omega
 clear hs
 have hs:=(St.nil w1).AH ED (by simp)
 refine vs (k:=?_)
 refine al hs (k:=?_);intro b3 w3 OF hs
 repeat' (first|refine Sa ?_|(refine AU hs (k:=?_);intro w hs)|fail)
 have n3:=hs.new (b3,true) (by simp) rfl
 simp only at n3
 have AM:=hs.AB [] (by simp [ED]) (by simp [D0])
 refine BS (fun (_:Unit)=>[(2,.pointer (some ⟨b2,0,none⟩)),(3,.pointer (some ⟨b3,0,none⟩))])
  (fun _ w=>AA [] w0 w∧w.heap[b2]?=some (.cells #[.pointer none] 111 (0,0))∧w.heap[b3]?=some (.cells #[.pointer (some ⟨tb,0,none⟩)] 111 (0,0))∧∃ F,Ck w tb (I7 l) F∧∀ k∈F,w0.heap.size≤k) ?_ ?_
 ·refine BG (fun (i:Nat)=>[(2,.pointer (some ⟨b2,0,none⟩)),(3,.pointer (some ⟨b3,0,none⟩)),(8,.slice ad l.length cap),(9,.int .i64 (l.length:Nat)),(10,.int .i64 (i:Nat))])
   (fun i w=>i≤l.length∧AA [] w0 w∧w.heap[b2]?=some (.cells #[.pointer none] 111 (0,0))∧w.heap[b3]?=some (.cells #[.pointer (some ⟨tb,0,none⟩)] 111 (0,0))∧∃ F,Ck w tb (I7 (l.take i)) F∧∀ k∈F,w0.heap.size≤k)
   (fun i=>l.length - i) 0 Ae ⟨Nat.zero_le _,AK.step AM (by simp),hs.get (At.tail At.head),hs.get At.head,F0,zL.only AM,DE⟩ fun i env w ⟨hi,ho,h2,h3,F,hT,hF⟩=>?_
  clear hs AM
  have hs:=(St.nil w).AH h3 (by simp)
  repeat' (first|refine Sa ?_|refine Ax rfl (fun hc=>?_) fun hc=>?_|fail)
  ·have hlt:i < l.length:=by omega
   obtain ⟨b,off,cs,fz,rfl,_,hb,hcs⟩:=hD (fun h=>by have:=congrArg List.length h;rw [List.length_map,List.length_map,List.length_nil] at this;omega)
   have hpk:=hcs i (It.cells l[i].1) (by rw [List.getElem?_map,List.getElem?_map,List.getElem?_eq_getElem hlt];rfl)
   have ei:=Dl hlt (show l.length≤9223372036854775807 by omega)
   have OE:=Q1 (l.take i) l[i]
   rw [← C4 hlt] at OE
   have hlen:=Nw l i
   generalize l[i]=x at *
   refine ix (h0:=(by omega)) (h1:=(by omega)) (k:=?_)
   refine JQ (ho.block hb (by simp)) hpk (k:=?_)
   refine al hs (k:=?_);intro b5 w5 hz5 hs
   repeat' (first|refine Sa ?_|(refine AU hs (k:=?_);intro w hs)|fail)
   have AT:=hs.AB [] (by simp [h3]) (by simp [D0])
   refine cl (h:=by exact GO tb _ F x _ (hT.only AT) om) (k:=?_)
   rintro v w6 ⟨rfl,F',WJ,Cc,Aq⟩
   have k3:=Aq.block (hs.get (At.tail At.head)) ((hT.only AT).not (hs.get (At.tail At.head)) (by decide) (by decide))
   have k2:=Aq.block (AT.block h2 (by simp)) ((hT.only AT).not (AT.block h2 (by simp)) (by decide) (by decide))
   have OF:=AT.size
   have hzz:=ho.size
   clear hs
   have hs:=St.nil w6
   refine Ja ?_
   refine A4 (i+1) om (by (repeat (first | exact Ak | (apply Ac;first | exact rfl | exact congrArg (Value.int .i64) ei)))) ⟨by omega,(ho.step AT (by simp)).step (Aq.trans (hs.AD rfl)) (fun k hk=>?_),k2,k3,F',by rw [OE];exact WJ,fun k hk=>?_⟩
   ·rw [List.append_nil] at hk
    exact .inr (hF k hk)
   ·rcases Cc k hk with h | h
    ·exact hF k h
    ·omega
  ·have e:i=l.length:=by omega
   rw [e,List.take_length] at hT
   exact Au () Ae ⟨ho,h2,h3,F,hT,hF⟩
 ·rintro _ env w ⟨ho,h2,h3,F,hT,hF⟩
  clear hs AM
  by_cases g3:b3=b2
  ·subst g3;rw [h2] at h3;cases h3
  have hs:=((St.nil w).AH h3 (by simp)).AH h2 (by simpa using Ne.symm g3)
  repeat' (first|refine Sa ?_|(refine AU hs (k:=?_);intro w hs)|fail)
  refine AG ?_
  have Aw:=hs.AB [b2] (by simp [h3]) (by simp [D0])
  exact ⟨⟨tb,F,rfl,hT.Ah Aw (fun k hk hm=>by obtain rfl:=List.mem_singleton.1 hm;exact hT.not h2 (by decide) (by decide) hk),hF⟩,ho.step Aw (by simp [n2])⟩
theorem OV (id t d:Int) (w0:World):AO Tryz.prog 277 #[.int .i64 id,.int .u64 t,.int .u64 d] w0 fun v w'=>v=iv ⟨⟨t,0,1⟩,id,⟨d,0,1⟩⟩∧AA [] w0 w':=by
 have hs:=St.nil w0
 refine AR Tryz.func277 Tryz.ntmps277 (k:=?_)
 repeat' (first|refine Sa ?_|(refine AU hs (k:=?_);intro w hs)|(refine al hs (k:=?_);intro b w hz hs)|fail)
 refine AG ?_
 exact ⟨rfl,hs.AD rfl⟩
theorem yY (a:It) (w0:World):AO Tryz.prog 278 #[iv a] w0 fun v w'=>v = .bool (decide (a.p.t < 3))∧AA [] w0 w':=by
 have hs:=St.nil w0
 refine AR Tryz.func278 Tryz.ntmps278 (k:=?_)
 repeat' (first|refine Sa ?_|(refine bx hs (k:=?_);intro b w hz hs)|fail)
 refine AG ?_
 exact ⟨rfl,hs.AD rfl⟩
theorem Oy (tb:Nat) (t:RB IT) (F:List Nat) (w0:World) (h:Ck w0 tb t F) (fid:Nat) (caps:List Value) (q:IT→Bool)
 (hq:∀ (y:IT) (w:World),y∈t.list→AA [] w0 w→AO Tryz.prog fid (iv y.1 :: caps).toArray w fun v w'=>v = .bool (q y)∧AA [] w w') :
 AO Tryz.prog 228 #[.agg #[.pointer (some ⟨tb,0,none⟩)],.func (.func fid) #[] caps.toArray] w0 fun v w'=>v = .tuple #[iv (JT (Dd q t none)),.bool (Dd q t none).isSome]∧AA [] w0 w':=by
 have hs:=St.nil w0
 refine AR Tryz.func228 Tryz.ntmps228 (k:=?_)
 repeat' (first|refine Sa ?_|(refine al hs (k:=?_);intro b w hz hs)|(refine bx hs (k:=?_);intro b w hz hs)|fail)
 have ho:=hs.AD rfl
 refine AY hs (h:=by exact rP tb t F _ (h.only ho) fid caps q (fun y w hy hw=>hq y w hy (ho.step hw (by simp)))) (k:=?_);intro w' ho hs;repeat' (first|refine Sb ?_|(refine AU hs (k:=?_);intro w hs)|fail)
 refine AG ?_
 exact ⟨rfl,hs.AD rfl⟩
theorem bK (w0:World):AO Tryz.prog 280 #[] w0 fun v w'=>v = .bool true∧AA [] w0 w':=by
 have hs:=St.nil w0
 refine AR Tryz.func280 Tryz.ntmps280 (k:=?_)
 refine Ja ?_
 refine AY hs (h:=by exact cJ _) (k:=?_);intro w' ho hs;refine Jc ?_
 refine AG ?_
 exact ⟨rfl,hs.AD rfl⟩
def ex1:IT:=⟨⟨⟨1,0,1⟩,1,⟨9,0,1⟩⟩,by decide⟩
def ex2:IT:=⟨⟨⟨2,0,1⟩,2,⟨5,0,1⟩⟩,by decide⟩
def ex3:IT:=⟨⟨⟨3,0,1⟩,3,⟨4,0,1⟩⟩,by decide⟩
theorem its_arr {w:World} {b:Nat} {l:List IT} (hn:l.length=3) (hb:w.heap[b]?=some (.cells (Bt l).toArray 64 (0,0))):DX w (.slice (some ⟨b,0,none⟩) 3 3) l:=by
 have e:(Bt l).length=21:=by
  have:∀ l:List IT,(Bt l).length=7*l.length:=fun l=>by
   induction l with
   | nil=>rfl
   | cons a l ih=>unfold Bt at ih ⊢;rw [List.map_cons,List.flatten_cons,List.length_append,ih,show (a.1.cells).length=7 from rfl,List.length_cons];omega
  rw [this,hn]
 refine PT (G:=[b]) (.inr ⟨b,3,Bt l,by rw [hn],rfl,by omega,by rw [e],by rw [e,hn],?_,hb⟩)
 rw [hn]
 exact List.take_of_length_le (by rw [e];exact Nat.le_refl _)
theorem bX (w0:World):AO Tryz.prog 274 #[] w0 fun v w'=>v = .bool true∧AA [] w0 w':=by
 have hs:=St.nil w0
 refine AR Tryz.func274 Tryz.ntmps274 (k:=?_)
 refine Ja ?_
 refine AY hs (h:=by exact OV 1 1 9 _) (k:=?_);intro w' ho hs;skip
 refine AY hs (h:=by exact OV 2 2 5 _) (k:=?_);intro w' ho hs;skip
 refine AY hs (h:=by exact OV 3 3 4 _) (k:=?_);intro w' ho hs;repeat' (first|(refine bs hs (k:=?_);intro b w hz hs)|fail)
 refine cl (h:=by exact Q0 [ex1,ex2,ex3] _ (by decide) _ (its_arr rfl (hs.get At.head))) (k:=?_)
 rintro v w1 ⟨⟨tb,F,rfl,hT,hF⟩,ho⟩;replace hs:=hs.AN ho
 have AK:AA [] w0 w1:=hs.AD rfl
 clear hs
 have hs:=St.nil w1
 repeat' (first|refine Sa ?_|(refine AU hs (k:=?_);intro w hs)|(refine al hs (k:=?_);intro b w hz hs)|fail)
 refine cl (h:=by exact Oy tb _ F _ (hT.only (hs.AD rfl)) 278 [] (fun y=>decide (y.1.p.t < 3)) (fun y w _ _=>yY y.1 w)) (k:=?_)
 rw [show (Dd (fun y=>decide (y.1.p.t < 3)) (I7 [ex1,ex2,ex3]) none)=some ex2 from by kernel_rfl]
 rintro v w' ⟨rfl,ho⟩;replace hs:=hs.AN ho;repeat' (first|refine Sa ?_|(refine AU hs (k:=?_);intro w hs)|(refine al hs (k:=?_);intro b w hz hs)|fail)
 refine AY hs (h:=by exact fR _) (k:=?_);intro w' ho hs;refine Jf ?_
 refine AY hs (h:=by exact bK _) (k:=?_);intro w' ho hs;refine Jc ?_
 refine AG ?_
 exact ⟨rfl,AK.trans (hs.AD rfl)⟩
theorem cG (w0:World):AO Tryz.prog 272 #[] w0 fun v w'=>v = .bool true∧AA [] w0 w':=by
 have hs:=St.nil w0
 refine AR Tryz.func272 Tryz.ntmps272 (k:=?_)
 refine Ja ?_
 refine AY hs (h:=by exact bX _) (k:=?_);intro w' ho hs;refine Jc ?_
 refine AG ?_
 exact ⟨rfl,hs.AD rfl⟩
def MX (l r:RB IT) (c:Bool):Bool:=bif !l.red && !r.red then true else c
def R8 (x:IT):RB IT→Option (RB IT)
 | .nil=>none
 | .node l y r c=>RB.cut DK x (RB.node l y r c).list.length (.node l y r (MX l r c))
structure nY (w1:World) (b tb bq:Nat) (y:IT) (av:It) (pl pr:Option Addr) (n:Int) (x:IT) (q:Bool) (w:World):Prop where
 o:AA [b] w1 w
 hb:w.heap[b]?=some (Ei y av pl pr q)
 hT:w.heap[tb]?=some (C9 (some ⟨b,0,none⟩) n)
 hQ:w.heap[bq]?=some (bJ x.1)
theorem Va (tb:Nat) (t:RB IT) (F:List Nat) (x:IT) (t1:RB IT) (w0:World) (h:Ck w0 tb t F) (hd:RB.has DK x t=true→R8 x t=some t1∧t1.list.length+1=t.list.length) (hlen:t.list.length≤1000000) :
 AO Tryz.prog 221 #[.pointer (some ⟨tb,0,none⟩),iv x.1] w0 fun v w'=>v = .bool (RB.has DK x t)∧∃ F',Ck w' tb (bif RB.has DK x t then RB.blacken t1 else t) F'∧(∀ k∈F',k∈F∨w0.heap.size≤k)∧AA F w0 w':=by
 obtain ⟨p,fp,rfl,hT,ht,hnd⟩:=h
 have hs:=St.nil w0
 have YB:=lt_of_block hT
 have tJ:=ht.nodes.lt
 refine AR Tryz.func221 Tryz.ntmps221 (k:=?_);refine Ai ?_;refine Ao ?_;refine bx hs (k:=?_);intro bq wq MG hs;refine Ja ?_
 have JI:=hs.new (bq,true) (by simp) rfl
 simp only at JI
 have BP:=hs.AD rfl
 refine cl (h:=by exact Pp tb p _ t fp x _ (BP.block hT (by simp)) (ht.keep BP (AL.nil _) (by simp))) (k:=?_)
 rintro v w1 ⟨rfl,ho⟩;replace hs:=hs.AN ho
 have AK:=hs.AD rfl
 cases hh:RB.has DK x t
 ·rw [cond_false]
  refine Je ?_
  refine AG ?_
  have AK:=hs.AD rfl
  exact ⟨rfl,tb :: fp,Ck.only ⟨p,fp,rfl,hT,ht,hnd⟩ AK,fun k hk => .inl hk,AK.weaken (by simp)⟩
 ·rw [cond_true]
  obtain ⟨hd,MK⟩:=hd hh
  cases t with
  | nil=>cases hh
  | node l y r c =>
  unfold R8 at hd
  obtain ⟨b,av,pl,pr,fl,fr,rfl,rfl,hb,DF,hl,hr⟩:=ht
  have EK:=Ca hT hb
  have Bv:=head_keep hT AK (AL.nil _)
  have CN:=AK.block hb (by simp)
  have LU:=hl.keep AK (AL.nil _) (by simp)
  have Mv:=hr.keep AK (AL.nil _) (by simp)
  have hN1:AL w1 [b]:=AL.cons CN (AL.nil _)
  have OI:b∉fl∧b∉fr:=by simp only [List.nodup_cons,List.mem_append,not_or] at hnd;exact hnd.1
  have ZV:=hs.get At.head
  have VN:nY w1 b tb bq y av pl pr ((RB.node l y r c).list.length:Nat) x c w1:=⟨AA.refl _ _,CN,Bv,ZV⟩
  clear hs
  have hs:=((St.nil w1).AH Bv (by simp)).AH CN (by simpa using EK)
  have yF:IntKind.i64.wrap (((RB.node l y r c).list.length:Nat) - 1)=((t1.list.length:Nat):Int):=by
   rw [Ke om om]
   omega
  refine Jl ?_
  refine Bg (fun _:Unit=>[(0,.pointer (some ⟨tb,0,none⟩)),(3,.pointer (some ⟨bq,0,none⟩)),(28,.bool (!l.red && !r.red))]) (fun _ w=>AA [] w1 w) ?_ ?_
  ·refine Jk ?_
   refine AY hs (h:=by exact Bl l pl fl _ (LU.keep (hs.AB [] (by simp [Bv,CN]) (by simp [D0])) (AL.nil _) (by simp))) (k:=?_);intro w' ho hs
   cases hq:l.red
   ·refine Jf ?_
    refine AY hs (h:=by exact Bl r pr fr _ (Mv.keep (hs.AB [] (by simp [Bv,CN]) (by simp [D0])) (AL.nil _) (by simp))) (k:=?_);intro w' ho hs
    generalize r.red=q2
    refine Jc ?_
    exact AQ () Ae (hs.AB [] (by simp [Bv,CN]) (by simp [D0]))
   ·refine Jj ?_
    exact AQ () Ae (hs.AB [] (by simp [Bv,CN]) (by simp [D0]))
  clear hs
  rintro _ env wA BB
  have Rs:nY w1 b tb bq y av pl pr ((RB.node l y r c).list.length:Nat) x c wA:=⟨BB.weaken (by simp),BB.block CN (by simp),BB.block Bv (by simp),BB.block ZV (by simp)⟩
  refine Bg (fun _:Unit=>[(0,.pointer (some ⟨tb,0,none⟩)),(3,.pointer (some ⟨bq,0,none⟩))]) (fun _ w=>nY w1 b tb bq y av pl pr ((RB.node l y r c).list.length:Nat) x (MX l r c) w) ?_ ?_
  ·unfold MX
   cases hq:(!l.red && !r.red)
   ·refine Jg ?_
    exact AQ () Ae Rs
   ·have hs:=((St.nil wA).AH Rs.hT (by simp)).AH Rs.hb (by simpa using EK)
    repeat' (first|refine Sc ?_|(refine st hs (k:=?_);intro w hs)|fail)
    have AM:=hs.AB [b] (by simp [Rs.hT]) (by simp [D0])
    exact AQ () Ae ⟨Rs.o.step AM (fun k hk => .inl hk),hs.get At.head,hs.get (At.tail At.head),AM.block Rs.hQ (by simpa using A3 Rs.hQ Rs.hb (by decide))⟩
  clear Rs BB VN
  rintro _ env wB hI
  have n1:=A3 hI.hQ hI.hb (by decide)
  have n2:=A3 hI.hQ hI.hT (by decide)
  have htr:Ag wB (.node l y r (MX l r c)) (some ⟨b,0,none⟩) (b :: (fl ++ fr)):=⟨b,av,pl,pr,fl,fr,rfl,rfl,hI.hb,DF,LU.keep hI.o hN1 (fun k hk hm=>by obtain rfl:=List.mem_singleton.1 hm;exact OI.1 hk),Mv.keep hI.o hN1 (fun k hk hm=>by obtain rfl:=List.mem_singleton.1 hm;exact OI.2 hk)⟩
  have oB:AA (b :: (fl ++ fr)) w0 wB:=(AK.weaken (by simp)).step hI.o (fun k hk => .inl (by obtain rfl:=List.mem_singleton.1 hk;exact List.mem_cons_self))
  have hs:=((St.nil wB).AH hI.hT (by simp)).AH hI.hQ (by simpa using n2)
  refine Jb ?_
  refine dr [10] hs (k:=?_);intro hX w hs
  refine tks 0 7 ?_
  refine dt 7 hX (k:=?_)
  have AM:=hs.AB [] (by simp [hI.hT,hI.hQ]) (by simp [D0])
  have nW:=htr.keep AM (AL.nil _) (by simp)
  have CT:=hs.get (At.tail At.head)
  have SL:=hs.get At.head
  refine cl (h:=by exact Tp tb _ _ x _ _ t1 _ _ _ CT nW hnd (by simpa [RB.list] using hlen) hd) (k:=?_)
  rintro v w3 ⟨p',Ct,rfl,k1,k2,k3,k4⟩
  have o2:=oB.step AM (by simp)
  have Ox:=sub_up (fun k hk => .inl hk) k3 o2.size
  have k4':=o2.step k4 (fun k hk => .inl hk)
  have Fh:=head_keep CT k4 nW.nodes
  have GG:=k4.block SL (nodes_q nW.nodes SL)
  clear hs
  cases t1 with
  | nil =>
    obtain ⟨rfl,rfl⟩:=k1
    have hs:=((St.nil w3).AH Fh (by simp)).AH GG (by simpa using n2)
    refine Jb ?_
    refine dn (k:=?_)
    refine tks 8 2 ?_
    refine dt 10 hX (k:=?_)
    repeat' (first|refine Nx.h ?_|(refine st hs (k:=?_);intro w hs)|fail)
    refine dn (k:=?_)
    refine en (k:=?_)
    repeat' (first|refine Sd ?_|(refine st hs (k:=?_);intro w hs)|fail)
    refine AG ?_
    rw [yF] at hs
    have Aw:AA [tb] w3 _:=hs.AB [tb] (by simp [GG]) (by simp [D0])
    refine ⟨rfl,[tb],⟨none,[],rfl,hs.get (At.tail At.head),⟨rfl,rfl⟩,List.nodup_nil⟩,?_,?_⟩
    ·exact fun k hk => .inl (by obtain rfl:=List.mem_singleton.1 hk;exact List.mem_cons_self)
    ·exact (k4'.weaken (fun k hk=>List.mem_cons_of_mem _ hk)).step Aw (fun k hk => .inl (by obtain rfl:=List.mem_singleton.1 hk;exact List.mem_cons_self))
  | node l1 y1 r1 c1 =>
    obtain ⟨b',MY,Xo,Z8,QU,fr',rfl,rfl,hb',aBz,hl',hr'⟩:=k1
    have aBf:=Ca Fh hb'
    have aCr:=A3 hb' GG (by decide)
    have hs:=(((St.nil w3).AH Fh (by simp)).AH GG (by simpa using n2)).AH hb' (by simp [aBf,aCr])
    refine Jb ?_
    refine dn (k:=?_)
    refine tks 8 2 ?_
    refine dt 10 hX (k:=?_)
    repeat' (first|refine Nx.h ?_|(refine st hs (k:=?_);intro w hs)|fail)
    refine dn (k:=?_)
    refine en (k:=?_)
    repeat' (first|refine Sc ?_|(refine st hs (k:=?_);intro w hs)|fail)
    refine AG ?_
    rw [yF] at hs
    have Aw:AA [b',tb] w3 _:=hs.AB [b',tb] (by simp [GG]) (by simp [D0])
    have aAa:b'∉QU∧b'∉fr':=by
     simp only [List.nodup_cons,List.mem_append,not_or] at k2
     exact k2.1
    have UR:tb∉QU∧tb∉fr':=⟨(fun h=>by obtain ⟨_,_,h⟩:=hl'.nodes tb h;rw [Fh] at h;cases h),(fun h=>by obtain ⟨_,_,h⟩:=hr'.nodes tb h;rw [Fh] at h;cases h)⟩
    refine ⟨rfl,tb :: (b' :: (QU ++ fr')),⟨_,_,rfl,hs.get (At.tail (At.tail At.head)),⟨b',MY,Xo,Z8,QU,fr',rfl,rfl,hs.get At.head,aBz,Gm hl' Aw hb' Fh aAa.1 UR.1,Gm hr' Aw hb' Fh aAa.2 UR.2⟩,k2⟩,?_,?_⟩
    ·intro k hk
     rcases List.mem_cons.1 hk with rfl | hk
     ·exact .inl List.mem_cons_self
     ·rcases Ox k hk with h | h
      ·exact .inl (List.mem_cons_of_mem _ h)
      ·exact .inr h
    ·refine (k4'.weaken (fun k hk=>List.mem_cons_of_mem _ hk)).step Aw (fun k hk=>?_)
     simp only [List.mem_cons,List.not_mem_nil,or_false] at hk
     rcases hk with rfl | rfl
     ·rcases Ox k List.mem_cons_self with h | h
      ·exact .inl (List.mem_cons_of_mem _ h)
      ·exact .inr h
     ·exact .inl List.mem_cons_self
theorem Nl:∀ (t:RB IT) (p:Option Addr) (fp:List Nat) (w0:World) (h:Ag w0 t p fp),AO Tryz.prog 224 #[.pointer p] w0 fun v w'=>(∃ p' Ct,v = .pointer p'∧Ag w' t p' Ct∧Ct.Nodup∧∀ k∈Ct,w0.heap.size≤k)∧AA [] w0 w'
 | .nil,p,fp,w0,⟨hp,hf⟩=>by
   subst hp
   have hs:=St.nil w0
   refine AR Tryz.func224 Tryz.ntmps224 (k:=?_)
   refine Je ?_
   refine AG ?_
   exact ⟨⟨none,[],rfl,⟨rfl,rfl⟩,List.nodup_nil,fun k h=>by cases h⟩,hs.AD rfl⟩
 | .node l y r c,p,fp,w0,⟨b,av,pl,pr,fl,fr,hp,hf,hb,DF,hl,hr⟩=>by
   subst hp hf
   have hs:=(St.nil w0).AH hb (by simp)
   refine AR Tryz.func224 Tryz.ntmps224 (k:=?_)
   refine Jb ?_
   refine Ao ?_
   refine Jc ?_
   refine Ao ?_
   refine Jl ?_
   refine Ao ?_
   refine vs (k:=?_)
   refine vs (k:=?_)
   refine vs (k:=?_)
   refine al hs (k:=?_);intro b3 w hz hs
   repeat' (first|refine Nx.h ?_|(refine AU hs (k:=?_);intro w hs)|fail)
   have hnew:=hs.new (b3,true) (by simp) rfl
   refine dr [11,13] hs (k:=?_);intro hX w hs
   refine tks 0 4 ?_
   refine tks 5 4 ?_
   refine dt 4 hX (k:=?_)
   have AK:=hs.AB [] (by simp [hb]) (by simp [D0])
   have Gx:=hs.get At.head
   refine cl (h:=by exact Nl l pl fl _ (hl.keep AK (AL.nil _) (by simp))) (k:=?_)
   rintro v w1 ⟨⟨Xo,QU,rfl,hl',aCB,aA5⟩,ho⟩;replace hs:=hs.AN ho
   refine Jb ?_
   refine dn (k:=?_)
   refine dt 9 hX (k:=?_)
   have AM:=hs.AB [] (by simp [hb]) (by simp [D0])
   refine cl (h:=by exact Nl r pr fr _ (hr.keep AM (AL.nil _) (by simp))) (k:=?_)
   rintro v w2 ⟨⟨Z8,fr',rfl,hr',aCl,rI⟩,ho'⟩;replace hs:=hs.AN ho'
   have hl2:=hl'.keep ho' (AL.nil _) (by simp)
   have AT:=hs.AB [] (by simp [hb]) (by simp [D0])
   have hb4:=hs.get At.head
   have Vt:=hs.get (At.tail At.head)
   have aC6:=AK.size
   have hsz:=ho.size
   have aAw:=AM.size
   have hlt3:=lt_of_block Gx
   have d1:b3∉QU:=fun h=>by have:=aA5 b3 h;omega
   have d2:b3∉fr':=fun h=>by have:=rI b3 h;have:=hl'.nodes.lt;omega
   have d3:∀ i∈QU,∀ j∈fr',i≠j:=fun i hi j hj e=>by
    subst e
    have:=rI i hj
    have:=hl'.nodes.lt i hi
    omega
   have xY:b3≠b:=fun e=>by subst e;have:=lt_of_block hb;have:w0.heap.size≤b3:=hnew;omega
   refine Jb ?_
   refine dn (k:=?_)
   refine tk 10 hX (k:=?_)
   clear hs
   have hs:=((St.nil w2).AH Vt (by simp)).AH hb4 (by simpa using xY)
   refine dt 11 hX (k:=?_)
   repeat' (first|refine Nx.h ?_|(refine st hs (k:=?_);intro w hs)|fail)
   refine dn (k:=?_)
   refine tk 12 hX (k:=?_)
   refine dt 13 hX (k:=?_)
   repeat' (first|refine Nx.h ?_|(refine st hs (k:=?_);intro w hs)|fail)
   refine dn (k:=?_)
   refine en (k:=?_)
   refine Ja ?_
   refine AG ?_
   have Aw:AA [b3] w2 _:=hs.AB [b3] (by simp [Vt]) (by simp [D0])
   have hN:AL w2 [b3]:=AL.cons hb4 (AL.nil _)
   refine ⟨⟨_,b3 :: (QU ++ fr'),rfl,⟨b3,_,Xo,Z8,QU,fr',rfl,rfl,hs.get At.head,DF,hl2.keep Aw hN (fun k hk hm=>d1 (by obtain rfl:=List.mem_singleton.1 hm;exact hk)),hr'.keep Aw hN (fun k hk hm=>d2 (by obtain rfl:=List.mem_singleton.1 hm;exact hk))⟩,?_,?_⟩,AT.step Aw (fun k hk => .inr (by obtain rfl:=List.mem_singleton.1 hk;exact hnew))⟩
   ·simp only [List.nodup_cons,List.nodup_append,List.mem_append]
    exact ⟨fun h=>by rcases h with h | h;exact d1 h;exact d2 h,aCB,aCl,d3⟩
   ·intro k hk
    rcases List.mem_cons.1 hk with rfl | hk
    ·exact hnew
    ·rcases List.mem_append.1 hk with hk | hk
     ·have:=aA5 k hk;omega
     ·have:=rI k hk;omega
theorem Yh (tb:Nat) (t:RB IT) (F:List Nat) (w0:World) (h:Ck w0 tb t F):AO Tryz.prog 201 #[.pointer (some ⟨tb,0,none⟩)] w0 fun v w'=>(∃ Em F',v = .pointer (some ⟨Em,0,none⟩)∧Ck w' Em t F'∧∀ k∈F',w0.heap.size≤k)∧AA [] w0 w':=by
 obtain ⟨p,fp,rfl,hT,ht,hnd⟩:=h
 have hs:=(St.nil w0).AH hT (by simp)
 refine AR Tryz.func201 Tryz.ntmps201 (k:=?_)
 refine Jb ?_
 refine Ao ?_
 refine Jc ?_
 refine Ao ?_
 refine Jl ?_
 refine Ao ?_
 refine vs (k:=?_)
 refine vs (k:=?_)
 refine vs (k:=?_)
 refine al hs (k:=?_);intro b3 w hz hs
 repeat' (first|refine Sa ?_|(refine AU hs (k:=?_);intro w hs)|fail)
 have hnew:=hs.new (b3,true) (by simp) rfl
 have AK:=hs.AB [] (by simp [hT]) (by simp [D0])
 have Gx:=hs.get At.head
 have hlt3:=lt_of_block Gx
 refine cl (h:=by exact Nl t p fp _ (ht.keep AK (AL.nil _) (by simp))) (k:=?_)
 rintro v w1 ⟨⟨p',Ct,rfl,ht',hn',hg'⟩,ho⟩;replace hs:=hs.AN ho
 have hb4:=hs.get At.head
 have S3:=hs.get (At.tail At.head)
 have AM:=hs.AB [] (by simp [hT]) (by simp [D0])
 have EK:b3≠tb:=fun e=>by subst e;have:=lt_of_block hT;have:w0.heap.size≤b3:=hnew;omega
 have d1:b3∉Ct:=fun h=>by have:=hg' b3 h;omega
 clear hs
 have hs:=((St.nil w1).AH S3 (by simp)).AH hb4 (by simpa using EK)
 repeat' (first|refine Sa ?_|(refine st hs (k:=?_);intro w hs)|fail)
 refine AG ?_
 have Aw:AA [b3] w1 _:=hs.AB [b3] (by simp [S3]) (by simp [D0])
 refine ⟨⟨b3,b3 :: Ct,rfl,⟨p',Ct,rfl,hs.get At.head,ht'.Ah Aw (fun k hk hm=>d1 (by obtain rfl:=List.mem_singleton.1 hm;exact hk)),hn'⟩,fun k hk=>?_⟩,AM.step Aw (fun k hk => .inr (by obtain rfl:=List.mem_singleton.1 hk;exact hnew))⟩
 ·rcases List.mem_cons.1 hk with rfl | hk
  ·exact hnew
  ·have:=hg' k hk
   have:=AK.size
   omega
theorem bE (tb:Nat) (t:RB IT) (F:List Nat) (w0:World) (h:Ck w0 tb t F):AO Tryz.prog 153 #[.agg #[.pointer (some ⟨tb,0,none⟩)]] w0 fun v w'=>(∃ Em F',v = .agg #[.pointer (some ⟨Em,0,none⟩)]∧Ck w' Em t F'∧∀ k∈F',w0.heap.size≤k)∧AA [] w0 w':=by
 have hs:=St.nil w0
 refine AR Tryz.func153 Tryz.ntmps153 (k:=?_)
 refine Ai ?_
 refine Ao ?_
 refine bx hs (k:=?_);intro b1 w hz hs
 refine al hs (k:=?_);intro b2 w MF hs
 refine Ja ?_
 have ho:=hs.AD rfl
 have n2:=hs.new (b2,true) (by simp) rfl
 simp only at n2
 have hd:=hs.nd
 simp only [List.map_cons,List.nodup_cons,List.mem_cons,List.map_nil,List.not_mem_nil,or_false] at hd
 refine cl (h:=by exact Yh tb t F _ (h.only ho)) (k:=?_)
 rintro v w1 ⟨⟨Em,F',rfl,h1,h2⟩,ho'⟩;replace hs:=hs.AN ho'
 have hz:=ho.size
 have AK:=hs.AD rfl
 have CN:=hs.get (At.tail At.head)
 have ED:=hs.get At.head
 clear hs
 have hs:=((St.nil w1).AH CN (by simp)).AH ED (by simpa using hd.1)
 repeat' (first|refine Sb ?_|(refine AU hs (k:=?_);intro w hs)|fail)
 refine AG ?_
 have AM:=hs.AB [b2] (by simp [CN]) (by simp [D0])
 exact ⟨⟨Em,F',rfl,h1.Ah AM (fun k hk hm=>by obtain rfl:=List.mem_singleton.1 hm;exact h1.not ED (by decide) (by decide) hk),fun k hk=>by have:=h2 k hk;omega⟩,AK.step AM (by simp [n2])⟩
end Go.Proofs.Q0.IB
namespace Go.Proofs.Q0
open Go Go.RowKit Go.Maps
def SJ (v:Value):Option (DataW Value × List MemPlace):=some (.held v,[])
def KG (i:Int):Lit := .int .i64 i
def CK (w:World) (b:Nat) (f:Int→Option Value) (c:Nat):Prop :=
 ∃ D:DataW Value,w.ownsMap Tryz.prog 3 SJ b c D∧Maps.size D=c∧∀ i,In64 i→Maps.has D (KG i)=(f i).isSome∧∀ z,D.atKey (KG i) (.held z) = .held ((f i).getD z)
theorem Nt:Keyed Tryz.prog 3:=int_keyed (q := .i64) (by kernel_rfl)
theorem key_of {i:Int} (h:In64 i):keyOf Tryz.prog 3 (.int .i64 i)=some (KG i):=keyOf_int_mk (q := .i64) (by kernel_rfl) (by
 show (decide (IntKind.i64.min≤i) && decide (i≤IntKind.i64.max))=true
 have e1:IntKind.i64.min=-9223372036854775808:=rfl
 have e2:IntKind.i64.max=9223372036854775807:=rfl
 obtain ⟨h1,h2⟩:=h
 rw [e1,e2,decide_eq_true h1,decide_eq_true (show i≤9223372036854775807 by omega)];rfl)
theorem AA.YD {w w':World} {b:Nat} (h:w.grownBy w' (some b)):AA [b] w w':=by
 obtain ⟨h1,h2,h3,h4,h5⟩:=h
 exact ⟨h1,h2,h3,h4,fun k hk hn=>h5 k hk (fun e=>hn (by cases e;exact List.mem_singleton.2 rfl))⟩
theorem CK.keep {w w':World} {b c:Nat} {f:Int→Option Value} {F:List Nat} (h:CK w b f c) (ho:AA F w w') (hb:b∉F):CK w' b f c:=by
 obtain ⟨D,⟨es,clock,h1,h2⟩,h3⟩:=h
 exact ⟨D,⟨es,clock,ho.block h1 hb,h2⟩,h3⟩
theorem CK.lt {w:World} {b c:Nat} {f:Int→Option Value} (h:CK w b f c):b < w.heap.size:=by
 obtain ⟨D,⟨es,clock,h1,h2⟩,h3⟩:=h
 exact lt_of_block h1
theorem CK.ne {w:World} {b c:Nat} {f:Int→Option Value} (h:CK w b f c) {b':Nat} {cs:Array Value} {t:Nat} {fz:Nat × Nat} (hb:w.heap[b']?=some (.cells cs t fz)):b'≠b:=fun e=>by
 subst e
 obtain ⟨D,⟨es,clock,h1,h2⟩,h3⟩:=h
 rw [h1] at hb;cases hb
theorem CK.made (w:World):CK (w.alloc (.map #[] 0)) w.heap.size (fun _=>none) 0 :=
 ⟨.map [],World.ownsMap_made _ _ _ _,rfl,fun i hi=>⟨rfl,fun z=>rfl⟩⟩
def JP (f:Int→Option Value) (i:Int) (v:Option Value):Int→Option Value:=fun j=>bif decide (j=i) then v else f j
theorem key_ne {i j:Int} (h:j≠i):KG j≠KG i:=fun e=>by
 unfold KG at e
 injection e with _ e
 exact h e
theorem kX (i:Int) (h:In64 i):WideAt.IsKeyLit (KG i):=(Nt.key (key_of h))
section
variable {w : World} {b c : Nat} {f : Int → Option Value} {t e : Nat} {z v : Value} {i : Int}
theorem CK.look (h:CK w b f c) (ht:Tryz.prog.underlying t=some (.map 3 e)) (hz:(zeroValue e).run Tryz.prog w = .ok z w) (hi:In64 i):(Instr.lookup t (.map (some b)) (.int .i64 i) true).run Tryz.prog w = .ok (.tuple #[(f i).getD z,.bool (f i).isSome]) w:=by
 obtain ⟨D,h1,h2,h3⟩:=h
 obtain ⟨v,ps,hr,hv⟩:=h1.look_ok Nt ht hz (zd := .held z) (zp:=[]) rfl (key_of hi)
 obtain ⟨h4,h5⟩:=h3 i hi
 have e1:DataW.held v=D.atKey (KG i) (.held z):=by
  unfold SJ at hv;simp only [Option.some.injEq,Prod.mk.injEq] at hv;exact hv.1
 rw [h5 z] at e1
 injection e1 with e1
 rw [hr,show Maps.has D (KG i)=(f i).isSome from h4,e1]
theorem CK.aBV (h:CK w b f c) (ht:Tryz.prog.underlying t=some (.map 3 e)) (hz:(zeroValue e).run Tryz.prog w = .ok z w) (hi:In64 i):(Instr.lookup t (.map (some b)) (.int .i64 i) false).run Tryz.prog w = .ok ((f i).getD z) w:=by
 obtain ⟨D,h1,h2,h3⟩:=h
 obtain ⟨v,ps,hr,hv⟩:=h1.lookup Nt ht hz (zd := .held z) (zp:=[]) rfl (key_of hi)
 obtain ⟨h4,h5⟩:=h3 i hi
 have e1:DataW.held v=D.atKey (KG i) (.held z):=by
  unfold SJ at hv;simp only [Option.some.injEq,Prod.mk.injEq] at hv;exact hv.1
 rw [h5 z] at e1
 injection e1 with e1
 rw [hr,e1]
theorem Q4 {D:DataW Value} {n:Nat} (h:w.ownsMap Tryz.prog 3 SJ b n D):w.ownsMap Tryz.prog 3 SJ b (Maps.size D) D:=by
 obtain ⟨es,clock,h1,h2,h3,h4⟩:=h
 refine ⟨es,clock,h1,h2,?_,h4⟩
 rw [h4]
 simp [Maps.size,length_sorted]
theorem CK.store (h:CK w b f c) (ht:Tryz.prog.underlying t=some (.map 3 e)) (hi:In64 i) (hc:c < maxLen):∃ w',(Instr.mapUpdate t (.map (some b)) (.int .i64 i) v).run Tryz.prog w = .ok () w'∧CK w' b (JP f i (some v)) (if (f i).isSome then c else c+1)∧AA [b] w w':=by
 obtain ⟨D,h1,h2,h3⟩:=h
 obtain ⟨w',hr,h4,h5⟩:=h1.store Nt ht hc (d := .held v) (ps:=[]) (val:=v) (key_of hi) rfl
 have hT:=h1.tidy Nt
 have hs:Maps.size (D.put (KG i) (.held v))=if (f i).isSome then c else c+1:=by rw [size_put hT,(h3 i hi).1,h2]
 refine ⟨w',hr,⟨_,by rw [← hs];exact Q4 h4,hs,fun j hj=>?_⟩,AA.YD h5.grown⟩
 by_cases e1:j=i
 ·subst e1
  unfold JP
  rw [decide_eq_true rfl,cond_true]
  exact ⟨has_put_same h1.isMap (kX j hj) _,fun z=>atKey_put_same h1.isMap (kX j hj) _ _⟩
 ·unfold JP
  rw [decide_eq_false e1,cond_false,has_put_other (key_ne e1)]
  exact ⟨(h3 j hj).1,fun z=>by rw [atKey_put_other (key_ne e1)];exact (h3 j hj).2 z⟩
theorem CK.drop (h:CK w b f c) (ht:Tryz.prog.underlying t=some (.map 3 e)) (hi:In64 i) (ty:Nat):∃ w',(Builtin.delete_ #[t,3] ty #[.map (some b),.int .i64 i]).run Tryz.prog w = .ok (.tuple #[]) w'∧CK w' b (JP f i none) (if (f i).isSome then c - 1 else c)∧AA [b] w w':=by
 obtain ⟨D,h1,h2,h3⟩:=h
 obtain ⟨w',hr,h4,h5⟩:=h1.drop Nt ht (key_of hi) ty
 have hT:=h1.tidy Nt
 have hs:Maps.size (D.del (KG i))=if (f i).isSome then c - 1 else c:=by
  have:=size_del (k:=KG i) hT
  rw [(h3 i hi).1,h2] at this
  split at this <;> rename_i hx <;> simp only [hx,if_true,if_false,Bool.false_eq_true] <;> omega
 refine ⟨w',hr,⟨_,by rw [← hs];exact Q4 h4,hs,fun j hj=>?_⟩,AA.YD h5.grown⟩
 by_cases e1:j=i
 ·subst e1
  unfold JP
  rw [decide_eq_true rfl,cond_true]
  exact ⟨has_del_same,fun z=>atKey_del_same _⟩
 ·unfold JP
  rw [decide_eq_false e1,cond_false,has_del_other (key_ne e1)]
  exact ⟨(h3 j hj).1,fun z=>by rw [atKey_del_other (key_ne e1)];exact (h3 j hj).2 z⟩
end
end Go.Proofs.Q0
namespace Go.Proofs.Q0
open Go Go.RowKit
section
variable {ops : Array Oper} {QE : Exit → Env → World → Prop} {n : Nat} {rest : List Oper} {env : Env} {w wb : World} {D : Ctx} {H : List CB} {d : Option Nat} {ty : Nat} {pos : String} {Ap : Array Edge} {g : Option (Nat × Bool)}
theorem zero_run {e:Nat} {z:Value} (h:(Tryz.prog.info? e).bind (·.zero)=some z) (w:World):(zeroValue e).run Tryz.prog w = .ok z w:=by
 obtain ⟨i,hi,hz⟩:=Option.bind_eq_some_iff.1 h
 simp [zeroValue,Sem.run_bind,CL hi,hz]
theorem KB {t e b c:Nat} {f:Int→Option Value} {x y:Operand} {i:Int} {z:Value} (hM:CK w b f c) (hi:In64 i) (hz:(Tryz.prog.info? e).bind (·.zero)=some z) (ht:Tryz.prog.underlying t=some (.map 3 e)) (hw:BD ops env g=true:=by exact rfl) (hx:ev env x = .map (some b):=by exact rfl) (hy:ev env y = .int .i64 i:=by exact rfl)
 (k:XS Tryz.prog ops QE n rest (CD env d (.tuple #[(f i).getD z,.bool (f i).isSome])) w):XS Tryz.prog ops QE n (⟨d,.lookup t x y true,ty,pos,Ap,g⟩ :: rest) env w :=
 xs_val hw (by simp [execOp,hx,hy,Sem.run_bind,hM.look ht (zero_run hz w) hi]) k
theorem Wx {t e b c:Nat} {f:Int→Option Value} {x y:Operand} {i:Int} {z:Value} (hM:CK w b f c) (hi:In64 i) (hz:(Tryz.prog.info? e).bind (·.zero)=some z) (ht:Tryz.prog.underlying t=some (.map 3 e)) (hw:BD ops env g=true:=by exact rfl) (hx:ev env x = .map (some b):=by exact rfl) (hy:ev env y = .int .i64 i:=by exact rfl)
 (k:XS Tryz.prog ops QE n rest (CD env d ((f i).getD z)) w):XS Tryz.prog ops QE n (⟨d,.lookup t x y false,ty,pos,Ap,g⟩ :: rest) env w :=
 xs_val hw (by simp [execOp,hx,hy,Sem.run_bind,hM.aBV ht (zero_run hz w) hi]) k
theorem OQ {t e b c:Nat} {f:Int→Option Value} {x y u:Operand} {i:Int} {v:Value} (hM:CK w b f c) (hi:In64 i) (hc:c < maxLen) (ht:Tryz.prog.underlying t=some (.map 3 e)) (hw:BD ops env g=true:=by exact rfl) (hx:ev env x = .map (some b):=by exact rfl) (hy:ev env y = .int .i64 i:=by exact rfl) (hu:ev env u=v:=by exact rfl)
 (k:∀ w',CK w' b (JP f i (some v)) (if (f i).isSome then c else c+1)→AA [b] w w'→XS Tryz.prog ops QE n rest (CD env d undef) w'):XS Tryz.prog ops QE n (⟨d,.mapUpdate t x y u,ty,pos,Ap,g⟩ :: rest) env w:=by
 obtain ⟨w',hr,h1,h2⟩:=hM.store (v:=v) ht hi hc
 exact XS.Tr hw (by simp [execOp,hx,hy,hu,Sem.run_bind,hr]) (k w' h1 h2)
theorem VL {t e b c:Nat} {f:Int→Option Value} {x y:Operand} {i:Int} (hM:CK w b f c) (hi:In64 i) (ht:Tryz.prog.underlying t=some (.map 3 e)) (hw:BD ops env g=true:=by exact rfl) (hx:ev env x = .map (some b):=by exact rfl) (hy:ev env y = .int .i64 i:=by exact rfl)
 (k:∀ w',CK w' b (JP f i none) (if (f i).isSome then c - 1 else c)→AA [b] w w'→XS Tryz.prog ops QE n rest (CD env d (.tuple #[])) w'):XS Tryz.prog ops QE n (⟨d,.call { callee := .builtin .delete,args:=#[x,y],argTypes:=#[t,3] },ty,pos,Ap,g⟩ :: rest) env w:=by
 obtain ⟨w',hr,h1,h2⟩:=hM.drop ht hi ty
 exact XS.value hw (v := .tuple #[]) (w':=w') (by simp [execOp,resolve,Sem.run_bind,invoke,builtin,hx,hy,hr]) (k w' h1 h2)
theorem Uw {t:Nat} (hw:BD ops env g=true:=by exact rfl)
 (k:∀ b w',AA [] w w'→CK w' b (fun _=>none) 0→w.heap.size≤b→XS Tryz.prog ops QE n rest (CD env d (.map (some b))) w'):XS Tryz.prog ops QE n (⟨d,.makeMap t none,ty,pos,Ap,g⟩ :: rest) env w :=
 XS.value hw (v := .map (some w.heap.size)) (w':=w.alloc (.map #[] 0)) (by simp [execOp,Sem.run_bind,run_makeMap]) (k _ _ (((St.nil w).alloc _).AD rfl) (CK.made w) (Nat.le_refl _))
end
end Go.Proofs.Q0
namespace Go.Proofs.Q0
open Go Go.RowKit
attribute [local irreducible] XS XC XA AZ AP Aa A1 A0 A8 Ad AW SE
def wdV (o:Option Int):Value := .tuple #[wv (o.getD 0),.bool o.isSome]
def HM (m:Mn) (p:Pt):Int:=m.a*p.w - dist p m.b*m.w
def GI (m:Mn) (p:Pt):Option Int:=if m.right=true∧m.n≠0∧p.right=true∧A7 (m.a*p.w)∧A7 (HM m p) then some (HM m p) else none
theorem nH {m:Mn} {p:Pt}:A7 ((GI m p).getD 0):=by
 unfold GI;split
 ·rename_i h;exact h.2.2.2.2
 ·decide
theorem KW {x:Int} (h:In64 x):IntKind.i64.wrap x=x:=by rw [wrap_i64];unfold In64 at h;omega
theorem ZN {m:Mn} {p:Pt} (hp:p.In) (h5:m.right=true) (h6:p.right=true):A7 (dist p m.b*m.w)∧-(9671406556917033397649408+1048576)≤dist p m.b∧dist p m.b≤9671406556917033397649408+1048576:=by
 have h5:=Cx.1 h5
 have h6:=Er.1 h6
 have h7:=sn_rng p.t m.b
 have h8:=mul_rng (w:=p.w) (s:=sn p.t m.b) (W:=1048576) (S:=9223372036854775808) om om om om
 have hr:=hp.2.1.1
 have h9:-(9671406556917033397649408+1048576)≤dist p m.b∧dist p m.b≤9671406556917033397649408+1048576:=by unfold dist;omega
 have h10:=mul_rng (w:=m.w) (s:=dist p m.b) (W:=33554432) (S:=9671406556917033397649408+1048576) om om h9.1 h9.2
 have e:=Int.mul_comm (dist p m.b) m.w
 exact ⟨by unfold A7;rw [e];omega,h9⟩
theorem Xd (m:Mn) (p:Pt) (hm:m.In) (hp':p.In) (w0:World):AO Tryz.prog 128 #[mv m,pv p] w0 fun v w'=>v=wdV (GI m p)∧AA [] w0 w':=by
 have hs:=St.nil w0
 refine AR Tryz.func128 Tryz.ntmps128 (k:=?_)
 repeat' (first|refine Sa ?_|(refine al hs (k:=?_);intro b w hz hs)|(refine bx hs (k:=?_);intro b w hz hs)|fail)
 refine AY hs (h:=by exact Fm m _) (k:=?_);intro w' ho hs;repeat' (first|refine Se ?_|(refine AU hs (k:=?_);intro w hs)|((with_reducible apply B6);exact rfl;exact rfl;intro c hc;(fail_if_success have:true=c:=hc);(fail_if_success have:false=c:=hc);cases c)|fail)
 ·refine AY hs (h:=by exact Fe p _) (k:=?_);intro w' ho hs;repeat' (first|refine Sa ?_|(refine AU hs (k:=?_);intro w hs)|refine xc_cond rfl (fun hc=>?_) fun hc=>?_|fail)
  ·refine AG ?_
   refine ⟨?_,hs.AD rfl⟩
   have:GI m p=none:=by unfold GI;rw [if_neg (fun h=>absurd h.2.2.1 (by simpa using hc))]
   rw [this];rfl
  ·have h1:m.right=true:=by simpa using ‹(!m.right)=false›
   have h2:p.right=true:=by simpa using hc
   have h3:m.n≠0:=by simpa using ‹(m.n == 0)=false›
   have h5:=Cx.1 h1
   have h6:=Er.1 h2
   have h7:=ZN (m:=m) hp' h1 h2
   have e1:IntKind.i64.wrap p.w=p.w:=KW ⟨by omega,by omega⟩
   have e2:IntKind.i64.wrap m.w=m.w:=KW ⟨by omega,by omega⟩
   refine cl (h:=by exact dJ m.a (IntKind.i64.wrap p.w) hm.2.1 (by rw [e1];exact ⟨by omega,by omega⟩) _) (k:=?_)
   rw [e1]
   rintro v w' ⟨rfl,ho⟩;replace hs:=hs.AN ho;repeat' (first|refine Sb ?_|(refine AU hs (k:=?_);intro w hs)|(refine al hs (k:=?_);intro b w hz hs)|fail)
   refine dr [] hs (k:=?_);intro hX w hs
   refine tks 0 3 ?_
   refine tks 4 3 ?_
   refine HO 11 8 hs (k:=?_);intro f X w hp;have hs:=hp.st
   apply BM 3 11 (f:=f) (X:=X) hX hp;exact rfl;exact rfl;(apply AS AJ;exact rfl);kernel_rfl;kernel_rfl;kernel_rfl;kernel_rfl;(intro X Y;(repeat (first | exact A6 | refine A5 ?_ (by exact rfl))));(intro w' hs;first|exact AI hs.hold|exact AI hs.hold.tail|exact A9 rfl);intro f X w hp;have hs:=hp.st
   refine cl (h:=by exact Np p m.b hp' _) (k:=?_)
   rintro v w' ⟨rfl,ho⟩;replace hp:=hp.only ho;replace hs:=hp.st;refine Jb ?_
   refine dn (k:=?_)
   apply BM 7 11 (f:=f) (X:=X) hX hp;exact rfl;exact rfl;(apply AS AJ;exact rfl);kernel_rfl;kernel_rfl;kernel_rfl;kernel_rfl;(intro X Y;(repeat (first | exact A6 | refine A5 ?_ (by exact rfl))));(intro w' hs;first|exact AI hs.hold|exact AI hs.hold.tail|exact A9 rfl);intro f X w hp;have hs:=hp.st
   refine cl (h:=by exact XL (dist p m.b) (IntKind.i64.wrap m.w) (dist_in hp' _) (by rw [e2];omega) (by rw [e2];omega) (by rw [e2];exact h7.1) _) (k:=?_)
   rw [e2]
   rintro v w' ⟨rfl,ho⟩;replace hp:=hp.only ho;replace hs:=hp.st;refine Jb ?_
   refine dn (k:=?_)
   refine tk 8 hX (hc:=by cases f <;> kernel_rfl) (k:=?_)
   refine tk 9 hX (hc:=by cases f <;> kernel_rfl) (k:=?_)
   refine tk 10 hX (hc:=by cases f <;> kernel_rfl) (k:=?_)
   apply Bi 11 (f:=f) (X:=X) hX hp;exact rfl;(apply AS AJ;exact rfl);kernel_rfl;kernel_rfl;(intro X Y;(repeat (first | exact A6 | refine A5 ?_ (by exact rfl))));(intro w' hs;first|exact AI hs.hold|exact AI hs.hold.tail|exact A9 rfl);intro b w hI hs
   refine dt 12 hX (k:=?_)
   repeat' (first|refine Nx.h ?_|(refine AU hs (k:=?_);intro w hs)|fail)
   refine dn (k:=?_)
   refine tk 13 hX (k:=?_)
   refine en (k:=?_)
   refine Ja ?_
   refine AY hs (h:=by exact V5 (tot (m.a*p.w)) (dist p m.b*m.w) (tot_in _) h7.1 _) (k:=?_);intro w' ho hs;repeat' (first|refine Se ?_|(refine AU hs (k:=?_);intro w hs)|(refine al hs (k:=?_);intro b w hz hs)|((with_reducible apply B6);exact rfl;exact rfl;intro c hc;(fail_if_success have:true=c:=hc);(fail_if_success have:false=c:=hc);cases c)|refine xc_cond rfl (fun hc=>?_) fun hc=>?_|fail)
   ·have h8:A7 (m.a*p.w):=by simpa using ‹(!decide (A7 (m.a*p.w)))=false›
    have e3:tot (m.a*p.w)=m.a*p.w:=if_pos h8
    refine AG ?_
    refine ⟨?_,hs.AD rfl⟩
    rw [e3] at hc
    have h9:¬ A7 (HM m p):=by unfold HM;simpa using hc
    have:GI m p=none:=by unfold GI;rw [if_neg (fun h=>h9 h.2.2.2.2)]
    rw [this];rfl
   ·have h8:A7 (m.a*p.w):=by simpa using ‹(!decide (A7 (m.a*p.w)))=false›
    have e3:tot (m.a*p.w)=m.a*p.w:=if_pos h8
    refine AG ?_
    refine ⟨?_,hs.AD rfl⟩
    rw [e3] at hc
    have h9:A7 (HM m p):=by unfold HM;simpa using hc
    have:GI m p=some (HM m p):=by unfold GI;rw [if_pos ⟨h1,h3,h2,h8,h9⟩]
    have e4:tot (m.a*p.w - dist p m.b*m.w)=HM m p:=if_pos h9
    rw [this,e3,e4];rfl
   ·refine AG ?_
    refine ⟨?_,hs.AD rfl⟩
    have h8:¬ A7 (m.a*p.w):=by simpa using hc
    have:GI m p=none:=by unfold GI;rw [if_neg (fun h=>h8 h.2.2.2.1)]
    rw [this];rfl
 ·refine AG ?_
  refine ⟨?_,hs.AD rfl⟩
  have:GI m p=none:=by unfold GI;rw [if_neg (fun h=>h.2.1 (by simpa using hc))]
  rw [this];rfl
 ·refine AG ?_
  refine ⟨?_,hs.AD rfl⟩
  have:GI m p=none:=by unfold GI;rw [if_neg (fun h=>absurd h.1 (by simpa using hc))]
  rw [this];rfl
theorem VA (m:Mn) (p:Pt) (hm:m.In) (hp':p.In) (w0:World):AO Tryz.prog 138 #[mv m,pv p] w0 fun v w'=>v = .tuple #[.int .i64 (C6 ((GI m p).getD 0) 0),.bool (GI m p).isSome]∧AA [] w0 w':=by
 have hs:=St.nil w0
 refine AR Tryz.func138 Tryz.ntmps138 (k:=?_)
 repeat' (first|refine Sa ?_|(refine bx hs (k:=?_);intro b w hz hs)|fail)
 refine AY hs (h:=by exact Xd m p hm hp' _) (k:=?_);intro w' ho hs;repeat' (first|refine Sa ?_|(refine AU hs (k:=?_);intro w hs)|(refine al hs (k:=?_);intro b w hz hs)|fail)
 refine AY hs (h:=by exact RE ((GI m p).getD 0) nH _) (k:=?_);intro w' ho hs;refine Jc ?_
 refine AG ?_
 exact ⟨rfl,hs.AD rfl⟩
def elig (m:Mn) (p:Pt):Bool:=(GI m p).isSome && decide (0≤(GI m p).getD 0)
theorem Rc (m:Mn) (p:Pt) (hm:m.In) (hp':p.In) (w0:World):AO Tryz.prog 230 #[mv m,pv p] w0 fun v w'=>v = .bool (elig m p)∧AA [] w0 w':=by
 have hs:=St.nil w0
 refine AR Tryz.func230 Tryz.ntmps230 (k:=?_)
 repeat' (first|refine Sa ?_|(refine bx hs (k:=?_);intro b w hz hs)|fail)
 refine AY hs (h:=by exact VA m p hm hp' _) (k:=?_);intro w' ho hs;repeat' (first|refine Sf ?_|((with_reducible apply B6);exact rfl;exact rfl;intro c hc;(fail_if_success have:true=c:=hc);(fail_if_success have:false=c:=hc);cases c)|fail)
 ·refine AG ?_
  refine ⟨?_,hs.AD rfl⟩
  unfold elig;rw [hc];rfl
 ·refine AG ?_
  refine ⟨?_,hs.AD rfl⟩
  unfold elig;rw [hc]
  show Value.bool _=Value.bool _
  congr 1
  rw [Bool.true_and]
  refine decide_eq_decide.2 ?_
  unfold C6;split
  ·omega
  ·split <;> omega
def XX (m:Mn) (p:Pt):Option Int:=(GI m p).map fun x=>x / m.w
theorem Rn (m:Mn) (p:Pt) (hm:m.In) (hp':p.In) (w0:World):AO Tryz.prog 89 #[mv m,pv p] w0 fun v w'=>v=wdV (XX m p)∧AA [] w0 w':=by
 have hs:=St.nil w0
 refine AR Tryz.func89 Tryz.ntmps89 (k:=?_)
 repeat' (first|refine Sa ?_|(refine al hs (k:=?_);intro b w hz hs)|(refine bx hs (k:=?_);intro b w hz hs)|fail)
 refine cl (h:=by exact Xd m p hm hp' _) (k:=?_)
 have hin:=nH (m:=m) (p:=p)
 have hU:=hm.2.2.1
 unfold XX
 cases ho:GI m p with
 | none =>
   rintro v w' ⟨rfl,ho⟩;replace hs:=hs.AN ho;repeat' (first|refine Sc ?_|(refine AU hs (k:=?_);intro w hs)|(refine al hs (k:=?_);intro b w hz hs)|fail)
   refine AG ?_
   exact ⟨rfl,hs.AD rfl⟩
 | some x =>
   rw [ho] at hin
   have hw:0 < m.w:=by
    unfold GI at ho;split at ho
    ·rename_i h;have:=Cx.1 h.1;omega
    ·cases ho
   rintro v w' ⟨rfl,ho⟩;replace hs:=hs.AN ho;repeat' (first|refine Sd ?_|(refine AU hs (k:=?_);intro w hs)|(refine al hs (k:=?_);intro b w hz hs)|fail)
   refine AY hs (h:=by exact Ol x m.w hin hw hU.2 _) (k:=?_);intro w' ho hs;repeat' (first|refine Sa ?_|(refine AU hs (k:=?_);intro w hs)|(refine al hs (k:=?_);intro b w hz hs)|fail)
   refine AG ?_
   exact ⟨rfl,hs.AD rfl⟩
def OK (m:Mn) (q lag:Int):Int:=m.a*q - lag*(m.w+q)
def Gz (m:Mn) (clock q lag:Int):Option Pt :=
 if m.right=true∧EN q=true then (if m.n=0 then some ⟨clock,0,q⟩ else if A7 (m.a*q)∧A7 (OK m q lag) then Kf m.b (OK m q lag / m.w) q else none) else none
theorem Zf {q:Int} (h:q < 1∨1048576 < q):¬ EN q=true:=fun h'=>by have:=FP.1 h';omega
theorem VT (m:Mn) (clock q lag:Int) (hm:m.In) (hq:Fk q) (hl:In64 lag) (w0:World):AO Tryz.prog 130 #[mv m,.int .u64 clock,.int .u32 q,.int .i64 lag] w0 fun v w'=>v=sX (Gz m clock q lag)∧AA [] w0 w':=by
 have hs:=St.nil w0
 refine AR Tryz.func130 Tryz.ntmps130 (k:=?_)
 repeat' (first|refine Sa ?_|(refine al hs (k:=?_);intro b w hz hs)|(refine bx hs (k:=?_);intro b w hz hs)|fail)
 refine AY hs (h:=by exact Fm m _) (k:=?_);intro w' ho hs;repeat' (first|refine Se ?_|(refine AU hs (k:=?_);intro w hs)|((with_reducible apply B6);exact rfl;exact rfl;intro c hc;(fail_if_success have:true=c:=hc);(fail_if_success have:false=c:=hc);cases c)|refine Ax rfl (fun hc=>?_) fun hc=>?_|fail)
 ·refine AG ?_
  refine ⟨?_,hs.AD rfl⟩
  have:Gz m clock q lag=none:=by unfold Gz;rw [if_neg (fun h=>Zf (.inr om) h.2)]
  rw [this];rfl
 ·refine AG ?_
  refine ⟨?_,hs.AD rfl⟩
  have h1:m.right=true:=by simpa using ‹(!m.right)=false›
  have h2:=of_decide_eq_false ‹decide (q < 1)=false›
  have:Gz m clock q lag=some ⟨clock,0,q⟩:=by unfold Gz;rw [if_pos ⟨h1,FP.2 om⟩,if_pos (by assumption)]
  rw [this];rfl
 ·have h1:m.right=true:=by simpa using ‹(!m.right)=false›
  have h2:=of_decide_eq_false ‹decide (q < 1)=false›
  have h3:¬ m.n=0:=by assumption
  have h4:EN q=true:=FP.2 om
  have h5:=Cx.1 h1
  have h6:=FP.1 h4
  obtain ⟨hl0,LU⟩:=hl
  have e1:IntKind.i64.wrap q=q:=KW ⟨by omega,by omega⟩
  have e2:IntKind.i64.wrap (IntKind.i64.wrap m.w+IntKind.i64.wrap q)=m.w+q:=by rw [e1,KW (x:=m.w) ⟨by omega,by omega⟩,KW ⟨by omega,by omega⟩]
  have h7:=mul_rng (w:=m.w+q) (s:=lag) (W:=34603008) (S:=9223372036854775808) om om om om
  have e3:=Int.mul_comm lag (m.w+q)
  have h8:A7 (lag*(m.w+q)):=by unfold A7;rw [e3];omega
  have Zp:Gz m clock q lag=if A7 (m.a*q)∧A7 (OK m q lag) then Kf m.b (OK m q lag / m.w) q else none:=by unfold Gz;rw [if_pos ⟨h1,h4⟩,if_neg h3]
  refine cl (h:=by exact dJ m.a (IntKind.i64.wrap q) hm.2.1 (by rw [e1];exact ⟨by omega,by omega⟩) _) (k:=?_)
  rw [e1]
  rintro v w' ⟨rfl,ho⟩;replace hs:=hs.AN ho;repeat' (first|refine Sb ?_|(refine AU hs (k:=?_);intro w hs)|(refine al hs (k:=?_);intro b w hz hs)|fail)
  refine dr [] hs (k:=?_);intro hX w hs
  refine tk 0 hX (k:=?_)
  refine tks 2 6 ?_
  refine J0 53 (congrArg (Value.int .i64) e2) ?_
  refine HO 12 12 hs (k:=?_);intro f X w hp;have hs:=hp.st
  apply BM 1 12 (f:=f) (X:=X) hX hp;exact rfl;exact rfl;(apply AS AJ;exact rfl);kernel_rfl;kernel_rfl;kernel_rfl;kernel_rfl;(intro X Y;(repeat (first | exact A6 | refine A5 ?_ (by exact rfl))));(intro w' hs;first|exact AI hs.hold|exact AI hs.hold.tail|exact A9 rfl);intro f X w hp;have hs:=hp.st
  refine cl (h:=by exact Fj lag hl0 LU _) (k:=?_)
  rintro v w' ⟨rfl,ho⟩;replace hp:=hp.only ho;replace hs:=hp.st;refine Jb ?_
  refine dn (k:=?_)
  apply BM 8 12 (f:=f) (X:=X) hX hp;exact rfl;exact rfl;(apply AS AJ;exact rfl);kernel_rfl;kernel_rfl;kernel_rfl;kernel_rfl;(intro X Y;(repeat (first | exact A6 | refine A5 ?_ (by exact rfl))));(intro w' hs;first|exact AI hs.hold|exact AI hs.hold.tail|exact A9 rfl);intro f X w hp;have hs:=hp.st
  refine cl (h:=by exact XL lag (m.w+q) (by unfold A7;omega) om om h8 _) (k:=?_)
  rintro v w' ⟨rfl,ho⟩;replace hp:=hp.only ho;replace hs:=hp.st;refine Jb ?_
  refine dn (k:=?_)
  refine tk 9 hX (hc:=by cases f <;> kernel_rfl) (k:=?_)
  refine tk 10 hX (hc:=by cases f <;> kernel_rfl) (k:=?_)
  refine tk 11 hX (hc:=by cases f <;> kernel_rfl) (k:=?_)
  apply Bi 12 (f:=f) (X:=X) hX hp;exact rfl;(apply AS AJ;exact rfl);kernel_rfl;kernel_rfl;(intro X Y;(repeat (first | exact A6 | refine A5 ?_ (by exact rfl))));(intro w' hs;first|exact AI hs.hold|exact AI hs.hold.tail|exact A9 rfl);intro b w hI hs
  refine dt 13 hX (k:=?_)
  repeat' (first|refine Nx.h ?_|(refine AU hs (k:=?_);intro w hs)|fail)
  refine dn (k:=?_)
  refine tk 14 hX (k:=?_)
  refine en (k:=?_)
  refine Ja ?_
  refine AY hs (h:=by exact V5 (tot (m.a*q)) (lag*(m.w+q)) (tot_in _) h8 _) (k:=?_);intro w' ho hs;repeat' (first|refine Se ?_|(refine AU hs (k:=?_);intro w hs)|(refine al hs (k:=?_);intro b w hz hs)|((with_reducible apply B6);exact rfl;exact rfl;intro c hc;(fail_if_success have:true=c:=hc);(fail_if_success have:false=c:=hc);cases c)|refine xc_cond rfl (fun hc=>?_) fun hc=>?_|fail)
  ·have h9:A7 (m.a*q):=by simpa using ‹(!decide (A7 (m.a*q)))=false›
   have e4:tot (m.a*q)=m.a*q:=if_pos h9
   refine AG ?_
   refine ⟨?_,hs.AD rfl⟩
   rw [e4] at hc
   have h10:¬ A7 (OK m q lag):=by unfold OK;simpa using hc
   rw [Zp,if_neg (fun h=>h10 h.2)];rfl
  ·have h9:A7 (m.a*q):=by simpa using ‹(!decide (A7 (m.a*q)))=false›
   have e4:tot (m.a*q)=m.a*q:=if_pos h9
   rw [e4] at hc
   have h10:A7 (OK m q lag):=by unfold OK;simpa using hc
   have e5:tot (tot (m.a*q) - lag*(m.w+q))=OK m q lag:=by rw [e4];exact if_pos h10
   refine cl (h:=by exact Ol (tot (tot (m.a*q) - lag*(m.w+q))) m.w (tot_in _) om om _) (k:=?_)
   rw [e5]
   rintro v w' ⟨rfl,ho⟩;replace hs:=hs.AN ho;repeat' (first|refine Sa ?_|(refine AU hs (k:=?_);intro w hs)|(refine al hs (k:=?_);intro b w hz hs)|fail)
   refine AY hs (h:=by exact WR m.b (OK m q lag / m.w) q (div_in h10 om) _) (k:=?_);intro w' ho hs;repeat' (first|refine Sb ?_|(refine AU hs (k:=?_);intro w hs)|fail)
   refine AG ?_
   refine ⟨?_,hs.AD rfl⟩
   rw [Zp,if_pos ⟨h9,h10⟩];rfl
  ·refine AG ?_
   refine ⟨?_,hs.AD rfl⟩
   have h9:¬ A7 (m.a*q):=by simpa using hc
   rw [Zp,if_neg (fun h=>h9 h.1)];rfl
 ·refine AG ?_
  refine ⟨?_,hs.AD rfl⟩
  have:Gz m clock q lag=none:=by unfold Gz;rw [if_neg (fun h=>Zf (.inl (by simpa using hc)) h.2)]
  rw [this];rfl
 ·refine AG ?_
  refine ⟨?_,hs.AD rfl⟩
  have:Gz m clock q lag=none:=by unfold Gz;rw [if_neg (fun h=>absurd h.1 (by simpa using hc))]
  rw [this];rfl
def Ov (m:Mn) (p:Pt) (q:Int):Int:=m.a*(q - p.w)
def Sv (m:Mn) (p:Pt) (q:Int):Int:=dist p m.b+Ov m p q / m.w
def FM (m:Mn) (p:Pt) (q:Int):Option Pt :=
 if m.right=true∧m.n≠0∧p.right=true∧EN q=true∧A7 (Ov m p q)∧A7 (Sv m p q) then Kf m.b (Sv m p q) q else none
theorem Uo (m:Mn) (p:Pt) (q:Int) (hm:m.In) (hp':p.In) (hq:Fk q) (w0:World):AO Tryz.prog 112 #[mv m,pv p,.int .u32 q] w0 fun v w'=>v=sX (FM m p q)∧AA [] w0 w':=by
 have hs:=St.nil w0
 refine AR Tryz.func112 Tryz.ntmps112 (k:=?_)
 repeat' (first|refine Sa ?_|(refine al hs (k:=?_);intro b w hz hs)|(refine bx hs (k:=?_);intro b w hz hs)|fail)
 refine AY hs (h:=by exact Fm m _) (k:=?_);intro w' ho hs;repeat' (first|refine Se ?_|(refine AU hs (k:=?_);intro w hs)|((with_reducible apply B6);exact rfl;exact rfl;intro c hc;(fail_if_success have:true=c:=hc);(fail_if_success have:false=c:=hc);cases c)|fail)
 ·refine AY hs (h:=by exact Fe p _) (k:=?_);intro w' ho hs;repeat' (first|refine Se ?_|(refine AU hs (k:=?_);intro w hs)|((with_reducible apply B6);exact rfl;exact rfl;intro c hc;(fail_if_success have:true=c:=hc);(fail_if_success have:false=c:=hc);cases c)|fail)
  ·refine AY hs (h:=by exact Fe ⟨0,0,q⟩ _) (k:=?_);intro w' ho hs;repeat' (first|refine Sa ?_|(refine AU hs (k:=?_);intro w hs)|refine xc_cond rfl (fun hc=>?_) fun hc=>?_|fail)
   ·refine AG ?_
    refine ⟨?_,hs.AD rfl⟩
    have:FM m p q=none:=by
     unfold FM;rw [if_neg (fun h=>?_)]
     have h1:(⟨0,0,q⟩:Pt).right=false:=by simpa using hc
     have h2:=FP.1 h.2.2.2.1
     have h3:(⟨0,0,q⟩:Pt).right=true:=Er.2 ⟨h2.1,h2.2,by show (0:Int) < q;omega⟩
     rw [h1] at h3;cases h3
    rw [this];rfl
   ·have h1:m.right=true:=by simpa using ‹(!m.right)=false›
    have h2:p.right=true:=by simpa using ‹(!p.right)=false›
    have h3:m.n≠0:=by simpa using ‹(m.n == 0)=false›
    have tI:(⟨0,0,q⟩:Pt).right=true:=by simpa using hc
    have h4:EN q=true:=by have:=Er.1 tI;exact FP.2 ⟨this.1,this.2.1⟩
    have h5:=Cx.1 h1
    have h6:=Er.1 h2
    have h6':=FP.1 h4
    have e1:IntKind.i64.wrap (IntKind.i64.wrap q - IntKind.i64.wrap p.w)=q - p.w:=by rw [KW (x:=q) ⟨by omega,by omega⟩,KW (x:=p.w) ⟨by omega,by omega⟩,KW ⟨by omega,by omega⟩]
    refine cl (h:=by exact dJ m.a (IntKind.i64.wrap (IntKind.i64.wrap q - IntKind.i64.wrap p.w)) hm.2.1 (by rw [e1];exact ⟨by omega,by omega⟩) _) (k:=?_)
    rw [e1]
    rintro v w' ⟨rfl,ho⟩;replace hs:=hs.AN ho;repeat' (first|refine Sa ?_|(refine AU hs (k:=?_);intro w hs)|(refine al hs (k:=?_);intro b w hz hs)|refine xc_cond rfl (fun hc=>?_) fun hc=>?_|fail)
    ·refine AG ?_
     refine ⟨?_,hs.AD rfl⟩
     have h8:¬ A7 (Ov m p q):=by unfold Ov;simpa using hc
     have:FM m p q=none:=by unfold FM;rw [if_neg (fun h=>h8 h.2.2.2.2.1)]
     rw [this];rfl
    ·have h8:A7 (Ov m p q):=by unfold Ov;simpa using hc
     have e2:tot (m.a*(q - p.w))=Ov m p q:=if_pos h8
     refine cl (h:=by exact Ol (tot (m.a*(q - p.w))) m.w (tot_in _) om om _) (k:=?_)
     rw [e2]
     rintro v w' ⟨rfl,ho⟩;replace hs:=hs.AN ho;repeat' (first|refine Sb ?_|(refine AU hs (k:=?_);intro w hs)|(refine al hs (k:=?_);intro b w hz hs)|fail)
     refine dr [] hs (k:=?_);intro hX w hs
     refine tks 0 3 ?_
     refine tk 4 hX (k:=?_)
     refine HO 9 13 hs (k:=?_);intro f X w hp;have hs:=hp.st
     apply BM 3 9 (f:=f) (X:=X) hX hp;exact rfl;exact rfl;(apply AS AJ;exact rfl);kernel_rfl;kernel_rfl;kernel_rfl;kernel_rfl;(intro X Y;(repeat (first | exact A6 | refine A5 ?_ (by exact rfl))));(intro w' hs;first|exact AI hs.hold|exact AI hs.hold.tail|exact A9 rfl);intro f X w hp;have hs:=hp.st
     refine cl (h:=by exact Np p m.b hp' _) (k:=?_)
     rintro v w' ⟨rfl,ho⟩;replace hp:=hp.only ho;replace hs:=hp.st;refine Jb ?_
     refine dn (k:=?_)
     apply BM 5 9 (f:=f) (X:=X) hX hp;exact rfl;exact rfl;(apply AS AJ;exact rfl);kernel_rfl;kernel_rfl;kernel_rfl;kernel_rfl;(intro X Y;(repeat (first | exact A6 | refine A5 ?_ (by exact rfl))));(intro w' hs;first|exact AI hs.hold|exact AI hs.hold.tail|exact A9 rfl);intro f X w hp;have hs:=hp.st
     refine cl (h:=by exact dY (dist p m.b) (Ov m p q / m.w) (dist_in hp' _) (div_in h8 om) _) (k:=?_)
     rintro v w' ⟨rfl,ho⟩;replace hp:=hp.only ho;replace hs:=hp.st;refine Jb ?_
     refine dn (k:=?_)
     refine tk 6 hX (hc:=by cases f <;> kernel_rfl) (k:=?_)
     refine tk 7 hX (hc:=by cases f <;> kernel_rfl) (k:=?_)
     refine tk 8 hX (hc:=by cases f <;> kernel_rfl) (k:=?_)
     apply Bi 9 (f:=f) (X:=X) hX hp;exact rfl;(apply AS AJ;exact rfl);kernel_rfl;kernel_rfl;(intro X Y;(repeat (first | exact A6 | refine A5 ?_ (by exact rfl))));(intro w' hs;first|exact AI hs.hold|exact AI hs.hold.tail|exact A9 rfl);intro b w hI hs
     refine dt 10 hX (k:=?_)
     repeat' (first|refine Nx.h ?_|(refine AU hs (k:=?_);intro w hs)|fail)
     refine dn (k:=?_)
     refine tk 11 hX (k:=?_)
     refine en (k:=?_)
     repeat' (first|refine Sa ?_|(refine AU hs (k:=?_);intro w hs)|refine xc_cond rfl (fun hc=>?_) fun hc=>?_|fail)
     ·refine AG ?_
      refine ⟨?_,hs.AD rfl⟩
      have h9:¬ A7 (Sv m p q):=by unfold Sv;simpa using hc
      have:FM m p q=none:=by unfold FM;rw [if_neg (fun h=>h9 h.2.2.2.2.2)]
      rw [this];rfl
     ·have h9:A7 (Sv m p q):=by unfold Sv;simpa using hc
      have e3:tot (dist p m.b+Ov m p q / m.w)=Sv m p q:=if_pos h9
      refine cl (h:=by exact WR m.b (tot (dist p m.b+Ov m p q / m.w)) q (tot_in _) _) (k:=?_)
      rw [e3]
      rintro v w' ⟨rfl,ho⟩;replace hs:=hs.AN ho;repeat' (first|refine Sb ?_|(refine AU hs (k:=?_);intro w hs)|fail)
      refine AG ?_
      refine ⟨?_,hs.AD rfl⟩
      have:FM m p q=Kf m.b (Sv m p q) q:=by unfold FM;rw [if_pos ⟨h1,h3,h2,h4,h8,h9⟩]
      rw [this];rfl
  ·refine AG ?_
   refine ⟨?_,hs.AD rfl⟩
   have:FM m p q=none:=by unfold FM;rw [if_neg (fun h=>absurd h.2.2.1 (by simpa using hc))]
   rw [this];rfl
 ·refine AG ?_
  refine ⟨?_,hs.AD rfl⟩
  have:FM m p q=none:=by unfold FM;rw [if_neg (fun h=>h.2.1 (by simpa using hc))]
  rw [this];rfl
 ·refine AG ?_
  refine ⟨?_,hs.AD rfl⟩
  have:FM m p q=none:=by unfold FM;rw [if_neg (fun h=>absurd h.1 (by simpa using hc))]
  rw [this];rfl
end Go.Proofs.Q0
namespace Go.Proofs.Q0
open Go Go.RowKit
open IB (IT DX Bt)
attribute [local irreducible] XS XC XA AZ AP Aa A1 A0 A8 Ad AW SE
structure Qs where
 m:Mn
 t:RB IT
 f:Int→Option IT
 n:Nat
 c:Int
abbrev Lv (m:Mn) (tb mb:Nat) (c:Int):Obj := .cells #[.int .u64 m.b,.int .i64 (m.a / 18446744073709551616),.int .u64 (m.a % 18446744073709551616),.int .u64 m.w,.int .i64 m.n,.pointer (some ⟨tb,0,none⟩),.map (some mb),.int .u64 c] 114 (0,0)
def vals (f:Int→Option IT):Int→Option Value:=fun i=>(f i).map fun a=>iv a.1
def Kk (f:Int→Option IT) (i:Int) (a:Option IT):Int→Option IT:=fun j=>bif decide (j=i) then a else f j
theorem WM (f:Int→Option IT) (i:Int) (a:Option IT):JP (vals f) i (a.map fun a=>iv a.1)=vals (Kk f i a):=by
 funext j
 unfold JP vals Kk
 cases decide (j=i) <;> rfl
theorem Fx (f:Int→Option IT) (i:Int):(vals f i).isSome=(f i).isSome:=by unfold vals;cases f i <;> rfl
def DT (w:World) (qb:Nat) (s:Qs) (F:List Nat):Prop :=
 ∃ tb mb Ft,F=qb :: mb :: Ft∧w.heap[qb]?=some (Lv s.m tb mb s.c)∧CK w mb (vals s.f) s.n∧IB.Ck w tb s.t Ft∧s.m.In∧BL s.c
theorem DT.Ah {w w':World} {qb:Nat} {s:Qs} {F G:List Nat} (h:DT w qb s F) (ho:AA G w w') (hd:∀ k∈F,k∉G):DT w' qb s F:=by
 obtain ⟨tb,mb,Ft,rfl,h1,h2,h3,h4⟩:=h
 exact ⟨tb,mb,Ft,rfl,ho.block h1 (hd qb (by simp)),h2.keep ho (hd mb (by simp)),h3.Ah ho (fun k hk=>hd k (by simp [hk])),h4⟩
theorem DT.only {w w':World} {qb:Nat} {s:Qs} {F:List Nat} (h:DT w qb s F) (ho:AA [] w w'):DT w' qb s F:=h.Ah ho (by simp)
theorem DT.lt {w:World} {qb:Nat} {s:Qs} {F:List Nat} (h:DT w qb s F):∀ k∈F,k < w.heap.size:=by
 obtain ⟨tb,mb,Ft,rfl,h1,h2,h3,h4⟩:=h
 intro k hk
 simp only [List.mem_cons] at hk
 rcases hk with rfl | rfl | hk
 ·exact lt_of_block h1
 ·exact h2.lt
 ·exact h3.lt k hk
theorem DT.not {w:World} {qb:Nat} {s:Qs} {F:List Nat} (h:DT w qb s F) {b:Nat} {cs:Array Value} {ty:Nat} {fz:Nat × Nat} (hb:w.heap[b]?=some (.cells cs ty fz)) (h1:ty≠276) (h2:ty≠199) (h3:ty≠114):b∉F:=fun hm=>by
 obtain ⟨tb,mb,Ft,rfl,k1,k2,k3,k4⟩:=h
 simp only [List.mem_cons] at hm
 rcases hm with rfl | rfl | hm
 ·exact A3 hb k1 h3 rfl
 ·exact k2.ne hb rfl
 ·exact k3.not hb h1 h2 hm
theorem jB {w:World} {qb tb:Nat} {t:RB IT} {Ft:List Nat} (h:IB.Ck w tb t Ft) {cs:Array Value} {fz:Nat × Nat} (hb:w.heap[qb]?=some (.cells cs 114 fz)):qb∉Ft:=h.not hb (by decide) (by decide)
theorem Wn {w:World} {mb tb c:Nat} {t:RB IT} {Ft:List Nat} {f:Int→Option Value} (h:IB.Ck w tb t Ft) (hM:CK w mb f c):mb∉Ft:=fun hm=>by
 obtain ⟨p,fp,rfl,k1,k2,k3⟩:=h
 rcases List.mem_cons.1 hm with rfl | hm
 ·exact hM.ne k1 rfl
 ·obtain ⟨cs',jP,k4⟩:=k2.nodes mb hm
  exact hM.ne k4 rfl
def GC (s:Qs):Int:=bif decide (s.t.list.length=0) then s.c else (Iw s.m).getD 0
theorem Tt {s:Qs} (h:BL s.c):BL (GC s):=by
 unfold GC
 cases decide (s.t.list.length=0)
 ·rw [cond_false]
  unfold Iw
  split
  ·exact SW _ _
  ·decide
 ·exact h
def LO (s:Qs):Qs:={ s with m:=(JD s.m (GC s)).getD .zero }
theorem Ty {o:Option Mn} (h:∀ m,o=some m→m.In):(o.getD .zero).In:=by
 cases o with
 | none=>decide
 | some m=>exact h m rfl
theorem Ls (qb:Nat) (s:Qs) (F:List Nat) (w0:World) (h:DT w0 qb s F):AO Tryz.prog 44 #[.pointer (some ⟨qb,0,none⟩)] w0 fun v w'=>v = .int .i64 (s.t.list.length:Nat)∧AA [] w0 w':=by
 obtain ⟨tb,mb,Ft,rfl,h1,h2,h3,h4⟩:=h
 have hs:=(St.nil w0).AH h1 (by simp)
 refine AR Tryz.func44 Tryz.ntmps44 (k:=?_)
 refine Jd ?_
 have ho:=hs.AB [] (by simp [h1]) (by simp [D0])
 refine AY hs (h:=by exact IB.gC tb s.t Ft _ (h3.only ho)) (k:=?_);intro w' ho hs;refine Jc ?_
 refine AG ?_
 exact ⟨rfl,hs.AB [] (by simp [h1]) (by simp [D0])⟩
theorem Sz (qb:Nat) (s:Qs) (F:List Nat) (w0:World) (h:DT w0 qb s F) (hlen:s.t.list.length≤1000000):AO Tryz.prog 208 #[.pointer (some ⟨qb,0,none⟩)] w0 fun v w'=>(∃ G,B7 w' 64 7 v s.t.list.length (Bt s.t.list) G∧∀ k∈G,w0.heap.size≤k)∧AA [] w0 w':=by
 obtain ⟨tb,mb,Ft,rfl,h1,h2,h3,h4⟩:=h
 have hs:=(St.nil w0).AH h1 (by simp)
 refine AR Tryz.func208 Tryz.ntmps208 (k:=?_)
 refine Jd ?_
 have ho:=hs.AB [] (by simp [h1]) (by simp [D0])
 refine cl (h:=by exact IB.Oj tb s.t Ft _ (h3.only ho) hlen) (k:=?_)
 rintro v w' ⟨⟨G,hG,hn⟩,ho'⟩;replace hs:=hs.AN ho'
 have hz:=ho.size
 refine Jc ?_
 refine AG ?_
 exact ⟨⟨G,hG,fun k hk=>by have:=hn k hk;omega⟩,hs.AB [] (by simp [h1]) (by simp [D0])⟩
theorem N5 (qb:Nat) (s:Qs) (F:List Nat) (w0:World) (h:DT w0 qb s F):AO Tryz.prog 20 #[.pointer (some ⟨qb,0,none⟩)] w0 fun v w'=>v = .int .u64 (GC s)∧AA [] w0 w':=by
 have hq:=h
 obtain ⟨tb,mb,Ft,rfl,h1,h2,h3,h4⟩:=h
 have hs:=(St.nil w0).AH h1 (by simp)
 refine AR Tryz.func20 Tryz.ntmps20 (k:=?_)
 refine Jd ?_
 have ho:=hs.AB [] (by simp [h1]) (by simp [D0])
 refine AY hs (h:=by exact Ls qb s _ _ (hq.only ho)) (k:=?_);intro w' ho hs;repeat' (first|refine Sa ?_|refine Ax rfl (fun hc=>?_) fun hc=>?_|fail)
 ·refine AG ?_
  refine ⟨?_,hs.AB [] (by simp [h1]) (by simp [D0])⟩
  have e:s.t.list.length=0:=by omega
  unfold GC;rw [decide_eq_true e];rfl
 ·refine AY hs (h:=by exact Oo s.m h4.1 _) (k:=?_);intro w' ho hs;refine Ja ?_
  refine AG ?_
  refine ⟨?_,hs.AB [] (by simp [h1]) (by simp [D0])⟩
  have e:¬ s.t.list.length=0:=by omega
  unfold GC;rw [decide_eq_false e];rfl
theorem QN (qb:Nat) (s:Qs) (F:List Nat) (w0:World) (h:DT w0 qb s F):AO Tryz.prog 222 #[.pointer (some ⟨qb,0,none⟩)] w0 fun v w'=>DT w' qb (LO s) F∧AA [qb] w0 w':=by
 have hq:=h
 obtain ⟨tb,mb,Ft,rfl,h1,h2,h3,h4,h5⟩:=h
 have hs:=(St.nil w0).AH h1 (by simp)
 refine AR Tryz.func222 Tryz.ntmps222 (k:=?_)
 skip
 refine dr [13] hs (k:=?_);intro hX w hs
 refine tks 0 6 ?_
 refine dt 6 hX (k:=?_)
 have ho:=hs.AB [] (by simp [h1]) (by simp [D0])
 refine AY hs (h:=by exact N5 qb s _ _ (hq.only ho)) (k:=?_);intro w' ho hs;refine Jb ?_
 refine dn (k:=?_)
 refine dt 7 hX (k:=?_)
 refine AY hs (h:=by exact cW s.m (GC s) h4 _) (k:=?_);intro w' ho hs;refine Jb ?_
 refine dn (k:=?_)
 refine tks 8 5 ?_
 refine dt 13 hX (k:=?_)
 repeat' (first|refine Nx.h ?_|(refine AU hs (k:=?_);intro w hs)|fail)
 refine dn (k:=?_)
 refine en (k:=?_)
 skip
 refine JK ?_
 have AM:=hs.AB [qb] (by simp) (by simp [D0])
 exact ⟨⟨tb,mb,Ft,rfl,hs.get At.head,h2.keep AM (fun hm=>by obtain rfl:=List.mem_singleton.1 hm;exact h2.ne h1 rfl),h3.Ah AM (fun k hk hm=>by obtain rfl:=List.mem_singleton.1 hm;exact jB h3 h1 hk),Ty (fun m e=>wM h4 (Tt h5) e),h5⟩,AM⟩
abbrev tH (a:It):Obj := .cells #[.int .u64 a.p.t,.int .u32 a.p.r,.int .u32 a.p.w,.int .i64 a.id,.int .u64 a.d.t,.int .u32 a.d.r,.int .u32 a.d.w] 64 (0,0)
def Fu (s:Qs) (a:IT):Mn:=bif decide (s.t.list.length=0) then ⟨a.1.p.t,0,0,0⟩ else s.m
def Hy (s:Qs) (a:IT):Qs:=⟨(Ea (Fu s a) a.1.p).getD .zero,IB.RB.insert s.t a,Kk s.f a.1.id (some a),if (s.f a.1.id).isSome then s.n else s.n+1,s.c⟩
def L2 (s:Qs) (a:IT):Qs:=LO (Hy s a)
theorem wL {s:Qs} {a:IT} (h:s.m.In):(Fu s a).In:=by
 unfold Fu
 cases decide (s.t.list.length=0)
 ·exact h
 ·exact ⟨a.2.1.1,OW,qU,TN⟩
structure QP (w:World) (qb tb mb:Nat) (Ft:List Nat) (s:Qs):Prop where
 q:w.heap[qb]?=some (Lv s.m tb mb s.c)
 M:CK w mb (vals s.f) s.n
 T:IB.Ck w tb s.t Ft
theorem QP.qm {w:World} {qb tb mb:Nat} {Ft:List Nat} {s:Qs} (h:QP w qb tb mb Ft s):qb≠mb:=h.M.ne h.q
theorem QP.qT {w:World} {qb tb mb:Nat} {Ft:List Nat} {s:Qs} (h:QP w qb tb mb Ft s):qb∉Ft:=jB h.T h.q
theorem QP.mT {w:World} {qb tb mb:Nat} {Ft:List Nat} {s:Qs} (h:QP w qb tb mb Ft s):mb∉Ft:=Wn h.T h.M
theorem QP.only {w w':World} {qb tb mb:Nat} {Ft:List Nat} {s:Qs} (h:QP w qb tb mb Ft s) (ho:AA [] w w'):QP w' qb tb mb Ft s:=⟨ho.block h.q (by simp),h.M.keep ho (by simp),h.T.only ho⟩
theorem QP.own {w w':World} {qb tb mb:Nat} {Ft:List Nat} {s:Qs} {m:Mn} {c:Int} (h:QP w qb tb mb Ft s) (ho:AA [qb] w w') (hq:w'.heap[qb]?=some (Lv m tb mb c)):QP w' qb tb mb Ft { s with m:=m,c:=c } :=
 ⟨hq,h.M.keep ho (fun hm=>h.qm (List.mem_singleton.1 hm).symm),h.T.Ah ho (fun k hk hm=>by obtain rfl:=List.mem_singleton.1 hm;exact h.qT hk)⟩
theorem WS (qb:Nat) (s:Qs) (F:List Nat) (a:IT) (w0:World) (h:DT w0 qb s F) (hlen:s.t.list.length+1≤1000000) (hn:s.n < 1000000) :
 AO Tryz.prog 200 #[.pointer (some ⟨qb,0,none⟩),iv a.1] w0 fun v w'=>∃ F',DT w' qb (L2 s a) F'∧(∀ k∈F',k∈F∨w0.heap.size≤k)∧AA F w0 w':=by
 have hq:=h
 obtain ⟨tb,mb,Ft,rfl,h1,h2,h3,h4,h5⟩:=h
 have hs:=(St.nil w0).AH h1 (by simp)
 have YB:=lt_of_block h1
 have ltF:=hq.lt
 have hin:=wL (s:=s) (a:=a) h4
 refine AR Tryz.func200 Tryz.ntmps200 (k:=?_)
 refine Ai ?_
 refine Ao ?_
 refine bx hs (k:=?_);intro bq wq MG hs
 refine XS.nil ?_
 refine ET ?_
 refine Ai ?_
 have JI:=hs.new (bq,true) (by simp) rfl
 simp only at JI
 have sR:QP w0 qb tb mb Ft s:=⟨h1,h2,h3⟩
 refine Bg (fun _:Unit=>[(0,.pointer (some ⟨qb,0,none⟩)),(3,.pointer (some ⟨bq,0,none⟩))]) (fun _ w=>QP w qb tb mb Ft { s with m:=Fu s a }∧AA [qb] w0 w∧w.heap[bq]?=some (tH a.1)) ?_ ?_
 ·refine Ja ?_
  have ho:=hs.AB [] (by simp [h1]) (by simp [D0])
  refine AY hs (h:=by exact Ls qb s _ _ (hq.only ho)) (k:=?_);intro w' ho hs;repeat' (first|refine Sa ?_|(refine AU hs (k:=?_);intro w hs)|refine Ax rfl (fun hc=>?_) fun hc=>?_|fail)
  ·have e:s.t.list.length=0:=by omega
   have AM:=hs.AB [qb] (by simp) (by simp [D0])
   have e2:Fu s a=⟨a.1.p.t,0,0,0⟩:=by unfold Fu;rw [decide_eq_true e];rfl
   rw [e2]
   exact AQ () Ae ⟨sR.own AM (hs.get (At.tail At.head)),AM,hs.get At.head⟩
  ·have e:¬ s.t.list.length=0:=by omega
   have AM:=hs.AB [] (by simp [h1]) (by simp [D0])
   have e2:Fu s a=s.m:=by unfold Fu;rw [decide_eq_false e];rfl
   rw [e2]
   exact AQ () Ae ⟨sR.only AM,AM.weaken (by simp),hs.get At.head⟩
 clear hs
 rintro _ env wA ⟨hP,BB,hQ⟩
 have n1:bq≠qb:=A3 hQ hP.q (by decide)
 have hs:=((St.nil wA).AH hP.q (by simp)).AH hQ (by simpa using n1)
 refine Jb ?_
 refine dr [13] hs (k:=?_);intro hX w hs
 refine tks 0 7 ?_
 refine dt 7 hX (k:=?_)
 refine AY hs (h:=by exact XG (Fu s a) a.1.p hin a.2.1 _) (k:=?_);intro w' ho hs;refine Jb ?_
 refine dn (k:=?_)
 refine tks 8 5 ?_
 refine dt 13 hX (k:=?_)
 repeat' (first|refine Nx.h ?_|(refine AU hs (k:=?_);intro w hs)|fail)
 refine dn (k:=?_)
 refine en (k:=?_)
 refine Jb ?_
 have AM:=hs.AB [qb] (by simp [hQ]) (by simp [D0])
 have Uy:=hP.own AM (hs.get (At.tail At.head))
 have Qa:=hs.get At.head
 have Bn:=BB.step AM (fun k hk => .inl hk)
 clear hs
 have hs:=((St.nil _).AH Uy.q (by simp)).AH Qa (by simpa using n1)
 refine dr [] hs (k:=?_);intro hX w hs
 refine tks 0 6 ?_
 refine dt 6 hX (k:=?_)
 have AT:=hs.AB [] (by simp [Uy.q,Qa]) (by simp [D0])
 have K5:=Uy.only AT
 have GG:=hs.get At.head
 have E8:=Bn.step AT (by simp)
 refine cl (h:=by exact IB.GO tb s.t Ft a _ K5.T hlen) (k:=?_)
 rintro v w4 ⟨rfl,F',WJ,Cc,Aw⟩
 have hz:=E8.size
 have iI:=K5.M.keep Aw K5.mT
 have gI:=Aw.block K5.q K5.qT
 have gY:=Aw.block GG (K5.T.not GG (by decide) (by decide))
 have qJ:∀ k∈F',k∈Ft∨w0.heap.size≤k:=fun k hk=>by rcases Cc k hk with h | h;exact .inl h;exact .inr om
 have CP:AA (qb :: mb :: Ft) w0 w4:=(E8.weaken (by simp)).step Aw (fun k hk => .inl (by simp [hk]))
 clear hs
 have hs:=((St.nil w4).AH gI (by simp)).AH gY (by simpa using n1)
 refine Jb ?_
 refine dn (k:=?_)
 refine en (k:=?_)
 refine Jb ?_
 refine dr [] hs (k:=?_);intro hX w hs
 refine tks 0 7 ?_
 refine dt 7 hX (k:=?_)
 have BY:=hs.AB [] (by simp [gI,gY]) (by simp [D0])
 have Rx:=iI.keep BY (by simp)
 have QK:=WJ.only BY
 have hq5:=hs.get (At.tail At.head)
 refine OQ (e:=64) (v:=iv a.1) Rx a.2.2.1 (by show s.n < maxLen;unfold maxLen;omega) (by kernel_rfl) (k:=?_)
 intro w6 Qi Aq
 have yN:=Rx.ne (hs.get At.head)
 have lM:=Rx.ne hq5
 have hmT:=Wn QK Rx
 replace hs:=hs.call Aq (fun k hk hm=>by
  obtain rfl:=List.mem_singleton.1 hk
  simp only [List.map_cons,List.map_nil,List.mem_cons,List.not_mem_nil,or_false] at hm
  rcases hm with rfl | rfl
  ·exact yN rfl
  ·exact lM rfl) (by simp [D0])
 have WT:=hs.get (At.tail At.head)
 have hT6:=QK.Ah Aq (fun k hk hm=>by obtain rfl:=List.mem_singleton.1 hm;exact hmT hk)
 have FA:AA (qb :: mb :: Ft) w0 w6:=(CP.step BY (by simp)).step Aq (fun k hk => .inl (by obtain rfl:=List.mem_singleton.1 hk;simp))
 have qC:CK w6 mb (vals (Kk s.f a.1.id (some a))) (if (s.f a.1.id).isSome then s.n else s.n+1):=by
  rw [← WM,← Fx]
  exact Qi
 have zZ:DT w6 qb (Hy s a) (qb :: mb :: F'):=⟨tb,mb,F',rfl,WT,qC,hT6,Ty (fun m e=>Tf hin e),h5⟩
 have l7:=FA.size
 have kH:=hs.get At.head
 clear hs
 have hs:=((St.nil w6).AH WT (by simp)).AH kH (by simpa using n1)
 refine XS.nil ?_
 refine dn (k:=?_)
 refine en (k:=?_)
 refine Ja ?_
 have Cb:=hs.AB [] (by simp [WT,kH]) (by simp [D0])
 refine cl (h:=by exact QN qb (Hy s a) _ _ (zZ.only Cb)) (k:=?_)
 rintro v w8 ⟨zP,Eb⟩
 have hs:=St.nil w8
 refine Jb ?_
 refine JK ?_
 refine ⟨_,zP,fun k hk=>?_,((FA.step Cb (by simp)).step Eb (fun k hk => .inl (by obtain rfl:=List.mem_singleton.1 hk;simp)))⟩
 simp only [List.mem_cons] at hk
 rcases hk with rfl | rfl | hk
 ·exact .inl (by simp)
 ·exact .inl (by simp)
 ·rcases qJ k hk with h | h
  ·exact .inl (by simp [h])
  ·exact .inr h
def WX (a:IT) (t:RB IT):RB IT:=bif RB.has IB.DK a t then RB.blacken ((IB.R8 a t).getD .nil) else t
def Gh (a:IT) (t:RB IT):Prop:=RB.has IB.DK a t=true→IB.R8 a t=some ((IB.R8 a t).getD .nil)∧((IB.R8 a t).getD .nil).list.length+1=t.list.length
def Eu (s:Qs) (a:IT):Qs:=⟨(GS s.m a.1.p).getD .zero,WX a s.t,Kk s.f a.1.id none,if (s.f a.1.id).isSome then s.n - 1 else s.n,GC s⟩
def F4 (s:Qs) (a:IT):Qs:=LO (Eu s a)
theorem X7 (qb:Nat) (s:Qs) (F:List Nat) (a:IT) (w0:World) (h:DT w0 qb s F) (hlen:s.t.list.length≤1000000) (hd:Gh a s.t) :
 AO Tryz.prog 199 #[.pointer (some ⟨qb,0,none⟩),iv a.1] w0 fun v w'=>∃ F',DT w' qb (F4 s a) F'∧(∀ k∈F',k∈F∨w0.heap.size≤k)∧AA F w0 w':=by
 have hq:=h
 obtain ⟨tb,mb,Ft,rfl,h1,h2,h3,h4,h5⟩:=h
 have hs:=(St.nil w0).AH h1 (by simp)
 have YB:=lt_of_block h1
 have ltF:=hq.lt
 have sR:QP w0 qb tb mb Ft s:=⟨h1,h2,h3⟩
 refine AR Tryz.func199 Tryz.ntmps199 (k:=?_);refine Ai ?_;refine Ao ?_;refine bx hs (k:=?_);intro bq wq MG hs;refine Ja ?_
 have JI:=hs.new (bq,true) (by simp) rfl
 simp only at JI
 have ho:=hs.AB [] (by simp [h1]) (by simp [D0])
 refine AY hs (h:=by exact N5 qb s _ _ (hq.only ho)) (k:=?_);intro w' ho hs;repeat' (first|refine Sb ?_|(refine st hs (k:=?_);intro w hs)|fail)
 refine dr [13] hs (k:=?_);intro hX w hs
 refine tks 0 7 ?_
 refine dt 7 hX (k:=?_)
 refine AY hs (h:=by exact kG s.m a.1.p h4 a.2.1 _) (k:=?_);intro w' ho hs;refine Jb ?_
 refine dn (k:=?_)
 refine tks 8 5 ?_
 refine dt 13 hX (k:=?_)
 repeat' (first|refine Nx.h ?_|(refine AU hs (k:=?_);intro w hs)|fail)
 refine dn (k:=?_)
 refine en (k:=?_)
 refine Jb ?_
 have AM:=hs.AB [qb] (by simp) (by simp [D0])
 have Uy:=sR.own AM (hs.get (At.tail At.head))
 have Qa:=hs.get At.head
 have n1:bq≠qb:=A3 Qa Uy.q (by decide)
 clear hs
 have hs:=((St.nil _).AH Uy.q (by simp)).AH Qa (by simpa using n1)
 refine dr [] hs (k:=?_);intro hX w hs
 refine tks 0 6 ?_
 refine dt 6 hX (k:=?_)
 have AT:=hs.AB [] (by simp [Uy.q,Qa]) (by simp [D0])
 have K5:=Uy.only AT
 have GG:=hs.get At.head
 have E8:=AM.step AT (by simp)
 refine cl (h:=by exact IB.Va tb s.t Ft a _ _ K5.T hd hlen) (k:=?_)
 rintro v w4 ⟨rfl,F',WJ,Cc,Aw⟩
 have hz:=E8.size
 have iI:=K5.M.keep Aw K5.mT
 have gI:=Aw.block K5.q K5.qT
 have gY:=Aw.block GG (K5.T.not GG (by decide) (by decide))
 have qJ:∀ k∈F',k∈Ft∨w0.heap.size≤k:=fun k hk=>by rcases Cc k hk with h | h;exact .inl h;exact .inr om
 have CP:AA (qb :: mb :: Ft) w0 w4:=(E8.weaken (by simp)).step Aw (fun k hk => .inl (by simp [hk]))
 clear hs
 have hs:=((St.nil w4).AH gI (by simp)).AH gY (by simpa using n1)
 refine Jb ?_
 refine dn (k:=?_)
 refine en (k:=?_)
 refine Jb ?_
 refine dr [] hs (k:=?_);intro hX w hs
 refine tks 0 6 ?_
 refine dt 6 hX (k:=?_)
 have BY:=hs.AB [] (by simp [gI,gY]) (by simp [D0])
 have Rx:=iI.keep BY (by simp)
 have QK:=WJ.only BY
 have hq5:=hs.get (At.tail At.head)
 refine VL (e:=64) Rx a.2.2.1 (by kernel_rfl) (k:=?_)
 intro w6 Qi Aq
 have yN:=Rx.ne (hs.get At.head)
 have lM:=Rx.ne hq5
 have hmT:=Wn QK Rx
 replace hs:=hs.call Aq (fun k hk hm=>by
  obtain rfl:=List.mem_singleton.1 hk
  simp only [List.map_cons,List.map_nil,List.mem_cons,List.not_mem_nil,or_false] at hm
  rcases hm with rfl | rfl
  ·exact yN rfl
  ·exact lM rfl) (by simp [D0])
 have WT:=hs.get (At.tail At.head)
 have hT6:=QK.Ah Aq (fun k hk hm=>by obtain rfl:=List.mem_singleton.1 hm;exact hmT hk)
 have FA:AA (qb :: mb :: Ft) w0 w6:=(CP.step BY (by simp)).step Aq (fun k hk => .inl (by obtain rfl:=List.mem_singleton.1 hk;simp))
 have qC:CK w6 mb (vals (Kk s.f a.1.id none)) (if (s.f a.1.id).isSome then s.n - 1 else s.n):=by
  rw [← WM,← Fx]
  exact Qi
 have zZ:DT w6 qb (Eu s a) (qb :: mb :: F'):=⟨tb,mb,F',rfl,WT,qC,hT6,Ty (fun m e=>uR h4 e),Tt h5⟩
 have l7:=FA.size
 have kH:=hs.get At.head
 clear hs
 have hs:=((St.nil w6).AH WT (by simp)).AH kH (by simpa using n1)
 refine XS.nil ?_
 refine dn (k:=?_)
 refine en (k:=?_)
 refine Ja ?_
 have Cb:=hs.AB [] (by simp [WT,kH]) (by simp [D0])
 refine cl (h:=by exact QN qb (Eu s a) _ _ (zZ.only Cb)) (k:=?_)
 rintro v w8 ⟨zP,Eb⟩
 have hs:=St.nil w8
 refine Jb ?_
 refine JK ?_
 refine ⟨_,zP,fun k hk=>?_,((FA.step Cb (by simp)).step Eb (fun k hk => .inl (by obtain rfl:=List.mem_singleton.1 hk;simp)))⟩
 simp only [List.mem_cons] at hk
 rcases hk with rfl | rfl | hk
 ·exact .inl (by simp)
 ·exact .inl (by simp)
 ·rcases qJ k hk with h | h
  ·exact .inl (by simp [h])
  ·exact .inr h
theorem Ng (f:Int→Option IT) (i:Int):(vals f i).getD (iv .zero)=iv (match f i with | some a=>a.1 | none => .zero):=by unfold vals;cases f i <;> rfl
def K6 (s:Qs) (id:Int):Qs:=match s.f id with | some a=>F4 s a | none=>s
theorem TB (qb:Nat) (s:Qs) (F:List Nat) (id:Int) (w0:World) (h:DT w0 qb s F) (hid:In64 id) (hlen:s.t.list.length≤1000000) (hd:∀ a,s.f id=some a→Gh a s.t) :
 AO Tryz.prog 181 #[.pointer (some ⟨qb,0,none⟩),.int .i64 id] w0 fun v w'=>v = .tuple #[iv (match s.f id with | some a=>a.1 | none => .zero),.int .i64 (if (s.f id).isSome then 0 else 14)]∧∃ F',DT w' qb (K6 s id) F'∧(∀ k∈F',k∈F∨w0.heap.size≤k)∧AA F w0 w':=by
 have hq:=h
 obtain ⟨tb,mb,Ft,rfl,h1,h2,h3,h4,h5⟩:=h
 have hs:=(St.nil w0).AH h1 (by simp)
 refine AR Tryz.func181 Tryz.ntmps181 (k:=?_)
 refine Ai ?_
 refine Ao ?_
 refine al hs (k:=?_);intro b4 w hz hs
 have g4:=hs.new (b4,true) (by simp) rfl
 simp only at g4
 refine Jd ?_
 have ho:=hs.AB [] (by simp [h1]) (by simp [D0])
 refine KB (e:=64) (z:=iv .zero) (h2.keep ho (by simp)) hid (by kernel_rfl) (by kernel_rfl) (k:=?_)
 rw [Ng,Fx]
 unfold K6
 cases hf:s.f id with
 | none =>
   repeat' (first|refine Sc ?_|(refine AU hs (k:=?_);intro w hs)|(refine al hs (k:=?_);intro b w hz hs)|fail)
   refine AG ?_
   have ho:=hs.AB [] (by simp [h1]) (by simp [D0])
   exact ⟨rfl,_,hq.only ho,fun k hk => .inl hk,ho.weaken (by simp)⟩
 | some a =>
   refine vs (k:=?_)
   refine vs (k:=?_)
   refine vs (k:=?_)
   refine al hs (k:=?_);intro b6 w6 l7 hs
   have g6:=hs.new (b6,true) (by simp) rfl
   simp only at g6
   have OJ:b6≠b4:=by have:=hs.nd;simp only [List.map_cons,List.nodup_cons,List.mem_cons,not_or] at this;exact this.1.1
   repeat' (first|refine Sd ?_|(refine AU hs (k:=?_);intro w hs)|fail)
   have ho:=hs.AB [] (by simp [h1]) (by simp [D0])
   have Jv:=hq.only ho
   refine cl (h:=by exact X7 qb s _ a _ Jv hlen (hd a hf)) (k:=?_)
   rintro v w7 ⟨F',hA,Cc,Cb⟩
   have k4:=Cb.block (hs.get (At.tail At.head)) (Jv.not (hs.get (At.tail At.head)) (by decide) (by decide) (by decide))
   have k6:=Cb.block (hs.get At.head) (Jv.not (hs.get At.head) (by decide) (by decide) (by decide))
   have Ze:=ho.size
   clear hs
   have hs:=((St.nil w7).AH k4 (by simp)).AH k6 (by simpa using OJ)
   repeat' (first|refine Sa ?_|(refine AU hs (k:=?_);intro w hs)|fail)
   refine AG ?_
   have Eb:=hs.AB [b4] (by simp [k6]) (by simp [D0])
   refine ⟨rfl,F',hA.Ah Eb (fun k hk hm=>by obtain rfl:=List.mem_singleton.1 hm;exact hA.not k4 (by decide) (by decide) (by decide) hk),fun k hk=>?_,((ho.weaken (by simp)).step Cb (fun k hk => .inl hk)).step Eb (fun k hk => .inr (by obtain rfl:=List.mem_singleton.1 hk;exact g4))⟩
   rcases Cc k hk with h | h
   ·exact .inl h
   ·exact .inr om
end Go.Proofs.Q0
namespace Go.Proofs.Q0
open IB (IT)
namespace RB
variable {α : Type} {lt : α → α → Bool} {S : α → Prop} {x : α}
theorem Pa (x:α):∀ l:List α,(Io lt x l).Perm (x :: l)
 | [] => .refl _
 | y :: l=>by
   unfold Io
   cases lt x y
   ·exact ((Pa x l).cons y).trans (.swap _ _ _)
   ·exact .refl _
theorem WH (ho:DJ lt S) (hx:S x):∀ {l:List α},(∀ z∈l,S z)→Kp lt l→x∉l→Kp lt (Io lt x l)
 | [],_,_,_=>List.pairwise_singleton _ _
 | y :: l,hS,h,hn=>by
   obtain ⟨h1,h2⟩:=List.pairwise_cons.1 h
   have hy:=hS y List.mem_cons_self
   unfold Io
   cases e:lt x y
   ·have Lj:lt y x=true:=by
     cases e':lt y x
     ·exact absurd (ho.tri x y hx hy e e') (fun h=>hn (by rw [h];exact List.mem_cons_self))
     ·rfl
    refine List.pairwise_cons.2 ⟨fun z hz=>?_,WH ho hx (fun z hz=>hS z (List.mem_cons_of_mem _ hz)) h2 (fun hm=>hn (List.mem_cons_of_mem _ hm))⟩
    rcases List.mem_cons.1 ((Pa x l).mem_iff.1 hz) with rfl | hz
    ·exact Lj
    ·exact h1 z hz
   ·refine List.pairwise_cons.2 ⟨fun z hz=>?_,h⟩
    rcases List.mem_cons.1 hz with rfl | hz
    ·exact e
    ·exact ho.tr x y z hx hy (hS z (List.mem_cons_of_mem _ hz)) e (h1 z hz)
theorem gA (ho:DJ lt S) {l:List α} (hS:∀ z∈l,S z) (h:Kp lt l):l.Nodup:=by
 refine List.Pairwise.imp_of_mem (fun {a b} ha hb hab e=>?_) h
 subst e
 rw [ho.irr a (hS a ha)] at hab;cases hab
theorem gR [DecidableEq α] {l:List α} (h:l.Nodup) (hx:x∈l):l.Perm (x :: sans x l):=by
 induction l with
 | nil=>cases hx
 | cons y l ih =>
   obtain ⟨h1,h2⟩:=List.nodup_cons.1 h
   by_cases e:y=x
   ·subst e
    rw [U0,K9 (fun z hz he=>h1 (by rw [← he];exact hz))]
   ·rw [UY e]
    exact ((ih h2 ((List.mem_cons.1 hx).resolve_left (fun h=>e h.symm))).cons y).trans (.swap _ _ _)
end RB
theorem aA1 {L:List IT} {b lo:Int} (h:∀ x∈L,Kq b lo x.1) (hm:Iy lo) (hi:∀ x∈L,∀ y∈L,x.1.id=y.1.id→x=y):DJ IB.DK (·∈L):=by
 have o:=ahead_ord (b:=b) (lo:=lo) (S:=fun z=>∃ y∈L,y.1=z) hm (by rintro _ ⟨y,hy,rfl⟩;exact h y hy) (by rintro _ _ ⟨y,hy,rfl⟩ ⟨z,hz,rfl⟩ e;rw [hi y hy z hz e])
 exact ⟨fun a ha=>o.irr a.1 ⟨a,ha,rfl⟩,fun a b c ha hb hc=>o.tr a.1 b.1 c.1 ⟨a,ha,rfl⟩ ⟨b,hb,rfl⟩ ⟨c,hc,rfl⟩,fun a b ha hb k1 k2=>Subtype.ext (o.tri a.1 b.1 ⟨a,ha,rfl⟩ ⟨b,hb,rfl⟩ k1 k2)⟩
theorem aBx {L:List IT} {b lo:Int} (h:∀ x∈L,Kq b lo x.1) (hm:Iy lo) (hi:∀ x∈L,∀ y∈L,x.1.id=y.1.id→x=y):DJ (fun x y:IT=>due x.1 y.1) (·∈L):=by
 have o:=uV (b:=b) (lo:=lo) (S:=fun z=>∃ y∈L,y.1=z) hm (by rintro _ ⟨y,hy,rfl⟩;exact h y hy) (by rintro _ _ ⟨y,hy,rfl⟩ ⟨z,hz,rfl⟩ e;rw [hi y hy z hz e])
 exact ⟨fun a ha=>o.irr a.1 ⟨a,ha,rfl⟩,fun a b c ha hb hc=>o.tr a.1 b.1 c.1 ⟨a,ha,rfl⟩ ⟨b,hb,rfl⟩ ⟨c,hc,rfl⟩,fun a b ha hb k1 k2=>Subtype.ext (o.tri a.1 b.1 ⟨a,ha,rfl⟩ ⟨b,hb,rfl⟩ k1 k2)⟩
theorem xA {a:IT} {t:RB IT} {S:IT→Prop} (ho:DJ IB.DK S) (hg:RB.Good t) (hs:RB.Kp IB.DK t.list) (hS:∀ z∈t.list,S z) (ha:a∈t.list):∃ t',IB.R8 a t=some t'∧(∃ h,RB.Ok t' h)∧t'.list=RB.sans a t.list:=by
 cases t with
 | nil=>cases ha
 | node l y r c =>
   obtain ⟨hc,h,hk⟩:=hg
   obtain rfl:c=false:=hc
   obtain ⟨h',rfl,hl,hr,Vw⟩:=hk.MA
   have hq:∃ h',RB.Ok (.node l y r (IB.MX l r false)) h'∧(IB.MX l r false=true∨l.red=true):=by
    unfold IB.MX
    rw [Vw]
    cases e:l.red
    ·exact ⟨_,.red hl hr e Vw,.inl rfl⟩
    ·exact ⟨_,.black hl hr Vw,.inr rfl⟩
   obtain ⟨h2,hok,hc⟩:=hq
   obtain ⟨t1,e1,e2⟩:=RB.WO ho (RB.node l y r false).list.length (.node l y r (IB.MX l r false)) h2 hok rfl hc (Nat.le_refl _) ⟨hs,hS,ha⟩
   exact ⟨t1,e1,⟨_,e2.ok⟩,e2.list⟩
end Go.Proofs.Q0
namespace Go.Proofs.Q0
open Go Go.RowKit
open IB (IT DX Bt)
attribute [local irreducible] XS XC XA AZ AP Aa A1 A0 A8 Ad AW SE
def IS (c:Int):Qs:=⟨.zero,.nil,fun _=>none,0,c⟩
theorem Xc (c:Int) (hc:BL c) (w0:World):AO Tryz.prog 98 #[.int .u64 c] w0 fun v w'=>(∃ qb F,v = .pointer (some ⟨qb,0,none⟩)∧DT w' qb (IS c) F∧∀ k∈F,w0.heap.size≤k)∧AA [] w0 w':=by
 have hs:=St.nil w0
 refine AR Tryz.func98 Tryz.ntmps98 (k:=?_)
 refine Ja ?_
 refine cl (h:=by exact IB.Q0 [] (.slice none 0 0) (by simp) _ (Cu.nil _ _ _)) (k:=?_)
 rintro v w1 ⟨⟨tb,Ft,rfl,hT,hFt⟩,ho⟩;replace hs:=hs.AN ho
 have AK:=hs.AD rfl
 have Jq:=AK.size
 refine Uw (k:=?_)
 intro mb w2 AM hM hmb
 clear hs
 have hs:=St.nil w2
 refine vs (k:=?_)
 refine vs (k:=?_)
 refine bx hs (k:=?_);intro qb w3 hz hs
 have Z7:=hs.new (qb,true) (by simp) rfl
 simp only at Z7
 have MF:=AM.size
 have OG:=hM.keep (hs.AD rfl) (by simp)
 have Fh:=(hT.only AM).only (hs.AD rfl)
 have iI:CK w3 mb (vals (fun _=>none)) 0:=OG
 have nO:=hs.get At.head
 have AT:=(AK.trans AM).trans (hs.AD rfl)
 have hA:DT w3 qb (IS c) (qb :: mb :: Ft):=⟨tb,mb,Ft,rfl,nO,iI,Fh,(by decide:Mn.zero.In),hc⟩
 have hnew:∀ k∈qb :: mb :: Ft,w0.heap.size≤k:=fun k hk=>by
  simp only [List.mem_cons] at hk
  rcases hk with rfl | rfl | hk
  ·omega
  ·omega
  ·have:=hFt k hk;omega
 refine Jc ?_
 refine AG ?_
 exact ⟨⟨qb,_,rfl,hA,hnew⟩,AT⟩
def M1 (s:Qs) (id:Int):Int:=match s.f id with | some a=>C6 ((GI s.m a.1.p).getD 0) 0 | none=>0
def Wc (s:Qs) (id:Int):Int:=match s.f id with | some a=>(XX s.m a.1.p).getD 0 | none=>0
def N2 (b:Bool):Int:=bif b then 0 else 14
theorem ME (qb:Nat) (s:Qs) (F:List Nat) (id:Int) (w0:World) (h:DT w0 qb s F) (hid:In64 id):AO Tryz.prog 104 #[.pointer (some ⟨qb,0,none⟩),.int .i64 id] w0 fun v w'=>v = .tuple #[.int .i64 (M1 s id),.int .i64 (N2 (s.f id).isSome)]∧AA [] w0 w':=by
 obtain ⟨tb,mb,Ft,rfl,h1,h2,h3,h4,h5⟩:=h
 have hs:=(St.nil w0).AH h1 (by simp)
 refine AR Tryz.func104 Tryz.ntmps104 (k:=?_)
 refine Jd ?_
 have ho:=hs.AB [] (by simp [h1]) (by simp [D0])
 refine KB (e:=64) (z:=iv .zero) (h2.keep ho (by simp)) hid (by kernel_rfl) (by kernel_rfl) (k:=?_)
 rw [Ng,Fx]
 unfold M1
 cases hf:s.f id with
 | none =>
   repeat' (first|refine Sc ?_|(refine AU hs (k:=?_);intro w hs)|(refine al hs (k:=?_);intro b w hz hs)|fail)
   refine AG ?_
   exact ⟨rfl,hs.AB [] (by simp [h1]) (by simp [D0])⟩
 | some a =>
   repeat' (first|refine Sd ?_|(refine AU hs (k:=?_);intro w hs)|(refine al hs (k:=?_);intro b w hz hs)|fail)
   refine dr [] hs (k:=?_);intro hX w hs
   refine tks 0 6 ?_
   refine dt 6 hX (k:=?_)
   refine AY hs (h:=by exact VA s.m a.1.p h4 a.2.1 _) (k:=?_);intro w' ho hs;refine Jb ?_
   refine dn (k:=?_)
   refine tks 7 5 ?_
   refine en (k:=?_)
   refine Ja ?_
   refine AG ?_
   exact ⟨rfl,hs.AB [] (by simp [h1]) (by simp [D0])⟩
theorem WA (qb:Nat) (s:Qs) (F:List Nat) (id:Int) (w0:World) (h:DT w0 qb s F) (hid:In64 id):AO Tryz.prog 48 #[.pointer (some ⟨qb,0,none⟩),.int .i64 id] w0 fun v w'=>v = .tuple #[wv (Wc s id),.int .i64 (N2 (s.f id).isSome)]∧AA [] w0 w':=by
 obtain ⟨tb,mb,Ft,rfl,h1,h2,h3,h4,h5⟩:=h
 have hs:=(St.nil w0).AH h1 (by simp)
 refine AR Tryz.func48 Tryz.ntmps48 (k:=?_)
 repeat' (first|refine Sd ?_|(refine al hs (k:=?_);intro b w hz hs)|fail)
 have ho:=hs.AB [] (by simp [h1]) (by simp [D0])
 refine KB (e:=64) (z:=iv .zero) (h2.keep ho (by simp)) hid (by kernel_rfl) (by kernel_rfl) (k:=?_)
 rw [Ng,Fx]
 unfold Wc
 cases hf:s.f id with
 | none =>
   repeat' (first|refine Sc ?_|(refine AU hs (k:=?_);intro w hs)|(refine al hs (k:=?_);intro b w hz hs)|fail)
   refine AG ?_
   exact ⟨rfl,hs.AB [] (by simp [h1]) (by simp [D0])⟩
 | some a =>
   repeat' (first|refine Sd ?_|(refine AU hs (k:=?_);intro w hs)|(refine al hs (k:=?_);intro b w hz hs)|fail)
   refine dr [] hs (k:=?_);intro hX w hs
   refine tks 0 6 ?_
   refine HO 10 8 hs (k:=?_);intro f X w hp;have hs:=hp.st
   apply BM 6 10 (f:=f) (X:=X) hX hp;exact rfl;exact rfl;(apply AS AJ;exact rfl);kernel_rfl;kernel_rfl;kernel_rfl;kernel_rfl;(intro X Y;(repeat (first | exact A6 | refine A5 ?_ (by exact rfl))));(intro w' hs;first|exact AI hs.hold|exact AI hs.hold.tail|exact A9 rfl);intro f X w hp;have hs:=hp.st
   refine cl (h:=by exact Rn s.m a.1.p h4 a.2.1 _) (k:=?_)
   rintro v w' ⟨rfl,ho⟩;replace hp:=hp.only ho;replace hs:=hp.st;refine Jb ?_
   refine dn (k:=?_)
   refine tk 7 hX (hc:=by cases f <;> kernel_rfl) (k:=?_)
   refine tk 8 hX (hc:=by cases f <;> kernel_rfl) (k:=?_)
   refine tk 9 hX (hc:=by cases f <;> kernel_rfl) (k:=?_)
   apply Bi 10 (f:=f) (X:=X) hX hp;exact rfl;(apply AS AJ;exact rfl);kernel_rfl;kernel_rfl;(intro X Y;(repeat (first | exact A6 | refine A5 ?_ (by exact rfl))));(intro w' hs;first|exact AI hs.hold|exact AI hs.hold.tail|exact A9 rfl);intro b w hI hs
   refine dt 11 hX (k:=?_)
   repeat' (first|refine Nx.h ?_|(refine AU hs (k:=?_);intro w hs)|fail)
   refine dn (k:=?_)
   refine tk 12 hX (k:=?_)
   refine en (k:=?_)
   repeat' (first|refine Sa ?_|(refine AU hs (k:=?_);intro w hs)|fail)
   refine AG ?_
   exact ⟨rfl,hs.AB [] (by simp [h1]) (by simp [D0])⟩
abbrev aBR (qb:Nat):Obj := .cells #[.pointer (some ⟨qb,0,none⟩)] 76 (0,0)
theorem fX (qb tb mb bb:Nat) (m:Mn) (c:Int) (a:IT) (w0:World) (hm:m.In) (h1:w0.heap[qb]?=some (Lv m tb mb c)) (h2:w0.heap[bb]?=some (aBR qb)):AO Tryz.prog 229 #[iv a.1,.pointer (some ⟨bb,0,none⟩)] w0 fun v w'=>v = .bool (elig m a.1.p)∧AA [] w0 w':=by
 have n1:=A3 h2 h1 (by decide)
 have hs:=((St.nil w0).AH h1 (by simp)).AH h2 (by simpa using n1)
 refine AR Tryz.func229 Tryz.ntmps229 (k:=?_);refine Ai ?_;refine Ao ?_;refine bx hs (k:=?_);intro bq wq MG hs;refine Jc ?_
 refine dr [] hs (k:=?_);intro hX w hs
 refine tks 0 6 ?_
 refine dt 6 hX (k:=?_)
 refine AY hs (h:=by exact Rc m a.1.p hm a.2.1 _) (k:=?_);intro w' ho hs;refine Jb ?_
 refine dn (k:=?_)
 refine tk 7 hX (k:=?_)
 refine en (k:=?_)
 refine Jb ?_
 refine AG ?_
 exact ⟨rfl,hs.AB [] (by simp [h1,h2]) (by simp [D0])⟩
def MS (s:Qs):Option IT:=IB.Dd (fun a=>elig s.m a.1.p) s.t none
theorem OM (qb:Nat) (s:Qs) (F:List Nat) (w0:World) (h:DT w0 qb s F):AO Tryz.prog 210 #[.pointer (some ⟨qb,0,none⟩)] w0 fun v w'=>v = .tuple #[iv (IB.JT (MS s)),.bool (MS s).isSome]∧AA [] w0 w':=by
 obtain ⟨tb,mb,Ft,rfl,h1,h2,h3,h4,h5⟩:=h
 have hs:=(St.nil w0).AH h1 (by simp)
 refine AR Tryz.func210 Tryz.ntmps210 (k:=?_)
 refine Ai ?_
 refine Ao ?_
 refine bx hs (k:=?_);intro bb w hz hs
 refine al hs (k:=?_);intro b2 w hz hs
 refine Jd ?_
 have ho:=hs.AB [] (by simp [h1]) (by simp [D0])
 have hq:=hs.get (At.tail (At.tail At.head))
 have hb:=hs.get (At.tail At.head)
 refine AY hs (h:=by exact IB.Oy tb s.t Ft _ (h3.only ho) 229 [.pointer (some ⟨bb,0,none⟩)] (fun a=>elig s.m a.1.p) (fun y w _ hw=>fX qb tb mb bb s.m s.c y w h4 (hw.block hq (by simp)) (hw.block hb (by simp)))) (k:=?_);intro w' ho hs;repeat' (first|refine Sb ?_|(refine AU hs (k:=?_);intro w hs)|fail)
 refine AG ?_
 exact ⟨rfl,hs.AB [] (by simp [h1]) (by simp [D0])⟩
end Go.Proofs.Q0
namespace Go.Proofs.Q0
open Go Go.RowKit
attribute [local irreducible] XS XC XA AZ AP Aa A1 A0 A8 Ad AW SE
def within (base:Int) (l:List It):Bool:=decide (spr base l≤4611686018427387904)
theorem LG (base:Int) (l:List It) (sl:Value) (hm:l.length≤1000000) (w0:World) (hP:J5 w0 sl l) :
 AO Tryz.prog 198 #[.int .u64 base,sl] w0 fun v w'=>v = .bool (within base l)∧AA [] w0 w':=by
 obtain ⟨ad,cap,rfl,hD⟩:=id hP
 have hs:=St.nil w0
 refine AR Tryz.func198 Tryz.ntmps198 (k:=?_)
 refine Ja ?_
 refine AY hs (h:=by exact SG base l _ hm _ (hP.only (hs.AD rfl))) (k:=?_);intro w' ho hs;refine Jc ?_
 refine AG ?_
 exact ⟨rfl,hs.AD rfl⟩
theorem gK (w0:World):AO Tryz.prog 262 #[.int .u64 0,.slice none 0 0] w0 fun v w'=>v = .int .u64 4611686018427387904∧AA [] w0 w':=by
 have hs:=St.nil w0
 refine AR Tryz.func262 Tryz.ntmps262 (k:=?_)
 refine Ja ?_
 refine cl (h:=by exact LG 0 [] _ (by simp) _ (Cu.nil _ _ _)) (k:=?_)
 rw [show within 0 []=true from by decide]
 rintro v w' ⟨rfl,ho⟩;replace hs:=hs.AN ho;refine Jd ?_
 refine cl (h:=by exact SG 0 [] _ (by simp) _ (Cu.nil _ _ _)) (k:=?_)
 rw [show spr 0 []=0 from by decide]
 rintro v w' ⟨rfl,ho⟩;replace hs:=hs.AN ho;refine Jc ?_
 refine AG ?_
 exact ⟨rfl,hs.AD rfl⟩
end Go.Proofs.Q0
namespace Go.Proofs.Q0
open Go Go.RowKit
open IB (IT DX Bt)
attribute [local irreducible] XS XC XA AZ AP Aa A1 A0 A8 Ad AW SE
def KU (s:Qs) (a:IT):Int:=bif decide (s.t.list.length=0) then a.1.p.t else GC s
def plain (l:List IT):List It:=l.map (·.1)
def EO (s:Qs) (a:IT):Int :=
 bif !a.1.right then 2 else bif (s.f a.1.id).isSome then 13 else bif decide (s.t.list.length=32) then 7 else bif !within (KU s a) (plain (s.t.list ++ [a])) then 8 else 0
def D8 (s:Qs) (a:IT):Qs:=bif decide (EO s a=0) then L2 s a else s
theorem OY (qb:Nat) (s:Qs) (F:List Nat) (a:IT) (w0:World) (h:DT w0 qb s F) (hlen:s.t.list.length+1≤1000000) (hn:s.n < 1000000) :
 AO Tryz.prog 171 #[.pointer (some ⟨qb,0,none⟩),iv a.1] w0 fun v w'=>v = .int .i64 (EO s a)∧∃ F',DT w' qb (D8 s a) F'∧(∀ k∈F',k∈F∨w0.heap.size≤k)∧AA F w0 w':=by
 have hq:=h
 obtain ⟨tb,mb,Ft,rfl,h1,h2,h3,h4,h5⟩:=h
 have hs:=(St.nil w0).AH h1 (by simp)
 have same:∀ w',AA [] w0 w'→∃ F',DT w' qb s F'∧(∀ k∈F',k∈qb :: mb :: Ft∨w0.heap.size≤k)∧AA (qb :: mb :: Ft) w0 w':=fun w' ho=>⟨_,hq.only ho,fun k hk => .inl hk,ho.weaken (by simp)⟩
 refine AR Tryz.func171 Tryz.ntmps171 (k:=?_);refine Ai ?_;refine Ao ?_;refine bx hs (k:=?_);intro bq wq MG hs;refine Jd ?_
 have JI:=hs.new (bq,true) (by simp) rfl
 simp only at JI
 have ho:=hs.AB [] (by simp [h1]) (by simp [D0])
 refine AY hs (h:=by exact N5 qb s _ _ (hq.only ho)) (k:=?_);intro w' ho hs
 refine vs (k:=?_)
 refine XS.nil ?_
 refine ET ?_
 refine Ai ?_
 refine Bg (fun _:Unit=>[(0,.pointer (some ⟨qb,0,none⟩)),(3,.pointer (some ⟨bq,0,none⟩)),(4,.int .i64 0),(5,.int .u64 (KU s a))]) (fun _ w=>St w0 D0 [(bq,tH a.1,true),(qb,Lv s.m tb mb s.c,false)] w) ?_ ?_
 ·refine Ja ?_
  have ho:=hs.AB [] (by simp [h1]) (by simp [D0])
  refine AY hs (h:=by exact Ls qb s _ _ (hq.only ho)) (k:=?_);intro w' ho hs;repeat' (first|refine Sa ?_|refine Ax rfl (fun hc=>?_) fun hc=>?_|fail)
  ·have e:KU s a=a.1.p.t:=by unfold KU;rw [decide_eq_true (show s.t.list.length=0 by omega)];rfl
   rw [e]
   exact AQ () Ae hs
  ·have e:KU s a=GC s:=by unfold KU;rw [decide_eq_false (show ¬ s.t.list.length=0 by omega)];rfl
   rw [e]
   exact AQ () Ae hs
 clear hs ho
 rintro _ env w hs
 refine Jb ?_
 refine dr [] hs (k:=?_);intro hX w hs
 refine tks 0 6 ?_
 refine HO 10 6 hs (k:=?_);intro f X w hp;have hs:=hp.st
 apply BM 6 10 (f:=f) (X:=X) hX hp;exact rfl;exact rfl;(first | (apply AS AJ;exact rfl) | (apply E4 AJ;exact rfl;exact rfl;exact rfl;exact rfl;exact rfl;(intro X;((repeat (first | exact C7.nil | (apply C7.one;exact rfl;(conv=>lhs;whnf);exact rfl;(repeat (first | exact Al.nil | apply Al.skip | apply Al.cons))) | (apply C7.agg;exact rfl;exact rfl;exact rfl;(repeat (first | exact Al.nil | apply Al.skip | apply Al.cons)))))))));kernel_rfl;kernel_rfl;kernel_rfl;kernel_rfl;(intro X Y;(repeat (first | exact A6 | refine A5 ?_ (by exact rfl))));(intro w' hs;first|exact AI hs.hold|exact AI hs.hold.tail|exact A9 rfl);intro f X w hp;have hs:=hp.st
 have ho:=hs.AB [] (by simp [h1]) (by simp [D0])
 refine KB (e:=64) (z:=iv .zero) (h2.keep ho (by simp)) a.2.2.1 (by kernel_rfl) (by kernel_rfl) (k:=?_)
 rw [Ng,Fx]
 generalize hx:(match s.f a.1.id with | some a=>a.1 | none=>It.zero)=x
 refine Jb ?_
 refine dn (k:=?_)
 refine tk 7 hX (hc:=by cases f <;> kernel_rfl) (k:=?_)
 refine tk 8 hX (hc:=by cases f <;> kernel_rfl) (k:=?_)
 refine tk 9 hX (hc:=by cases f <;> kernel_rfl) (k:=?_)
 apply Bi 10 (f:=f) (X:=X) hX hp;exact rfl;(first | (apply AS AJ;exact rfl) | (apply E4 AJ;exact rfl;exact rfl;exact rfl;exact rfl;exact rfl;(intro X;((repeat (first | exact C7.nil | (apply C7.one;exact rfl;(conv=>lhs;whnf);exact rfl;(repeat (first | exact Al.nil | apply Al.skip | apply Al.cons))) | (apply C7.agg;exact rfl;exact rfl;exact rfl;(repeat (first | exact Al.nil | apply Al.skip | apply Al.cons)))))))));kernel_rfl;kernel_rfl;(intro X Y;(repeat (first | exact A6 | refine A5 ?_ (by exact rfl))));(intro w' hs;first|exact AI hs.hold|exact AI hs.hold.tail|exact A9 rfl);intro b w hI hs
 refine dt 11 hX (k:=?_)
 repeat' (first|refine Nx.h ?_|(refine AU hs (k:=?_);intro w hs)|fail)
 refine dn (k:=?_)
 refine tk 12 hX (k:=?_)
 refine en (k:=?_)
 replace hs:=hs.CF
 refine Ja ?_
 refine AY hs (h:=by exact OB a.1 _) (k:=?_);intro w' ho hs;repeat' (first|refine Sa ?_|refine xc_cond rfl (fun hc=>?_) fun hc=>?_|fail)
 ·refine AG ?_
  have ho:=hs.AB [] (by simp [h1]) (by simp [D0])
  have e:EO s a=2:=by unfold EO;rw [show (!a.1.right)=true by simpa using hc];rfl
  refine ⟨by rw [e];rfl,?_⟩
  unfold D8;rw [e]
  exact same _ ho
 ·refine AG ?_
  have ho:=hs.AB [] (by simp [h1]) (by simp [D0])
  have e:EO s a=13:=by unfold EO;rw [show (!a.1.right)=false by assumption,hc];rfl
  refine ⟨by rw [e];rfl,?_⟩
  unfold D8;rw [e]
  exact same _ ho
 ·have r1:(!a.1.right)=false:=by assumption
  have r2:(s.f a.1.id).isSome=false:=by simpa using hc
  have ho:=hs.AB [] (by simp [h1]) (by simp [D0])
  refine AY hs (h:=by exact Ls qb s _ _ (hq.only ho)) (k:=?_);intro w' ho hs;repeat' (first|refine Sa ?_|refine Ax rfl (fun hc=>?_) fun hc=>?_|fail)
  ·refine AG ?_
   have ho:=hs.AB [] (by simp [h1]) (by simp [D0])
   have e:EO s a=7:=by unfold EO;rw [r1,r2,decide_eq_true (show s.t.list.length=32 by omega)];rfl
   refine ⟨by rw [e];rfl,?_⟩
   unfold D8;rw [e]
   exact same _ ho
  ·have r3:¬ s.t.list.length=32:=by omega
   refine dr [] hs (k:=?_);intro hX w hs
   refine tks 0 2 ?_
   refine tk 3 hX (k:=?_)
   refine rN 4 43 a.1.cells hs (k:=?_);intro f X w hp;have hs:=hp.st
   apply BM 2 4 (f:=f) (X:=X) hX hp;exact rfl;exact rfl;(first | (apply AS AJ;exact rfl) | (apply E4 AJ;exact rfl;exact rfl;exact rfl;exact rfl;exact rfl;(intro X;((repeat (first | exact C7.nil | (apply C7.one;exact rfl;(conv=>lhs;whnf);exact rfl;(repeat (first | exact Al.nil | apply Al.skip | apply Al.cons))) | (apply C7.agg;exact rfl;exact rfl;exact rfl;(repeat (first | exact Al.nil | apply Al.skip | apply Al.cons)))))))));kernel_rfl;kernel_rfl;kernel_rfl;kernel_rfl;(intro X Y;(repeat (first | exact A6 | refine A5 ?_ (by exact rfl))));(intro w' hs;first|exact AI hs.hold|exact AI hs.hold.tail|exact A9 rfl);intro f X w hp;have hs:=hp.st
   have ho:=hs.AB [] (by simp [h1]) (by simp [D0])
   have Jw:=lt_of_block (hs.get At.head)
   refine cl (h:=by exact Sz qb s _ _ (hq.only ho) om) (k:=?_)
   rintro v1 w1 ⟨⟨G,hG,Dc⟩,AK⟩
   have hz:=ho.size
   replace hp:=(⟨hp.core.only AK,hG,fun _ _ ho h=>h.keep ho (by simp)⟩:FQ w0 D0 _ _ _ (fun w=>B7 w 64 7 v1 s.t.list.length (Bt s.t.list) G) _ _ _)
   replace hs:=hp.st
   have Ic:∀ k∈G,w0.heap.size≤k:=fun k hk=>by have:=Dc k hk;omega
   refine Jb ?_
   refine dn (k:=?_)
   apply Bi 4 (f:=f) (X:=X) hX hp;exact rfl;(first | (apply AS AJ;exact rfl) | (apply E4 AJ;exact rfl;exact rfl;exact rfl;exact rfl;exact rfl;(intro X;((repeat (first | exact C7.nil | (apply C7.one;exact rfl;(conv=>lhs;whnf);exact rfl;(repeat (first | exact Al.nil | apply Al.skip | apply Al.cons))) | (apply C7.agg;exact rfl;exact rfl;exact rfl;(repeat (first | exact Al.nil | apply Al.skip | apply Al.cons)))))))));kernel_rfl;kernel_rfl;(intro X Y;(repeat (first | exact A6 | refine A5 ?_ (by exact rfl))));(intro w' hs;first|exact AI hs.hold|exact AI hs.hold.tail|exact A9 rfl);intro b w hI hs
   refine dt 5 hX (k:=?_)
   have hb4:=hs.get At.head
   have AM:=hs.AB [] (by simp [h1]) (by simp [D0])
   refine CO AJ rfl rfl rfl rfl rfl rfl rfl (by decide) (lit_cells (news:=a.1.cells) hb4) (by simp [Value.oneCell']) hI om om ?_
   intro v2 w2 ⟨G',K0,RM⟩ AT
   have Zb:bq∉G:=fun hm=>by have:=Dc bq hm;omega
   have hqG:qb∉G:=IB.Ms hI (by decide) (hs.get (At.tail (At.tail At.head)))
   replace hs:=hs.CF.call AT (fun k hk hm=>by
    simp only [List.map_cons,List.map_nil,List.mem_cons,List.not_mem_nil,or_false] at hm
    rcases hm with rfl | rfl
    ·exact Zb hk
    ·exact hqG hk) (by simp [D0])
   have yM:AA [] w0 w2:=(hs.AB (G ++ []) (by simp [h1]) (by simp [D0])).mono (fun k hk hm=>by
    rw [List.append_nil] at hm
    have:=Ic k hm
    omega)
   have hL:J5 w2 v2 (plain (s.t.list ++ [a])):=IB.PT (G:=G') (by
    rw [IB.MQ,List.length_append]
    exact K0)
   refine Jb ?_
   refine dn (k:=?_)
   refine dt 6 hX (k:=?_)
   refine cl (h:=by exact LG (KU s a) (plain (s.t.list ++ [a])) v2 (by simp [plain];omega) _ hL) (k:=?_)
   generalize hwi:within (KU s a) (plain (s.t.list ++ [a]))=wi
   rintro v3 w3 ⟨rfl,Aw⟩;replace hs:=hs.AN Aw
   have c9:=yM.trans Aw
   refine Jb ?_
   refine dn (k:=?_)
   refine tks 7 2 ?_
   refine en (k:=?_)
   cases wi
   ·refine Je ?_
    refine AG ?_
    have e:EO s a=8:=by unfold EO;rw [r1,r2,decide_eq_false r3,hwi];rfl
    refine ⟨by rw [e];rfl,?_⟩
    unfold D8;rw [e]
    exact same _ c9
   ·have e:EO s a=0:=by unfold EO;rw [r1,r2,decide_eq_false r3,hwi];rfl
    refine Jd ?_
    refine cl (h:=by exact WS qb s _ a _ (hq.only c9) hlen hn) (k:=?_)
    rintro v w5 ⟨F',hA,Cc,BY⟩
    have hz5:=c9.size
    clear hs
    have hs:=St.nil w5
    refine Ja ?_
    refine AG ?_
    refine ⟨by rw [e];rfl,?_⟩
    unfold D8;rw [e]
    exact ⟨F',hA.only (hs.AD rfl),fun k hk=>by rcases Cc k hk with h | h;exact .inl h;exact .inr om,((c9.weaken (by simp)).step BY (fun k hk => .inl hk)).step (hs.AD rfl) (by simp)⟩
end Go.Proofs.Q0
namespace Go.Proofs.Q0
open IB (IT)
structure QI (s:Qs):Prop where
 good:RB.Good s.t
 srt:RB.Kp IB.DK s.t.list
 f:∀ i a,s.f i=some a↔a∈s.t.list∧a.1.id=i
 n:s.n=s.t.list.length
 len:s.t.list.length≤32
 cen:s.t.list≠[]→Lf s.m (plain s.t.list)
 nil:s.t.list=[]→s.m.a=0∧s.m.w=0∧s.m.n=0
theorem QI.inj {s:Qs} (h:QI s):∀ x∈s.t.list,∀ y∈s.t.list,x.1.id=y.1.id→x=y:=fun x hx y hy e=>by
 have h1:=(h.f _ x).2 ⟨hx,rfl⟩
 have h2:=(h.f _ y).2 ⟨hy,e.symm⟩
 rw [h1] at h2;exact Option.some.inj h2
theorem plain_ne {l:List IT} (h:l≠[]):plain l≠[]:=fun e=>h (List.map_eq_nil_iff.1 e)
theorem plain_perm {l l':List IT} (h:l.Perm l'):(plain l).Perm (plain l'):=h.map _
theorem plain_win {l:List IT} {b lo:Int} (h:Cp b lo (plain l)):∀ x∈l,Kq b lo x.1:=fun x hx=>h.2.2 _ (List.mem_map_of_mem hx)
theorem QI.win {s:Qs} (h:QI s):∃ lo,Cp s.m.b lo (plain s.t.list):=by
 by_cases e:s.t.list=[]
 ·rw [e];exact ⟨0,by unfold Iy;omega,by simp [plain],by simp [plain]⟩
 ·exact (h.cen e).all
theorem QI.ord {s:Qs} (h:QI s):DJ IB.DK (·∈s.t.list):=by
 obtain ⟨lo,k⟩:=h.win
 exact aA1 (plain_win k) k.1 h.inj
theorem T3 {s:Qs} (h:s.t.list≠[]):GC s=(Iw s.m).getD 0:=by
 unfold GC
 rw [decide_eq_false (fun e=>h (List.eq_nil_of_length_eq_zero e)),cond_false]
theorem Wm {s:Qs} (h:s.t.list=[]):GC s=s.c:=by
 unfold GC
 rw [h];rfl
theorem QI.now {s:Qs} (h:QI s) (e:s.t.list≠[]):GC s=s.m.b:=by
 rw [T3 e,(h.cen e).now (plain_ne e)];rfl
theorem L9 {s:Qs} {a:IT} (h:s.t.list=[]):Fu s a=⟨a.1.p.t,0,0,0⟩:=by unfold Fu;rw [h];rfl
theorem LP {s:Qs} {a:IT} (h:s.t.list≠[]):Fu s a=s.m:=by
 unfold Fu
 rw [decide_eq_false (fun e=>h (List.eq_nil_of_length_eq_zero e)),cond_false]
theorem QI.pre {s:Qs} (h:QI s) (a:IT):Ks (Fu s a) (plain s.t.list):=by
 by_cases e:s.t.list=[]
 ·rw [L9 e,e];exact ⟨rfl,rfl,rfl⟩
 ·rw [LP e];exact (h.cen e).is
theorem mN {f:Int→Option IT} {L L':List IT} {a:IT} (h:∀ i x,f i=some x↔x∈L∧x.1.id=i) (hn:f a.1.id=none) (hp:L'.Perm (a :: L)):∀ i x,Kk f a.1.id (some a) i=some x↔x∈L'∧x.1.id=i:=fun i x=>by
 unfold Kk
 rw [hp.mem_iff,List.mem_cons]
 by_cases e:i=a.1.id
 ·rw [decide_eq_true e,cond_true]
  constructor
  ·rintro ⟨⟩;exact ⟨.inl rfl,e.symm⟩
  ·rintro ⟨rfl | hx,hi⟩
   ·rfl
   ·rw [(h a.1.id x).2 ⟨hx,by omega⟩] at hn;cases hn
 ·rw [decide_eq_false e,cond_false,h i x]
  constructor
  ·exact fun ⟨h1,h2⟩=>⟨.inr h1,h2⟩
  ·rintro ⟨rfl | hx,hi⟩
   ·exact absurd hi.symm e
   ·exact ⟨hx,hi⟩
theorem QI.put {s:Qs} (h:QI s) {a:IT} {lo:Int} (hn:s.f a.1.id=none) (hw:Cp (Fu s a).b lo (a.1 :: plain s.t.list)):QI (L2 s a)∧(L2 s a).t.list.Perm (a :: s.t.list)∧(L2 s a).c=s.c:=by
 have hna:a∉s.t.list:=fun hm=>by rw [(h.f _ a).2 ⟨hm,rfl⟩] at hn;cases hn
 have hid:∀ x∈s.t.list,x.1.id≠a.1.id:=fun x hx e=>by rw [(h.f _ x).2 ⟨hx,e⟩] at hn;cases hn
 have ho:DJ IB.DK (·∈a :: s.t.list):=aA1 (b:=(Fu s a).b) (lo:=lo) (fun x hx=>by
  rcases List.mem_cons.1 hx with rfl | hx
  ·exact hw.head
  ·exact plain_win hw.tail x hx) hw.1 (fun x hx y hy e=>by
  rcases List.mem_cons.1 hx with h1 | h1 <;> rcases List.mem_cons.1 hy with h2 | h2
  ·rw [h1,h2]
  ·rw [h1] at e;exact absurd e.symm (hid y h2)
  ·rw [h2] at e;exact absurd e (hid x h1)
  ·exact h.inj x h1 y h2 e)
 have p8:RB.has IB.DK a s.t=false:=by
  have:=RB.Pd ho (x:=a) List.mem_cons_self s.t h.srt (fun z hz=>List.mem_cons_of_mem _ hz)
  cases e:RB.has IB.DK a s.t
  ·rfl
  ·exact absurd (this.1 e) hna
 have ht:(Hy s a).t=RB.blacken (RB.ins IB.DK s.t a):=by show IB.RB.insert s.t a=_;unfold IB.RB.insert;rw [p8];rfl
 have hl:(Hy s a).t.list=RB.Io IB.DK a s.t.list:=by rw [ht,RB.JH,RB.Qn ho List.mem_cons_self s.t h.srt (fun z hz=>List.mem_cons_of_mem _ hz)]
 have hp:(Hy s a).t.list.Perm (a :: s.t.list):=by rw [hl];exact RB.Pa _ _
 obtain ⟨m',e1,e2,e3⟩:=kZ hw (h.pre a)
 have em:(Hy s a).m=m':=by show (Ea _ _).getD .zero=_;rw [e1];rfl
 have hne:(Hy s a).t.list≠[]:=fun e=>by rw [e] at hp;exact absurd hp.length_eq (by simp)
 obtain ⟨m2,e4,e5⟩:=OX (m:=m') (lo:=lo) (l:=a.1 :: plain s.t.list) (by rw [e2];exact hw) e3 (by simp)
 have ec:L2 s a={ Hy s a with m:=m2 }:=by
  unfold L2 LO
  rw [T3 hne,em,e4];rfl
 have pJ:=hw.2.1
 simp only [plain,List.length_cons,List.length_map] at pJ
 refine ⟨?_,by rw [ec];exact hp,by rw [ec];rfl⟩
 rw [ec]
 exact {
  good:=by show RB.Good (Hy s a).t;rw [ht];exact RB.Good.ins h.good
  srt:=by show RB.Kp _ (Hy s a).t.list;rw [hl];exact RB.WH ho List.mem_cons_self (fun z hz=>List.mem_cons_of_mem _ hz) h.srt hna
  f:=mN h.f hn hp
  n:=by
   show (if (s.f a.1.id).isSome then s.n else s.n+1)=(Hy s a).t.list.length
   rw [hn,hp.length_eq,h.n];rfl
  len:=by show (Hy s a).t.list.length≤32;rw [hp.length_eq];exact pJ
  cen:=fun _=>e5.perm (plain_perm hp.symm)
  nil:=fun e=>absurd e hne }
theorem QI.cut {s:Qs} (h:QI s) {a:IT} (ha:a∈s.t.list):QI (F4 s a)∧(F4 s a).t.list=RB.sans a s.t.list∧s.t.list.Perm (a :: RB.sans a s.t.list)∧(F4 s a).c=GC s∧Gh a s.t:=by
 have hne:s.t.list≠[]:=fun e=>by rw [e] at ha;cases ha
 obtain ⟨t1,d1,d2,d3⟩:=xA h.ord h.good h.srt (fun z hz=>hz) ha
 have p8:RB.has IB.DK a s.t=true:=(RB.Pd h.ord (x:=a) ha s.t h.srt (fun z hz=>hz)).2 ha
 have hnd:=RB.gA h.ord (fun z hz=>hz) h.srt
 have hp:=RB.gR hnd ha
 have ht:(Eu s a).t=RB.blacken t1:=by show WX a s.t=_;unfold WX;rw [p8,d1];rfl
 have hl:(Eu s a).t.list=RB.sans a s.t.list:=by rw [ht,RB.JH,d3]
 have hC:=h.cen hne
 obtain ⟨lo,hw⟩:=hC.all
 have uA:Cp s.m.b lo (a.1 :: plain (RB.sans a s.t.list)):=hw.perm (plain_perm hp)
 have hm2:Ks s.m (a.1 :: plain (RB.sans a s.t.list)):=hC.is.perm (plain_perm hp)
 obtain ⟨e1,e2⟩:=wQ uA hm2
 have em:(Eu s a).m=GM s.m a.1.p:=by show (GS _ _).getD .zero=_;rw [e1];rfl
 have hok:Gh a s.t:=fun _=>⟨by rw [d1];rfl,by rw [d1];show t1.list.length+1=_;rw [d3,hp.length_eq];rfl⟩
 have hmem:∀ x,x∈RB.sans a s.t.list↔x∈s.t.list∧x≠a:=fun x=>by unfold RB.sans;rw [List.mem_filter];simp
 have zI:RB.Kp IB.DK (RB.sans a s.t.list):=List.Pairwise.filter _ h.srt
 have hlen:=hp.length_eq
 simp only [List.length_cons] at hlen
 have hfa:s.f a.1.id=some a:=(h.f _ a).2 ⟨ha,rfl⟩
 have hf:∀ i x,Kk s.f a.1.id none i=some x↔x∈RB.sans a s.t.list∧x.1.id=i:=fun i x=>by
  unfold Kk
  rw [hmem]
  by_cases e:i=a.1.id
  ·rw [decide_eq_true e,cond_true]
   constructor
   ·rintro ⟨⟩
   ·rintro ⟨⟨k1,k2⟩,k3⟩;exact absurd (h.inj x k1 a ha om) k2
  ·rw [decide_eq_false e,cond_false,h.f i x]
   constructor
   ·exact fun ⟨h1,h2⟩=>⟨⟨h1,fun e'=>e (by rw [← h2,e'])⟩,h2⟩
   ·exact fun ⟨h1,h2⟩=>⟨h1.1,h2⟩
 have hn:(if (s.f a.1.id).isSome then s.n - 1 else s.n)=(RB.sans a s.t.list).length:=by rw [hfa,h.n];simp only [Option.isSome_some,if_true];omega
 have hg:RB.Good (Eu s a).t:=by rw [ht];obtain ⟨k,d2⟩:=d2;exact ⟨RB.QO _,d2.blacken⟩
 by_cases hz:RB.sans a s.t.list=[]
 ·have e3:JD (GM s.m a.1.p) (GC s)=some ⟨GC s,0,0,0⟩:=by
   have i1:=e2.a;have i2:=e2.w;have i3:=e2.n
   rw [hz] at i1 i2 i3
   simp only [plain,List.map_nil,CM,Bw,List.length_nil] at i1 i2 i3
   unfold JD
   rw [i1,i2,i3]
   simp only [Int.zero_mul,Int.sub_zero]
   exact if_pos ⟨by rw [Cx];left;exact ⟨i3,i2,i1⟩,OW⟩
  have ec:F4 s a={ Eu s a with m:=⟨GC s,0,0,0⟩ }:=by
   unfold F4 LO
   rw [Wm (hl.trans hz),em,show (Eu s a).c=GC s from rfl,e3];rfl
  refine ⟨?_,by rw [ec];exact hl,hp,by rw [ec];rfl,hok⟩
  rw [ec]
  exact { good:=hg,srt:=by show RB.Kp _ (Eu s a).t.list;rw [hl];exact zI,f:=by show ∀ i x,Kk s.f a.1.id none i=some x↔x∈(Eu s a).t.list∧_;rw [hl];exact hf,n:=by show (if _ then _ else _)=(Eu s a).t.list.length;rw [hl];exact hn,len:=by show (Eu s a).t.list.length≤32;rw [hl,hz];simp,cen:=fun k=>absurd (hl.trans hz) k,nil:=fun _=>⟨rfl,rfl,rfl⟩ }
 ·obtain ⟨m2,e4,e5⟩:=OX (m:=GM s.m a.1.p) (lo:=lo) (l:=plain (RB.sans a s.t.list)) uA.tail e2 (plain_ne hz)
  have ec:F4 s a={ Eu s a with m:=m2 }:=by
   unfold F4 LO
   rw [T3 (by rw [hl];exact hz),em,e4];rfl
  refine ⟨?_,by rw [ec];exact hl,hp,by rw [ec];rfl,hok⟩
  rw [ec]
  exact { good:=hg,srt:=by show RB.Kp _ (Eu s a).t.list;rw [hl];exact zI,f:=by show ∀ i x,Kk s.f a.1.id none i=some x↔x∈(Eu s a).t.list∧_;rw [hl];exact hf,n:=by show (if _ then _ else _)=(Eu s a).t.list.length;rw [hl];exact hn,len:=by show (Eu s a).t.list.length≤32;rw [hl];have:=h.len;omega,cen:=fun _=>by show Lf m2 (plain (Eu s a).t.list);rw [hl];exact e5,nil:=fun k=>absurd (hl.symm.trans k) hz }
theorem QI.new (c:Int):QI (IS c) where
 good:=RB.Good.nil
 srt:=List.Pairwise.nil
 f i a:=by constructor;rintro ⟨⟩;rintro ⟨h,_⟩;cases h
 n:=rfl
 len:=by simp [IS,RB.list]
 cen h:=absurd rfl h
 nil _:=⟨rfl,rfl,rfl⟩
end Go.Proofs.Q0
namespace Go.Proofs.Q0
open Go Go.RowKit
attribute [local irreducible] XS XC XA AZ AP Aa A1 A0 A8 Ad AW SE
structure Rq where
 i:It
 left:Int
 slice:Int
 asleep:Bool
deriving DecidableEq
abbrev Rq.cells (r:Rq):List Value:=[.int .u64 r.i.p.t,.int .u32 r.i.p.r,.int .u32 r.i.p.w,.int .i64 r.i.id,.int .u64 r.i.d.t,.int .u32 r.i.d.r,.int .u32 r.i.d.w,.int .u64 r.left,.int .u64 r.slice,.bool r.asleep]
def rv (r:Rq):Value := .agg #[.int .u64 r.i.p.t,.int .u32 r.i.p.r,.int .u32 r.i.p.w,.int .i64 r.i.id,.int .u64 r.i.d.t,.int .u32 r.i.d.r,.int .u32 r.i.d.w,.int .u64 r.left,.int .u64 r.slice,.bool r.asleep]
def Rq.In (r:Rq):Prop:=r.i.In∧BL r.left∧BL r.slice
instance aCs (r:Rq):Decidable r.In:=by unfold Rq.In;infer_instance
def Rq.zero:Rq:=⟨.zero,0,0,false⟩
def Cz (n:Int):Bool:=decide (1≤n) && decide (n≤1099511627776)
theorem NW {n:Int}:Cz n=true↔1≤n∧n≤1099511627776:=by unfold Cz;simp
theorem UE (n:Int) (w0:World):AO Tryz.prog 191 #[.int .u64 n] w0 fun v w'=>v = .bool (Cz n)∧AA [] w0 w':=by
 have hs:=St.nil w0
 refine AR Tryz.func191 Tryz.ntmps191 (k:=?_)
 repeat' (first|refine Sf ?_|((with_reducible apply B6);exact rfl;exact rfl;intro c hc;(fail_if_success have:true=c:=hc);(fail_if_success have:false=c:=hc);cases c)|fail)
 all_goals (refine AG ?_)
 all_goals refine ⟨?_,hs.AD rfl⟩
 all_goals clear hs
 ·have h1:decide (1≤n)=false:=hc
  unfold Cz;rw [h1];rfl
 ·have h1:decide (1≤n)=true:=hc
  unfold Cz;rw [h1];rfl
def HI (p:Pt) (n:Int):Pt:=(HG p (n*1048576)).getD .zero
theorem aAR {o:Option Pt} (h:∀ p,o=some p→p.In):(o.getD .zero).In:=by
 cases o with
 | none=>decide
 | some p=>exact h p rfl
theorem xO (p:Pt) (n:Int):(HI p n).In:=aAR fun q h=>(at_some h).1
theorem XE (p:Pt) (n:Int) (hp':p.In) (h0:0≤n) (h1:n≤1099511627776) (w0:World):AO Tryz.prog 192 #[pv p,.int .u64 n] w0 fun v w'=>v=pv (HI p n)∧AA [] w0 w':=by
 have e:IntKind.u64.wrap (n*1048576)=n*1048576:=by rw [wrap_u64];omega
 have hs:=St.nil w0
 refine AR Tryz.func192 Tryz.ntmps192 (k:=?_)
 repeat' (first|refine Sa ?_|(refine al hs (k:=?_);intro b w hz hs)|(refine bx hs (k:=?_);intro b w hz hs)|fail)
 refine cl (h:=by exact RF p (IntKind.u64.wrap (n*1048576)) hp' (by rw [e];exact ⟨by omega,by omega⟩) _) (k:=?_)
 rw [e]
 rintro v w' ⟨rfl,ho⟩;replace hs:=hs.AN ho;repeat' (first|refine Sa ?_|(refine AU hs (k:=?_);intro w hs)|(refine al hs (k:=?_);intro b w hz hs)|fail)
 refine AG ?_
 exact ⟨rfl,hs.AD rfl⟩
def Rq.right (r:Rq):Bool:=r.i.right && Cz r.left && Cz r.slice && decide (HI r.i.p r.left=r.i.d)
theorem aCT (p q:Pt):(CY (.int .u64 p.t) (.int .u64 q.t) && (CY (.int .u32 p.r) (.int .u32 q.r) && CY (.int .u32 p.w) (.int .u32 q.w)))=decide (p=q):=by
 show ((p.t == q.t) && ((p.r == q.r) && (p.w == q.w)))=_
 obtain ⟨a,b,c⟩:=p
 obtain ⟨a',b',c'⟩:=q
 simp only [Pt.mk.injEq]
 by_cases h1:a=a' <;> by_cases h2:b=b' <;> by_cases h3:c=c' <;> simp [h1,h2,h3]
theorem JS (r:Rq) (hr:r.In) (w0:World):AO Tryz.prog 146 #[rv r] w0 fun v w'=>v = .bool r.right∧AA [] w0 w':=by
 have hs:=St.nil w0
 refine AR Tryz.func146 Tryz.ntmps146 (k:=?_)
 repeat' (first|refine Sa ?_|(refine bx hs (k:=?_);intro b w hz hs)|fail)
 refine dr [] hs (k:=?_);intro hX w hs
 refine tks 0 2 ?_
 refine dt 2 hX (k:=?_)
 refine AY hs (h:=by exact OB r.i _) (k:=?_);intro w' ho hs;refine Jb ?_
 refine dn (k:=?_)
 refine tk 3 hX (k:=?_)
 refine UJ 6 rfl ?_;intro c q1;cases c
 ·refine pt 4 hX (k:=?_)
  refine pt 5 hX (k:=?_)
  refine pt 6 hX (k:=?_)
  refine tks 7 2 ?_
  refine pt 9 hX (k:=?_)
  refine pt 10 hX (k:=?_)
  refine pt 11 hX (k:=?_)
  refine tks 12 2 ?_
  refine pt 14 hX (k:=?_)
  refine pt 15 hX (k:=?_)
  refine pt 16 hX (k:=?_)
  refine pt 17 hX (k:=?_)
  refine pt 18 hX (k:=?_)
  refine pt 19 hX (k:=?_)
  refine pt 20 hX (k:=?_)
  refine pt 21 hX (k:=?_)
  refine pt 22 hX (k:=?_)
  refine pt 23 hX (k:=?_)
  refine tks 24 2 ?_
  refine en (k:=?_)
  refine Jb ?_
  refine AG ?_
  refine ⟨?_,hs.AD rfl⟩
  unfold Rq.right;rw [q1];rfl
 ·refine tks 4 2 ?_
  refine dt 6 hX (k:=?_)
  refine AY hs (h:=by exact UE r.left _) (k:=?_);intro w' ho hs;refine Jb ?_
  refine dn (k:=?_)
  refine tks 7 2 ?_
  refine UJ 11 rfl ?_;intro c q2;cases c
  ·refine pt 9 hX (k:=?_)
   refine pt 10 hX (k:=?_)
   refine pt 11 hX (k:=?_)
   refine tks 12 2 ?_
   refine pt 14 hX (k:=?_)
   refine pt 15 hX (k:=?_)
   refine pt 16 hX (k:=?_)
   refine pt 17 hX (k:=?_)
   refine pt 18 hX (k:=?_)
   refine pt 19 hX (k:=?_)
   refine pt 20 hX (k:=?_)
   refine pt 21 hX (k:=?_)
   refine pt 22 hX (k:=?_)
   refine pt 23 hX (k:=?_)
   refine tks 24 2 ?_
   refine en (k:=?_)
   refine Jb ?_
   refine AG ?_
   refine ⟨?_,hs.AD rfl⟩
   unfold Rq.right;rw [q1,q2];rfl
  ·refine tks 9 2 ?_
   refine dt 11 hX (k:=?_)
   refine AY hs (h:=by exact UE r.slice _) (k:=?_);intro w' ho hs;refine Jb ?_
   refine dn (k:=?_)
   refine tks 12 2 ?_
   refine UJ 16 rfl ?_;intro c q3;cases c
   ·refine pt 14 hX (k:=?_)
    refine pt 15 hX (k:=?_)
    refine pt 16 hX (k:=?_)
    refine pt 17 hX (k:=?_)
    refine pt 18 hX (k:=?_)
    refine pt 19 hX (k:=?_)
    refine pt 20 hX (k:=?_)
    refine pt 21 hX (k:=?_)
    refine pt 22 hX (k:=?_)
    refine pt 23 hX (k:=?_)
    refine tks 24 2 ?_
    refine en (k:=?_)
    refine Jb ?_
    refine AG ?_
    refine ⟨?_,hs.AD rfl⟩
    unfold Rq.right;rw [q1,q2,q3];rfl
   ·have h2:=NW.1 q2
    refine tks 14 5 ?_
    refine tks 20 3 ?_
    refine dt 19 hX (k:=?_)
    refine AY hs (h:=by exact XE r.i.p r.left hr.1.1 om h2.2 _) (k:=?_);intro w' ho hs;refine Jb ?_
    refine dn (k:=?_)
    refine tks 23 3 ?_
    refine en (k:=?_)
    refine Jb ?_
    refine AG ?_
    refine ⟨?_,hs.AD rfl⟩
    unfold Rq.right;rw [q1,q2,q3]
    show Value.bool _=Value.bool _
    rw [aCT];rfl
def DC (r:Rq):Rq:=bif Cz r.left then ⟨⟨r.i.p,r.i.id,HI r.i.p r.left⟩,r.left,r.slice,r.asleep⟩ else r
def Bu (r:Rq):Option Rq:=bif (DC r).right then some (DC r) else none
theorem Ta {r:Rq} (h:r.In):(DC r).In:=by
 unfold DC
 cases Cz r.left
 ·exact h
 ·exact ⟨⟨h.1.1,h.1.2.1,xO _ _⟩,h.2⟩
def lS (o:Option Rq):Value := .tuple #[rv (o.getD .zero),.bool o.isSome]
theorem Ll (r:Rq) (hr:r.In) (w0:World):AO Tryz.prog 147 #[rv r] w0 fun v w'=>v=lS (Bu r)∧AA [] w0 w':=by
 have hs:=St.nil w0
 refine AR Tryz.func147 Tryz.ntmps147 (k:=?_)
 refine Ai ?_
 refine Ao ?_
 refine bx hs (k:=?_);intro b1 w hz hs
 refine al hs (k:=?_);intro b2 w hz hs
 refine vs (k:=?_)
 refine XS.nil ?_
 refine ET ?_
 refine Ai ?_
 refine Bg (fun _:Unit=>[(1,.pointer (some ⟨b1,0,none⟩)),(2,.pointer (some ⟨b2,0,none⟩))]) (fun _ w=>St w0 D0 [(b2,.cells Rq.zero.cells.toArray 66,true),(b1,.cells (DC r).cells.toArray 66,true)] w) ?_ ?_
 ·refine Ja ?_
  refine cl (h:=by exact UE r.left _) (k:=?_)
  generalize hq:Cz r.left=q
  cases q
  ·have e:DC r=r:=by unfold DC;rw [hq];rfl
   rw [e]
   rintro v w' ⟨rfl,ho⟩;replace hs:=hs.AN ho;refine Jg ?_
   exact AQ () Ae hs
  ·have e:DC r=⟨⟨r.i.p,r.i.id,HI r.i.p r.left⟩,r.left,r.slice,r.asleep⟩:=by unfold DC;rw [hq];rfl
   have h2:=NW.1 hq
   rw [e]
   rintro v w' ⟨rfl,ho⟩;replace hs:=hs.AN ho;refine Je ?_
   refine AY hs (h:=by exact XE r.i.p r.left hr.1.1 om h2.2 _) (k:=?_);intro w' ho hs;repeat' (first|refine Sb ?_|(refine AU hs (k:=?_);intro w hs)|fail)
   exact AQ () Ae hs
 clear hs
 rintro _ env w hs
 have hf:=Ta hr
 unfold Bu
 generalize DC r=u at *
 refine Ja ?_
 refine cl (h:=by exact JS u hf _) (k:=?_)
 generalize hq:u.right=q
 cases q
 ·rintro v w' ⟨rfl,ho⟩;replace hs:=hs.AN ho;repeat' (first|refine Sc ?_|(refine AU hs (k:=?_);intro w hs)|fail)
  refine AG ?_
  exact ⟨rfl,hs.AD rfl⟩
 ·rintro v w' ⟨rfl,ho⟩;replace hs:=hs.AN ho;repeat' (first|refine Sd ?_|(refine AU hs (k:=?_);intro w hs)|fail)
  refine AG ?_
  exact ⟨rfl,hs.AD rfl⟩
def newR (p:Pt) (id n:Int):Option Rq:=Bu ⟨⟨p,id,.zero⟩,n,n,false⟩
theorem LR (p:Pt) (id n:Int) (hp':p.In) (hi:In64 id) (hn:BL n) (w0:World):AO Tryz.prog 131 #[pv p,.int .i64 id,.int .u64 n] w0 fun v w'=>v=lS (newR p id n)∧AA [] w0 w':=by
 have hs:=St.nil w0
 refine AR Tryz.func131 Tryz.ntmps131 (k:=?_)
 repeat' (first|refine Sa ?_|(refine al hs (k:=?_);intro b w hz hs)|(refine bx hs (k:=?_);intro b w hz hs)|fail)
 refine AY hs (h:=by exact Ll ⟨⟨p,id,.zero⟩,n,n,false⟩ ⟨⟨hp',hi,(by decide:Pt.zero.In)⟩,hn,hn⟩ _) (k:=?_);intro w' ho hs;repeat' (first|refine Sb ?_|(refine AU hs (k:=?_);intro w hs)|fail)
 refine AG ?_
 exact ⟨rfl,hs.AD rfl⟩
theorem Mj {r u:Rq} (h:r.In) (e:Bu r=some u):u.In∧u.right=true:=by
 unfold Bu at e
 cases hq:(DC r).right
 ·rw [hq] at e;cases e
 ·rw [hq,cond_true] at e
  cases e
  exact ⟨Ta h,hq⟩
def C3 (r:Rq) (p:Pt) (n:Int):Rq:=⟨⟨p,r.i.id,r.i.d⟩,bif decide (r.left - n=0) then r.slice else r.left - n,r.slice,r.asleep⟩
def C1 (r:Rq) (n:Int):Option (Rq × Bool) :=
 if r.right=true∧n≠0∧n≤r.left then (match HG r.i.p (n*1048576) with | none=>none | some p=>(Bu (C3 r p n)).map fun u=>(u,decide (r.left - n=0))) else none
def svV (o:Option (Rq × Bool)):Value:=match o with
 | none => .tuple #[rv .zero,.bool false,.bool false]
 | some (u,b) => .tuple #[rv u,.bool b,.bool true]
theorem Sh {r:Rq} (h:r.right=true):1≤r.left∧r.left≤1099511627776∧1≤r.slice∧r.slice≤1099511627776:=by
 unfold Rq.right at h
 simp only [Bool.and_eq_true] at h
 have h1:=NW.1 h.1.1.2
 have h2:=NW.1 h.1.2
 omega
theorem WU {r:Rq} {p:Pt} {n:Int} (hr:r.In) (hp:p.In) (h0:0≤n) (h1:n≤r.left):(C3 r p n).In:=by
 refine ⟨⟨hp,hr.1.2⟩,?_,hr.2.2⟩
 show BL (bif decide (r.left - n=0) then r.slice else r.left - n)
 cases decide (r.left - n=0)
 ·have:=hr.2.1;unfold BL at *;simp only [cond_false];omega
 ·exact hr.2.2
theorem S9 (r:Rq) (n:Int) (hr:r.In) (hn:BL n) (w0:World):AO Tryz.prog 134 #[rv r,.int .u64 n] w0 fun v w'=>v=svV (C1 r n)∧AA [] w0 w':=by
 have hs:=St.nil w0
 refine AR Tryz.func134 Tryz.ntmps134 (k:=?_)
 refine Ai ?_
 refine Ao ?_
 refine bx hs (k:=?_);intro b2 w hz hs
 refine al hs (k:=?_);intro b4 w hz hs
 refine Ja ?_
 refine AY hs (h:=by exact JS r hr _) (k:=?_);intro w' ho hs;repeat' (first|refine Se ?_|(refine AU hs (k:=?_);intro w hs)|((with_reducible apply B6);exact rfl;exact rfl;intro c hc;(fail_if_success have:true=c:=hc);(fail_if_success have:false=c:=hc);cases c)|refine Ax rfl (fun hc=>?_) fun hc=>?_|fail)
 ·refine AG ?_
  refine ⟨?_,hs.AD rfl⟩
  have:C1 r n=none:=by unfold C1;rw [if_neg (fun h=>by omega)]
  rw [this];rfl
 ·have h1:r.right=true:=by simpa using ‹(!r.right)=false›
  have h2:n≠0:=by simpa using ‹(n == 0)=false›
  have h3:n≤r.left:=by omega
  have h4:=Sh h1
  have hn':=hn
  obtain ⟨hn0,Lx⟩:=hn'
  have e1:IntKind.u64.wrap (n*1048576)=n*1048576:=by rw [wrap_u64];omega
  have ev:C1 r n=match HG r.i.p (n*1048576) with | none=>none | some p=>(Bu (C3 r p n)).map fun u=>(u,decide (r.left - n=0)):=by unfold C1;rw [if_pos ⟨h1,h2,h3⟩]
  refine cl (h:=by exact RF r.i.p (IntKind.u64.wrap (n*1048576)) hr.1.1 (by rw [e1];exact ⟨by omega,by omega⟩) _) (k:=?_)
  rw [e1]
  cases hp:HG r.i.p (n*1048576) with
  | none =>
    rintro v w' ⟨rfl,ho⟩;replace hs:=hs.AN ho;repeat' (first|refine Sc ?_|(refine AU hs (k:=?_);intro w hs)|(refine al hs (k:=?_);intro b w hz hs)|fail)
    refine AG ?_
    refine ⟨?_,hs.AD rfl⟩
    rw [ev,hp];rfl
  | some p =>
    have N1:=(at_some hp).1
    have e2:IntKind.u64.wrap (r.left - n)=r.left - n:=by rw [wrap_u64];omega
    rw [hp] at ev
    simp only at ev
    have bI:=WU hr N1 hn0 h3
    have ele:(C3 r p n).left=if IntKind.u64.wrap (r.left - n)=0 then r.slice else IntKind.u64.wrap (r.left - n):=by
     rw [e2];unfold C3
     by_cases h:r.left - n=0
     ·rw [if_pos h,decide_eq_true h];rfl
     ·rw [if_neg h,decide_eq_false h];rfl
    rintro v w' ⟨rfl,ho⟩;replace hs:=hs.AN ho
    repeat' (first|refine Sd ?_|(refine st hs (k:=?_);intro w hs)|(refine AU hs (k:=?_);intro w hs)|(refine al hs (k:=?_);intro b w hz hs)|refine Ax rfl (fun hc=>?_) fun hc=>?_|fail)
    ·have ez:r.left - n=0:=by rw [← e2];assumption
     have el:C3 r p n=⟨⟨p,r.i.id,r.i.d⟩,r.slice,r.slice,r.asleep⟩:=by unfold C3;rw [decide_eq_true ez];rfl
     rw [el] at ev bI
     rw [decide_eq_true ez] at ev
     have eb:(IntKind.u64.wrap (r.left - n) == 0)=true:=by rw [e2,ez];rfl
     refine cl (h:=by exact Ll ⟨⟨p,r.i.id,r.i.d⟩,r.slice,r.slice,r.asleep⟩ bI _) (k:=?_)
     generalize Bu ⟨⟨p,r.i.id,r.i.d⟩,r.slice,r.slice,r.asleep⟩=o at *
     cases o
     ·rintro v w' ⟨rfl,ho⟩;replace hs:=hs.AN ho;repeat' (first|refine Sc ?_|(refine AU hs (k:=?_);intro w hs)|fail)
      refine AG ?_
      exact ⟨by rw [ev];rfl,hs.AD rfl⟩
     ·rintro v w' ⟨rfl,ho⟩;replace hs:=hs.AN ho;repeat' (first|refine Sd ?_|(refine AU hs (k:=?_);intro w hs)|fail)
      refine AG ?_
      exact ⟨by rw [ev,eb];rfl,hs.AD rfl⟩
    ·have ez:¬r.left - n=0:=by rw [← e2];assumption
     have el:C3 r p n=⟨⟨p,r.i.id,r.i.d⟩,IntKind.u64.wrap (r.left - n),r.slice,r.asleep⟩:=by unfold C3;rw [decide_eq_false ez,e2];rfl
     rw [el] at ev bI
     rw [decide_eq_false ez] at ev
     have eb:(IntKind.u64.wrap (r.left - n) == 0)=false:=beq_false_of_ne (by rw [e2];exact ez)
     refine cl (h:=by exact Ll ⟨⟨p,r.i.id,r.i.d⟩,IntKind.u64.wrap (r.left - n),r.slice,r.asleep⟩ bI _) (k:=?_)
     generalize Bu ⟨⟨p,r.i.id,r.i.d⟩,IntKind.u64.wrap (r.left - n),r.slice,r.asleep⟩=o at *
     cases o
     ·rintro v w' ⟨rfl,ho⟩;replace hs:=hs.AN ho;repeat' (first|refine Sc ?_|(refine AU hs (k:=?_);intro w hs)|fail)
      refine AG ?_
      exact ⟨by rw [ev];rfl,hs.AD rfl⟩
     ·rintro v w' ⟨rfl,ho⟩;replace hs:=hs.AN ho;repeat' (first|refine Sd ?_|(refine AU hs (k:=?_);intro w hs)|fail)
      refine AG ?_
      exact ⟨by rw [ev,eb];rfl,hs.AD rfl⟩
 ·refine AG ?_
  refine ⟨?_,hs.AD rfl⟩
  have:C1 r n=none:=by unfold C1;rw [if_neg (fun h=>by simp_all)]
  rw [this];rfl
 ·refine AG ?_
  refine ⟨?_,hs.AD rfl⟩
  have:C1 r n=none:=by unfold C1;rw [if_neg (fun h=>by simp_all)]
  rw [this];rfl
def EG (n a:Int):Int:=if a < n then a else n
theorem Qp {n a:Int} (h1:BL n) (h2:BL a):BL (EG n a):=by
 unfold EG BL at *;split <;> omega
def Ix:Rq→Nat→List Int→Option (Rq × Nat)
 | r,c,[]=>some (r,c)
 | r,c,n :: l=>match C1 r (EG n r.left) with
   | none=>none
   | some (u,b)=>Ix u (c+bif b then 1 else 0) l
def sdV (o:Option (Rq × Nat)):Value:=match o with
 | none => .tuple #[rv .zero,.int .i64 0,.bool false]
 | some (u,c) => .tuple #[rv u,.int .i64 c,.bool true]
theorem VY {r u:Rq} {n:Int} {b:Bool} (hr:r.In) (hn:BL n) (h:C1 r n=some (u,b)):u.In:=by
 unfold C1 at h
 split at h
 ·rename_i h1
  cases hp:HG r.i.p (n*1048576) with
  | none=>rw [hp] at h;cases h
  | some p =>
    rw [hp] at h
    obtain ⟨v,hv,h⟩:=Option.map_eq_some_iff.1 h
    cases h
    exact (Mj (WU hr (at_some hp).1 hn.1 h1.2.2) hv).1
 ·cases h
theorem W3 {r:Rq} {c:Nat} {n:Int} {l:List Int}:Ix r c (n :: l)=match C1 r (EG n r.left) with
 | none=>none
 | some (u,b)=>Ix u (c+bif b then 1 else 0) l:=rfl
theorem YO (r:Rq) (ns:List Int) (sl:Value) (hr:r.In) (hn:∀ n∈ns,BL n) (hm:ns.length≤1000000) (w0:World) (hL:Cu w0 22 1 sl (ns.map fun n=>[.int .u64 n])) :
 AO Tryz.prog 255 #[rv r,sl] w0 fun v w'=>v=sdV (Ix r 0 ns)∧AA [] w0 w':=by
 obtain ⟨ad,cap,rfl,hD⟩:=hL
 rw [List.length_map] at *
 have hs:=St.nil w0
 refine AR Tryz.func255 Tryz.ntmps255 (k:=?_)
 refine Ai ?_
 refine Ao ?_
 refine bx hs (k:=?_);intro b2 w hz hs
 refine al hs (k:=?_);intro b4 w hz hs
 refine Ja ?_
 refine BS (fun (s:Rq × Nat)=>[(2,.pointer (some ⟨b2,0,none⟩)),(4,.pointer (some ⟨b4,0,none⟩)),(7,.int .i64 (s.2:Nat))]) (fun s w=>St w0 D0 [(b4,.cells Rq.zero.cells.toArray 66,true),(b2,.cells s.1.cells.toArray 66,true)] w∧Ix r 0 ns=some s) ?_ ?_
 ·refine BG (fun (s:Nat × Rq × Nat)=>[(2,.pointer (some ⟨b2,0,none⟩)),(4,.pointer (some ⟨b4,0,none⟩)),(7,.int .i64 (s.2.2:Nat)),(13,.slice ad ns.length cap),(14,.int .i64 (ns.length:Nat)),(15,.int .i64 (s.1:Nat))])
   (fun s w=>s.1≤ns.length∧s.2.2≤s.1∧s.2.1.In∧Ix r 0 ns=Ix s.2.1 s.2.2 (ns.drop s.1)∧St w0 D0 [(b4,.cells Rq.zero.cells.toArray 66,true),(b2,.cells s.2.1.cells.toArray 66,true)] w) (fun s=>ns.length - s.1) (0,r,0) Ae ⟨Nat.zero_le _,Nat.le_refl _,hr,rfl,hs⟩ fun s env wl ⟨hi,hc0,hu,hv,hs⟩=>?_
  obtain ⟨i,u,c⟩:=s
  simp only at hi hc0 hu hv hs
  repeat' (first|refine Sa ?_|refine Ax rfl (fun hc=>?_) fun hc=>?_|fail)
  ·have hlt:i < ns.length:=by omega
   obtain ⟨b,off,cs,fz,rfl,_,hb,hcs⟩:=hD (fun h=>by simp at h;subst h;cases hlt)
   have hpk:=hcs i [.int .u64 ns[i]] (by rw [List.getElem?_map,List.getElem?_eq_getElem hlt];rfl)
   have ei:=Dl (m:=ns.length) hlt om
   have ec:=Dl (i:=c) (m:=ns.length) om om
   have ed:ns.drop i=ns[i] :: ns.drop (i+1):=List.drop_eq_getElem_cons hlt
   have hnn:=hn _ (List.getElem_mem hlt)
   rw [ed,W3] at hv
   generalize ns[i]=n at *
   refine ix (h0:=(by omega)) (h1:=(by omega)) (k:=?_)
   refine lh ((hs.AD rfl).block hb (by simp)) (by cases hpk;assumption) (k:=?_)
   refine Ja ?_
   have hin:∀ x y,C1 u (EG n u.left)=some (x,y)→x.In:=fun x y h=>VY hu (Qp hnn hu.2.1) h
   refine cl (h:=by exact S9 u (EG n u.left) hu (Qp hnn hu.2.1) _) (k:=?_)
   generalize C1 u (EG n u.left)=o at *
   rcases o with _ | ⟨u',b'⟩
   ·simp only at hv
    rintro v w' ⟨rfl,ho⟩;replace hs:=hs.AN ho;repeat' (first|refine Sc ?_|(refine AU hs (k:=?_);intro w hs)|(refine al hs (k:=?_);intro b w hz hs)|fail)
    refine AG ?_
    exact ⟨by rw [hv];rfl,hs.AD rfl⟩
   ·simp only at hv
    have H6:=hin _ _ rfl
    cases b'
    ·rintro v w' ⟨rfl,ho⟩;replace hs:=hs.AN ho;repeat' (first|refine Sd ?_|(refine AU hs (k:=?_);intro w hs)|(refine al hs (k:=?_);intro b w hz hs)|fail)
     exact A4 (i+1,u',c) (by show ns.length - (i+1) < ns.length - i;omega) (by (repeat (first | exact Ak | (apply Ac;first | exact rfl | exact congrArg (Value.int .i64) ei)))) ⟨by show i+1≤_;omega,by show c≤i+1;omega,H6,by rw [hv];rfl,hs.CF⟩
    ·rintro v w' ⟨rfl,ho⟩;replace hs:=hs.AN ho;repeat' (first|refine vs (k:=?_)|refine Ao ?_|refine Nx.h ?_|refine FY ?_|refine FD ?_|(refine AU hs (k:=?_);intro w hs)|(refine al hs (k:=?_);intro b w hz hs)|fail)
     exact A4 (i+1,u',c+1) (by show ns.length - (i+1) < ns.length - i;omega) (by (repeat (first | exact Ak | (apply Ac;first | exact rfl | exact congrArg (Value.int .i64) ei | exact congrArg (Value.int .i64) ec)))) ⟨by show i+1≤_;omega,by show c+1≤i+1;omega,H6,by rw [hv];rfl,hs.CF⟩
  ·have e:i=ns.length:=by omega
   subst e
   rw [List.drop_length] at hv
   exact Au (u,c) Ae ⟨hs,hv⟩
 ·clear hs
  rintro ⟨u,c⟩ env w ⟨hs,hv⟩
  simp only at hs
  rw [hv]
  repeat' (first|refine Sa ?_|(refine AU hs (k:=?_);intro w hs)|fail)
  refine AG ?_
  exact ⟨rfl,hs.AD rfl⟩
end Go.Proofs.Q0
namespace Go.Proofs.Q0
open Go Go.RowKit
abbrev RT:={r:Rq // r.In}
def Az (r:RT):Int:=r.1.i.id
def DD (l:List RT):Prop:=(l.map Az).Pairwise (· < ·)
def A2 (l:List RT) (i:Int):Option RT:=l.find? fun a=>decide (Az a=i)
def Bx (r:RT):List RT→List RT
 | []=>[r]
 | a :: l=>if Az r < Az a then r :: a :: l else if Az r=Az a then r :: l else a :: Bx r l
def DZ (i:Int) (l:List RT):List RT:=l.filter fun a=>decide (Az a≠i)
def rvals (l:List RT):Int→Option Value:=fun i=>(A2 l i).map fun a=>rv a.1
theorem Ua (i:Int):A2 [] i=none:=rfl
theorem Cg (a:RT) (l:List RT) (i:Int):A2 (a :: l) i=if Az a=i then some a else A2 l i:=by
 unfold A2
 rw [List.find?_cons]
 by_cases h:Az a=i
 ·rw [if_pos h,decide_eq_true h]
 ·rw [if_neg h,decide_eq_false h]
theorem K8 (r:RT) (i:Int):∀ l:List RT,A2 (Bx r l) i=if i=Az r then some r else A2 l i
 | []=>by
   unfold Bx
   rw [Cg,Ua]
   by_cases h:i=Az r
   ·rw [if_pos h,if_pos h.symm]
   ·rw [if_neg h,if_neg (fun e=>h e.symm)]
 | a :: l=>by
   unfold Bx
   split
   ·rw [Cg]
    by_cases h:i=Az r
    ·rw [if_pos h,if_pos h.symm]
    ·rw [if_neg h,if_neg (fun e=>h e.symm)]
   ·split
    ·rename_i h1 h2
     rw [Cg,Cg]
     by_cases h:i=Az r
     ·rw [if_pos h,if_pos h.symm]
     ·rw [if_neg h,if_neg (fun e=>h e.symm),if_neg (fun e=>h om)]
    ·rename_i h1 h2
     rw [Cg,Cg,K8 r i l]
     by_cases h:i=Az r
     ·rw [if_pos h,if_pos h,if_neg om]
     ·rw [if_neg h,if_neg h]
theorem U5 (k i:Int):∀ l:List RT,A2 (DZ k l) i=if i=k then none else A2 l i
 | []=>by unfold DZ;rw [List.filter_nil,Ua];split <;> rfl
 | a :: l=>by
   have ih:=U5 k i l
   unfold DZ at ih ⊢
   rw [List.filter_cons]
   by_cases h:Az a=k
   ·rw [if_neg (by simp [h]),ih,Cg]
    by_cases hi:i=k
    ·rw [if_pos hi,if_pos hi]
    ·rw [if_neg hi,if_neg hi,if_neg (fun e=>hi om)]
   ·rw [if_pos (by simp [h]),Cg,Cg,ih]
    by_cases hi:i=k
    ·rw [if_pos hi,if_pos hi,if_neg om]
    ·rw [if_neg hi,if_neg hi]
theorem DD.tail {a:RT} {l:List RT} (h:DD (a :: l)):DD l:=by
 unfold DD at *;rw [List.map_cons,List.pairwise_cons] at h;exact h.2
theorem DD.head {a:RT} {l:List RT} (h:DD (a :: l)):∀ b∈l,Az a < Az b:=fun b hb=>by
 unfold DD at *;rw [List.map_cons,List.pairwise_cons] at h;exact h.1 _ (List.mem_map_of_mem hb)
theorem DD.cons {a:RT} {l:List RT} (h:DD l) (hd:∀ b∈l,Az a < Az b):DD (a :: l):=by
 unfold DD at *;rw [List.map_cons,List.pairwise_cons]
 exact ⟨fun x hx=>by obtain ⟨b,hb,rfl⟩:=List.mem_map.1 hx;exact hd b hb,h⟩
theorem Bp {l:List RT} {i:Int} {a:RT} (h:A2 l i=some a):a∈l∧Az a=i:=by
 unfold A2 at h
 exact ⟨List.mem_of_find?_eq_some h,by simpa using List.find?_some h⟩
theorem VM {l:List RT} {a:RT} (h:a∈l):(A2 l (Az a)).isSome=true:=by
 unfold A2
 rw [List.find?_isSome]
 exact ⟨a,h,by simp⟩
theorem Sr {l:List RT} {i:Int} (h:∀ b∈l,i < Az b):A2 l i=none:=by
 cases e:A2 l i with
 | none=>rfl
 | some a=>obtain ⟨h1,h2⟩:=Bp e;have:=h a h1;omega
theorem Mr {r b:RT}:∀ {l:List RT},b∈Bx r l→b=r∨b∈l
 | [],h=>by simpa [Bx] using h
 | a :: l,h=>by
   unfold Bx at h
   split at h
   ·simpa using h
   ·split at h
    ·rcases List.mem_cons.1 h with h | h
     ·exact .inl h
     ·exact .inr (List.mem_cons_of_mem _ h)
    ·rcases List.mem_cons.1 h with h | h
     ·exact .inr (h ▸ List.mem_cons_self)
     ·rcases Mr h with h | h
      ·exact .inl h
      ·exact .inr (List.mem_cons_of_mem _ h)
theorem ord_put {r:RT}:∀ {l:List RT},DD l→DD (Bx r l)
 | [],h=>by show DD [r];exact DD.cons h (by simp)
 | a :: l,h=>by
   unfold Bx
   split
   ·rename_i h1
    refine h.cons fun b hb=>?_
    rcases List.mem_cons.1 hb with rfl | hb
    ·exact h1
    ·have:=h.head b hb;omega
   ·split
    ·rename_i h1 h2
     exact h.tail.cons fun b hb=>by have:=h.head b hb;omega
    ·rename_i h1 h2
     refine (ord_put h.tail).cons fun b hb=>?_
     rcases Mr hb with rfl | hb
     ·omega
     ·exact h.head b hb
theorem TY {r:RT}:∀ {l:List RT},DD l→(Bx r l).length=if (A2 l (Az r)).isSome then l.length else l.length+1
 | [],h=>rfl
 | a :: l,h=>by
   unfold Bx
   split
   ·rename_i h1
    rw [Sr (fun b hb=>by
     rcases List.mem_cons.1 hb with rfl | hb
     ·exact h1
     ·have:=h.head b hb;omega)]
    rfl
   ·split
    ·rename_i h1 h2
     rw [Cg,if_pos h2.symm];rfl
    ·rename_i h1 h2
     have e1:A2 (a :: l) (Az r)=A2 l (Az r):=by rw [Cg];exact if_neg fun e=>h2 e.symm
     rw [e1,List.length_cons,TY h.tail]
     cases (A2 l (Az r)).isSome <;> simp
theorem ZM {i:Int} {l:List RT} (h:DD l):DD (DZ i l):=by
 unfold DD DZ at *
 exact h.sublist (List.filter_sublist.map _)
theorem T5 {i:Int}:∀ {l:List RT},DD l→(DZ i l).length=if (A2 l i).isSome then l.length - 1 else l.length
 | [],h=>rfl
 | a :: l,h=>by
   have ih:=T5 (i:=i) h.tail
   unfold DZ at ih ⊢
   rw [List.filter_cons,Cg]
   by_cases e:Az a=i
   ·rw [if_neg (by simp [e]),if_pos e,ih,Sr (fun b hb=>by have:=h.head b hb;omega)]
    rfl
   ·rw [if_pos (by simp [e]),if_neg e,List.length_cons,ih]
    cases hf:A2 l i with
    | none=>rfl
    | some b =>
      have h1:=(Bp hf).1
      cases l with
      | nil=>cases h1
      | cons c l=>simp
theorem Ul (r:RT) (l:List RT):JP (rvals l) (Az r) (some (rv r.1))=rvals (Bx r l):=by
 funext i
 unfold JP rvals
 rw [K8]
 by_cases h:i=Az r
 ·rw [if_pos h,decide_eq_true h];rfl
 ·rw [if_neg h,decide_eq_false h];rfl
theorem kK (k:Int) (l:List RT):JP (rvals l) k none=rvals (DZ k l):=by
 funext i
 unfold JP rvals
 rw [U5]
 by_cases h:i=k
 ·rw [if_pos h,decide_eq_true h];rfl
 ·rw [if_neg h,decide_eq_false h];rfl
theorem IA (l:List RT) (i:Int):(rvals l i).isSome=(A2 l i).isSome:=by unfold rvals;cases A2 l i <;> rfl
def C8 (l:List RT) (i:Int):Rq:=match A2 l i with | some a=>a.1 | none => .zero
theorem MR (l:List RT) (i:Int):(rvals l i).getD (rv .zero)=rv (C8 l i):=by unfold rvals C8;cases A2 l i <;> rfl
theorem ids_iff (l:List RT) (x:Int):x∈l.map Az↔In64 x∧(rvals l x).isSome=true:=by
 rw [IA]
 constructor
 ·intro h
  obtain ⟨a,ha,rfl⟩:=List.mem_map.1 h
  exact ⟨a.2.1.2.1,VM ha⟩
 ·rintro ⟨_,h⟩
  cases e:A2 l x with
  | none=>rw [e] at h;cases h
  | some a=>obtain ⟨h1,h2⟩:=Bp e;exact List.mem_map.2 ⟨a,h1,h2⟩
theorem DL {l:List RT} (h:DD l) {a:RT} (ha:a∈l):A2 l (Az a)=some a:=by
 induction l with
 | nil=>cases ha
 | cons b l ih =>
   rw [Cg]
   rcases List.mem_cons.1 ha with rfl | ha
   ·rw [if_pos rfl]
   ·have:=h.head a ha
    rw [if_neg om]
    exact ih h.tail ha
end Go.Proofs.Q0
namespace Go.Proofs.Q0
open Go Go.RowKit
attribute [local irreducible] XS XC XA AZ AP Aa A1 A0 A8 Ad AW SE
def jN (w:World) (sl:Value) (xs:List Int):Prop :=
 ∃ ad cap,sl = .slice ad xs.length cap∧(xs≠[]→∃ (b off:Nat) (cs:List Value) (E:TypeId) (fz:Nat × Nat),ad=some ⟨b,off,none⟩∧w.heap[b]?=some (.cells cs.toArray E fz) ∧
  ∀ (i:Nat) (x:Int),xs[i]?=some x→cs[off+i*2]?=some (.int .i64 (x / 18446744073709551616))∧cs[off+i*2+1]?=some (.int .u64 (x % 18446744073709551616)))
def psum (xs:List Int) (i:Nat):Int:=(xs.take i).sum
theorem lK {xs:List Int} {i:Nat} {x:Int} (h:xs[i]?=some x):psum xs (i+1)=psum xs i+x:=by
 unfold psum
 rw [List.take_add_one,h,List.sum_append]
 simp
theorem VF (xs:List Int):psum xs 0=0:=by simp [psum]
theorem Re:A7 0:=by unfold A7;omega
def LI (xs:List Int) (n:Nat):Prop:=∀ j,j≤n→A7 (psum xs j)
theorem LI.zero (xs:List Int):LI xs 0:=fun j hj=>by
 have h0:j=0:=Nat.le_zero.1 hj
 rw [h0,VF]
 exact Re
theorem LI.succ {xs:List Int} {n:Nat} (h:LI xs n) (h1:A7 (psum xs (n+1))):LI xs (n+1):=fun j hj=>by
 rcases Nat.lt_or_ge n j with h2 | h2
 ·obtain rfl:j=n+1:=by omega
  exact h1
 ·exact h j h2
theorem yL {i m:Nat} (h:i < m) (hm:m≤9223372036854775807):IntKind.i64.wrap ((i:Int)+1)=((i+1:Nat):Int):=by
 rw [wrap_i64];omega
theorem xC (xs:List Int) (sl:Value) (hin:∀ (i:Nat) (x:Int),xs[i]?=some x→A7 x) (hm:xs.length≤9223372036854775807) (w0:World) (hW:jN w0 sl xs):AO Tryz.prog 193 #[sl] w0 fun v w' =>
 (LI xs xs.length∧v = .tuple #[wv (psum xs xs.length),.bool true]∨(∃ j,j≤xs.length∧¬ A7 (psum xs j))∧v = .tuple #[wv 0,.bool false])∧AA [] w0 w':=by
 obtain ⟨ad,cap,rfl,hD⟩:=hW
 have hs:=St.nil w0
 refine AR Tryz.func193 Tryz.ntmps193 (k:=?_)
 refine Ai ?_
 refine Ao ?_
 refine al hs (k:=?_);intro b2 w hz hs
 refine vs (k:=?_)
 refine XS.nil ?_
 refine ET ?_
 refine Ai ?_
 refine Ao ?_
 refine al hs (k:=?_);intro b4 w hz hs
 refine Ja ?_
 refine BS (fun (_:Unit)=>[(2,.pointer (some ⟨b2,0,none⟩)),(4,.pointer (some ⟨b4,0,none⟩))])
  (fun _ w=>LI xs xs.length∧St w0 D0 [(b4,.cells #[.int .i64 (psum xs xs.length / 18446744073709551616),.int .u64 (psum xs xs.length % 18446744073709551616)] 70,true),(b2,.cells #[.int .i64 0,.int .u64 0] 70,true)] w) ?_ ?_
 ·refine BG (fun (i:Nat)=>[(2,.pointer (some ⟨b2,0,none⟩)),(4,.pointer (some ⟨b4,0,none⟩)),(9,.slice ad xs.length cap),(10,.int .i64 (xs.length:Nat)),(11,.int .i64 (i:Nat))])
   (fun i w=>i≤xs.length∧LI xs i∧St w0 D0 [(b4,.cells #[.int .i64 (psum xs i / 18446744073709551616),.int .u64 (psum xs i % 18446744073709551616)] 70,true),(b2,.cells #[.int .i64 0,.int .u64 0] 70,true)] w)
   (fun i=>xs.length - i) 0 Ae ⟨Nat.zero_le _,LI.zero xs,by rw [VF];exact hs⟩ fun i env w ⟨hi,hf,hs⟩=>?_
  repeat' (first|refine Sa ?_|refine Ax rfl (fun hc=>?_) fun hc=>?_|fail)
  ·have hlt:i < xs.length:=by omega
   obtain ⟨b,off,cs,E,fz,rfl,hb,hcs⟩:=hD (fun h=>by subst h;cases hlt)
   obtain ⟨h0,h1⟩:=hcs i _ (List.getElem?_eq_getElem hlt)
   have hx:=hin i _ (List.getElem?_eq_getElem hlt)
   have hps:=lK (List.getElem?_eq_getElem hlt)
   generalize xs[i]=x at *
   refine ix (h0:=(by omega)) (h1:=(by omega)) (k:=?_)
   refine lh2 ((hs.AD rfl).block hb (by simp)) h0 h1 (k:=?_)
   refine al hs (k:=?_);intro b6 w hz hs
   repeat' (first|refine Sa ?_|(refine AU hs (k:=?_);intro w hs)|fail)
   refine AY hs (h:=by exact QB (psum xs i) x (hf i (Nat.le_refl _)) hx _) (k:=?_);intro w' ho hs
   rcases Ye (psum xs i+x) with ⟨qH,e⟩ | ⟨qH,e⟩
   ·rw [e]
    repeat' (first|refine Sd ?_|(refine AU hs (k:=?_);intro w hs)|(refine al hs (k:=?_);intro b w hz hs)|fail)
    have ei:=yL hlt hm
    exact A4 (i+1) om (by (repeat (first | exact Ak | (apply Ac;first | exact rfl | exact congrArg (Value.int .i64) ei)))) ⟨by omega,hf.succ (by rw [hps];exact qH),by rw [hps];exact hs.CF.CF⟩
   ·rw [e]
    repeat' (first|refine Sc ?_|(refine AU hs (k:=?_);intro w hs)|(refine al hs (k:=?_);intro b w hz hs)|fail)
    refine AG ?_
    exact ⟨.inr ⟨⟨i+1,hlt,by rw [hps];exact qH⟩,rfl⟩,hs.AD rfl⟩
  ·have e:i=xs.length:=by omega
   rw [e] at hf hs
   exact Au () Ae ⟨hf,hs⟩
 ·rintro _ env w ⟨hf,hs⟩
  repeat' (first|refine Sa ?_|(refine AU hs (k:=?_);intro w hs)|fail)
  refine AG ?_
  exact ⟨.inl ⟨hf,rfl⟩,hs.AD rfl⟩
end Go.Proofs.Q0
