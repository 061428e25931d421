/- A part of the proof: what its functions compute. -/
import Derived.Test.YtjiiakjheghcoaaGreatDoorGb4
import Derived.Maps.OwnSet
set_option linter.unusedVariables false
set_option linter.unusedSimpArgs false
set_option maxRecDepth 100000
set_option maxHeartbeats 64000000
set_option linter.unusedSectionVars false
namespace Go.Proofs.Q0.IB
open Go Go.RowKit
attribute [local irreducible] XS XC XA AX AO A7 A0 AZ A8 Aa AV SE
def Ho (l:List IT):RB IT:=l.foldl (fun t x=>RB.insert t x) .nil
theorem PW (l:List IT) (x:IT):Ho (l ++ [x])=RB.insert (Ho l) x:=by unfold Ho;rw [List.foldl_append];rfl
theorem Zr (t:RB IT) (x:IT):(RB.insert t x).list.length≤t.list.length+1:=by
 unfold RB.insert
 cases RB.has Cq x t
 ·rw [cond_false,RB.Ii,FA];exact Nat.le_refl _
 ·rw [cond_true];omega
theorem NU (l:List IT):∀ i,(Ho (l.take i)).list.length≤i
 | 0=>by simp [Ho,RB.list]
 | i+1=>by
   rcases Nat.lt_or_ge i l.length with h | h
   ·rw [C4 h,PW]
    have:=NU l i
    have:=Zr (Ho (l.take i)) l[i]
    omega
   ·have:=NU l i
    rw [List.take_of_length_le h] at this
    rw [List.take_of_length_le om]
    omega
theorem C6.Ae {w w':World} {tb:Nat} {t:RB IT} {F G:List Nat} (h:C6 w tb t F) (ho:AA G w w') (hd:∀ k∈F,k∉G):C6 w' tb t F:=by
 obtain ⟨p,fp,rfl,h1,h2,h3⟩:=h
 exact ⟨p,fp,rfl,ho.block h1 (hd tb List.mem_cons_self),h2.Ae ho (fun k hk=>hd k (List.mem_cons_of_mem _ hk)),h3⟩
theorem C6.only {w w':World} {tb:Nat} {t:RB IT} {F:List Nat} (h:C6 w tb t F) (ho:AA [] w w'):C6 w' tb t F:=h.Ae ho (by simp)
theorem C6.lt {w:World} {tb:Nat} {t:RB IT} {F:List Nat} (h:C6 w tb t F):∀ b∈F,b < w.heap.size:=by
 obtain ⟨p,fp,rfl,h1,h2,h3⟩:=h
 intro b hb
 rcases List.mem_cons.1 hb with rfl | hb
 ·exact lt_of_block h1
 ·exact h2.nodes.lt b hb
theorem C6.not {w:World} {tb:Nat} {t:RB IT} {F:List Nat} (h:C6 w tb t F) {b:Nat} {cs:Array Value} {ty:Nat} {fz:Nat × Nat} (hb:w.heap[b]?=some (.cells cs ty fz)) (h1:ty≠276) (h2:ty≠199):b∉F:=fun hm=>by
 obtain ⟨p,fp,rfl,k1,k2,k3⟩:=h
 rcases List.mem_cons.1 hm with rfl | hm
 ·exact AW hb k1 h2 rfl
 ·obtain ⟨cs',gV,k4⟩:=k2.nodes b hm
  exact AW hb k4 h1 rfl
theorem P5 (l:List IT) (sl:Value) (hm:l.length≤1000000) (w0:World) (hP:DB w0 sl l) :
 AM Tryz.prog 136 #[sl] w0 fun v w'=>(∃ tb F,v = .agg #[.pointer (some ⟨tb,0,none⟩)]∧C6 w' tb (Ho l) F∧∀ k∈F,w0.heap.size≤k)∧AA [] w0 w':=by
 obtain ⟨ad,cap,rfl,hD⟩:=hP
 rw [List.length_map,List.length_map] at *
 have hs:=St.nil w0
 refine AQ Tryz.func136 Tryz.ntmps136 (k:=?_)
 refine Ag ?_
 refine Al ?_
 refine al hs (k:=?_);intro b2 w hz hs
 repeat' (first|refine Al ?_|refine Nx.h ?_|fail)
 refine cl (h:=by exact ME _) (k:=?_)
 rintro v w1 ⟨⟨tb,F0,rfl,tA,Dm⟩,ho⟩;replace hs:=hs.AK ho
 have n2:=hs.new (b2,true) (by simp) rfl
 simp only at n2
 have Dv:=hs.get At.head
 have AJ:AA [] w0 w1:=hs.AD rfl
 have JK:=AJ.size
 have Ck:∀ k∈F0,w0.heap.size≤k:=fun k hk=>by have:=Dm k hk;omega
 clear hs
 have hs:=(St.nil w1).AG Dv (by simp)
 refine vs (k:=?_)
 refine al hs (k:=?_);intro b3 w3 N2 hs
 repeat' (first|refine Sa ?_|(refine AU hs (k:=?_);intro w hs)|fail)
 have n3:=hs.new (b3,true) (by simp) rfl
 simp only at n3
 have AN:=hs.AB [] (by simp [Dv]) (by simp [D0])
 refine BN (fun (_:Unit)=>[(2,.pointer (some ⟨b2,0,none⟩)),(3,.pointer (some ⟨b3,0,none⟩))])
  (fun _ w=>AA [] w0 w∧w.heap[b2]?=some (.cells #[.pointer none] 111 (0,0))∧w.heap[b3]?=some (.cells #[.pointer (some ⟨tb,0,none⟩)] 111 (0,0))∧∃ F,C6 w tb (Ho l) F∧∀ k∈F,w0.heap.size≤k) ?_ ?_
 ·refine BD (fun (i:Nat)=>[(2,.pointer (some ⟨b2,0,none⟩)),(3,.pointer (some ⟨b3,0,none⟩)),(8,.slice ad l.length cap),(9,.int .i64 (l.length:Nat)),(10,.int .i64 (i:Nat))])
   (fun i w=>i≤l.length∧AA [] w0 w∧w.heap[b2]?=some (.cells #[.pointer none] 111 (0,0))∧w.heap[b3]?=some (.cells #[.pointer (some ⟨tb,0,none⟩)] 111 (0,0))∧∃ F,C6 w tb (Ho (l.take i)) F∧∀ k∈F,w0.heap.size≤k)
   (fun i=>l.length - i) 0 Ab ⟨Nat.zero_le _,AJ.step AN (by simp),hs.get (At.tail At.head),hs.get At.head,F0,tA.only AN,Ck⟩ fun i env w ⟨hi,ho,h2,h3,F,hT,hF⟩=>?_
  clear hs AN
  have hs:=(St.nil w).AG h3 (by simp)
  repeat' (first|refine Sa ?_|refine Au rfl (fun hc=>?_) fun hc=>?_|fail)
  ·have hlt:i < l.length:=by omega
   obtain ⟨b,off,cs,fz,rfl,_,hb,hcs⟩:=hD (fun h=>by have:=congrArg List.length h;rw [List.length_map,List.length_map,List.length_nil] at this;omega)
   have hpk:=hcs i (It.cells l[i].1) (by rw [List.getElem?_map,List.getElem?_map,List.getElem?_eq_getElem hlt];rfl)
   have ei:=D2 hlt (show l.length≤9223372036854775807 by omega)
   have N7:=PW (l.take i) l[i]
   rw [← C4 hlt] at N7
   have hlen:=NU l i
   generalize l[i]=x at *
   refine ix (h0:=(by omega)) (h1:=(by omega)) (k:=?_)
   refine KH (ho.block hb (by simp)) hpk (k:=?_)
   refine al hs (k:=?_);intro b5 w5 hz5 hs
   repeat' (first|refine Sa ?_|(refine AU hs (k:=?_);intro w hs)|fail)
   have AT:=hs.AB [] (by simp [h3]) (by simp [D0])
   refine cl (h:=by exact Fi tb _ F x _ (hT.only AT) om) (k:=?_)
   rintro v w6 ⟨rfl,F',Va,CV,Ak⟩
   have k3:=Ak.block (hs.get (At.tail At.head)) ((hT.only AT).not (hs.get (At.tail At.head)) (by decide) (by decide))
   have k2:=Ak.block (AT.block h2 (by simp)) ((hT.only AT).not (AT.block h2 (by simp)) (by decide) (by decide))
   have N2:=AT.size
   have hzz:=ho.size
   clear hs
   have hs:=St.nil w6
   refine Ja ?_
   refine A2 (i+1) om (by (repeat (first | exact Ac | (apply A5;first | exact rfl | exact congrArg (Value.int .i64) ei)))) ⟨by omega,(ho.step AT (by simp)).step (Ak.trans (hs.AD rfl)) (fun k hk=>?_),k2,k3,F',by rw [N7];exact Va,fun k hk=>?_⟩
   ·rw [List.append_nil] at hk
    exact .inr (hF k hk)
   ·rcases CV k hk with h | h
    ·exact hF k h
    ·omega
  ·have e:i=l.length:=by omega
   rw [e,List.take_length] at hT
   exact Ar () Ab ⟨ho,h2,h3,F,hT,hF⟩
 ·rintro _ env w ⟨ho,h2,h3,F,hT,hF⟩
  clear hs AN
  by_cases g3:b3=b2
  ·subst g3;rw [h2] at h3;cases h3
  have hs:=((St.nil w).AG h3 (by simp)).AG h2 (by simpa using Ne.symm g3)
  repeat' (first|refine Sa ?_|(refine AU hs (k:=?_);intro w hs)|fail)
  refine AF ?_
  have Ao:=hs.AB [b2] (by simp [h3]) (by simp [D0])
  exact ⟨⟨tb,F,rfl,hT.Ae Ao (fun k hk hm=>by obtain rfl:=List.mem_singleton.1 hm;exact hT.not h2 (by decide) (by decide) hk),hF⟩,ho.step Ao (by simp [n2])⟩
theorem Ny (id t d:Int) (w0:World):AM Tryz.prog 277 #[.int .i64 id,.int .u64 t,.int .u64 d] w0 fun v w'=>v=iv ⟨⟨t,0,1⟩,id,⟨d,0,1⟩⟩∧AA [] w0 w':=by
 have hs:=St.nil w0
 refine AQ Tryz.func277 Tryz.ntmps277 (k:=?_)
 repeat' (first|refine Sa ?_|(refine AU hs (k:=?_);intro w hs)|(refine al hs (k:=?_);intro b w hz hs)|fail)
 refine AF ?_
 exact ⟨rfl,hs.AD rfl⟩
theorem xF (a:It) (w0:World):AM Tryz.prog 278 #[iv a] w0 fun v w'=>v = .bool (decide (a.p.t < 3))∧AA [] w0 w':=by
 have hs:=St.nil w0
 refine AQ Tryz.func278 Tryz.ntmps278 (k:=?_)
 repeat' (first|refine Sa ?_|(refine bx hs (k:=?_);intro b w hz hs)|fail)
 refine AF ?_
 exact ⟨rfl,hs.AD rfl⟩
theorem Nu (tb:Nat) (t:RB IT) (F:List Nat) (w0:World) (h:C6 w0 tb t F) (fid:Nat) (caps:List Value) (q:IT→Bool)
 (hq:∀ (y:IT) (w:World),y∈t.list→AA [] w0 w→AM Tryz.prog fid (iv y.1 :: caps).toArray w fun v w'=>v = .bool (q y)∧AA [] w w') :
 AM Tryz.prog 228 #[.agg #[.pointer (some ⟨tb,0,none⟩)],.func (.func fid) #[] caps.toArray] w0 fun v w'=>v = .tuple #[iv (JA (DK q t none)),.bool (DK q t none).isSome]∧AA [] w0 w':=by
 have hs:=St.nil w0
 refine AQ Tryz.func228 Tryz.ntmps228 (k:=?_)
 repeat' (first|refine Sa ?_|(refine al hs (k:=?_);intro b w hz hs)|(refine bx hs (k:=?_);intro b w hz hs)|fail)
 have ho:=hs.AD rfl
 refine AY hs (h:=by exact lU tb t F _ (h.only ho) fid caps q (fun y w hy hw=>hq y w hy (ho.step hw (by simp)))) (k:=?_);intro w' ho hs;repeat' (first|refine Sb ?_|(refine AU hs (k:=?_);intro w hs)|fail)
 refine AF ?_
 exact ⟨rfl,hs.AD rfl⟩
theorem bA (w0:World):AM Tryz.prog 280 #[] w0 fun v w'=>v = .bool true∧AA [] w0 w':=by
 have hs:=St.nil w0
 refine AQ Tryz.func280 Tryz.ntmps280 (k:=?_)
 refine Ja ?_
 refine AY hs (h:=by exact Zq _) (k:=?_);intro w' ho hs;refine Jc ?_
 refine AF ?_
 exact ⟨rfl,hs.AD rfl⟩
def ex1:IT:=⟨⟨⟨1,0,1⟩,1,⟨9,0,1⟩⟩,by decide⟩
def uQ:IT:=⟨⟨⟨2,0,1⟩,2,⟨5,0,1⟩⟩,by decide⟩
def ex3:IT:=⟨⟨⟨3,0,1⟩,3,⟨4,0,1⟩⟩,by decide⟩
theorem its_arr {w:World} {b:Nat} {l:List IT} (hn:l.length=3) (hb:w.heap[b]?=some (.cells (Bh l).toArray 64 (0,0))):DB w (.slice (some ⟨b,0,none⟩) 3 3) l:=by
 have e:(Bh l).length=21:=by
  have:∀ l:List IT,(Bh l).length=7*l.length:=fun l=>by
   induction l with
   | nil=>rfl
   | cons a l ih=>unfold Bh at ih ⊢;rw [List.map_cons,List.flatten_cons,List.length_append,ih,show (a.1.cells).length=7 from rfl,List.length_cons];omega
  rw [this,hn]
 refine Nk (G:=[b]) (.inr ⟨b,3,Bh l,by rw [hn],rfl,by omega,by rw [e],by rw [e,hn],?_,hb⟩)
 rw [hn]
 exact List.take_of_length_le (by rw [e];exact Nat.le_refl _)
theorem ZI (w0:World):AM Tryz.prog 274 #[] w0 fun v w'=>v = .bool true∧AA [] w0 w':=by
 have hs:=St.nil w0
 refine AQ Tryz.func274 Tryz.ntmps274 (k:=?_)
 refine Ja ?_
 refine AY hs (h:=by exact Ny 1 1 9 _) (k:=?_);intro w' ho hs;skip
 refine AY hs (h:=by exact Ny 2 2 5 _) (k:=?_);intro w' ho hs;skip
 refine AY hs (h:=by exact Ny 3 3 4 _) (k:=?_);intro w' ho hs;repeat' (first|(refine bs hs (k:=?_);intro b w hz hs)|fail)
 refine cl (h:=by exact P5 [ex1,uQ,ex3] _ (by decide) _ (its_arr rfl (hs.get At.head))) (k:=?_)
 rintro v w1 ⟨⟨tb,F,rfl,hT,hF⟩,ho⟩;replace hs:=hs.AK ho
 have AJ:AA [] w0 w1:=hs.AD rfl
 clear hs
 have hs:=St.nil w1
 repeat' (first|refine Sa ?_|(refine AU hs (k:=?_);intro w hs)|(refine al hs (k:=?_);intro b w hz hs)|fail)
 refine cl (h:=by exact Nu tb _ F _ (hT.only (hs.AD rfl)) 278 [] (fun y=>decide (y.1.p.t < 3)) (fun y w _ _=>xF y.1 w)) (k:=?_)
 rw [show (DK (fun y=>decide (y.1.p.t < 3)) (Ho [ex1,uQ,ex3]) none)=some uQ from by kernel_rfl]
 rintro v w' ⟨rfl,ho⟩;replace hs:=hs.AK ho;repeat' (first|refine Sa ?_|(refine AU hs (k:=?_);intro w hs)|(refine al hs (k:=?_);intro b w hz hs)|fail)
 refine AY hs (h:=by exact ZF _) (k:=?_);intro w' ho hs;refine Jf ?_
 refine AY hs (h:=by exact bA _) (k:=?_);intro w' ho hs;refine Jc ?_
 refine AF ?_
 exact ⟨rfl,AJ.trans (hs.AD rfl)⟩
theorem aB (w0:World):AM Tryz.prog 272 #[] w0 fun v w'=>v = .bool true∧AA [] w0 w':=by
 have hs:=St.nil w0
 refine AQ Tryz.func272 Tryz.ntmps272 (k:=?_)
 refine Ja ?_
 refine AY hs (h:=by exact ZI _) (k:=?_);intro w' ho hs;refine Jc ?_
 refine AF ?_
 exact ⟨rfl,hs.AD rfl⟩
def Lg (l r:RB IT) (c:Bool):Bool:=bif !l.red && !r.red then true else c
def Qa (x:IT):RB IT→Option (RB IT)
 | .nil=>none
 | .node l y r c=>RB.cut Cq x (RB.node l y r c).list.length (.node l y r (Lg l r c))
structure kS (w1:World) (b tb bq:Nat) (y:IT) (av:It) (pl pr:Option Addr) (n:Int) (x:IT) (q:Bool) (w:World):Prop where
 o:AA [b] w1 w
 hb:w.heap[b]?=some (EO y av pl pr q)
 hT:w.heap[tb]?=some (C0 (some ⟨b,0,none⟩) n)
 hQ:w.heap[bq]?=some (Zc x.1)
theorem WH (tb:Nat) (t:RB IT) (F:List Nat) (x:IT) (t1:RB IT) (w0:World) (h:C6 w0 tb t F) (hd:RB.has Cq x t=true→Qa x t=some t1∧t1.list.length+1=t.list.length) (hlen:t.list.length≤1000000) :
 AM Tryz.prog 221 #[.pointer (some ⟨tb,0,none⟩),iv x.1] w0 fun v w'=>v = .bool (RB.has Cq x t)∧∃ F',C6 w' tb (bif RB.has Cq x t then RB.blacken t1 else t) F'∧(∀ k∈F',k∈F∨w0.heap.size≤k)∧AA F w0 w':=by
 obtain ⟨p,fp,rfl,hT,ht,hnd⟩:=h
 have hs:=St.nil w0
 have Wd:=lt_of_block hT
 have qM:=ht.nodes.lt
 refine AQ Tryz.func221 Tryz.ntmps221 (k:=?_);refine Ag ?_;refine Al ?_;refine bx hs (k:=?_);intro bq wq Lm hs;refine Ja ?_
 have JB:=hs.new (bq,true) (by simp) rfl
 simp only at JB
 have BS:=hs.AD rfl
 refine cl (h:=by exact Ow tb p _ t fp x _ (BS.block hT (by simp)) (ht.keep BS (AL.nil _) (by simp))) (k:=?_)
 rintro v w1 ⟨rfl,ho⟩;replace hs:=hs.AK ho
 have AJ:=hs.AD rfl
 cases hh:RB.has Cq x t
 ·rw [cond_false]
  refine Je ?_
  refine AF ?_
  have AJ:=hs.AD rfl
  exact ⟨rfl,tb :: fp,C6.only ⟨p,fp,rfl,hT,ht,hnd⟩ AJ,fun k hk => .inl hk,AJ.weaken (by simp)⟩
 ·rw [cond_true]
  obtain ⟨hd,IX⟩:=hd hh
  cases t with
  | nil=>cases hh
  | node l y r c =>
  unfold Qa at hd
  obtain ⟨b,av,pl,pr,fl,fr,rfl,rfl,hb,Ci,hl,hr⟩:=ht
  have Dz:=CZ hT hb
  have Bj:=head_keep hT AJ (AL.nil _)
  have CD:=AJ.block hb (by simp)
  have LR:=hl.keep AJ (AL.nil _) (by simp)
  have MJ:=hr.keep AJ (AL.nil _) (by simp)
  have tM:AL w1 [b]:=AL.cons CD (AL.nil _)
  have N6:b∉fl∧b∉fr:=by simp only [List.nodup_cons,List.mem_append,not_or] at hnd;exact hnd.1
  have N1:=hs.get At.head
  have UT:kS w1 b tb bq y av pl pr ((RB.node l y r c).list.length:Nat) x c w1:=⟨AA.refl _ _,CD,Bj,N1⟩
  clear hs
  have hs:=((St.nil w1).AG Bj (by simp)).AG CD (by simpa using Dz)
  have yM:IntKind.i64.wrap (((RB.node l y r c).list.length:Nat) - 1)=((t1.list.length:Nat):Int):=by
   rw [KB om om]
   omega
  refine Jl ?_
  refine B7 (fun _:Unit=>[(0,.pointer (some ⟨tb,0,none⟩)),(3,.pointer (some ⟨bq,0,none⟩)),(28,.bool (!l.red && !r.red))]) (fun _ w=>AA [] w1 w) ?_ ?_
  ·refine Jk ?_
   refine AY hs (h:=by exact Bd l pl fl _ (LR.keep (hs.AB [] (by simp [Bj,CD]) (by simp [D0])) (AL.nil _) (by simp))) (k:=?_);intro w' ho hs
   cases hq:l.red
   ·refine Jf ?_
    refine AY hs (h:=by exact Bd r pr fr _ (MJ.keep (hs.AB [] (by simp [Bj,CD]) (by simp [D0])) (AL.nil _) (by simp))) (k:=?_);intro w' ho hs
    generalize r.red=q2
    refine Jc ?_
    exact AP () Ab (hs.AB [] (by simp [Bj,CD]) (by simp [D0]))
   ·refine Jj ?_
    exact AP () Ab (hs.AB [] (by simp [Bj,CD]) (by simp [D0]))
  clear hs
  rintro _ env wA Aw
  have RY:kS w1 b tb bq y av pl pr ((RB.node l y r c).list.length:Nat) x c wA:=⟨Aw.weaken (by simp),Aw.block CD (by simp),Aw.block Bj (by simp),Aw.block N1 (by simp)⟩
  refine B7 (fun _:Unit=>[(0,.pointer (some ⟨tb,0,none⟩)),(3,.pointer (some ⟨bq,0,none⟩))]) (fun _ w=>kS w1 b tb bq y av pl pr ((RB.node l y r c).list.length:Nat) x (Lg l r c) w) ?_ ?_
  ·unfold Lg
   cases hq:(!l.red && !r.red)
   ·refine Jg ?_
    exact AP () Ab RY
   ·have hs:=((St.nil wA).AG RY.hT (by simp)).AG RY.hb (by simpa using Dz)
    repeat' (first|refine Sc ?_|(refine st hs (k:=?_);intro w hs)|fail)
    have AN:=hs.AB [b] (by simp [RY.hT]) (by simp [D0])
    exact AP () Ab ⟨RY.o.step AN (fun k hk => .inl hk),hs.get At.head,hs.get (At.tail At.head),AN.block RY.hQ (by simpa using AW RY.hQ RY.hb (by decide))⟩
  clear RY Aw UT
  rintro _ env wB hI
  have n1:=AW hI.hQ hI.hb (by decide)
  have n2:=AW hI.hQ hI.hT (by decide)
  have htr:Ad wB (.node l y r (Lg l r c)) (some ⟨b,0,none⟩) (b :: (fl ++ fr)):=⟨b,av,pl,pr,fl,fr,rfl,rfl,hI.hb,Ci,LR.keep hI.o tM (fun k hk hm=>by obtain rfl:=List.mem_singleton.1 hm;exact N6.1 hk),MJ.keep hI.o tM (fun k hk hm=>by obtain rfl:=List.mem_singleton.1 hm;exact N6.2 hk)⟩
  have oB:AA (b :: (fl ++ fr)) w0 wB:=(AJ.weaken (by simp)).step hI.o (fun k hk => .inl (by obtain rfl:=List.mem_singleton.1 hk;exact List.mem_cons_self))
  have hs:=((St.nil wB).AG hI.hT (by simp)).AG hI.hQ (by simpa using n2)
  refine Jb ?_
  refine dr [10] hs (k:=?_);intro hX w hs
  refine tks 0 7 ?_
  refine dt 7 hX (k:=?_)
  have AN:=hs.AB [] (by simp [hI.hT,hI.hQ]) (by simp [D0])
  have kJ:=htr.keep AN (AL.nil _) (by simp)
  have CI:=hs.get (At.tail At.head)
  have SM:=hs.get At.head
  refine cl (h:=by exact Si tb _ _ x _ _ t1 _ _ _ CI kJ hnd (by simpa [RB.list] using hlen) hd) (k:=?_)
  rintro v w3 ⟨p',Ca,rfl,k1,k2,k3,k4⟩
  have o2:=oB.step AN (by simp)
  have Oj:=sub_up (fun k hk => .inl hk) k3 o2.size
  have k4':=o2.step k4 (fun k hk => .inl hk)
  have Fj:=head_keep CI k4 kJ.nodes
  have FY:=k4.block SM (nodes_q kJ.nodes SM)
  clear hs
  cases t1 with
  | nil =>
    obtain ⟨rfl,rfl⟩:=k1
    have hs:=((St.nil w3).AG Fj (by simp)).AG FY (by simpa using n2)
    refine Jb ?_
    refine dn (k:=?_)
    refine tks 8 2 ?_
    refine dt 10 hX (k:=?_)
    repeat' (first|refine Nx.h ?_|(refine st hs (k:=?_);intro w hs)|fail)
    refine dn (k:=?_)
    refine en (k:=?_)
    repeat' (first|refine Sd ?_|(refine st hs (k:=?_);intro w hs)|fail)
    refine AF ?_
    rw [yM] at hs
    have Ao:AA [tb] w3 _:=hs.AB [tb] (by simp [FY]) (by simp [D0])
    refine ⟨rfl,[tb],⟨none,[],rfl,hs.get (At.tail At.head),⟨rfl,rfl⟩,List.nodup_nil⟩,?_,?_⟩
    ·exact fun k hk => .inl (by obtain rfl:=List.mem_singleton.1 hk;exact List.mem_cons_self)
    ·exact (k4'.weaken (fun k hk=>List.mem_cons_of_mem _ hk)).step Ao (fun k hk => .inl (by obtain rfl:=List.mem_singleton.1 hk;exact List.mem_cons_self))
  | node l1 y1 r1 c1 =>
    obtain ⟨b',LZ,VB,Y6,Pu,fr',rfl,rfl,hb',aAc,hl',hr'⟩:=k1
    have aBJ:=CZ Fj hb'
    have aAX:=AW hb' FY (by decide)
    have hs:=(((St.nil w3).AG Fj (by simp)).AG FY (by simpa using n2)).AG hb' (by simp [aBJ,aAX])
    refine Jb ?_
    refine dn (k:=?_)
    refine tks 8 2 ?_
    refine dt 10 hX (k:=?_)
    repeat' (first|refine Nx.h ?_|(refine st hs (k:=?_);intro w hs)|fail)
    refine dn (k:=?_)
    refine en (k:=?_)
    repeat' (first|refine Sc ?_|(refine st hs (k:=?_);intro w hs)|fail)
    refine AF ?_
    rw [yM] at hs
    have Ao:AA [b',tb] w3 _:=hs.AB [b',tb] (by simp [FY]) (by simp [D0])
    have wX:b'∉Pu∧b'∉fr':=by
     simp only [List.nodup_cons,List.mem_append,not_or] at k2
     exact k2.1
    have U5:tb∉Pu∧tb∉fr':=⟨(fun h=>by obtain ⟨_,_,h⟩:=hl'.nodes tb h;rw [Fj] at h;cases h),(fun h=>by obtain ⟨_,_,h⟩:=hr'.nodes tb h;rw [Fj] at h;cases h)⟩
    refine ⟨rfl,tb :: (b' :: (Pu ++ fr')),⟨_,_,rfl,hs.get (At.tail (At.tail At.head)),⟨b',LZ,VB,Y6,Pu,fr',rfl,rfl,hs.get At.head,aAc,GK hl' Ao hb' Fj wX.1 U5.1,GK hr' Ao hb' Fj wX.2 U5.2⟩,k2⟩,?_,?_⟩
    ·intro k hk
     rcases List.mem_cons.1 hk with rfl | hk
     ·exact .inl List.mem_cons_self
     ·rcases Oj k hk with h | h
      ·exact .inl (List.mem_cons_of_mem _ h)
      ·exact .inr h
    ·refine (k4'.weaken (fun k hk=>List.mem_cons_of_mem _ hk)).step Ao (fun k hk=>?_)
     simp only [List.mem_cons,List.not_mem_nil,or_false] at hk
     rcases hk with rfl | rfl
     ·rcases Oj k List.mem_cons_self with h | h
      ·exact .inl (List.mem_cons_of_mem _ h)
      ·exact .inr h
     ·exact .inl List.mem_cons_self
theorem Mq:∀ (t:RB IT) (p:Option Addr) (fp:List Nat) (w0:World) (h:Ad w0 t p fp),AM Tryz.prog 224 #[.pointer p] w0 fun v w'=>(∃ p' Ca,v = .pointer p'∧Ad w' t p' Ca∧Ca.Nodup∧∀ k∈Ca,w0.heap.size≤k)∧AA [] w0 w'
 | .nil,p,fp,w0,⟨hp,hf⟩=>by
   subst hp
   have hs:=St.nil w0
   refine AQ Tryz.func224 Tryz.ntmps224 (k:=?_)
   refine Je ?_
   refine AF ?_
   exact ⟨⟨none,[],rfl,⟨rfl,rfl⟩,List.nodup_nil,fun k h=>by cases h⟩,hs.AD rfl⟩
 | .node l y r c,p,fp,w0,⟨b,av,pl,pr,fl,fr,hp,hf,hb,Ci,hl,hr⟩=>by
   subst hp hf
   have hs:=(St.nil w0).AG hb (by simp)
   refine AQ Tryz.func224 Tryz.ntmps224 (k:=?_)
   refine Jb ?_
   refine Al ?_
   refine Jc ?_
   refine Al ?_
   refine Jl ?_
   refine Al ?_
   refine vs (k:=?_)
   refine vs (k:=?_)
   refine vs (k:=?_)
   refine al hs (k:=?_);intro b3 w hz hs
   repeat' (first|refine Nx.h ?_|(refine AU hs (k:=?_);intro w hs)|fail)
   have hnew:=hs.new (b3,true) (by simp) rfl
   refine dr [11,13] hs (k:=?_);intro hX w hs
   refine tks 0 4 ?_
   refine tks 5 4 ?_
   refine dt 4 hX (k:=?_)
   have AJ:=hs.AB [] (by simp [hb]) (by simp [D0])
   have GR:=hs.get At.head
   refine cl (h:=by exact Mq l pl fl _ (hl.keep AJ (AL.nil _) (by simp))) (k:=?_)
   rintro v w1 ⟨⟨VB,Pu,rfl,hl',aAS,uE⟩,ho⟩;replace hs:=hs.AK ho
   refine Jb ?_
   refine dn (k:=?_)
   refine dt 9 hX (k:=?_)
   have AN:=hs.AB [] (by simp [hb]) (by simp [D0])
   refine cl (h:=by exact Mq r pr fr _ (hr.keep AN (AL.nil _) (by simp))) (k:=?_)
   rintro v w2 ⟨⟨Y6,fr',rfl,hr',aBI,kU⟩,ho'⟩;replace hs:=hs.AK ho'
   have hl2:=hl'.keep ho' (AL.nil _) (by simp)
   have AT:=hs.AB [] (by simp [hb]) (by simp [D0])
   have hb4:=hs.get At.head
   have Uy:=hs.get (At.tail At.head)
   have aBa:=AJ.size
   have hsz:=ho.size
   have xE:=AN.size
   have hlt3:=lt_of_block GR
   have d1:b3∉Pu:=fun h=>by have:=uE b3 h;omega
   have d2:b3∉fr':=fun h=>by have:=kU b3 h;have:=hl'.nodes.lt;omega
   have d3:∀ i∈Pu,∀ j∈fr',i≠j:=fun i hi j hj e=>by
    subst e
    have:=kU i hj
    have:=hl'.nodes.lt i hi
    omega
   have wQ:b3≠b:=fun e=>by subst e;have:=lt_of_block hb;have:w0.heap.size≤b3:=hnew;omega
   refine Jb ?_
   refine dn (k:=?_)
   refine tk 10 hX (k:=?_)
   clear hs
   have hs:=((St.nil w2).AG Uy (by simp)).AG hb4 (by simpa using wQ)
   refine dt 11 hX (k:=?_)
   repeat' (first|refine Nx.h ?_|(refine st hs (k:=?_);intro w hs)|fail)
   refine dn (k:=?_)
   refine tk 12 hX (k:=?_)
   refine dt 13 hX (k:=?_)
   repeat' (first|refine Nx.h ?_|(refine st hs (k:=?_);intro w hs)|fail)
   refine dn (k:=?_)
   refine en (k:=?_)
   refine Ja ?_
   refine AF ?_
   have Ao:AA [b3] w2 _:=hs.AB [b3] (by simp [Uy]) (by simp [D0])
   have hN:AL w2 [b3]:=AL.cons hb4 (AL.nil _)
   refine ⟨⟨_,b3 :: (Pu ++ fr'),rfl,⟨b3,_,VB,Y6,Pu,fr',rfl,rfl,hs.get At.head,Ci,hl2.keep Ao hN (fun k hk hm=>d1 (by obtain rfl:=List.mem_singleton.1 hm;exact hk)),hr'.keep Ao hN (fun k hk hm=>d2 (by obtain rfl:=List.mem_singleton.1 hm;exact hk))⟩,?_,?_⟩,AT.step Ao (fun k hk => .inr (by obtain rfl:=List.mem_singleton.1 hk;exact hnew))⟩
   ·simp only [List.nodup_cons,List.nodup_append,List.mem_append]
    exact ⟨fun h=>by rcases h with h | h;exact d1 h;exact d2 h,aAS,aBI,d3⟩
   ·intro k hk
    rcases List.mem_cons.1 hk with rfl | hk
    ·exact hnew
    ·rcases List.mem_append.1 hk with hk | hk
     ·have:=uE k hk;omega
     ·have:=kU k hk;omega
theorem Xv (tb:Nat) (t:RB IT) (F:List Nat) (w0:World) (h:C6 w0 tb t F):AM Tryz.prog 201 #[.pointer (some ⟨tb,0,none⟩)] w0 fun v w'=>(∃ EZ F',v = .pointer (some ⟨EZ,0,none⟩)∧C6 w' EZ t F'∧∀ k∈F',w0.heap.size≤k)∧AA [] w0 w':=by
 obtain ⟨p,fp,rfl,hT,ht,hnd⟩:=h
 have hs:=(St.nil w0).AG hT (by simp)
 refine AQ Tryz.func201 Tryz.ntmps201 (k:=?_)
 refine Jb ?_
 refine Al ?_
 refine Jc ?_
 refine Al ?_
 refine Jl ?_
 refine Al ?_
 refine vs (k:=?_)
 refine vs (k:=?_)
 refine vs (k:=?_)
 refine al hs (k:=?_);intro b3 w hz hs
 repeat' (first|refine Sa ?_|(refine AU hs (k:=?_);intro w hs)|fail)
 have hnew:=hs.new (b3,true) (by simp) rfl
 have AJ:=hs.AB [] (by simp [hT]) (by simp [D0])
 have GR:=hs.get At.head
 have hlt3:=lt_of_block GR
 refine cl (h:=by exact Mq t p fp _ (ht.keep AJ (AL.nil _) (by simp))) (k:=?_)
 rintro v w1 ⟨⟨p',Ca,rfl,ht',hn',hg'⟩,ho⟩;replace hs:=hs.AK ho
 have hb4:=hs.get At.head
 have RX:=hs.get (At.tail At.head)
 have AN:=hs.AB [] (by simp [hT]) (by simp [D0])
 have Dz:b3≠tb:=fun e=>by subst e;have:=lt_of_block hT;have:w0.heap.size≤b3:=hnew;omega
 have d1:b3∉Ca:=fun h=>by have:=hg' b3 h;omega
 clear hs
 have hs:=((St.nil w1).AG RX (by simp)).AG hb4 (by simpa using Dz)
 repeat' (first|refine Sa ?_|(refine st hs (k:=?_);intro w hs)|fail)
 refine AF ?_
 have Ao:AA [b3] w1 _:=hs.AB [b3] (by simp [RX]) (by simp [D0])
 refine ⟨⟨b3,b3 :: Ca,rfl,⟨p',Ca,rfl,hs.get At.head,ht'.Ae Ao (fun k hk hm=>d1 (by obtain rfl:=List.mem_singleton.1 hm;exact hk)),hn'⟩,fun k hk=>?_⟩,AN.step Ao (fun k hk => .inr (by obtain rfl:=List.mem_singleton.1 hk;exact hnew))⟩
 ·rcases List.mem_cons.1 hk with rfl | hk
  ·exact hnew
  ·have:=hg' k hk
   have:=AJ.size
   omega
theorem Z5 (tb:Nat) (t:RB IT) (F:List Nat) (w0:World) (h:C6 w0 tb t F):AM Tryz.prog 153 #[.agg #[.pointer (some ⟨tb,0,none⟩)]] w0 fun v w'=>(∃ EZ F',v = .agg #[.pointer (some ⟨EZ,0,none⟩)]∧C6 w' EZ t F'∧∀ k∈F',w0.heap.size≤k)∧AA [] w0 w':=by
 have hs:=St.nil w0
 refine AQ Tryz.func153 Tryz.ntmps153 (k:=?_)
 refine Ag ?_
 refine Al ?_
 refine bx hs (k:=?_);intro b1 w hz hs
 refine al hs (k:=?_);intro b2 w MK hs
 refine Ja ?_
 have ho:=hs.AD rfl
 have n2:=hs.new (b2,true) (by simp) rfl
 simp only at n2
 have hd:=hs.nd
 simp only [List.map_cons,List.nodup_cons,List.mem_cons,List.map_nil,List.not_mem_nil,or_false] at hd
 refine cl (h:=by exact Xv tb t F _ (h.only ho)) (k:=?_)
 rintro v w1 ⟨⟨EZ,F',rfl,h1,h2⟩,ho'⟩;replace hs:=hs.AK ho'
 have hz:=ho.size
 have AJ:=hs.AD rfl
 have CD:=hs.get (At.tail At.head)
 have Dv:=hs.get At.head
 clear hs
 have hs:=((St.nil w1).AG CD (by simp)).AG Dv (by simpa using hd.1)
 repeat' (first|refine Sb ?_|(refine AU hs (k:=?_);intro w hs)|fail)
 refine AF ?_
 have AN:=hs.AB [b2] (by simp [CD]) (by simp [D0])
 exact ⟨⟨EZ,F',rfl,h1.Ae AN (fun k hk hm=>by obtain rfl:=List.mem_singleton.1 hm;exact h1.not Dv (by decide) (by decide) hk),fun k hk=>by have:=h2 k hk;omega⟩,AJ.step AN (by simp [n2])⟩
end Go.Proofs.Q0.IB
namespace Go.Proofs.Q0
open Go Go.RowKit Go.Maps
def Rf (v:Value):Option (DataW Value × List MemPlace):=some (.held v,[])
def J4 (i:Int):Lit := .int .i64 i
def Bw (w:World) (b:Nat) (f:Int→Option Value) (c:Nat):Prop :=
 ∃ D:DataW Value,w.ownsMap Tryz.prog 3 Rf b c D∧Maps.size D=c∧∀ i,In64 i→Maps.has D (J4 i)=(f i).isSome∧∀ z,D.atKey (J4 i) (.held z) = .held ((f i).getD z)
theorem NR:Keyed Tryz.prog 3:=int_keyed (q := .i64) (by kernel_rfl)
theorem key_of {i:Int} (h:In64 i):keyOf Tryz.prog 3 (.int .i64 i)=some (J4 i):=keyOf_int_mk (q := .i64) (by kernel_rfl) (by
 show (decide (IntKind.i64.min≤i) && decide (i≤IntKind.i64.max))=true
 have e1:IntKind.i64.min=-9223372036854775808:=rfl
 have e2:IntKind.i64.max=9223372036854775807:=rfl
 obtain ⟨h1,h2⟩:=h
 rw [e1,e2,decide_eq_true h1,decide_eq_true (show i≤9223372036854775807 by omega)];rfl)
theorem AA.Wa {w w':World} {b:Nat} (h:w.grownBy w' (some b)):AA [b] w w':=by
 obtain ⟨h1,h2,h3,h4,h5⟩:=h
 exact ⟨h1,h2,h3,h4,fun k hk hn=>h5 k hk (fun e=>hn (by cases e;exact List.mem_singleton.2 rfl))⟩
theorem Bw.keep {w w':World} {b c:Nat} {f:Int→Option Value} {F:List Nat} (h:Bw w b f c) (ho:AA F w w') (hb:b∉F):Bw w' b f c:=by
 obtain ⟨D,⟨es,clock,h1,h2⟩,h3⟩:=h
 exact ⟨D,⟨es,clock,ho.block h1 hb,h2⟩,h3⟩
theorem Bw.lt {w:World} {b c:Nat} {f:Int→Option Value} (h:Bw w b f c):b < w.heap.size:=by
 obtain ⟨D,⟨es,clock,h1,h2⟩,h3⟩:=h
 exact lt_of_block h1
theorem Bw.ne {w:World} {b c:Nat} {f:Int→Option Value} (h:Bw w b f c) {b':Nat} {cs:Array Value} {t:Nat} {fz:Nat × Nat} (hb:w.heap[b']?=some (.cells cs t fz)):b'≠b:=fun e=>by
 subst e
 obtain ⟨D,⟨es,clock,h1,h2⟩,h3⟩:=h
 rw [h1] at hb;cases hb
theorem Bw.made (w:World):Bw (w.alloc (.map #[] 0)) w.heap.size (fun _=>none) 0 :=
 ⟨.map [],World.ownsMap_made _ _ _ _,rfl,fun i hi=>⟨rfl,fun z=>rfl⟩⟩
def Iy (f:Int→Option Value) (i:Int) (v:Option Value):Int→Option Value:=fun j=>bif decide (j=i) then v else f j
theorem key_ne {i j:Int} (h:j≠i):J4 j≠J4 i:=fun e=>by
 unfold J4 at e
 injection e with _ e
 exact h e
theorem cZ (i:Int) (h:In64 i):WideAt.IsKeyLit (J4 i):=(NR.key (key_of h))
section
variable {w : World} {b c : Nat} {f : Int → Option Value} {t e : Nat} {z v : Value} {i : Int}
theorem Bw.look (h:Bw w b f c) (ht:Tryz.prog.underlying t=some (.map 3 e)) (hz:(zeroValue e).run Tryz.prog w = .ok z w) (hi:In64 i):(Instr.lookup t (.map (some b)) (.int .i64 i) true).run Tryz.prog w = .ok (.tuple #[(f i).getD z,.bool (f i).isSome]) w:=by
 obtain ⟨D,h1,h2,h3⟩:=h
 obtain ⟨v,ps,hr,hv⟩:=h1.look_ok NR ht hz (zd := .held z) (zp:=[]) rfl (key_of hi)
 obtain ⟨h4,h5⟩:=h3 i hi
 have e1:DataW.held v=D.atKey (J4 i) (.held z):=by
  unfold Rf at hv;simp only [Option.some.injEq,Prod.mk.injEq] at hv;exact hv.1
 rw [h5 z] at e1
 injection e1 with e1
 rw [hr,show Maps.has D (J4 i)=(f i).isSome from h4,e1]
theorem Bw.zO (h:Bw w b f c) (ht:Tryz.prog.underlying t=some (.map 3 e)) (hz:(zeroValue e).run Tryz.prog w = .ok z w) (hi:In64 i):(Instr.lookup t (.map (some b)) (.int .i64 i) false).run Tryz.prog w = .ok ((f i).getD z) w:=by
 obtain ⟨D,h1,h2,h3⟩:=h
 obtain ⟨v,ps,hr,hv⟩:=h1.lookup NR ht hz (zd := .held z) (zp:=[]) rfl (key_of hi)
 obtain ⟨h4,h5⟩:=h3 i hi
 have e1:DataW.held v=D.atKey (J4 i) (.held z):=by
  unfold Rf at hv;simp only [Option.some.injEq,Prod.mk.injEq] at hv;exact hv.1
 rw [h5 z] at e1
 injection e1 with e1
 rw [hr,e1]
theorem P4 {D:DataW Value} {n:Nat} (h:w.ownsMap Tryz.prog 3 Rf b n D):w.ownsMap Tryz.prog 3 Rf b (Maps.size D) D:=by
 obtain ⟨es,clock,h1,h2,h3,h4⟩:=h
 refine ⟨es,clock,h1,h2,?_,h4⟩
 rw [h4]
 simp [Maps.size,length_sorted]
theorem Bw.store (h:Bw w b f c) (ht:Tryz.prog.underlying t=some (.map 3 e)) (hi:In64 i) (hc:c < maxLen):∃ w',(Instr.mapUpdate t (.map (some b)) (.int .i64 i) v).run Tryz.prog w = .ok () w'∧Bw w' b (Iy f i (some v)) (if (f i).isSome then c else c+1)∧AA [b] w w':=by
 obtain ⟨D,h1,h2,h3⟩:=h
 obtain ⟨w',hr,h4,h5⟩:=h1.store NR ht hc (d := .held v) (ps:=[]) (val:=v) (key_of hi) rfl
 have hT:=h1.tidy NR
 have hs:Maps.size (D.put (J4 i) (.held v))=if (f i).isSome then c else c+1:=by rw [size_put hT,(h3 i hi).1,h2]
 refine ⟨w',hr,⟨_,by rw [← hs];exact P4 h4,hs,fun j hj=>?_⟩,AA.Wa h5.grown⟩
 by_cases e1:j=i
 ·subst e1
  unfold Iy
  rw [decide_eq_true rfl,cond_true]
  exact ⟨has_put_same h1.isMap (cZ j hj) _,fun z=>atKey_put_same h1.isMap (cZ j hj) _ _⟩
 ·unfold Iy
  rw [decide_eq_false e1,cond_false,has_put_other (key_ne e1)]
  exact ⟨(h3 j hj).1,fun z=>by rw [atKey_put_other (key_ne e1)];exact (h3 j hj).2 z⟩
theorem Bw.drop (h:Bw w b f c) (ht:Tryz.prog.underlying t=some (.map 3 e)) (hi:In64 i) (ty:Nat):∃ w',(Builtin.delete_ #[t,3] ty #[.map (some b),.int .i64 i]).run Tryz.prog w = .ok (.tuple #[]) w'∧Bw w' b (Iy f i none) (if (f i).isSome then c - 1 else c)∧AA [b] w w':=by
 obtain ⟨D,h1,h2,h3⟩:=h
 obtain ⟨w',hr,h4,h5⟩:=h1.drop NR ht (key_of hi) ty
 have hT:=h1.tidy NR
 have hs:Maps.size (D.del (J4 i))=if (f i).isSome then c - 1 else c:=by
  have:=size_del (k:=J4 i) hT
  rw [(h3 i hi).1,h2] at this
  split at this <;> rename_i hx <;> simp only [hx,if_true,if_false,Bool.false_eq_true] <;> omega
 refine ⟨w',hr,⟨_,by rw [← hs];exact P4 h4,hs,fun j hj=>?_⟩,AA.Wa h5.grown⟩
 by_cases e1:j=i
 ·subst e1
  unfold Iy
  rw [decide_eq_true rfl,cond_true]
  exact ⟨has_del_same,fun z=>atKey_del_same _⟩
 ·unfold Iy
  rw [decide_eq_false e1,cond_false,has_del_other (key_ne e1)]
  exact ⟨(h3 j hj).1,fun z=>by rw [atKey_del_other (key_ne e1)];exact (h3 j hj).2 z⟩
end
end Go.Proofs.Q0
namespace Go.Proofs.Q0
open Go Go.RowKit
section
variable {ops : Array Oper} {QE : Exit → Env → World → Prop} {n : Nat} {rest : List Oper} {env : Env} {w wb : World} {D : Ctx} {H : List Bn} {d : Option Nat} {ty : Nat} {pos : String} {Am : Array Edge} {g : Option (Nat × Bool)}
theorem zero_run {e:Nat} {z:Value} (h:(Tryz.prog.info? e).bind (·.zero)=some z) (w:World):(zeroValue e).run Tryz.prog w = .ok z w:=by
 obtain ⟨i,hi,hz⟩:=Option.bind_eq_some_iff.1 h
 simp [zeroValue,Sem.run_bind,CC hi,hz]
theorem JQ {t e b c:Nat} {f:Int→Option Value} {x y:Operand} {i:Int} {z:Value} (hM:Bw w b f c) (hi:In64 i) (hz:(Tryz.prog.info? e).bind (·.zero)=some z) (ht:Tryz.prog.underlying t=some (.map 3 e)) (hw:BA ops env g=true:=by exact rfl) (hx:ev env x = .map (some b):=by exact rfl) (hy:ev env y = .int .i64 i:=by exact rfl)
 (k:XS Tryz.prog ops QE n rest (Bp env d (.tuple #[(f i).getD z,.bool (f i).isSome])) w):XS Tryz.prog ops QE n (⟨d,.lookup t x y true,ty,pos,Am,g⟩ :: rest) env w :=
 xs_val hw (by simp [execOp,hx,hy,Sem.run_bind,hM.look ht (zero_run hz w) hi]) k
theorem XK {t e b c:Nat} {f:Int→Option Value} {x y:Operand} {i:Int} {z:Value} (hM:Bw w b f c) (hi:In64 i) (hz:(Tryz.prog.info? e).bind (·.zero)=some z) (ht:Tryz.prog.underlying t=some (.map 3 e)) (hw:BA ops env g=true:=by exact rfl) (hx:ev env x = .map (some b):=by exact rfl) (hy:ev env y = .int .i64 i:=by exact rfl)
 (k:XS Tryz.prog ops QE n rest (Bp env d ((f i).getD z)) w):XS Tryz.prog ops QE n (⟨d,.lookup t x y false,ty,pos,Am,g⟩ :: rest) env w :=
 xs_val hw (by simp [execOp,hx,hy,Sem.run_bind,hM.zO ht (zero_run hz w) hi]) k
theorem OF {t e b c:Nat} {f:Int→Option Value} {x y u:Operand} {i:Int} {v:Value} (hM:Bw w b f c) (hi:In64 i) (hc:c < maxLen) (ht:Tryz.prog.underlying t=some (.map 3 e)) (hw:BA ops env g=true:=by exact rfl) (hx:ev env x = .map (some b):=by exact rfl) (hy:ev env y = .int .i64 i:=by exact rfl) (hu:ev env u=v:=by exact rfl)
 (k:∀ w',Bw w' b (Iy f i (some v)) (if (f i).isSome then c else c+1)→AA [b] w w'→XS Tryz.prog ops QE n rest (Bp env d undef) w'):XS Tryz.prog ops QE n (⟨d,.mapUpdate t x y u,ty,pos,Am,g⟩ :: rest) env w:=by
 obtain ⟨w',hr,h1,h2⟩:=hM.store (v:=v) ht hi hc
 exact XS.Su hw (by simp [execOp,hx,hy,hu,Sem.run_bind,hr]) (k w' h1 h2)
theorem UU {t e b c:Nat} {f:Int→Option Value} {x y:Operand} {i:Int} (hM:Bw w b f c) (hi:In64 i) (ht:Tryz.prog.underlying t=some (.map 3 e)) (hw:BA ops env g=true:=by exact rfl) (hx:ev env x = .map (some b):=by exact rfl) (hy:ev env y = .int .i64 i:=by exact rfl)
 (k:∀ w',Bw w' b (Iy f i none) (if (f i).isSome then c - 1 else c)→AA [b] w w'→XS Tryz.prog ops QE n rest (Bp env d (.tuple #[])) w'):XS Tryz.prog ops QE n (⟨d,.call { callee := .builtin .delete,args:=#[x,y],argTypes:=#[t,3] },ty,pos,Am,g⟩ :: rest) env w:=by
 obtain ⟨w',hr,h1,h2⟩:=hM.drop ht hi ty
 exact XS.value hw (v := .tuple #[]) (w':=w') (by simp [execOp,resolve,Sem.run_bind,invoke,builtin,hx,hy,hr]) (k w' h1 h2)
theorem Tb {t:Nat} (hw:BA ops env g=true:=by exact rfl)
 (k:∀ b w',AA [] w w'→Bw w' b (fun _=>none) 0→w.heap.size≤b→XS Tryz.prog ops QE n rest (Bp env d (.map (some b))) w'):XS Tryz.prog ops QE n (⟨d,.makeMap t none,ty,pos,Am,g⟩ :: rest) env w :=
 XS.value hw (v := .map (some w.heap.size)) (w':=w.alloc (.map #[] 0)) (by simp [execOp,Sem.run_bind,run_makeMap]) (k _ _ (((St.nil w).alloc _).AD rfl) (Bw.made w) (Nat.le_refl _))
end
end Go.Proofs.Q0
namespace Go.Proofs.Q0
open Go Go.RowKit
attribute [local irreducible] XS XC XA AX AO A7 A0 AZ A8 Aa AV SE
def wdV (o:Option Int):Value := .tuple #[wv (o.getD 0),.bool o.isSome]
def H6 (m:Mn) (p:Pt):Int:=m.a*p.w - dist p m.b*m.w
def F4 (m:Mn) (p:Pt):Option Int:=if m.right=true∧m.n≠0∧p.right=true∧A9 (m.a*p.w)∧A9 (H6 m p) then some (H6 m p) else none
theorem iW {m:Mn} {p:Pt}:A9 ((F4 m p).getD 0):=by
 unfold F4;split
 ·rename_i h;exact h.2.2.2.2
 ·decide
theorem KG {x:Int} (h:In64 x):IntKind.i64.wrap x=x:=by rw [wrap_i64];unfold In64 at h;omega
theorem ZD {m:Mn} {p:Pt} (hp:p.In) (h5:m.right=true) (h6:p.right=true):A9 (dist p m.b*m.w)∧-(9671406556917033397649408+1048576)≤dist p m.b∧dist p m.b≤9671406556917033397649408+1048576:=by
 have h5:=Cd.1 h5
 have h6:=E6.1 h6
 have h7:=sn_rng p.t m.b
 have h8:=mul_rng (w:=p.w) (s:=sn p.t m.b) (W:=1048576) (S:=9223372036854775808) om om om om
 have hr:=hp.2.1.1
 have h9:-(9671406556917033397649408+1048576)≤dist p m.b∧dist p m.b≤9671406556917033397649408+1048576:=by unfold dist;omega
 have h10:=mul_rng (w:=m.w) (s:=dist p m.b) (W:=33554432) (S:=9671406556917033397649408+1048576) om om h9.1 h9.2
 have e:=Int.mul_comm (dist p m.b) m.w
 exact ⟨by unfold A9;rw [e];omega,h9⟩
theorem WY (m:Mn) (p:Pt) (hm:m.In) (hp':p.In) (w0:World):AM Tryz.prog 128 #[mv m,pv p] w0 fun v w'=>v=wdV (F4 m p)∧AA [] w0 w':=by
 have hs:=St.nil w0
 refine AQ Tryz.func128 Tryz.ntmps128 (k:=?_)
 repeat' (first|refine Sa ?_|(refine al hs (k:=?_);intro b w hz hs)|(refine bx hs (k:=?_);intro b w hz hs)|fail)
 refine AY hs (h:=by exact FH m _) (k:=?_);intro w' ho hs;repeat' (first|refine Se ?_|(refine AU hs (k:=?_);intro w hs)|((with_reducible apply BM);exact rfl;exact rfl;intro c hc;(fail_if_success have:true=c:=hc);(fail_if_success have:false=c:=hc);cases c)|fail)
 ·refine AY hs (h:=by exact FI p _) (k:=?_);intro w' ho hs;repeat' (first|refine Sa ?_|(refine AU hs (k:=?_);intro w hs)|refine xc_cond rfl (fun hc=>?_) fun hc=>?_|fail)
  ·refine AF ?_
   refine ⟨?_,hs.AD rfl⟩
   have:F4 m p=none:=by unfold F4;rw [if_neg (fun h=>absurd h.2.2.1 (by simpa using hc))]
   rw [this];rfl
  ·have h1:m.right=true:=by simpa using ‹(!m.right)=false›
   have h2:p.right=true:=by simpa using hc
   have h3:m.n≠0:=by simpa using ‹(m.n == 0)=false›
   have h5:=Cd.1 h1
   have h6:=E6.1 h2
   have h7:=ZD (m:=m) hp' h1 h2
   have e1:IntKind.i64.wrap p.w=p.w:=KG ⟨by omega,by omega⟩
   have e2:IntKind.i64.wrap m.w=m.w:=KG ⟨by omega,by omega⟩
   refine cl (h:=by exact aE m.a (IntKind.i64.wrap p.w) hm.2.1 (by rw [e1];exact ⟨by omega,by omega⟩) _) (k:=?_)
   rw [e1]
   rintro v w' ⟨rfl,ho⟩;replace hs:=hs.AK ho;repeat' (first|refine Sb ?_|(refine AU hs (k:=?_);intro w hs)|(refine al hs (k:=?_);intro b w hz hs)|fail)
   refine dr [] hs (k:=?_);intro hX w hs
   refine tks 0 3 ?_
   refine tks 4 3 ?_
   refine GS 11 8 hs (k:=?_);intro f X w hp;have hs:=hp.st
   apply BH 3 11 (f:=f) (X:=X) hX hp;exact rfl;exact rfl;(apply AR AI;exact rfl);kernel_rfl;kernel_rfl;kernel_rfl;kernel_rfl;(intro X Y;(repeat (first | exact A4 | refine A3 ?_ (by exact rfl))));(intro w' hs;first|exact AH hs.hold|exact AH hs.hold.tail|exact A6 rfl);intro f X w hp;have hs:=hp.st
   refine cl (h:=by exact Mi p m.b hp' _) (k:=?_)
   rintro v w' ⟨rfl,ho⟩;replace hp:=hp.only ho;replace hs:=hp.st;refine Jb ?_
   refine dn (k:=?_)
   apply BH 7 11 (f:=f) (X:=X) hX hp;exact rfl;exact rfl;(apply AR AI;exact rfl);kernel_rfl;kernel_rfl;kernel_rfl;kernel_rfl;(intro X Y;(repeat (first | exact A4 | refine A3 ?_ (by exact rfl))));(intro w' hs;first|exact AH hs.hold|exact AH hs.hold.tail|exact A6 rfl);intro f X w hp;have hs:=hp.st
   refine cl (h:=by exact W6 (dist p m.b) (IntKind.i64.wrap m.w) (dist_in hp' _) (by rw [e2];omega) (by rw [e2];omega) (by rw [e2];exact h7.1) _) (k:=?_)
   rw [e2]
   rintro v w' ⟨rfl,ho⟩;replace hp:=hp.only ho;replace hs:=hp.st;refine Jb ?_
   refine dn (k:=?_)
   refine tk 8 hX (hc:=by cases f <;> kernel_rfl) (k:=?_)
   refine tk 9 hX (hc:=by cases f <;> kernel_rfl) (k:=?_)
   refine tk 10 hX (hc:=by cases f <;> kernel_rfl) (k:=?_)
   apply B9 11 (f:=f) (X:=X) hX hp;exact rfl;(apply AR AI;exact rfl);kernel_rfl;kernel_rfl;(intro X Y;(repeat (first | exact A4 | refine A3 ?_ (by exact rfl))));(intro w' hs;first|exact AH hs.hold|exact AH hs.hold.tail|exact A6 rfl);intro b w hI hs
   refine dt 12 hX (k:=?_)
   repeat' (first|refine Nx.h ?_|(refine AU hs (k:=?_);intro w hs)|fail)
   refine dn (k:=?_)
   refine tk 13 hX (k:=?_)
   refine en (k:=?_)
   refine Ja ?_
   refine AY hs (h:=by exact Uj (tot (m.a*p.w)) (dist p m.b*m.w) (tot_in _) h7.1 _) (k:=?_);intro w' ho hs;repeat' (first|refine Se ?_|(refine AU hs (k:=?_);intro w hs)|(refine al hs (k:=?_);intro b w hz hs)|((with_reducible apply BM);exact rfl;exact rfl;intro c hc;(fail_if_success have:true=c:=hc);(fail_if_success have:false=c:=hc);cases c)|refine xc_cond rfl (fun hc=>?_) fun hc=>?_|fail)
   ·have h8:A9 (m.a*p.w):=by simpa using ‹(!decide (A9 (m.a*p.w)))=false›
    have e3:tot (m.a*p.w)=m.a*p.w:=if_pos h8
    refine AF ?_
    refine ⟨?_,hs.AD rfl⟩
    rw [e3] at hc
    have h9:¬ A9 (H6 m p):=by unfold H6;simpa using hc
    have:F4 m p=none:=by unfold F4;rw [if_neg (fun h=>h9 h.2.2.2.2)]
    rw [this];rfl
   ·have h8:A9 (m.a*p.w):=by simpa using ‹(!decide (A9 (m.a*p.w)))=false›
    have e3:tot (m.a*p.w)=m.a*p.w:=if_pos h8
    refine AF ?_
    refine ⟨?_,hs.AD rfl⟩
    rw [e3] at hc
    have h9:A9 (H6 m p):=by unfold H6;simpa using hc
    have:F4 m p=some (H6 m p):=by unfold F4;rw [if_pos ⟨h1,h3,h2,h8,h9⟩]
    have e4:tot (m.a*p.w - dist p m.b*m.w)=H6 m p:=if_pos h9
    rw [this,e3,e4];rfl
   ·refine AF ?_
    refine ⟨?_,hs.AD rfl⟩
    have h8:¬ A9 (m.a*p.w):=by simpa using hc
    have:F4 m p=none:=by unfold F4;rw [if_neg (fun h=>h8 h.2.2.2.1)]
    rw [this];rfl
 ·refine AF ?_
  refine ⟨?_,hs.AD rfl⟩
  have:F4 m p=none:=by unfold F4;rw [if_neg (fun h=>h.2.1 (by simpa using hc))]
  rw [this];rfl
 ·refine AF ?_
  refine ⟨?_,hs.AD rfl⟩
  have:F4 m p=none:=by unfold F4;rw [if_neg (fun h=>absurd h.1 (by simpa using hc))]
  rw [this];rfl
theorem U6 (m:Mn) (p:Pt) (hm:m.In) (hp':p.In) (w0:World):AM Tryz.prog 138 #[mv m,pv p] w0 fun v w'=>v = .tuple #[.int .i64 (CX ((F4 m p).getD 0) 0),.bool (F4 m p).isSome]∧AA [] w0 w':=by
 have hs:=St.nil w0
 refine AQ Tryz.func138 Tryz.ntmps138 (k:=?_)
 repeat' (first|refine Sa ?_|(refine bx hs (k:=?_);intro b w hz hs)|fail)
 refine AY hs (h:=by exact WY m p hm hp' _) (k:=?_);intro w' ho hs;repeat' (first|refine Sa ?_|(refine AU hs (k:=?_);intro w hs)|(refine al hs (k:=?_);intro b w hz hs)|fail)
 refine AY hs (h:=by exact QG ((F4 m p).getD 0) iW _) (k:=?_);intro w' ho hs;refine Jc ?_
 refine AF ?_
 exact ⟨rfl,hs.AD rfl⟩
def elig (m:Mn) (p:Pt):Bool:=(F4 m p).isSome && decide (0≤(F4 m p).getD 0)
theorem Qq (m:Mn) (p:Pt) (hm:m.In) (hp':p.In) (w0:World):AM Tryz.prog 230 #[mv m,pv p] w0 fun v w'=>v = .bool (elig m p)∧AA [] w0 w':=by
 have hs:=St.nil w0
 refine AQ Tryz.func230 Tryz.ntmps230 (k:=?_)
 repeat' (first|refine Sa ?_|(refine bx hs (k:=?_);intro b w hz hs)|fail)
 refine AY hs (h:=by exact U6 m p hm hp' _) (k:=?_);intro w' ho hs;repeat' (first|refine Sf ?_|((with_reducible apply BM);exact rfl;exact rfl;intro c hc;(fail_if_success have:true=c:=hc);(fail_if_success have:false=c:=hc);cases c)|fail)
 ·refine AF ?_
  refine ⟨?_,hs.AD rfl⟩
  unfold elig;rw [hc];rfl
 ·refine AF ?_
  refine ⟨?_,hs.AD rfl⟩
  unfold elig;rw [hc]
  show Value.bool _=Value.bool _
  congr 1
  rw [Bool.true_and]
  refine decide_eq_decide.2 ?_
  unfold CX;split
  ·omega
  ·split <;> omega
def W9 (m:Mn) (p:Pt):Option Int:=(F4 m p).map fun x=>x / m.w
theorem Q2 (m:Mn) (p:Pt) (hm:m.In) (hp':p.In) (w0:World):AM Tryz.prog 89 #[mv m,pv p] w0 fun v w'=>v=wdV (W9 m p)∧AA [] w0 w':=by
 have hs:=St.nil w0
 refine AQ Tryz.func89 Tryz.ntmps89 (k:=?_)
 repeat' (first|refine Sa ?_|(refine al hs (k:=?_);intro b w hz hs)|(refine bx hs (k:=?_);intro b w hz hs)|fail)
 refine cl (h:=by exact WY m p hm hp' _) (k:=?_)
 have hin:=iW (m:=m) (p:=p)
 have hU:=hm.2.2.1
 unfold W9
 cases ho:F4 m p with
 | none =>
   rintro v w' ⟨rfl,ho⟩;replace hs:=hs.AK ho;repeat' (first|refine Sc ?_|(refine AU hs (k:=?_);intro w hs)|(refine al hs (k:=?_);intro b w hz hs)|fail)
   refine AF ?_
   exact ⟨rfl,hs.AD rfl⟩
 | some x =>
   rw [ho] at hin
   have hw:0 < m.w:=by
    unfold F4 at ho;split at ho
    ·rename_i h;have:=Cd.1 h.1;omega
    ·cases ho
   rintro v w' ⟨rfl,ho⟩;replace hs:=hs.AK ho;repeat' (first|refine Sd ?_|(refine AU hs (k:=?_);intro w hs)|(refine al hs (k:=?_);intro b w hz hs)|fail)
   refine AY hs (h:=by exact Nf x m.w hin hw hU.2 _) (k:=?_);intro w' ho hs;repeat' (first|refine Sa ?_|(refine AU hs (k:=?_);intro w hs)|(refine al hs (k:=?_);intro b w hz hs)|fail)
   refine AF ?_
   exact ⟨rfl,hs.AD rfl⟩
def Px (m:Mn) (q lag:Int):Int:=m.a*q - lag*(m.w+q)
def Gl (m:Mn) (clock q lag:Int):Option Pt :=
 if m.right=true∧Ek q=true then (if m.n=0 then some ⟨clock,0,q⟩ else if A9 (m.a*q)∧A9 (Px m q lag) then OT m.b (Px m q lag / m.w) q else none) else none
theorem YZ {q:Int} (h:q < 1∨1048576 < q):¬ Ek q=true:=fun h'=>by have:=Ej.1 h';omega
theorem Tz (m:Mn) (clock q lag:Int) (hm:m.In) (hq:F7 q) (hl:In64 lag) (w0:World):AM Tryz.prog 130 #[mv m,.int .u64 clock,.int .u32 q,.int .i64 lag] w0 fun v w'=>v=qL (Gl m clock q lag)∧AA [] w0 w':=by
 have hs:=St.nil w0
 refine AQ Tryz.func130 Tryz.ntmps130 (k:=?_)
 repeat' (first|refine Sa ?_|(refine al hs (k:=?_);intro b w hz hs)|(refine bx hs (k:=?_);intro b w hz hs)|fail)
 refine AY hs (h:=by exact FH m _) (k:=?_);intro w' ho hs;repeat' (first|refine Se ?_|(refine AU hs (k:=?_);intro w hs)|((with_reducible apply BM);exact rfl;exact rfl;intro c hc;(fail_if_success have:true=c:=hc);(fail_if_success have:false=c:=hc);cases c)|refine Au rfl (fun hc=>?_) fun hc=>?_|fail)
 ·refine AF ?_
  refine ⟨?_,hs.AD rfl⟩
  have:Gl m clock q lag=none:=by unfold Gl;rw [if_neg (fun h=>YZ (.inr om) h.2)]
  rw [this];rfl
 ·refine AF ?_
  refine ⟨?_,hs.AD rfl⟩
  have h1:m.right=true:=by simpa using ‹(!m.right)=false›
  have h2:=of_decide_eq_false ‹decide (q < 1)=false›
  have:Gl m clock q lag=some ⟨clock,0,q⟩:=by unfold Gl;rw [if_pos ⟨h1,Ej.2 om⟩,if_pos (by assumption)]
  rw [this];rfl
 ·have h1:m.right=true:=by simpa using ‹(!m.right)=false›
  have h2:=of_decide_eq_false ‹decide (q < 1)=false›
  have h3:¬ m.n=0:=by assumption
  have h4:Ek q=true:=Ej.2 om
  have h5:=Cd.1 h1
  have h6:=Ej.1 h4
  obtain ⟨hl0,LR⟩:=hl
  have e1:IntKind.i64.wrap q=q:=KG ⟨by omega,by omega⟩
  have e2:IntKind.i64.wrap (IntKind.i64.wrap m.w+IntKind.i64.wrap q)=m.w+q:=by rw [e1,KG (x:=m.w) ⟨by omega,by omega⟩,KG ⟨by omega,by omega⟩]
  have h7:=mul_rng (w:=m.w+q) (s:=lag) (W:=34603008) (S:=9223372036854775808) om om om om
  have e3:=Int.mul_comm lag (m.w+q)
  have h8:A9 (lag*(m.w+q)):=by unfold A9;rw [e3];omega
  have fJ:Gl m clock q lag=if A9 (m.a*q)∧A9 (Px m q lag) then OT m.b (Px m q lag / m.w) q else none:=by unfold Gl;rw [if_pos ⟨h1,h4⟩,if_neg h3]
  refine cl (h:=by exact aE m.a (IntKind.i64.wrap q) hm.2.1 (by rw [e1];exact ⟨by omega,by omega⟩) _) (k:=?_)
  rw [e1]
  rintro v w' ⟨rfl,ho⟩;replace hs:=hs.AK ho;repeat' (first|refine Sb ?_|(refine AU hs (k:=?_);intro w hs)|(refine al hs (k:=?_);intro b w hz hs)|fail)
  refine dr [] hs (k:=?_);intro hX w hs
  refine tk 0 hX (k:=?_)
  refine tks 2 6 ?_
  refine E4 53 (congrArg (Value.int .i64) e2) ?_
  refine GS 12 12 hs (k:=?_);intro f X w hp;have hs:=hp.st
  apply BH 1 12 (f:=f) (X:=X) hX hp;exact rfl;exact rfl;(apply AR AI;exact rfl);kernel_rfl;kernel_rfl;kernel_rfl;kernel_rfl;(intro X Y;(repeat (first | exact A4 | refine A3 ?_ (by exact rfl))));(intro w' hs;first|exact AH hs.hold|exact AH hs.hold.tail|exact A6 rfl);intro f X w hp;have hs:=hp.st
  refine cl (h:=by exact Fp lag hl0 LR _) (k:=?_)
  rintro v w' ⟨rfl,ho⟩;replace hp:=hp.only ho;replace hs:=hp.st;refine Jb ?_
  refine dn (k:=?_)
  apply BH 8 12 (f:=f) (X:=X) hX hp;exact rfl;exact rfl;(apply AR AI;exact rfl);kernel_rfl;kernel_rfl;kernel_rfl;kernel_rfl;(intro X Y;(repeat (first | exact A4 | refine A3 ?_ (by exact rfl))));(intro w' hs;first|exact AH hs.hold|exact AH hs.hold.tail|exact A6 rfl);intro f X w hp;have hs:=hp.st
  refine cl (h:=by exact W6 lag (m.w+q) (by unfold A9;omega) om om h8 _) (k:=?_)
  rintro v w' ⟨rfl,ho⟩;replace hp:=hp.only ho;replace hs:=hp.st;refine Jb ?_
  refine dn (k:=?_)
  refine tk 9 hX (hc:=by cases f <;> kernel_rfl) (k:=?_)
  refine tk 10 hX (hc:=by cases f <;> kernel_rfl) (k:=?_)
  refine tk 11 hX (hc:=by cases f <;> kernel_rfl) (k:=?_)
  apply B9 12 (f:=f) (X:=X) hX hp;exact rfl;(apply AR AI;exact rfl);kernel_rfl;kernel_rfl;(intro X Y;(repeat (first | exact A4 | refine A3 ?_ (by exact rfl))));(intro w' hs;first|exact AH hs.hold|exact AH hs.hold.tail|exact A6 rfl);intro b w hI hs
  refine dt 13 hX (k:=?_)
  repeat' (first|refine Nx.h ?_|(refine AU hs (k:=?_);intro w hs)|fail)
  refine dn (k:=?_)
  refine tk 14 hX (k:=?_)
  refine en (k:=?_)
  refine Ja ?_
  refine AY hs (h:=by exact Uj (tot (m.a*q)) (lag*(m.w+q)) (tot_in _) h8 _) (k:=?_);intro w' ho hs;repeat' (first|refine Se ?_|(refine AU hs (k:=?_);intro w hs)|(refine al hs (k:=?_);intro b w hz hs)|((with_reducible apply BM);exact rfl;exact rfl;intro c hc;(fail_if_success have:true=c:=hc);(fail_if_success have:false=c:=hc);cases c)|refine xc_cond rfl (fun hc=>?_) fun hc=>?_|fail)
  ·have h9:A9 (m.a*q):=by simpa using ‹(!decide (A9 (m.a*q)))=false›
   have e4:tot (m.a*q)=m.a*q:=if_pos h9
   refine AF ?_
   refine ⟨?_,hs.AD rfl⟩
   rw [e4] at hc
   have h10:¬ A9 (Px m q lag):=by unfold Px;simpa using hc
   rw [fJ,if_neg (fun h=>h10 h.2)];rfl
  ·have h9:A9 (m.a*q):=by simpa using ‹(!decide (A9 (m.a*q)))=false›
   have e4:tot (m.a*q)=m.a*q:=if_pos h9
   rw [e4] at hc
   have h10:A9 (Px m q lag):=by unfold Px;simpa using hc
   have e5:tot (tot (m.a*q) - lag*(m.w+q))=Px m q lag:=by rw [e4];exact if_pos h10
   refine cl (h:=by exact Nf (tot (tot (m.a*q) - lag*(m.w+q))) m.w (tot_in _) om om _) (k:=?_)
   rw [e5]
   rintro v w' ⟨rfl,ho⟩;replace hs:=hs.AK ho;repeat' (first|refine Sa ?_|(refine AU hs (k:=?_);intro w hs)|(refine al hs (k:=?_);intro b w hz hs)|fail)
   refine AY hs (h:=by exact V4 m.b (Px m q lag / m.w) q (div_in h10 om) _) (k:=?_);intro w' ho hs;repeat' (first|refine Sb ?_|(refine AU hs (k:=?_);intro w hs)|fail)
   refine AF ?_
   refine ⟨?_,hs.AD rfl⟩
   rw [fJ,if_pos ⟨h9,h10⟩];rfl
  ·refine AF ?_
   refine ⟨?_,hs.AD rfl⟩
   have h9:¬ A9 (m.a*q):=by simpa using hc
   rw [fJ,if_neg (fun h=>h9 h.1)];rfl
 ·refine AF ?_
  refine ⟨?_,hs.AD rfl⟩
  have:Gl m clock q lag=none:=by unfold Gl;rw [if_neg (fun h=>YZ (.inl (by simpa using hc)) h.2)]
  rw [this];rfl
 ·refine AF ?_
  refine ⟨?_,hs.AD rfl⟩
  have:Gl m clock q lag=none:=by unfold Gl;rw [if_neg (fun h=>absurd h.1 (by simpa using hc))]
  rw [this];rfl
def Pe (m:Mn) (p:Pt) (q:Int):Int:=m.a*(q - p.w)
def UN (m:Mn) (p:Pt) (q:Int):Int:=dist p m.b+Pe m p q / m.w
def GL (m:Mn) (p:Pt) (q:Int):Option Pt :=
 if m.right=true∧m.n≠0∧p.right=true∧Ek q=true∧A9 (Pe m p q)∧A9 (UN m p q) then OT m.b (UN m p q) q else none
theorem T7 (m:Mn) (p:Pt) (q:Int) (hm:m.In) (hp':p.In) (hq:F7 q) (w0:World):AM Tryz.prog 112 #[mv m,pv p,.int .u32 q] w0 fun v w'=>v=qL (GL m p q)∧AA [] w0 w':=by
 have hs:=St.nil w0
 refine AQ Tryz.func112 Tryz.ntmps112 (k:=?_)
 repeat' (first|refine Sa ?_|(refine al hs (k:=?_);intro b w hz hs)|(refine bx hs (k:=?_);intro b w hz hs)|fail)
 refine AY hs (h:=by exact FH m _) (k:=?_);intro w' ho hs;repeat' (first|refine Se ?_|(refine AU hs (k:=?_);intro w hs)|((with_reducible apply BM);exact rfl;exact rfl;intro c hc;(fail_if_success have:true=c:=hc);(fail_if_success have:false=c:=hc);cases c)|fail)
 ·refine AY hs (h:=by exact FI p _) (k:=?_);intro w' ho hs;repeat' (first|refine Se ?_|(refine AU hs (k:=?_);intro w hs)|((with_reducible apply BM);exact rfl;exact rfl;intro c hc;(fail_if_success have:true=c:=hc);(fail_if_success have:false=c:=hc);cases c)|fail)
  ·refine AY hs (h:=by exact FI ⟨0,0,q⟩ _) (k:=?_);intro w' ho hs;repeat' (first|refine Sa ?_|(refine AU hs (k:=?_);intro w hs)|refine xc_cond rfl (fun hc=>?_) fun hc=>?_|fail)
   ·refine AF ?_
    refine ⟨?_,hs.AD rfl⟩
    have:GL m p q=none:=by
     unfold GL;rw [if_neg (fun h=>?_)]
     have h1:(⟨0,0,q⟩:Pt).right=false:=by simpa using hc
     have h2:=Ej.1 h.2.2.2.1
     have h3:(⟨0,0,q⟩:Pt).right=true:=E6.2 ⟨h2.1,h2.2,by show (0:Int) < q;omega⟩
     rw [h1] at h3;cases h3
    rw [this];rfl
   ·have h1:m.right=true:=by simpa using ‹(!m.right)=false›
    have h2:p.right=true:=by simpa using ‹(!p.right)=false›
    have h3:m.n≠0:=by simpa using ‹(m.n == 0)=false›
    have pH:(⟨0,0,q⟩:Pt).right=true:=by simpa using hc
    have h4:Ek q=true:=by have:=E6.1 pH;exact Ej.2 ⟨this.1,this.2.1⟩
    have h5:=Cd.1 h1
    have h6:=E6.1 h2
    have h6':=Ej.1 h4
    have e1:IntKind.i64.wrap (IntKind.i64.wrap q - IntKind.i64.wrap p.w)=q - p.w:=by rw [KG (x:=q) ⟨by omega,by omega⟩,KG (x:=p.w) ⟨by omega,by omega⟩,KG ⟨by omega,by omega⟩]
    refine cl (h:=by exact aE m.a (IntKind.i64.wrap (IntKind.i64.wrap q - IntKind.i64.wrap p.w)) hm.2.1 (by rw [e1];exact ⟨by omega,by omega⟩) _) (k:=?_)
    rw [e1]
    rintro v w' ⟨rfl,ho⟩;replace hs:=hs.AK ho;repeat' (first|refine Sa ?_|(refine AU hs (k:=?_);intro w hs)|(refine al hs (k:=?_);intro b w hz hs)|refine xc_cond rfl (fun hc=>?_) fun hc=>?_|fail)
    ·refine AF ?_
     refine ⟨?_,hs.AD rfl⟩
     have h8:¬ A9 (Pe m p q):=by unfold Pe;simpa using hc
     have:GL m p q=none:=by unfold GL;rw [if_neg (fun h=>h8 h.2.2.2.2.1)]
     rw [this];rfl
    ·have h8:A9 (Pe m p q):=by unfold Pe;simpa using hc
     have e2:tot (m.a*(q - p.w))=Pe m p q:=if_pos h8
     refine cl (h:=by exact Nf (tot (m.a*(q - p.w))) m.w (tot_in _) om om _) (k:=?_)
     rw [e2]
     rintro v w' ⟨rfl,ho⟩;replace hs:=hs.AK ho;repeat' (first|refine Sb ?_|(refine AU hs (k:=?_);intro w hs)|(refine al hs (k:=?_);intro b w hz hs)|fail)
     refine dr [] hs (k:=?_);intro hX w hs
     refine tks 0 3 ?_
     refine tk 4 hX (k:=?_)
     refine GS 9 13 hs (k:=?_);intro f X w hp;have hs:=hp.st
     apply BH 3 9 (f:=f) (X:=X) hX hp;exact rfl;exact rfl;(apply AR AI;exact rfl);kernel_rfl;kernel_rfl;kernel_rfl;kernel_rfl;(intro X Y;(repeat (first | exact A4 | refine A3 ?_ (by exact rfl))));(intro w' hs;first|exact AH hs.hold|exact AH hs.hold.tail|exact A6 rfl);intro f X w hp;have hs:=hp.st
     refine cl (h:=by exact Mi p m.b hp' _) (k:=?_)
     rintro v w' ⟨rfl,ho⟩;replace hp:=hp.only ho;replace hs:=hp.st;refine Jb ?_
     refine dn (k:=?_)
     apply BH 5 9 (f:=f) (X:=X) hX hp;exact rfl;exact rfl;(apply AR AI;exact rfl);kernel_rfl;kernel_rfl;kernel_rfl;kernel_rfl;(intro X Y;(repeat (first | exact A4 | refine A3 ?_ (by exact rfl))));(intro w' hs;first|exact AH hs.hold|exact AH hs.hold.tail|exact A6 rfl);intro f X w hp;have hs:=hp.st
     refine cl (h:=by exact Za (dist p m.b) (Pe m p q / m.w) (dist_in hp' _) (div_in h8 om) _) (k:=?_)
     rintro v w' ⟨rfl,ho⟩;replace hp:=hp.only ho;replace hs:=hp.st;refine Jb ?_
     refine dn (k:=?_)
     refine tk 6 hX (hc:=by cases f <;> kernel_rfl) (k:=?_)
     refine tk 7 hX (hc:=by cases f <;> kernel_rfl) (k:=?_)
     refine tk 8 hX (hc:=by cases f <;> kernel_rfl) (k:=?_)
     apply B9 9 (f:=f) (X:=X) hX hp;exact rfl;(apply AR AI;exact rfl);kernel_rfl;kernel_rfl;(intro X Y;(repeat (first | exact A4 | refine A3 ?_ (by exact rfl))));(intro w' hs;first|exact AH hs.hold|exact AH hs.hold.tail|exact A6 rfl);intro b w hI hs
     refine dt 10 hX (k:=?_)
     repeat' (first|refine Nx.h ?_|(refine AU hs (k:=?_);intro w hs)|fail)
     refine dn (k:=?_)
     refine tk 11 hX (k:=?_)
     refine en (k:=?_)
     repeat' (first|refine Sa ?_|(refine AU hs (k:=?_);intro w hs)|refine xc_cond rfl (fun hc=>?_) fun hc=>?_|fail)
     ·refine AF ?_
      refine ⟨?_,hs.AD rfl⟩
      have h9:¬ A9 (UN m p q):=by unfold UN;simpa using hc
      have:GL m p q=none:=by unfold GL;rw [if_neg (fun h=>h9 h.2.2.2.2.2)]
      rw [this];rfl
     ·have h9:A9 (UN m p q):=by unfold UN;simpa using hc
      have e3:tot (dist p m.b+Pe m p q / m.w)=UN m p q:=if_pos h9
      refine cl (h:=by exact V4 m.b (tot (dist p m.b+Pe m p q / m.w)) q (tot_in _) _) (k:=?_)
      rw [e3]
      rintro v w' ⟨rfl,ho⟩;replace hs:=hs.AK ho;repeat' (first|refine Sb ?_|(refine AU hs (k:=?_);intro w hs)|fail)
      refine AF ?_
      refine ⟨?_,hs.AD rfl⟩
      have:GL m p q=OT m.b (UN m p q) q:=by unfold GL;rw [if_pos ⟨h1,h3,h2,h4,h8,h9⟩]
      rw [this];rfl
  ·refine AF ?_
   refine ⟨?_,hs.AD rfl⟩
   have:GL m p q=none:=by unfold GL;rw [if_neg (fun h=>absurd h.2.2.1 (by simpa using hc))]
   rw [this];rfl
 ·refine AF ?_
  refine ⟨?_,hs.AD rfl⟩
  have:GL m p q=none:=by unfold GL;rw [if_neg (fun h=>h.2.1 (by simpa using hc))]
  rw [this];rfl
 ·refine AF ?_
  refine ⟨?_,hs.AD rfl⟩
  have:GL m p q=none:=by unfold GL;rw [if_neg (fun h=>absurd h.1 (by simpa using hc))]
  rw [this];rfl
end Go.Proofs.Q0
namespace Go.Proofs.Q0
open Go Go.RowKit
open IB (IT DB Bh)
attribute [local irreducible] XS XC XA AX AO A7 A0 AZ A8 Aa AV SE
structure Qs where
 m:Mn
 t:RB IT
 f:Int→Option IT
 n:Nat
 c:Int
abbrev Ko (m:Mn) (tb mb:Nat) (c:Int):Obj := .cells #[.int .u64 m.b,.int .i64 (m.a / 18446744073709551616),.int .u64 (m.a % 18446744073709551616),.int .u64 m.w,.int .i64 m.n,.pointer (some ⟨tb,0,none⟩),.map (some mb),.int .u64 c] 114 (0,0)
def vals (f:Int→Option IT):Int→Option Value:=fun i=>(f i).map fun a=>iv a.1
def KU (f:Int→Option IT) (i:Int) (a:Option IT):Int→Option IT:=fun j=>bif decide (j=i) then a else f j
theorem WL (f:Int→Option IT) (i:Int) (a:Option IT):Iy (vals f) i (a.map fun a=>iv a.1)=vals (KU f i a):=by
 funext j
 unfold Iy vals KU
 cases decide (j=i) <;> rfl
theorem FR (f:Int→Option IT) (i:Int):(vals f i).isSome=(f i).isSome:=by unfold vals;cases f i <;> rfl
def Cw (w:World) (qb:Nat) (s:Qs) (F:List Nat):Prop :=
 ∃ tb mb Ft,F=qb :: mb :: Ft∧w.heap[qb]?=some (Ko s.m tb mb s.c)∧Bw w mb (vals s.f) s.n∧IB.C6 w tb s.t Ft∧s.m.In∧BV s.c
theorem Cw.Ae {w w':World} {qb:Nat} {s:Qs} {F G:List Nat} (h:Cw w qb s F) (ho:AA G w w') (hd:∀ k∈F,k∉G):Cw w' qb s F:=by
 obtain ⟨tb,mb,Ft,rfl,h1,h2,h3,h4⟩:=h
 exact ⟨tb,mb,Ft,rfl,ho.block h1 (hd qb (by simp)),h2.keep ho (hd mb (by simp)),h3.Ae ho (fun k hk=>hd k (by simp [hk])),h4⟩
theorem Cw.only {w w':World} {qb:Nat} {s:Qs} {F:List Nat} (h:Cw w qb s F) (ho:AA [] w w'):Cw w' qb s F:=h.Ae ho (by simp)
theorem Cw.lt {w:World} {qb:Nat} {s:Qs} {F:List Nat} (h:Cw w qb s F):∀ k∈F,k < w.heap.size:=by
 obtain ⟨tb,mb,Ft,rfl,h1,h2,h3,h4⟩:=h
 intro k hk
 simp only [List.mem_cons] at hk
 rcases hk with rfl | rfl | hk
 ·exact lt_of_block h1
 ·exact h2.lt
 ·exact h3.lt k hk
theorem Cw.not {w:World} {qb:Nat} {s:Qs} {F:List Nat} (h:Cw w qb s F) {b:Nat} {cs:Array Value} {ty:Nat} {fz:Nat × Nat} (hb:w.heap[b]?=some (.cells cs ty fz)) (h1:ty≠276) (h2:ty≠199) (h3:ty≠114):b∉F:=fun hm=>by
 obtain ⟨tb,mb,Ft,rfl,k1,k2,k3,k4⟩:=h
 simp only [List.mem_cons] at hm
 rcases hm with rfl | rfl | hm
 ·exact AW hb k1 h3 rfl
 ·exact k2.ne hb rfl
 ·exact k3.not hb h1 h2 hm
theorem kC {w:World} {qb tb:Nat} {t:RB IT} {Ft:List Nat} (h:IB.C6 w tb t Ft) {cs:Array Value} {fz:Nat × Nat} (hb:w.heap[qb]?=some (.cells cs 114 fz)):qb∉Ft:=h.not hb (by decide) (by decide)
theorem Wt {w:World} {mb tb c:Nat} {t:RB IT} {Ft:List Nat} {f:Int→Option Value} (h:IB.C6 w tb t Ft) (hM:Bw w mb f c):mb∉Ft:=fun hm=>by
 obtain ⟨p,fp,rfl,k1,k2,k3⟩:=h
 rcases List.mem_cons.1 hm with rfl | hm
 ·exact hM.ne k1 rfl
 ·obtain ⟨cs',gV,k4⟩:=k2.nodes mb hm
  exact hM.ne k4 rfl
def FT (s:Qs):Int:=bif decide (s.t.list.length=0) then s.c else (IW s.m).getD 0
theorem TT {s:Qs} (h:BV s.c):BV (FT s):=by
 unfold FT
 cases decide (s.t.list.length=0)
 ·rw [cond_false]
  unfold IW
  split
  ·exact VA _ _
  ·decide
 ·exact h
def Kk (s:Qs):Qs:={ s with m:=(Ic s.m (FT s)).getD .zero }
theorem TQ {o:Option Mn} (h:∀ m,o=some m→m.In):(o.getD .zero).In:=by
 cases o with
 | none=>decide
 | some m=>exact h m rfl
theorem LD (qb:Nat) (s:Qs) (F:List Nat) (w0:World) (h:Cw w0 qb s F):AM Tryz.prog 44 #[.pointer (some ⟨qb,0,none⟩)] w0 fun v w'=>v = .int .i64 (s.t.list.length:Nat)∧AA [] w0 w':=by
 obtain ⟨tb,mb,Ft,rfl,h1,h2,h3,h4⟩:=h
 have hs:=(St.nil w0).AG h1 (by simp)
 refine AQ Tryz.func44 Tryz.ntmps44 (k:=?_)
 refine Jd ?_
 have ho:=hs.AB [] (by simp [h1]) (by simp [D0])
 refine AY hs (h:=by exact IB.fS tb s.t Ft _ (h3.only ho)) (k:=?_);intro w' ho hs;refine Jc ?_
 refine AF ?_
 exact ⟨rfl,hs.AB [] (by simp [h1]) (by simp [D0])⟩
theorem SB (qb:Nat) (s:Qs) (F:List Nat) (w0:World) (h:Cw w0 qb s F) (hlen:s.t.list.length≤1000000):AM Tryz.prog 208 #[.pointer (some ⟨qb,0,none⟩)] w0 fun v w'=>(∃ G,Ba w' 64 7 v s.t.list.length (Bh s.t.list) G∧∀ k∈G,w0.heap.size≤k)∧AA [] w0 w':=by
 obtain ⟨tb,mb,Ft,rfl,h1,h2,h3,h4⟩:=h
 have hs:=(St.nil w0).AG h1 (by simp)
 refine AQ Tryz.func208 Tryz.ntmps208 (k:=?_)
 refine Jd ?_
 have ho:=hs.AB [] (by simp [h1]) (by simp [D0])
 refine cl (h:=by exact IB.O5 tb s.t Ft _ (h3.only ho) hlen) (k:=?_)
 rintro v w' ⟨⟨G,hG,hn⟩,ho'⟩;replace hs:=hs.AK ho'
 have hz:=ho.size
 refine Jc ?_
 refine AF ?_
 exact ⟨⟨G,hG,fun k hk=>by have:=hn k hk;omega⟩,hs.AB [] (by simp [h1]) (by simp [D0])⟩
theorem Mx (qb:Nat) (s:Qs) (F:List Nat) (w0:World) (h:Cw w0 qb s F):AM Tryz.prog 20 #[.pointer (some ⟨qb,0,none⟩)] w0 fun v w'=>v = .int .u64 (FT s)∧AA [] w0 w':=by
 have hq:=h
 obtain ⟨tb,mb,Ft,rfl,h1,h2,h3,h4⟩:=h
 have hs:=(St.nil w0).AG h1 (by simp)
 refine AQ Tryz.func20 Tryz.ntmps20 (k:=?_)
 refine Jd ?_
 have ho:=hs.AB [] (by simp [h1]) (by simp [D0])
 refine AY hs (h:=by exact LD qb s _ _ (hq.only ho)) (k:=?_);intro w' ho hs;repeat' (first|refine Sa ?_|refine Au rfl (fun hc=>?_) fun hc=>?_|fail)
 ·refine AF ?_
  refine ⟨?_,hs.AB [] (by simp [h1]) (by simp [D0])⟩
  have e:s.t.list.length=0:=by omega
  unfold FT;rw [decide_eq_true e];rfl
 ·refine AY hs (h:=by exact Ng s.m h4.1 _) (k:=?_);intro w' ho hs;refine Ja ?_
  refine AF ?_
  refine ⟨?_,hs.AB [] (by simp [h1]) (by simp [D0])⟩
  have e:¬ s.t.list.length=0:=by omega
  unfold FT;rw [decide_eq_false e];rfl
theorem P3 (qb:Nat) (s:Qs) (F:List Nat) (w0:World) (h:Cw w0 qb s F):AM Tryz.prog 222 #[.pointer (some ⟨qb,0,none⟩)] w0 fun v w'=>Cw w' qb (Kk s) F∧AA [qb] w0 w':=by
 have hq:=h
 obtain ⟨tb,mb,Ft,rfl,h1,h2,h3,h4,h5⟩:=h
 have hs:=(St.nil w0).AG h1 (by simp)
 refine AQ Tryz.func222 Tryz.ntmps222 (k:=?_)
 skip
 refine dr [13] hs (k:=?_);intro hX w hs
 refine tks 0 6 ?_
 refine dt 6 hX (k:=?_)
 have ho:=hs.AB [] (by simp [h1]) (by simp [D0])
 refine AY hs (h:=by exact Mx qb s _ _ (hq.only ho)) (k:=?_);intro w' ho hs;refine Jb ?_
 refine dn (k:=?_)
 refine dt 7 hX (k:=?_)
 refine AY hs (h:=by exact ZL s.m (FT s) h4 _) (k:=?_);intro w' ho hs;refine Jb ?_
 refine dn (k:=?_)
 refine tks 8 5 ?_
 refine dt 13 hX (k:=?_)
 repeat' (first|refine Nx.h ?_|(refine AU hs (k:=?_);intro w hs)|fail)
 refine dn (k:=?_)
 refine en (k:=?_)
 skip
 refine JG ?_
 have AN:=hs.AB [qb] (by simp) (by simp [D0])
 exact ⟨⟨tb,mb,Ft,rfl,hs.get At.head,h2.keep AN (fun hm=>by obtain rfl:=List.mem_singleton.1 hm;exact h2.ne h1 rfl),h3.Ae AN (fun k hk hm=>by obtain rfl:=List.mem_singleton.1 hm;exact kC h3 h1 hk),TQ (fun m e=>rR h4 (TT h5) e),h5⟩,AN⟩
abbrev oT (a:It):Obj := .cells #[.int .u64 a.p.t,.int .u32 a.p.r,.int .u32 a.p.w,.int .i64 a.id,.int .u64 a.d.t,.int .u32 a.d.r,.int .u32 a.d.w] 64 (0,0)
def FP (s:Qs) (a:IT):Mn:=bif decide (s.t.list.length=0) then ⟨a.1.p.t,0,0,0⟩ else s.m
def HV (s:Qs) (a:IT):Qs:=⟨(EJ (FP s a) a.1.p).getD .zero,IB.RB.insert s.t a,KU s.f a.1.id (some a),if (s.f a.1.id).isSome then s.n else s.n+1,s.c⟩
def Kv (s:Qs) (a:IT):Qs:=Kk (HV s a)
theorem rL {s:Qs} {a:IT} (h:s.m.In):(FP s a).In:=by
 unfold FP
 cases decide (s.t.list.length=0)
 ·exact h
 ·exact ⟨a.2.1.1,Nv,nS,SA⟩
structure QP (w:World) (qb tb mb:Nat) (Ft:List Nat) (s:Qs):Prop where
 q:w.heap[qb]?=some (Ko s.m tb mb s.c)
 M:Bw w mb (vals s.f) s.n
 T:IB.C6 w tb s.t Ft
theorem QP.qm {w:World} {qb tb mb:Nat} {Ft:List Nat} {s:Qs} (h:QP w qb tb mb Ft s):qb≠mb:=h.M.ne h.q
theorem QP.qT {w:World} {qb tb mb:Nat} {Ft:List Nat} {s:Qs} (h:QP w qb tb mb Ft s):qb∉Ft:=kC h.T h.q
theorem QP.mT {w:World} {qb tb mb:Nat} {Ft:List Nat} {s:Qs} (h:QP w qb tb mb Ft s):mb∉Ft:=Wt h.T h.M
theorem QP.only {w w':World} {qb tb mb:Nat} {Ft:List Nat} {s:Qs} (h:QP w qb tb mb Ft s) (ho:AA [] w w'):QP w' qb tb mb Ft s:=⟨ho.block h.q (by simp),h.M.keep ho (by simp),h.T.only ho⟩
theorem QP.own {w w':World} {qb tb mb:Nat} {Ft:List Nat} {s:Qs} {m:Mn} {c:Int} (h:QP w qb tb mb Ft s) (ho:AA [qb] w w') (hq:w'.heap[qb]?=some (Ko m tb mb c)):QP w' qb tb mb Ft { s with m:=m,c:=c } :=
 ⟨hq,h.M.keep ho (fun hm=>h.qm (List.mem_singleton.1 hm).symm),h.T.Ae ho (fun k hk hm=>by obtain rfl:=List.mem_singleton.1 hm;exact h.qT hk)⟩
theorem WS (qb:Nat) (s:Qs) (F:List Nat) (a:IT) (w0:World) (h:Cw w0 qb s F) (hlen:s.t.list.length+1≤1000000) (hn:s.n < 1000000) :
 AM Tryz.prog 200 #[.pointer (some ⟨qb,0,none⟩),iv a.1] w0 fun v w'=>∃ F',Cw w' qb (Kv s a) F'∧(∀ k∈F',k∈F∨w0.heap.size≤k)∧AA F w0 w':=by
 have hq:=h
 obtain ⟨tb,mb,Ft,rfl,h1,h2,h3,h4,h5⟩:=h
 have hs:=(St.nil w0).AG h1 (by simp)
 have Wd:=lt_of_block h1
 have ltF:=hq.lt
 have hin:=rL (s:=s) (a:=a) h4
 refine AQ Tryz.func200 Tryz.ntmps200 (k:=?_)
 refine Ag ?_
 refine Al ?_
 refine bx hs (k:=?_);intro bq wq Lm hs
 refine XS.nil ?_
 refine Dw ?_
 refine Ag ?_
 have JB:=hs.new (bq,true) (by simp) rfl
 simp only at JB
 have pL:QP w0 qb tb mb Ft s:=⟨h1,h2,h3⟩
 refine B7 (fun _:Unit=>[(0,.pointer (some ⟨qb,0,none⟩)),(3,.pointer (some ⟨bq,0,none⟩))]) (fun _ w=>QP w qb tb mb Ft { s with m:=FP s a }∧AA [qb] w0 w∧w.heap[bq]?=some (oT a.1)) ?_ ?_
 ·refine Ja ?_
  have ho:=hs.AB [] (by simp [h1]) (by simp [D0])
  refine AY hs (h:=by exact LD qb s _ _ (hq.only ho)) (k:=?_);intro w' ho hs;repeat' (first|refine Sa ?_|(refine AU hs (k:=?_);intro w hs)|refine Au rfl (fun hc=>?_) fun hc=>?_|fail)
  ·have e:s.t.list.length=0:=by omega
   have AN:=hs.AB [qb] (by simp) (by simp [D0])
   have e2:FP s a=⟨a.1.p.t,0,0,0⟩:=by unfold FP;rw [decide_eq_true e];rfl
   rw [e2]
   exact AP () Ab ⟨pL.own AN (hs.get (At.tail At.head)),AN,hs.get At.head⟩
  ·have e:¬ s.t.list.length=0:=by omega
   have AN:=hs.AB [] (by simp [h1]) (by simp [D0])
   have e2:FP s a=s.m:=by unfold FP;rw [decide_eq_false e];rfl
   rw [e2]
   exact AP () Ab ⟨pL.only AN,AN.weaken (by simp),hs.get At.head⟩
 clear hs
 rintro _ env wA ⟨hP,Aw,hQ⟩
 have n1:bq≠qb:=AW hQ hP.q (by decide)
 have hs:=((St.nil wA).AG hP.q (by simp)).AG hQ (by simpa using n1)
 refine Jb ?_
 refine dr [13] hs (k:=?_);intro hX w hs
 refine tks 0 7 ?_
 refine dt 7 hX (k:=?_)
 refine AY hs (h:=by exact WV (FP s a) a.1.p hin a.2.1 _) (k:=?_);intro w' ho hs;refine Jb ?_
 refine dn (k:=?_)
 refine tks 8 5 ?_
 refine dt 13 hX (k:=?_)
 repeat' (first|refine Nx.h ?_|(refine AU hs (k:=?_);intro w hs)|fail)
 refine dn (k:=?_)
 refine en (k:=?_)
 refine Jb ?_
 have AN:=hs.AB [qb] (by simp [hQ]) (by simp [D0])
 have Tt:=hP.own AN (hs.get (At.tail At.head))
 have K1:=hs.get At.head
 have B8:=Aw.step AN (fun k hk => .inl hk)
 clear hs
 have hs:=((St.nil _).AG Tt.q (by simp)).AG K1 (by simpa using n1)
 refine dr [] hs (k:=?_);intro hX w hs
 refine tks 0 6 ?_
 refine dt 6 hX (k:=?_)
 have AT:=hs.AB [] (by simp [Tt.q,K1]) (by simp [D0])
 have KD:=Tt.only AT
 have FY:=hs.get At.head
 have EH:=B8.step AT (by simp)
 refine cl (h:=by exact IB.Fi tb s.t Ft a _ KD.T hlen) (k:=?_)
 rintro v w4 ⟨rfl,F',Va,CV,Ao⟩
 have hz:=EH.size
 have cB:=KD.M.keep Ao KD.mT
 have gW:=Ao.block KD.q KD.qT
 have jZ:=Ao.block FY (KD.T.not FY (by decide) (by decide))
 have mZ:∀ k∈F',k∈Ft∨w0.heap.size≤k:=fun k hk=>by rcases CV k hk with h | h;exact .inl h;exact .inr om
 have CE:AA (qb :: mb :: Ft) w0 w4:=(EH.weaken (by simp)).step Ao (fun k hk => .inl (by simp [hk]))
 clear hs
 have hs:=((St.nil w4).AG gW (by simp)).AG jZ (by simpa using n1)
 refine Jb ?_
 refine dn (k:=?_)
 refine en (k:=?_)
 refine Jb ?_
 refine dr [] hs (k:=?_);intro hX w hs
 refine tks 0 7 ?_
 refine dt 7 hX (k:=?_)
 have BK:=hs.AB [] (by simp [gW,jZ]) (by simp [D0])
 have RN:=cB.keep BK (by simp)
 have Ws:=Va.only BK
 have xM:=hs.get (At.tail At.head)
 refine OF (e:=64) (v:=iv a.1) RN a.2.2.1 (by show s.n < maxLen;unfold maxLen;omega) (by kernel_rfl) (k:=?_)
 intro w6 Pd Ak
 have tU:=RN.ne (hs.get At.head)
 have iY:=RN.ne xM
 have wF:=Wt Ws RN
 replace hs:=hs.call Ak (fun k hk hm=>by
  obtain rfl:=List.mem_singleton.1 hk
  simp only [List.map_cons,List.map_nil,List.mem_cons,List.not_mem_nil,or_false] at hm
  rcases hm with rfl | rfl
  ·exact tU rfl
  ·exact iY rfl) (by simp [D0])
 have VM:=hs.get (At.tail At.head)
 have uH:=Ws.Ae Ak (fun k hk hm=>by obtain rfl:=List.mem_singleton.1 hm;exact wF hk)
 have Ed:AA (qb :: mb :: Ft) w0 w6:=(CE.step BK (by simp)).step Ak (fun k hk => .inl (by obtain rfl:=List.mem_singleton.1 hk;simp))
 have mB:Bw w6 mb (vals (KU s.f a.1.id (some a))) (if (s.f a.1.id).isSome then s.n else s.n+1):=by
  rw [← WL,← FR]
  exact Pd
 have yE:Cw w6 qb (HV s a) (qb :: mb :: F'):=⟨tb,mb,F',rfl,VM,mB,uH,TQ (fun m e=>Sh hin e),h5⟩
 have jC:=Ed.size
 have gN:=hs.get At.head
 clear hs
 have hs:=((St.nil w6).AG VM (by simp)).AG gN (by simpa using n1)
 refine XS.nil ?_
 refine dn (k:=?_)
 refine en (k:=?_)
 refine Ja ?_
 have C1:=hs.AB [] (by simp [VM,gN]) (by simp [D0])
 refine cl (h:=by exact P3 qb (HV s a) _ _ (yE.only C1)) (k:=?_)
 rintro v w8 ⟨uI,E3⟩
 have hs:=St.nil w8
 refine Jb ?_
 refine JG ?_
 refine ⟨_,uI,fun k hk=>?_,((Ed.step C1 (by simp)).step E3 (fun k hk => .inl (by obtain rfl:=List.mem_singleton.1 hk;simp)))⟩
 simp only [List.mem_cons] at hk
 rcases hk with rfl | rfl | hk
 ·exact .inl (by simp)
 ·exact .inl (by simp)
 ·rcases mZ k hk with h | h
  ·exact .inl (by simp [h])
  ·exact .inr h
def VJ (a:IT) (t:RB IT):RB IT:=bif RB.has IB.Cq a t then RB.blacken ((IB.Qa a t).getD .nil) else t
def Fx (a:IT) (t:RB IT):Prop:=RB.has IB.Cq a t=true→IB.Qa a t=some ((IB.Qa a t).getD .nil)∧((IB.Qa a t).getD .nil).list.length+1=t.list.length
def E7 (s:Qs) (a:IT):Qs:=⟨(Fg s.m a.1.p).getD .zero,VJ a s.t,KU s.f a.1.id none,if (s.f a.1.id).isSome then s.n - 1 else s.n,FT s⟩
def Ey (s:Qs) (a:IT):Qs:=Kk (E7 s a)
theorem V5 (qb:Nat) (s:Qs) (F:List Nat) (a:IT) (w0:World) (h:Cw w0 qb s F) (hlen:s.t.list.length≤1000000) (hd:Fx a s.t) :
 AM Tryz.prog 199 #[.pointer (some ⟨qb,0,none⟩),iv a.1] w0 fun v w'=>∃ F',Cw w' qb (Ey s a) F'∧(∀ k∈F',k∈F∨w0.heap.size≤k)∧AA F w0 w':=by
 have hq:=h
 obtain ⟨tb,mb,Ft,rfl,h1,h2,h3,h4,h5⟩:=h
 have hs:=(St.nil w0).AG h1 (by simp)
 have Wd:=lt_of_block h1
 have ltF:=hq.lt
 have pL:QP w0 qb tb mb Ft s:=⟨h1,h2,h3⟩
 refine AQ Tryz.func199 Tryz.ntmps199 (k:=?_);refine Ag ?_;refine Al ?_;refine bx hs (k:=?_);intro bq wq Lm hs;refine Ja ?_
 have JB:=hs.new (bq,true) (by simp) rfl
 simp only at JB
 have ho:=hs.AB [] (by simp [h1]) (by simp [D0])
 refine AY hs (h:=by exact Mx qb s _ _ (hq.only ho)) (k:=?_);intro w' ho hs;repeat' (first|refine Sb ?_|(refine st hs (k:=?_);intro w hs)|fail)
 refine dr [13] hs (k:=?_);intro hX w hs
 refine tks 0 7 ?_
 refine dt 7 hX (k:=?_)
 refine AY hs (h:=by exact fI s.m a.1.p h4 a.2.1 _) (k:=?_);intro w' ho hs;refine Jb ?_
 refine dn (k:=?_)
 refine tks 8 5 ?_
 refine dt 13 hX (k:=?_)
 repeat' (first|refine Nx.h ?_|(refine AU hs (k:=?_);intro w hs)|fail)
 refine dn (k:=?_)
 refine en (k:=?_)
 refine Jb ?_
 have AN:=hs.AB [qb] (by simp) (by simp [D0])
 have Tt:=pL.own AN (hs.get (At.tail At.head))
 have K1:=hs.get At.head
 have n1:bq≠qb:=AW K1 Tt.q (by decide)
 clear hs
 have hs:=((St.nil _).AG Tt.q (by simp)).AG K1 (by simpa using n1)
 refine dr [] hs (k:=?_);intro hX w hs
 refine tks 0 6 ?_
 refine dt 6 hX (k:=?_)
 have AT:=hs.AB [] (by simp [Tt.q,K1]) (by simp [D0])
 have KD:=Tt.only AT
 have FY:=hs.get At.head
 have EH:=AN.step AT (by simp)
 refine cl (h:=by exact IB.WH tb s.t Ft a _ _ KD.T hd hlen) (k:=?_)
 rintro v w4 ⟨rfl,F',Va,CV,Ao⟩
 have hz:=EH.size
 have cB:=KD.M.keep Ao KD.mT
 have gW:=Ao.block KD.q KD.qT
 have jZ:=Ao.block FY (KD.T.not FY (by decide) (by decide))
 have mZ:∀ k∈F',k∈Ft∨w0.heap.size≤k:=fun k hk=>by rcases CV k hk with h | h;exact .inl h;exact .inr om
 have CE:AA (qb :: mb :: Ft) w0 w4:=(EH.weaken (by simp)).step Ao (fun k hk => .inl (by simp [hk]))
 clear hs
 have hs:=((St.nil w4).AG gW (by simp)).AG jZ (by simpa using n1)
 refine Jb ?_
 refine dn (k:=?_)
 refine en (k:=?_)
 refine Jb ?_
 refine dr [] hs (k:=?_);intro hX w hs
 refine tks 0 6 ?_
 refine dt 6 hX (k:=?_)
 have BK:=hs.AB [] (by simp [gW,jZ]) (by simp [D0])
 have RN:=cB.keep BK (by simp)
 have Ws:=Va.only BK
 have xM:=hs.get (At.tail At.head)
 refine UU (e:=64) RN a.2.2.1 (by kernel_rfl) (k:=?_)
 intro w6 Pd Ak
 have tU:=RN.ne (hs.get At.head)
 have iY:=RN.ne xM
 have wF:=Wt Ws RN
 replace hs:=hs.call Ak (fun k hk hm=>by
  obtain rfl:=List.mem_singleton.1 hk
  simp only [List.map_cons,List.map_nil,List.mem_cons,List.not_mem_nil,or_false] at hm
  rcases hm with rfl | rfl
  ·exact tU rfl
  ·exact iY rfl) (by simp [D0])
 have VM:=hs.get (At.tail At.head)
 have uH:=Ws.Ae Ak (fun k hk hm=>by obtain rfl:=List.mem_singleton.1 hm;exact wF hk)
 have Ed:AA (qb :: mb :: Ft) w0 w6:=(CE.step BK (by simp)).step Ak (fun k hk => .inl (by obtain rfl:=List.mem_singleton.1 hk;simp))
 have mB:Bw w6 mb (vals (KU s.f a.1.id none)) (if (s.f a.1.id).isSome then s.n - 1 else s.n):=by
  rw [← WL,← FR]
  exact Pd
 have yE:Cw w6 qb (E7 s a) (qb :: mb :: F'):=⟨tb,mb,F',rfl,VM,mB,uH,TQ (fun m e=>sU h4 e),TT h5⟩
 have jC:=Ed.size
 have gN:=hs.get At.head
 clear hs
 have hs:=((St.nil w6).AG VM (by simp)).AG gN (by simpa using n1)
 refine XS.nil ?_
 refine dn (k:=?_)
 refine en (k:=?_)
 refine Ja ?_
 have C1:=hs.AB [] (by simp [VM,gN]) (by simp [D0])
 refine cl (h:=by exact P3 qb (E7 s a) _ _ (yE.only C1)) (k:=?_)
 rintro v w8 ⟨uI,E3⟩
 have hs:=St.nil w8
 refine Jb ?_
 refine JG ?_
 refine ⟨_,uI,fun k hk=>?_,((Ed.step C1 (by simp)).step E3 (fun k hk => .inl (by obtain rfl:=List.mem_singleton.1 hk;simp)))⟩
 simp only [List.mem_cons] at hk
 rcases hk with rfl | rfl | hk
 ·exact .inl (by simp)
 ·exact .inl (by simp)
 ·rcases mZ k hk with h | h
  ·exact .inl (by simp [h])
  ·exact .inr h
theorem Mp (f:Int→Option IT) (i:Int):(vals f i).getD (iv .zero)=iv (match f i with | some a=>a.1 | none => .zero):=by unfold vals;cases f i <;> rfl
def Jz (s:Qs) (id:Int):Qs:=match s.f id with | some a=>Ey s a | none=>s
theorem RP (qb:Nat) (s:Qs) (F:List Nat) (id:Int) (w0:World) (h:Cw w0 qb s F) (hid:In64 id) (hlen:s.t.list.length≤1000000) (hd:∀ a,s.f id=some a→Fx a s.t) :
 AM Tryz.prog 181 #[.pointer (some ⟨qb,0,none⟩),.int .i64 id] w0 fun v w'=>v = .tuple #[iv (match s.f id with | some a=>a.1 | none => .zero),.int .i64 (if (s.f id).isSome then 0 else 14)]∧∃ F',Cw w' qb (Jz s id) F'∧(∀ k∈F',k∈F∨w0.heap.size≤k)∧AA F w0 w':=by
 have hq:=h
 obtain ⟨tb,mb,Ft,rfl,h1,h2,h3,h4,h5⟩:=h
 have hs:=(St.nil w0).AG h1 (by simp)
 refine AQ Tryz.func181 Tryz.ntmps181 (k:=?_)
 refine Ag ?_
 refine Al ?_
 refine al hs (k:=?_);intro b4 w hz hs
 have g4:=hs.new (b4,true) (by simp) rfl
 simp only at g4
 refine Jd ?_
 have ho:=hs.AB [] (by simp [h1]) (by simp [D0])
 refine JQ (e:=64) (z:=iv .zero) (h2.keep ho (by simp)) hid (by kernel_rfl) (by kernel_rfl) (k:=?_)
 rw [Mp,FR]
 unfold Jz
 cases hf:s.f id with
 | none =>
   repeat' (first|refine Sc ?_|(refine AU hs (k:=?_);intro w hs)|(refine al hs (k:=?_);intro b w hz hs)|fail)
   refine AF ?_
   have ho:=hs.AB [] (by simp [h1]) (by simp [D0])
   exact ⟨rfl,_,hq.only ho,fun k hk => .inl hk,ho.weaken (by simp)⟩
 | some a =>
   refine vs (k:=?_)
   refine vs (k:=?_)
   refine vs (k:=?_)
   refine al hs (k:=?_);intro b6 w6 jC hs
   have g6:=hs.new (b6,true) (by simp) rfl
   simp only at g6
   have N5:b6≠b4:=by have:=hs.nd;simp only [List.map_cons,List.nodup_cons,List.mem_cons,not_or] at this;exact this.1.1
   repeat' (first|refine Sd ?_|(refine AU hs (k:=?_);intro w hs)|fail)
   have ho:=hs.AB [] (by simp [h1]) (by simp [D0])
   have JL:=hq.only ho
   refine cl (h:=by exact V5 qb s _ a _ JL hlen (hd a hf)) (k:=?_)
   rintro v w7 ⟨F',hA,CV,C1⟩
   have k4:=C1.block (hs.get (At.tail At.head)) (JL.not (hs.get (At.tail At.head)) (by decide) (by decide) (by decide))
   have k6:=C1.block (hs.get At.head) (JL.not (hs.get At.head) (by decide) (by decide) (by decide))
   have Yn:=ho.size
   clear hs
   have hs:=((St.nil w7).AG k4 (by simp)).AG k6 (by simpa using N5)
   repeat' (first|refine Sa ?_|(refine AU hs (k:=?_);intro w hs)|fail)
   refine AF ?_
   have E3:=hs.AB [b4] (by simp [k6]) (by simp [D0])
   refine ⟨rfl,F',hA.Ae E3 (fun k hk hm=>by obtain rfl:=List.mem_singleton.1 hm;exact hA.not k4 (by decide) (by decide) (by decide) hk),fun k hk=>?_,((ho.weaken (by simp)).step C1 (fun k hk => .inl hk)).step E3 (fun k hk => .inr (by obtain rfl:=List.mem_singleton.1 hk;exact g4))⟩
   rcases CV k hk with h | h
   ·exact .inl h
   ·exact .inr om
end Go.Proofs.Q0
namespace Go.Proofs.Q0
open IB (IT)
namespace RB
variable {α : Type} {lt : α → α → Bool} {S : α → Prop} {x : α}
theorem OL (x:α):∀ l:List α,(IM lt x l).Perm (x :: l)
 | [] => .refl _
 | y :: l=>by
   unfold IM
   cases lt x y
   ·exact ((OL x l).cons y).trans (.swap _ _ _)
   ·exact .refl _
theorem WU (ho:Cp lt S) (hx:S x):∀ {l:List α},(∀ z∈l,S z)→K0 lt l→x∉l→K0 lt (IM lt x l)
 | [],_,_,_=>List.pairwise_singleton _ _
 | y :: l,hS,h,hn=>by
   obtain ⟨h1,h2⟩:=List.pairwise_cons.1 h
   have hy:=hS y List.mem_cons_self
   unfold IM
   cases e:lt x y
   ·have LM:lt y x=true:=by
     cases e':lt y x
     ·exact absurd (ho.tri x y hx hy e e') (fun h=>hn (by rw [h];exact List.mem_cons_self))
     ·rfl
    refine List.pairwise_cons.2 ⟨fun z hz=>?_,WU ho hx (fun z hz=>hS z (List.mem_cons_of_mem _ hz)) h2 (fun hm=>hn (List.mem_cons_of_mem _ hm))⟩
    rcases List.mem_cons.1 ((OL x l).mem_iff.1 hz) with rfl | hz
    ·exact LM
    ·exact h1 z hz
   ·refine List.pairwise_cons.2 ⟨fun z hz=>?_,h⟩
    rcases List.mem_cons.1 hz with rfl | hz
    ·exact e
    ·exact ho.tr x y z hx hy (hS z (List.mem_cons_of_mem _ hz)) e (h1 z hz)
theorem j0 (ho:Cp lt S) {l:List α} (hS:∀ z∈l,S z) (h:K0 lt l):l.Nodup:=by
 refine List.Pairwise.imp_of_mem (fun {a b} ha hb hab e=>?_) h
 subst e
 rw [ho.irr a (hS a ha)] at hab;cases hab
theorem cT [DecidableEq α] {l:List α} (h:l.Nodup) (hx:x∈l):l.Perm (x :: sans x l):=by
 induction l with
 | nil=>cases hx
 | cons y l ih =>
   obtain ⟨h1,h2⟩:=List.nodup_cons.1 h
   by_cases e:y=x
   ·subst e
    rw [Tf,KF (fun z hz he=>h1 (by rw [← he];exact hz))]
   ·rw [U0 e]
    exact ((ih h2 ((List.mem_cons.1 hx).resolve_left (fun h=>e h.symm))).cons y).trans (.swap _ _ _)
end RB
theorem vW {L:List IT} {b lo:Int} (h:∀ x∈L,K3 b lo x.1) (hm:I2 lo) (hi:∀ x∈L,∀ y∈L,x.1.id=y.1.id→x=y):Cp IB.Cq (·∈L):=by
 have o:=ahead_ord (b:=b) (lo:=lo) (S:=fun z=>∃ y∈L,y.1=z) hm (by rintro _ ⟨y,hy,rfl⟩;exact h y hy) (by rintro _ _ ⟨y,hy,rfl⟩ ⟨z,hz,rfl⟩ e;rw [hi y hy z hz e])
 exact ⟨fun a ha=>o.irr a.1 ⟨a,ha,rfl⟩,fun a b c ha hb hc=>o.tr a.1 b.1 c.1 ⟨a,ha,rfl⟩ ⟨b,hb,rfl⟩ ⟨c,hc,rfl⟩,fun a b ha hb k1 k2=>Subtype.ext (o.tri a.1 b.1 ⟨a,ha,rfl⟩ ⟨b,hb,rfl⟩ k1 k2)⟩
theorem aAa {L:List IT} {b lo:Int} (h:∀ x∈L,K3 b lo x.1) (hm:I2 lo) (hi:∀ x∈L,∀ y∈L,x.1.id=y.1.id→x=y):Cp (fun x y:IT=>due x.1 y.1) (·∈L):=by
 have o:=rI (b:=b) (lo:=lo) (S:=fun z=>∃ y∈L,y.1=z) hm (by rintro _ ⟨y,hy,rfl⟩;exact h y hy) (by rintro _ _ ⟨y,hy,rfl⟩ ⟨z,hz,rfl⟩ e;rw [hi y hy z hz e])
 exact ⟨fun a ha=>o.irr a.1 ⟨a,ha,rfl⟩,fun a b c ha hb hc=>o.tr a.1 b.1 c.1 ⟨a,ha,rfl⟩ ⟨b,hb,rfl⟩ ⟨c,hc,rfl⟩,fun a b ha hb k1 k2=>Subtype.ext (o.tri a.1 b.1 ⟨a,ha,rfl⟩ ⟨b,hb,rfl⟩ k1 k2)⟩
theorem sP {a:IT} {t:RB IT} {S:IT→Prop} (ho:Cp IB.Cq S) (hg:RB.Good t) (hs:RB.K0 IB.Cq t.list) (hS:∀ z∈t.list,S z) (ha:a∈t.list):∃ t',IB.Qa a t=some t'∧(∃ h,RB.Ok t' h)∧t'.list=RB.sans a t.list:=by
 cases t with
 | nil=>cases ha
 | node l y r c =>
   obtain ⟨hc,h,hk⟩:=hg
   obtain rfl:c=false:=hc
   obtain ⟨h',rfl,hl,hr,Ux⟩:=hk.L1
   have hq:∃ h',RB.Ok (.node l y r (IB.Lg l r false)) h'∧(IB.Lg l r false=true∨l.red=true):=by
    unfold IB.Lg
    rw [Ux]
    cases e:l.red
    ·exact ⟨_,.red hl hr e Ux,.inl rfl⟩
    ·exact ⟨_,.black hl hr Ux,.inr rfl⟩
   obtain ⟨h2,hok,hc⟩:=hq
   obtain ⟨t1,e1,e2⟩:=RB.WN ho (RB.node l y r false).list.length (.node l y r (IB.Lg l r false)) h2 hok rfl hc (Nat.le_refl _) ⟨hs,hS,ha⟩
   exact ⟨t1,e1,⟨_,e2.ok⟩,e2.list⟩
end Go.Proofs.Q0
namespace Go.Proofs.Q0
open Go Go.RowKit
open IB (IT DB Bh)
attribute [local irreducible] XS XC XA AX AO A7 A0 AZ A8 Aa AV SE
def He (c:Int):Qs:=⟨.zero,.nil,fun _=>none,0,c⟩
theorem WQ (c:Int) (hc:BV c) (w0:World):AM Tryz.prog 98 #[.int .u64 c] w0 fun v w'=>(∃ qb F,v = .pointer (some ⟨qb,0,none⟩)∧Cw w' qb (He c) F∧∀ k∈F,w0.heap.size≤k)∧AA [] w0 w':=by
 have hs:=St.nil w0
 refine AQ Tryz.func98 Tryz.ntmps98 (k:=?_)
 refine Ja ?_
 refine cl (h:=by exact IB.P5 [] (.slice none 0 0) (by simp) _ (Cn.nil _ _ _)) (k:=?_)
 rintro v w1 ⟨⟨tb,Ft,rfl,hT,hFt⟩,ho⟩;replace hs:=hs.AK ho
 have AJ:=hs.AD rfl
 have JK:=AJ.size
 refine Tb (k:=?_)
 intro mb w2 AN hM hmb
 clear hs
 have hs:=St.nil w2
 refine vs (k:=?_)
 refine vs (k:=?_)
 refine bx hs (k:=?_);intro qb w3 hz hs
 have Y8:=hs.new (qb,true) (by simp) rfl
 simp only at Y8
 have MK:=AN.size
 have N9:=hM.keep (hs.AD rfl) (by simp)
 have Fj:=(hT.only AN).only (hs.AD rfl)
 have cB:Bw w3 mb (vals (fun _=>none)) 0:=N9
 have cF:=hs.get At.head
 have AT:=(AJ.trans AN).trans (hs.AD rfl)
 have hA:Cw w3 qb (He c) (qb :: mb :: Ft):=⟨tb,mb,Ft,rfl,cF,cB,Fj,(by decide:Mn.zero.In),hc⟩
 have hnew:∀ k∈qb :: mb :: Ft,w0.heap.size≤k:=fun k hk=>by
  simp only [List.mem_cons] at hk
  rcases hk with rfl | rfl | hk
  ·omega
  ·omega
  ·have:=hFt k hk;omega
 refine Jc ?_
 refine AF ?_
 exact ⟨⟨qb,_,rfl,hA,hnew⟩,AT⟩
def L7 (s:Qs) (id:Int):Int:=match s.f id with | some a=>CX ((F4 s.m a.1.p).getD 0) 0 | none=>0
def Vd (s:Qs) (id:Int):Int:=match s.f id with | some a=>(W9 s.m a.1.p).getD 0 | none=>0
def Na (b:Bool):Int:=bif b then 0 else 14
theorem L9 (qb:Nat) (s:Qs) (F:List Nat) (id:Int) (w0:World) (h:Cw w0 qb s F) (hid:In64 id):AM Tryz.prog 104 #[.pointer (some ⟨qb,0,none⟩),.int .i64 id] w0 fun v w'=>v = .tuple #[.int .i64 (L7 s id),.int .i64 (Na (s.f id).isSome)]∧AA [] w0 w':=by
 obtain ⟨tb,mb,Ft,rfl,h1,h2,h3,h4,h5⟩:=h
 have hs:=(St.nil w0).AG h1 (by simp)
 refine AQ Tryz.func104 Tryz.ntmps104 (k:=?_)
 refine Jd ?_
 have ho:=hs.AB [] (by simp [h1]) (by simp [D0])
 refine JQ (e:=64) (z:=iv .zero) (h2.keep ho (by simp)) hid (by kernel_rfl) (by kernel_rfl) (k:=?_)
 rw [Mp,FR]
 unfold L7
 cases hf:s.f id with
 | none =>
   repeat' (first|refine Sc ?_|(refine AU hs (k:=?_);intro w hs)|(refine al hs (k:=?_);intro b w hz hs)|fail)
   refine AF ?_
   exact ⟨rfl,hs.AB [] (by simp [h1]) (by simp [D0])⟩
 | some a =>
   repeat' (first|refine Sd ?_|(refine AU hs (k:=?_);intro w hs)|(refine al hs (k:=?_);intro b w hz hs)|fail)
   refine dr [] hs (k:=?_);intro hX w hs
   refine tks 0 6 ?_
   refine dt 6 hX (k:=?_)
   refine AY hs (h:=by exact U6 s.m a.1.p h4 a.2.1 _) (k:=?_);intro w' ho hs;refine Jb ?_
   refine dn (k:=?_)
   refine tks 7 5 ?_
   refine en (k:=?_)
   refine Ja ?_
   refine AF ?_
   exact ⟨rfl,hs.AB [] (by simp [h1]) (by simp [D0])⟩
theorem WK (qb:Nat) (s:Qs) (F:List Nat) (id:Int) (w0:World) (h:Cw w0 qb s F) (hid:In64 id):AM Tryz.prog 48 #[.pointer (some ⟨qb,0,none⟩),.int .i64 id] w0 fun v w'=>v = .tuple #[wv (Vd s id),.int .i64 (Na (s.f id).isSome)]∧AA [] w0 w':=by
 obtain ⟨tb,mb,Ft,rfl,h1,h2,h3,h4,h5⟩:=h
 have hs:=(St.nil w0).AG h1 (by simp)
 refine AQ Tryz.func48 Tryz.ntmps48 (k:=?_)
 repeat' (first|refine Sd ?_|(refine al hs (k:=?_);intro b w hz hs)|fail)
 have ho:=hs.AB [] (by simp [h1]) (by simp [D0])
 refine JQ (e:=64) (z:=iv .zero) (h2.keep ho (by simp)) hid (by kernel_rfl) (by kernel_rfl) (k:=?_)
 rw [Mp,FR]
 unfold Vd
 cases hf:s.f id with
 | none =>
   repeat' (first|refine Sc ?_|(refine AU hs (k:=?_);intro w hs)|(refine al hs (k:=?_);intro b w hz hs)|fail)
   refine AF ?_
   exact ⟨rfl,hs.AB [] (by simp [h1]) (by simp [D0])⟩
 | some a =>
   repeat' (first|refine Sd ?_|(refine AU hs (k:=?_);intro w hs)|(refine al hs (k:=?_);intro b w hz hs)|fail)
   refine dr [] hs (k:=?_);intro hX w hs
   refine tks 0 6 ?_
   refine GS 10 8 hs (k:=?_);intro f X w hp;have hs:=hp.st
   apply BH 6 10 (f:=f) (X:=X) hX hp;exact rfl;exact rfl;(apply AR AI;exact rfl);kernel_rfl;kernel_rfl;kernel_rfl;kernel_rfl;(intro X Y;(repeat (first | exact A4 | refine A3 ?_ (by exact rfl))));(intro w' hs;first|exact AH hs.hold|exact AH hs.hold.tail|exact A6 rfl);intro f X w hp;have hs:=hp.st
   refine cl (h:=by exact Q2 s.m a.1.p h4 a.2.1 _) (k:=?_)
   rintro v w' ⟨rfl,ho⟩;replace hp:=hp.only ho;replace hs:=hp.st;refine Jb ?_
   refine dn (k:=?_)
   refine tk 7 hX (hc:=by cases f <;> kernel_rfl) (k:=?_)
   refine tk 8 hX (hc:=by cases f <;> kernel_rfl) (k:=?_)
   refine tk 9 hX (hc:=by cases f <;> kernel_rfl) (k:=?_)
   apply B9 10 (f:=f) (X:=X) hX hp;exact rfl;(apply AR AI;exact rfl);kernel_rfl;kernel_rfl;(intro X Y;(repeat (first | exact A4 | refine A3 ?_ (by exact rfl))));(intro w' hs;first|exact AH hs.hold|exact AH hs.hold.tail|exact A6 rfl);intro b w hI hs
   refine dt 11 hX (k:=?_)
   repeat' (first|refine Nx.h ?_|(refine AU hs (k:=?_);intro w hs)|fail)
   refine dn (k:=?_)
   refine tk 12 hX (k:=?_)
   refine en (k:=?_)
   repeat' (first|refine Sa ?_|(refine AU hs (k:=?_);intro w hs)|fail)
   refine AF ?_
   exact ⟨rfl,hs.AB [] (by simp [h1]) (by simp [D0])⟩
abbrev zJ (qb:Nat):Obj := .cells #[.pointer (some ⟨qb,0,none⟩)] 76 (0,0)
theorem iJ (qb tb mb bb:Nat) (m:Mn) (c:Int) (a:IT) (w0:World) (hm:m.In) (h1:w0.heap[qb]?=some (Ko m tb mb c)) (h2:w0.heap[bb]?=some (zJ qb)):AM Tryz.prog 229 #[iv a.1,.pointer (some ⟨bb,0,none⟩)] w0 fun v w'=>v = .bool (elig m a.1.p)∧AA [] w0 w':=by
 have n1:=AW h2 h1 (by decide)
 have hs:=((St.nil w0).AG h1 (by simp)).AG h2 (by simpa using n1)
 refine AQ Tryz.func229 Tryz.ntmps229 (k:=?_);refine Ag ?_;refine Al ?_;refine bx hs (k:=?_);intro bq wq Lm hs;refine Jc ?_
 refine dr [] hs (k:=?_);intro hX w hs
 refine tks 0 6 ?_
 refine dt 6 hX (k:=?_)
 refine AY hs (h:=by exact Qq m a.1.p hm a.2.1 _) (k:=?_);intro w' ho hs;refine Jb ?_
 refine dn (k:=?_)
 refine tk 7 hX (k:=?_)
 refine en (k:=?_)
 refine Jb ?_
 refine AF ?_
 exact ⟨rfl,hs.AB [] (by simp [h1,h2]) (by simp [D0])⟩
def Ll (s:Qs):Option IT:=IB.DK (fun a=>elig s.m a.1.p) s.t none
theorem OZ (qb:Nat) (s:Qs) (F:List Nat) (w0:World) (h:Cw w0 qb s F):AM Tryz.prog 210 #[.pointer (some ⟨qb,0,none⟩)] w0 fun v w'=>v = .tuple #[iv (IB.JA (Ll s)),.bool (Ll s).isSome]∧AA [] w0 w':=by
 obtain ⟨tb,mb,Ft,rfl,h1,h2,h3,h4,h5⟩:=h
 have hs:=(St.nil w0).AG h1 (by simp)
 refine AQ Tryz.func210 Tryz.ntmps210 (k:=?_)
 refine Ag ?_
 refine Al ?_
 refine bx hs (k:=?_);intro bb w hz hs
 refine al hs (k:=?_);intro b2 w hz hs
 refine Jd ?_
 have ho:=hs.AB [] (by simp [h1]) (by simp [D0])
 have hq:=hs.get (At.tail (At.tail At.head))
 have hb:=hs.get (At.tail At.head)
 refine AY hs (h:=by exact IB.Nu tb s.t Ft _ (h3.only ho) 229 [.pointer (some ⟨bb,0,none⟩)] (fun a=>elig s.m a.1.p) (fun y w _ hw=>iJ qb tb mb bb s.m s.c y w h4 (hw.block hq (by simp)) (hw.block hb (by simp)))) (k:=?_);intro w' ho hs;repeat' (first|refine Sb ?_|(refine AU hs (k:=?_);intro w hs)|fail)
 refine AF ?_
 exact ⟨rfl,hs.AB [] (by simp [h1]) (by simp [D0])⟩
end Go.Proofs.Q0
namespace Go.Proofs.Q0
open Go Go.RowKit
attribute [local irreducible] XS XC XA AX AO A7 A0 AZ A8 Aa AV SE
def within (base:Int) (l:List It):Bool:=decide (spr base l≤4611686018427387904)
theorem K6 (base:Int) (l:List It) (sl:Value) (hm:l.length≤1000000) (w0:World) (hP:Iw w0 sl l) :
 AM Tryz.prog 198 #[.int .u64 base,sl] w0 fun v w'=>v = .bool (within base l)∧AA [] w0 w':=by
 obtain ⟨ad,cap,rfl,hD⟩:=id hP
 have hs:=St.nil w0
 refine AQ Tryz.func198 Tryz.ntmps198 (k:=?_)
 refine Ja ?_
 refine AY hs (h:=by exact Rv base l _ hm _ (hP.only (hs.AD rfl))) (k:=?_);intro w' ho hs;refine Jc ?_
 refine AF ?_
 exact ⟨rfl,hs.AD rfl⟩
theorem jQ (w0:World):AM Tryz.prog 262 #[.int .u64 0,.slice none 0 0] w0 fun v w'=>v = .int .u64 4611686018427387904∧AA [] w0 w':=by
 have hs:=St.nil w0
 refine AQ Tryz.func262 Tryz.ntmps262 (k:=?_)
 refine Ja ?_
 refine cl (h:=by exact K6 0 [] _ (by simp) _ (Cn.nil _ _ _)) (k:=?_)
 rw [show within 0 []=true from by decide]
 rintro v w' ⟨rfl,ho⟩;replace hs:=hs.AK ho;refine Jd ?_
 refine cl (h:=by exact Rv 0 [] _ (by simp) _ (Cn.nil _ _ _)) (k:=?_)
 rw [show spr 0 []=0 from by decide]
 rintro v w' ⟨rfl,ho⟩;replace hs:=hs.AK ho;refine Jc ?_
 refine AF ?_
 exact ⟨rfl,hs.AD rfl⟩
end Go.Proofs.Q0
namespace Go.Proofs.Q0
open Go Go.RowKit
open IB (IT DB Bh)
attribute [local irreducible] XS XC XA AX AO A7 A0 AZ A8 Aa AV SE
def Jp (s:Qs) (a:IT):Int:=bif decide (s.t.list.length=0) then a.1.p.t else FT s
def plain (l:List IT):List It:=l.map (·.1)
def Dq (s:Qs) (a:IT):Int :=
 bif !a.1.right then 2 else bif (s.f a.1.id).isSome then 13 else bif decide (s.t.list.length=32) then 7 else bif !within (Jp s a) (plain (s.t.list ++ [a])) then 8 else 0
def DG (s:Qs) (a:IT):Qs:=bif decide (Dq s a=0) then Kv s a else s
theorem Nz (qb:Nat) (s:Qs) (F:List Nat) (a:IT) (w0:World) (h:Cw w0 qb s F) (hlen:s.t.list.length+1≤1000000) (hn:s.n < 1000000) :
 AM Tryz.prog 171 #[.pointer (some ⟨qb,0,none⟩),iv a.1] w0 fun v w'=>v = .int .i64 (Dq s a)∧∃ F',Cw w' qb (DG s a) F'∧(∀ k∈F',k∈F∨w0.heap.size≤k)∧AA F w0 w':=by
 have hq:=h
 obtain ⟨tb,mb,Ft,rfl,h1,h2,h3,h4,h5⟩:=h
 have hs:=(St.nil w0).AG h1 (by simp)
 have same:∀ w',AA [] w0 w'→∃ F',Cw w' qb s F'∧(∀ k∈F',k∈qb :: mb :: Ft∨w0.heap.size≤k)∧AA (qb :: mb :: Ft) w0 w':=fun w' ho=>⟨_,hq.only ho,fun k hk => .inl hk,ho.weaken (by simp)⟩
 refine AQ Tryz.func171 Tryz.ntmps171 (k:=?_);refine Ag ?_;refine Al ?_;refine bx hs (k:=?_);intro bq wq Lm hs;refine Jd ?_
 have JB:=hs.new (bq,true) (by simp) rfl
 simp only at JB
 have ho:=hs.AB [] (by simp [h1]) (by simp [D0])
 refine AY hs (h:=by exact Mx qb s _ _ (hq.only ho)) (k:=?_);intro w' ho hs
 refine vs (k:=?_)
 refine XS.nil ?_
 refine Dw ?_
 refine Ag ?_
 refine B7 (fun _:Unit=>[(0,.pointer (some ⟨qb,0,none⟩)),(3,.pointer (some ⟨bq,0,none⟩)),(4,.int .i64 0),(5,.int .u64 (Jp s a))]) (fun _ w=>St w0 D0 [(bq,oT a.1,true),(qb,Ko s.m tb mb s.c,false)] w) ?_ ?_
 ·refine Ja ?_
  have ho:=hs.AB [] (by simp [h1]) (by simp [D0])
  refine AY hs (h:=by exact LD qb s _ _ (hq.only ho)) (k:=?_);intro w' ho hs;repeat' (first|refine Sa ?_|refine Au rfl (fun hc=>?_) fun hc=>?_|fail)
  ·have e:Jp s a=a.1.p.t:=by unfold Jp;rw [decide_eq_true (show s.t.list.length=0 by omega)];rfl
   rw [e]
   exact AP () Ab hs
  ·have e:Jp s a=FT s:=by unfold Jp;rw [decide_eq_false (show ¬ s.t.list.length=0 by omega)];rfl
   rw [e]
   exact AP () Ab hs
 clear hs ho
 rintro _ env w hs
 refine Jb ?_
 refine dr [] hs (k:=?_);intro hX w hs
 refine tks 0 6 ?_
 refine GS 10 6 hs (k:=?_);intro f X w hp;have hs:=hp.st
 apply BH 6 10 (f:=f) (X:=X) hX hp;exact rfl;exact rfl;(first | (apply AR AI;exact rfl) | (apply EG AI;exact rfl;exact rfl;exact rfl;exact rfl;exact rfl;(intro X;((repeat (first | exact CU.nil | (apply CU.one;exact rfl;(conv=>lhs;whnf);exact rfl;(repeat (first | exact Ai.nil | apply Ai.skip | apply Ai.cons))) | (apply CU.agg;exact rfl;exact rfl;exact rfl;(repeat (first | exact Ai.nil | apply Ai.skip | apply Ai.cons)))))))));kernel_rfl;kernel_rfl;kernel_rfl;kernel_rfl;(intro X Y;(repeat (first | exact A4 | refine A3 ?_ (by exact rfl))));(intro w' hs;first|exact AH hs.hold|exact AH hs.hold.tail|exact A6 rfl);intro f X w hp;have hs:=hp.st
 have ho:=hs.AB [] (by simp [h1]) (by simp [D0])
 refine JQ (e:=64) (z:=iv .zero) (h2.keep ho (by simp)) a.2.2.1 (by kernel_rfl) (by kernel_rfl) (k:=?_)
 rw [Mp,FR]
 generalize hx:(match s.f a.1.id with | some a=>a.1 | none=>It.zero)=x
 refine Jb ?_
 refine dn (k:=?_)
 refine tk 7 hX (hc:=by cases f <;> kernel_rfl) (k:=?_)
 refine tk 8 hX (hc:=by cases f <;> kernel_rfl) (k:=?_)
 refine tk 9 hX (hc:=by cases f <;> kernel_rfl) (k:=?_)
 apply B9 10 (f:=f) (X:=X) hX hp;exact rfl;(first | (apply AR AI;exact rfl) | (apply EG AI;exact rfl;exact rfl;exact rfl;exact rfl;exact rfl;(intro X;((repeat (first | exact CU.nil | (apply CU.one;exact rfl;(conv=>lhs;whnf);exact rfl;(repeat (first | exact Ai.nil | apply Ai.skip | apply Ai.cons))) | (apply CU.agg;exact rfl;exact rfl;exact rfl;(repeat (first | exact Ai.nil | apply Ai.skip | apply Ai.cons)))))))));kernel_rfl;kernel_rfl;(intro X Y;(repeat (first | exact A4 | refine A3 ?_ (by exact rfl))));(intro w' hs;first|exact AH hs.hold|exact AH hs.hold.tail|exact A6 rfl);intro b w hI hs
 refine dt 11 hX (k:=?_)
 repeat' (first|refine Nx.h ?_|(refine AU hs (k:=?_);intro w hs)|fail)
 refine dn (k:=?_)
 refine tk 12 hX (k:=?_)
 refine en (k:=?_)
 replace hs:=hs.Bt
 refine Ja ?_
 refine AY hs (h:=by exact Mk a.1 _) (k:=?_);intro w' ho hs;repeat' (first|refine Sa ?_|refine xc_cond rfl (fun hc=>?_) fun hc=>?_|fail)
 ·refine AF ?_
  have ho:=hs.AB [] (by simp [h1]) (by simp [D0])
  have e:Dq s a=2:=by unfold Dq;rw [show (!a.1.right)=true by simpa using hc];rfl
  refine ⟨by rw [e];rfl,?_⟩
  unfold DG;rw [e]
  exact same _ ho
 ·refine AF ?_
  have ho:=hs.AB [] (by simp [h1]) (by simp [D0])
  have e:Dq s a=13:=by unfold Dq;rw [show (!a.1.right)=false by assumption,hc];rfl
  refine ⟨by rw [e];rfl,?_⟩
  unfold DG;rw [e]
  exact same _ ho
 ·have r1:(!a.1.right)=false:=by assumption
  have r2:(s.f a.1.id).isSome=false:=by simpa using hc
  have ho:=hs.AB [] (by simp [h1]) (by simp [D0])
  refine AY hs (h:=by exact LD qb s _ _ (hq.only ho)) (k:=?_);intro w' ho hs;repeat' (first|refine Sa ?_|refine Au rfl (fun hc=>?_) fun hc=>?_|fail)
  ·refine AF ?_
   have ho:=hs.AB [] (by simp [h1]) (by simp [D0])
   have e:Dq s a=7:=by unfold Dq;rw [r1,r2,decide_eq_true (show s.t.list.length=32 by omega)];rfl
   refine ⟨by rw [e];rfl,?_⟩
   unfold DG;rw [e]
   exact same _ ho
  ·have r3:¬ s.t.list.length=32:=by omega
   refine dr [] hs (k:=?_);intro hX w hs
   refine tks 0 2 ?_
   refine tk 3 hX (k:=?_)
   refine kF 4 43 a.1.cells hs (k:=?_);intro f X w hp;have hs:=hp.st
   apply BH 2 4 (f:=f) (X:=X) hX hp;exact rfl;exact rfl;(first | (apply AR AI;exact rfl) | (apply EG AI;exact rfl;exact rfl;exact rfl;exact rfl;exact rfl;(intro X;((repeat (first | exact CU.nil | (apply CU.one;exact rfl;(conv=>lhs;whnf);exact rfl;(repeat (first | exact Ai.nil | apply Ai.skip | apply Ai.cons))) | (apply CU.agg;exact rfl;exact rfl;exact rfl;(repeat (first | exact Ai.nil | apply Ai.skip | apply Ai.cons)))))))));kernel_rfl;kernel_rfl;kernel_rfl;kernel_rfl;(intro X Y;(repeat (first | exact A4 | refine A3 ?_ (by exact rfl))));(intro w' hs;first|exact AH hs.hold|exact AH hs.hold.tail|exact A6 rfl);intro f X w hp;have hs:=hp.st
   have ho:=hs.AB [] (by simp [h1]) (by simp [D0])
   have JN:=lt_of_block (hs.get At.head)
   refine cl (h:=by exact SB qb s _ _ (hq.only ho) om) (k:=?_)
   rintro v1 w1 ⟨⟨G,hG,Ds⟩,AJ⟩
   have hz:=ho.size
   replace hp:=(⟨hp.core.only AJ,hG,fun _ _ ho h=>h.keep ho (by simp)⟩:Er w0 D0 _ _ _ (fun w=>Ba w 64 7 v1 s.t.list.length (Bh s.t.list) G) _ _ _)
   replace hs:=hp.st
   have J7:∀ k∈G,w0.heap.size≤k:=fun k hk=>by have:=Ds k hk;omega
   refine Jb ?_
   refine dn (k:=?_)
   apply B9 4 (f:=f) (X:=X) hX hp;exact rfl;(first | (apply AR AI;exact rfl) | (apply EG AI;exact rfl;exact rfl;exact rfl;exact rfl;exact rfl;(intro X;((repeat (first | exact CU.nil | (apply CU.one;exact rfl;(conv=>lhs;whnf);exact rfl;(repeat (first | exact Ai.nil | apply Ai.skip | apply Ai.cons))) | (apply CU.agg;exact rfl;exact rfl;exact rfl;(repeat (first | exact Ai.nil | apply Ai.skip | apply Ai.cons)))))))));kernel_rfl;kernel_rfl;(intro X Y;(repeat (first | exact A4 | refine A3 ?_ (by exact rfl))));(intro w' hs;first|exact AH hs.hold|exact AH hs.hold.tail|exact A6 rfl);intro b w hI hs
   refine dt 5 hX (k:=?_)
   have hb4:=hs.get At.head
   have AN:=hs.AB [] (by simp [h1]) (by simp [D0])
   refine CM AI rfl rfl rfl rfl rfl rfl rfl (by decide) (lit_cells (news:=a.1.cells) hb4) (by simp [Value.oneCell']) hI om om ?_
   intro v2 w2 ⟨G',Ju,Qc⟩ AT
   have Yp:bq∉G:=fun hm=>by have:=Ds bq hm;omega
   have hqG:qb∉G:=IB.MZ hI (by decide) (hs.get (At.tail (At.tail At.head)))
   replace hs:=hs.Bt.call AT (fun k hk hm=>by
    simp only [List.map_cons,List.map_nil,List.mem_cons,List.not_mem_nil,or_false] at hm
    rcases hm with rfl | rfl
    ·exact Yp hk
    ·exact hqG hk) (by simp [D0])
   have uC:AA [] w0 w2:=(hs.AB (G ++ []) (by simp [h1]) (by simp [D0])).mono (fun k hk hm=>by
    rw [List.append_nil] at hm
    have:=J7 k hm
    omega)
   have hL:Iw w2 v2 (plain (s.t.list ++ [a])):=IB.Nk (G:=G') (by
    rw [IB.LX,List.length_append]
    exact Ju)
   refine Jb ?_
   refine dn (k:=?_)
   refine dt 6 hX (k:=?_)
   refine cl (h:=by exact K6 (Jp s a) (plain (s.t.list ++ [a])) v2 (by simp [plain];omega) _ hL) (k:=?_)
   generalize hwi:within (Jp s a) (plain (s.t.list ++ [a]))=wi
   rintro v3 w3 ⟨rfl,Ao⟩;replace hs:=hs.AK Ao
   have aP:=uC.trans Ao
   refine Jb ?_
   refine dn (k:=?_)
   refine tks 7 2 ?_
   refine en (k:=?_)
   cases wi
   ·refine Je ?_
    refine AF ?_
    have e:Dq s a=8:=by unfold Dq;rw [r1,r2,decide_eq_false r3,hwi];rfl
    refine ⟨by rw [e];rfl,?_⟩
    unfold DG;rw [e]
    exact same _ aP
   ·have e:Dq s a=0:=by unfold Dq;rw [r1,r2,decide_eq_false r3,hwi];rfl
    refine Jd ?_
    refine cl (h:=by exact WS qb s _ a _ (hq.only aP) hlen hn) (k:=?_)
    rintro v w5 ⟨F',hA,CV,BK⟩
    have hz5:=aP.size
    clear hs
    have hs:=St.nil w5
    refine Ja ?_
    refine AF ?_
    refine ⟨by rw [e];rfl,?_⟩
    unfold DG;rw [e]
    exact ⟨F',hA.only (hs.AD rfl),fun k hk=>by rcases CV k hk with h | h;exact .inl h;exact .inr om,((aP.weaken (by simp)).step BK (fun k hk => .inl hk)).step (hs.AD rfl) (by simp)⟩
end Go.Proofs.Q0
namespace Go.Proofs.Q0
open IB (IT)
structure QI (s:Qs):Prop where
 good:RB.Good s.t
 srt:RB.K0 IB.Cq s.t.list
 f:∀ i a,s.f i=some a↔a∈s.t.list∧a.1.id=i
 n:s.n=s.t.list.length
 len:s.t.list.length≤32
 cen:s.t.list≠[]→LO s.m (plain s.t.list)
 nil:s.t.list=[]→s.m.a=0∧s.m.w=0∧s.m.n=0
theorem QI.inj {s:Qs} (h:QI s):∀ x∈s.t.list,∀ y∈s.t.list,x.1.id=y.1.id→x=y:=fun x hx y hy e=>by
 have h1:=(h.f _ x).2 ⟨hx,rfl⟩
 have h2:=(h.f _ y).2 ⟨hy,e.symm⟩
 rw [h1] at h2;exact Option.some.inj h2
theorem plain_ne {l:List IT} (h:l≠[]):plain l≠[]:=fun e=>h (List.map_eq_nil_iff.1 e)
theorem plain_perm {l l':List IT} (h:l.Perm l'):(plain l).Perm (plain l'):=h.map _
theorem plain_win {l:List IT} {b lo:Int} (h:C7 b lo (plain l)):∀ x∈l,K3 b lo x.1:=fun x hx=>h.2.2 _ (List.mem_map_of_mem hx)
theorem QI.win {s:Qs} (h:QI s):∃ lo,C7 s.m.b lo (plain s.t.list):=by
 by_cases e:s.t.list=[]
 ·rw [e];exact ⟨0,by unfold I2;omega,by simp [plain],by simp [plain]⟩
 ·exact (h.cen e).all
theorem QI.ord {s:Qs} (h:QI s):Cp IB.Cq (·∈s.t.list):=by
 obtain ⟨lo,k⟩:=h.win
 exact vW (plain_win k) k.1 h.inj
theorem Sl {s:Qs} (h:s.t.list≠[]):FT s=(IW s.m).getD 0:=by
 unfold FT
 rw [decide_eq_false (fun e=>h (List.eq_nil_of_length_eq_zero e)),cond_false]
theorem XM {s:Qs} (h:s.t.list=[]):FT s=s.c:=by
 unfold FT
 rw [h];rfl
theorem QI.now {s:Qs} (h:QI s) (e:s.t.list≠[]):FT s=s.m.b:=by
 rw [Sl e,(h.cen e).now (plain_ne e)];rfl
theorem LS {s:Qs} {a:IT} (h:s.t.list=[]):FP s a=⟨a.1.p.t,0,0,0⟩:=by unfold FP;rw [h];rfl
theorem Km {s:Qs} {a:IT} (h:s.t.list≠[]):FP s a=s.m:=by
 unfold FP
 rw [decide_eq_false (fun e=>h (List.eq_nil_of_length_eq_zero e)),cond_false]
theorem QI.pre {s:Qs} (h:QI s) (a:IT):K2 (FP s a) (plain s.t.list):=by
 by_cases e:s.t.list=[]
 ·rw [LS e,e];exact ⟨rfl,rfl,rfl⟩
 ·rw [Km e];exact (h.cen e).is
theorem iA {f:Int→Option IT} {L L':List IT} {a:IT} (h:∀ i x,f i=some x↔x∈L∧x.1.id=i) (hn:f a.1.id=none) (hp:L'.Perm (a :: L)):∀ i x,KU f a.1.id (some a) i=some x↔x∈L'∧x.1.id=i:=fun i x=>by
 unfold KU
 rw [hp.mem_iff,List.mem_cons]
 by_cases e:i=a.1.id
 ·rw [decide_eq_true e,cond_true]
  constructor
  ·rintro ⟨⟩;exact ⟨.inl rfl,e.symm⟩
  ·rintro ⟨rfl | hx,hi⟩
   ·rfl
   ·rw [(h a.1.id x).2 ⟨hx,by omega⟩] at hn;cases hn
 ·rw [decide_eq_false e,cond_false,h i x]
  constructor
  ·exact fun ⟨h1,h2⟩=>⟨.inr h1,h2⟩
  ·rintro ⟨rfl | hx,hi⟩
   ·exact absurd hi.symm e
   ·exact ⟨hx,hi⟩
theorem QI.put {s:Qs} (h:QI s) {a:IT} {lo:Int} (hn:s.f a.1.id=none) (hw:C7 (FP s a).b lo (a.1 :: plain s.t.list)):QI (Kv s a)∧(Kv s a).t.list.Perm (a :: s.t.list)∧(Kv s a).c=s.c:=by
 have hna:a∉s.t.list:=fun hm=>by rw [(h.f _ a).2 ⟨hm,rfl⟩] at hn;cases hn
 have hid:∀ x∈s.t.list,x.1.id≠a.1.id:=fun x hx e=>by rw [(h.f _ x).2 ⟨hx,e⟩] at hn;cases hn
 have ho:Cp IB.Cq (·∈a :: s.t.list):=vW (b:=(FP s a).b) (lo:=lo) (fun x hx=>by
  rcases List.mem_cons.1 hx with rfl | hx
  ·exact hw.head
  ·exact plain_win hw.tail x hx) hw.1 (fun x hx y hy e=>by
  rcases List.mem_cons.1 hx with h1 | h1 <;> rcases List.mem_cons.1 hy with h2 | h2
  ·rw [h1,h2]
  ·rw [h1] at e;exact absurd e.symm (hid y h2)
  ·rw [h2] at e;exact absurd e (hid x h1)
  ·exact h.inj x h1 y h2 e)
 have lV:RB.has IB.Cq a s.t=false:=by
  have:=RB.PN ho (x:=a) List.mem_cons_self s.t h.srt (fun z hz=>List.mem_cons_of_mem _ hz)
  cases e:RB.has IB.Cq a s.t
  ·rfl
  ·exact absurd (this.1 e) hna
 have ht:(HV s a).t=RB.blacken (RB.ins IB.Cq s.t a):=by show IB.RB.insert s.t a=_;unfold IB.RB.insert;rw [lV];rfl
 have hl:(HV s a).t.list=RB.IM IB.Cq a s.t.list:=by rw [ht,RB.Ii,RB.QS ho List.mem_cons_self s.t h.srt (fun z hz=>List.mem_cons_of_mem _ hz)]
 have hp:(HV s a).t.list.Perm (a :: s.t.list):=by rw [hl];exact RB.OL _ _
 obtain ⟨m',e1,e2,e3⟩:=jB hw (h.pre a)
 have em:(HV s a).m=m':=by show (EJ _ _).getD .zero=_;rw [e1];rfl
 have hne:(HV s a).t.list≠[]:=fun e=>by rw [e] at hp;exact absurd hp.length_eq (by simp)
 obtain ⟨m2,e4,e5⟩:=OK (m:=m') (lo:=lo) (l:=a.1 :: plain s.t.list) (by rw [e2];exact hw) e3 (by simp)
 have ec:Kv s a={ HV s a with m:=m2 }:=by
  unfold Kv Kk
  rw [Sl hne,em,e4];rfl
 have yK:=hw.2.1
 simp only [plain,List.length_cons,List.length_map] at yK
 refine ⟨?_,by rw [ec];exact hp,by rw [ec];rfl⟩
 rw [ec]
 exact {
  good:=by show RB.Good (HV s a).t;rw [ht];exact RB.Good.ins h.good
  srt:=by show RB.K0 _ (HV s a).t.list;rw [hl];exact RB.WU ho List.mem_cons_self (fun z hz=>List.mem_cons_of_mem _ hz) h.srt hna
  f:=iA h.f hn hp
  n:=by
   show (if (s.f a.1.id).isSome then s.n else s.n+1)=(HV s a).t.list.length
   rw [hn,hp.length_eq,h.n];rfl
  len:=by show (HV s a).t.list.length≤32;rw [hp.length_eq];exact yK
  cen:=fun _=>e5.perm (plain_perm hp.symm)
  nil:=fun e=>absurd e hne }
theorem QI.cut {s:Qs} (h:QI s) {a:IT} (ha:a∈s.t.list):QI (Ey s a)∧(Ey s a).t.list=RB.sans a s.t.list∧s.t.list.Perm (a :: RB.sans a s.t.list)∧(Ey s a).c=FT s∧Fx a s.t:=by
 have hne:s.t.list≠[]:=fun e=>by rw [e] at ha;cases ha
 obtain ⟨t1,d1,d2,d3⟩:=sP h.ord h.good h.srt (fun z hz=>hz) ha
 have lV:RB.has IB.Cq a s.t=true:=(RB.PN h.ord (x:=a) ha s.t h.srt (fun z hz=>hz)).2 ha
 have hnd:=RB.j0 h.ord (fun z hz=>hz) h.srt
 have hp:=RB.cT hnd ha
 have ht:(E7 s a).t=RB.blacken t1:=by show VJ a s.t=_;unfold VJ;rw [lV,d1];rfl
 have hl:(E7 s a).t.list=RB.sans a s.t.list:=by rw [ht,RB.Ii,d3]
 have hC:=h.cen hne
 obtain ⟨lo,hw⟩:=hC.all
 have zW:C7 s.m.b lo (a.1 :: plain (RB.sans a s.t.list)):=hw.perm (plain_perm hp)
 have hm2:K2 s.m (a.1 :: plain (RB.sans a s.t.list)):=hC.is.perm (plain_perm hp)
 obtain ⟨e1,e2⟩:=rG zW hm2
 have em:(E7 s a).m=Fe s.m a.1.p:=by show (Fg _ _).getD .zero=_;rw [e1];rfl
 have hok:Fx a s.t:=fun _=>⟨by rw [d1];rfl,by rw [d1];show t1.list.length+1=_;rw [d3,hp.length_eq];rfl⟩
 have hmem:∀ x,x∈RB.sans a s.t.list↔x∈s.t.list∧x≠a:=fun x=>by unfold RB.sans;rw [List.mem_filter];simp
 have wO:RB.K0 IB.Cq (RB.sans a s.t.list):=List.Pairwise.filter _ h.srt
 have hlen:=hp.length_eq
 simp only [List.length_cons] at hlen
 have xV:s.f a.1.id=some a:=(h.f _ a).2 ⟨ha,rfl⟩
 have hf:∀ i x,KU s.f a.1.id none i=some x↔x∈RB.sans a s.t.list∧x.1.id=i:=fun i x=>by
  unfold KU
  rw [hmem]
  by_cases e:i=a.1.id
  ·rw [decide_eq_true e,cond_true]
   constructor
   ·rintro ⟨⟩
   ·rintro ⟨⟨k1,k2⟩,k3⟩;exact absurd (h.inj x k1 a ha om) k2
  ·rw [decide_eq_false e,cond_false,h.f i x]
   constructor
   ·exact fun ⟨h1,h2⟩=>⟨⟨h1,fun e'=>e (by rw [← h2,e'])⟩,h2⟩
   ·exact fun ⟨h1,h2⟩=>⟨h1.1,h2⟩
 have hn:(if (s.f a.1.id).isSome then s.n - 1 else s.n)=(RB.sans a s.t.list).length:=by rw [xV,h.n];simp only [Option.isSome_some,if_true];omega
 have hg:RB.Good (E7 s a).t:=by rw [ht];obtain ⟨k,d2⟩:=d2;exact ⟨RB.Ph _,d2.blacken⟩
 by_cases hz:RB.sans a s.t.list=[]
 ·have e3:Ic (Fe s.m a.1.p) (FT s)=some ⟨FT s,0,0,0⟩:=by
   have i1:=e2.a;have i2:=e2.w;have i3:=e2.n
   rw [hz] at i1 i2 i3
   simp only [plain,List.map_nil,CY,CH,List.length_nil] at i1 i2 i3
   unfold Ic
   rw [i1,i2,i3]
   simp only [Int.zero_mul,Int.sub_zero]
   exact if_pos ⟨by rw [Cd];left;exact ⟨i3,i2,i1⟩,Nv⟩
  have ec:Ey s a={ E7 s a with m:=⟨FT s,0,0,0⟩ }:=by
   unfold Ey Kk
   rw [XM (hl.trans hz),em,show (E7 s a).c=FT s from rfl,e3];rfl
  refine ⟨?_,by rw [ec];exact hl,hp,by rw [ec];rfl,hok⟩
  rw [ec]
  exact { good:=hg,srt:=by show RB.K0 _ (E7 s a).t.list;rw [hl];exact wO,f:=by show ∀ i x,KU s.f a.1.id none i=some x↔x∈(E7 s a).t.list∧_;rw [hl];exact hf,n:=by show (if _ then _ else _)=(E7 s a).t.list.length;rw [hl];exact hn,len:=by show (E7 s a).t.list.length≤32;rw [hl,hz];simp,cen:=fun k=>absurd (hl.trans hz) k,nil:=fun _=>⟨rfl,rfl,rfl⟩ }
 ·obtain ⟨m2,e4,e5⟩:=OK (m:=Fe s.m a.1.p) (lo:=lo) (l:=plain (RB.sans a s.t.list)) zW.tail e2 (plain_ne hz)
  have ec:Ey s a={ E7 s a with m:=m2 }:=by
   unfold Ey Kk
   rw [Sl (by rw [hl];exact hz),em,e4];rfl
  refine ⟨?_,by rw [ec];exact hl,hp,by rw [ec];rfl,hok⟩
  rw [ec]
  exact { good:=hg,srt:=by show RB.K0 _ (E7 s a).t.list;rw [hl];exact wO,f:=by show ∀ i x,KU s.f a.1.id none i=some x↔x∈(E7 s a).t.list∧_;rw [hl];exact hf,n:=by show (if _ then _ else _)=(E7 s a).t.list.length;rw [hl];exact hn,len:=by show (E7 s a).t.list.length≤32;rw [hl];have:=h.len;omega,cen:=fun _=>by show LO m2 (plain (E7 s a).t.list);rw [hl];exact e5,nil:=fun k=>absurd (hl.symm.trans k) hz }
theorem QI.new (c:Int):QI (He c) where
 good:=RB.Good.nil
 srt:=List.Pairwise.nil
 f i a:=by constructor;rintro ⟨⟩;rintro ⟨h,_⟩;cases h
 n:=rfl
 len:=by simp [He,RB.list]
 cen h:=absurd rfl h
 nil _:=⟨rfl,rfl,rfl⟩
end Go.Proofs.Q0
namespace Go.Proofs.Q0
open Go Go.RowKit
attribute [local irreducible] XS XC XA AX AO A7 A0 AZ A8 Aa AV SE
structure Rq where
 i:It
 left:Int
 slice:Int
 asleep:Bool
deriving DecidableEq
abbrev Rq.cells (r:Rq):List Value:=[.int .u64 r.i.p.t,.int .u32 r.i.p.r,.int .u32 r.i.p.w,.int .i64 r.i.id,.int .u64 r.i.d.t,.int .u32 r.i.d.r,.int .u32 r.i.d.w,.int .u64 r.left,.int .u64 r.slice,.bool r.asleep]
def rv (r:Rq):Value := .agg #[.int .u64 r.i.p.t,.int .u32 r.i.p.r,.int .u32 r.i.p.w,.int .i64 r.i.id,.int .u64 r.i.d.t,.int .u32 r.i.d.r,.int .u32 r.i.d.w,.int .u64 r.left,.int .u64 r.slice,.bool r.asleep]
def Rq.In (r:Rq):Prop:=r.i.In∧BV r.left∧BV r.slice
instance aBN (r:Rq):Decidable r.In:=by unfold Rq.In;infer_instance
def Rq.zero:Rq:=⟨.zero,0,0,false⟩
def EW (n:Int):Bool:=decide (1≤n) && decide (n≤1099511627776)
theorem NQ {n:Int}:EW n=true↔1≤n∧n≤1099511627776:=by unfold EW;simp
theorem TU (n:Int) (w0:World):AM Tryz.prog 191 #[.int .u64 n] w0 fun v w'=>v = .bool (EW n)∧AA [] w0 w':=by
 have hs:=St.nil w0
 refine AQ Tryz.func191 Tryz.ntmps191 (k:=?_)
 repeat' (first|refine Sf ?_|((with_reducible apply BM);exact rfl;exact rfl;intro c hc;(fail_if_success have:true=c:=hc);(fail_if_success have:false=c:=hc);cases c)|fail)
 all_goals (refine AF ?_)
 all_goals refine ⟨?_,hs.AD rfl⟩
 all_goals clear hs
 ·have h1:decide (1≤n)=false:=hc
  unfold EW;rw [h1];rfl
 ·have h1:decide (1≤n)=true:=hc
  unfold EW;rw [h1];rfl
def V7 (p:Pt) (n:Int):Pt:=(Lv p (n*1048576)).getD .zero
theorem wL {o:Option Pt} (h:∀ p,o=some p→p.In):(o.getD .zero).In:=by
 cases o with
 | none=>decide
 | some p=>exact h p rfl
theorem qW (p:Pt) (n:Int):(V7 p n).In:=wL fun q h=>(at_some h).1
theorem V9 (p:Pt) (n:Int) (hp':p.In) (h0:0≤n) (h1:n≤1099511627776) (w0:World):AM Tryz.prog 192 #[pv p,.int .u64 n] w0 fun v w'=>v=pv (V7 p n)∧AA [] w0 w':=by
 have e:IntKind.u64.wrap (n*1048576)=n*1048576:=by rw [wrap_u64];omega
 have hs:=St.nil w0
 refine AQ Tryz.func192 Tryz.ntmps192 (k:=?_)
 repeat' (first|refine Sa ?_|(refine al hs (k:=?_);intro b w hz hs)|(refine bx hs (k:=?_);intro b w hz hs)|fail)
 refine cl (h:=by exact Qp p (IntKind.u64.wrap (n*1048576)) hp' (by rw [e];exact ⟨by omega,by omega⟩) _) (k:=?_)
 rw [e]
 rintro v w' ⟨rfl,ho⟩;replace hs:=hs.AK ho;repeat' (first|refine Sa ?_|(refine AU hs (k:=?_);intro w hs)|(refine al hs (k:=?_);intro b w hz hs)|fail)
 refine AF ?_
 exact ⟨rfl,hs.AD rfl⟩
def Rq.right (r:Rq):Bool:=r.i.right && EW r.left && EW r.slice && decide (V7 r.i.p r.left=r.i.d)
theorem aAi (p q:Pt):(By (.int .u64 p.t) (.int .u64 q.t) && (By (.int .u32 p.r) (.int .u32 q.r) && By (.int .u32 p.w) (.int .u32 q.w)))=decide (p=q):=by
 show ((p.t == q.t) && ((p.r == q.r) && (p.w == q.w)))=_
 obtain ⟨a,b,c⟩:=p
 obtain ⟨a',b',c'⟩:=q
 simp only [Pt.mk.injEq]
 by_cases h1:a=a' <;> by_cases h2:b=b' <;> by_cases h3:c=c' <;> simp [h1,h2,h3]
theorem Il (r:Rq) (hr:r.In) (w0:World):AM Tryz.prog 146 #[rv r] w0 fun v w'=>v = .bool r.right∧AA [] w0 w':=by
 have hs:=St.nil w0
 refine AQ Tryz.func146 Tryz.ntmps146 (k:=?_)
 repeat' (first|refine Sa ?_|(refine bx hs (k:=?_);intro b w hz hs)|fail)
 refine dr [] hs (k:=?_);intro hX w hs
 refine tks 0 2 ?_
 refine dt 2 hX (k:=?_)
 refine AY hs (h:=by exact Mk r.i _) (k:=?_);intro w' ho hs;refine Jb ?_
 refine dn (k:=?_)
 refine tk 3 hX (k:=?_)
 refine Sz 6 rfl ?_;intro c q1;cases c
 ·refine pt 4 hX (k:=?_)
  refine pt 5 hX (k:=?_)
  refine pt 6 hX (k:=?_)
  refine tks 7 2 ?_
  refine pt 9 hX (k:=?_)
  refine pt 10 hX (k:=?_)
  refine pt 11 hX (k:=?_)
  refine tks 12 2 ?_
  refine pt 14 hX (k:=?_)
  refine pt 15 hX (k:=?_)
  refine pt 16 hX (k:=?_)
  refine pt 17 hX (k:=?_)
  refine pt 18 hX (k:=?_)
  refine pt 19 hX (k:=?_)
  refine pt 20 hX (k:=?_)
  refine pt 21 hX (k:=?_)
  refine pt 22 hX (k:=?_)
  refine pt 23 hX (k:=?_)
  refine tks 24 2 ?_
  refine en (k:=?_)
  refine Jb ?_
  refine AF ?_
  refine ⟨?_,hs.AD rfl⟩
  unfold Rq.right;rw [q1];rfl
 ·refine tks 4 2 ?_
  refine dt 6 hX (k:=?_)
  refine AY hs (h:=by exact TU r.left _) (k:=?_);intro w' ho hs;refine Jb ?_
  refine dn (k:=?_)
  refine tks 7 2 ?_
  refine Sz 11 rfl ?_;intro c q2;cases c
  ·refine pt 9 hX (k:=?_)
   refine pt 10 hX (k:=?_)
   refine pt 11 hX (k:=?_)
   refine tks 12 2 ?_
   refine pt 14 hX (k:=?_)
   refine pt 15 hX (k:=?_)
   refine pt 16 hX (k:=?_)
   refine pt 17 hX (k:=?_)
   refine pt 18 hX (k:=?_)
   refine pt 19 hX (k:=?_)
   refine pt 20 hX (k:=?_)
   refine pt 21 hX (k:=?_)
   refine pt 22 hX (k:=?_)
   refine pt 23 hX (k:=?_)
   refine tks 24 2 ?_
   refine en (k:=?_)
   refine Jb ?_
   refine AF ?_
   refine ⟨?_,hs.AD rfl⟩
   unfold Rq.right;rw [q1,q2];rfl
  ·refine tks 9 2 ?_
   refine dt 11 hX (k:=?_)
   refine AY hs (h:=by exact TU r.slice _) (k:=?_);intro w' ho hs;refine Jb ?_
   refine dn (k:=?_)
   refine tks 12 2 ?_
   refine Sz 16 rfl ?_;intro c q3;cases c
   ·refine pt 14 hX (k:=?_)
    refine pt 15 hX (k:=?_)
    refine pt 16 hX (k:=?_)
    refine pt 17 hX (k:=?_)
    refine pt 18 hX (k:=?_)
    refine pt 19 hX (k:=?_)
    refine pt 20 hX (k:=?_)
    refine pt 21 hX (k:=?_)
    refine pt 22 hX (k:=?_)
    refine pt 23 hX (k:=?_)
    refine tks 24 2 ?_
    refine en (k:=?_)
    refine Jb ?_
    refine AF ?_
    refine ⟨?_,hs.AD rfl⟩
    unfold Rq.right;rw [q1,q2,q3];rfl
   ·have h2:=NQ.1 q2
    refine tks 14 5 ?_
    refine tks 20 3 ?_
    refine dt 19 hX (k:=?_)
    refine AY hs (h:=by exact V9 r.i.p r.left hr.1.1 om h2.2 _) (k:=?_);intro w' ho hs;refine Jb ?_
    refine dn (k:=?_)
    refine tks 23 3 ?_
    refine en (k:=?_)
    refine Jb ?_
    refine AF ?_
    refine ⟨?_,hs.AD rfl⟩
    unfold Rq.right;rw [q1,q2,q3]
    show Value.bool _=Value.bool _
    rw [aAi];rfl
def Dx (r:Rq):Rq:=bif EW r.left then ⟨⟨r.i.p,r.i.id,V7 r.i.p r.left⟩,r.left,r.slice,r.asleep⟩ else r
def CK (r:Rq):Option Rq:=bif (Dx r).right then some (Dx r) else none
theorem YX {r:Rq} (h:r.In):(Dx r).In:=by
 unfold Dx
 cases EW r.left
 ·exact h
 ·exact ⟨⟨h.1.1,h.1.2.1,qW _ _⟩,h.2⟩
def iV (o:Option Rq):Value := .tuple #[rv (o.getD .zero),.bool o.isSome]
theorem LG (r:Rq) (hr:r.In) (w0:World):AM Tryz.prog 147 #[rv r] w0 fun v w'=>v=iV (CK r)∧AA [] w0 w':=by
 have hs:=St.nil w0
 refine AQ Tryz.func147 Tryz.ntmps147 (k:=?_)
 refine Ag ?_
 refine Al ?_
 refine bx hs (k:=?_);intro b1 w hz hs
 refine al hs (k:=?_);intro b2 w hz hs
 refine vs (k:=?_)
 refine XS.nil ?_
 refine Dw ?_
 refine Ag ?_
 refine B7 (fun _:Unit=>[(1,.pointer (some ⟨b1,0,none⟩)),(2,.pointer (some ⟨b2,0,none⟩))]) (fun _ w=>St w0 D0 [(b2,.cells Rq.zero.cells.toArray 66,true),(b1,.cells (Dx r).cells.toArray 66,true)] w) ?_ ?_
 ·refine Ja ?_
  refine cl (h:=by exact TU r.left _) (k:=?_)
  generalize hq:EW r.left=q
  cases q
  ·have e:Dx r=r:=by unfold Dx;rw [hq];rfl
   rw [e]
   rintro v w' ⟨rfl,ho⟩;replace hs:=hs.AK ho;refine Jg ?_
   exact AP () Ab hs
  ·have e:Dx r=⟨⟨r.i.p,r.i.id,V7 r.i.p r.left⟩,r.left,r.slice,r.asleep⟩:=by unfold Dx;rw [hq];rfl
   have h2:=NQ.1 hq
   rw [e]
   rintro v w' ⟨rfl,ho⟩;replace hs:=hs.AK ho;refine Je ?_
   refine AY hs (h:=by exact V9 r.i.p r.left hr.1.1 om h2.2 _) (k:=?_);intro w' ho hs;repeat' (first|refine Sb ?_|(refine AU hs (k:=?_);intro w hs)|fail)
   exact AP () Ab hs
 clear hs
 rintro _ env w hs
 have hf:=YX hr
 unfold CK
 generalize Dx r=u at *
 refine Ja ?_
 refine cl (h:=by exact Il u hf _) (k:=?_)
 generalize hq:u.right=q
 cases q
 ·rintro v w' ⟨rfl,ho⟩;replace hs:=hs.AK ho;repeat' (first|refine Sc ?_|(refine AU hs (k:=?_);intro w hs)|fail)
  refine AF ?_
  exact ⟨rfl,hs.AD rfl⟩
 ·rintro v w' ⟨rfl,ho⟩;replace hs:=hs.AK ho;repeat' (first|refine Sd ?_|(refine AU hs (k:=?_);intro w hs)|fail)
  refine AF ?_
  exact ⟨rfl,hs.AD rfl⟩
def newR (p:Pt) (id n:Int):Option Rq:=CK ⟨⟨p,id,.zero⟩,n,n,false⟩
theorem Kr (p:Pt) (id n:Int) (hp':p.In) (hi:In64 id) (hn:BV n) (w0:World):AM Tryz.prog 131 #[pv p,.int .i64 id,.int .u64 n] w0 fun v w'=>v=iV (newR p id n)∧AA [] w0 w':=by
 have hs:=St.nil w0
 refine AQ Tryz.func131 Tryz.ntmps131 (k:=?_)
 repeat' (first|refine Sa ?_|(refine al hs (k:=?_);intro b w hz hs)|(refine bx hs (k:=?_);intro b w hz hs)|fail)
 refine AY hs (h:=by exact LG ⟨⟨p,id,.zero⟩,n,n,false⟩ ⟨⟨hp',hi,(by decide:Pt.zero.In)⟩,hn,hn⟩ _) (k:=?_);intro w' ho hs;repeat' (first|refine Sb ?_|(refine AU hs (k:=?_);intro w hs)|fail)
 refine AF ?_
 exact ⟨rfl,hs.AD rfl⟩
theorem M8 {r u:Rq} (h:r.In) (e:CK r=some u):u.In∧u.right=true:=by
 unfold CK at e
 cases hq:(Dx r).right
 ·rw [hq] at e;cases e
 ·rw [hq,cond_true] at e
  cases e
  exact ⟨YX h,hq⟩
def Cu (r:Rq) (p:Pt) (n:Int):Rq:=⟨⟨p,r.i.id,r.i.d⟩,bif decide (r.left - n=0) then r.slice else r.left - n,r.slice,r.asleep⟩
def DD (r:Rq) (n:Int):Option (Rq × Bool) :=
 if r.right=true∧n≠0∧n≤r.left then (match Lv r.i.p (n*1048576) with | none=>none | some p=>(CK (Cu r p n)).map fun u=>(u,decide (r.left - n=0))) else none
def svV (o:Option (Rq × Bool)):Value:=match o with
 | none => .tuple #[rv .zero,.bool false,.bool false]
 | some (u,b) => .tuple #[rv u,.bool b,.bool true]
theorem Rx {r:Rq} (h:r.right=true):1≤r.left∧r.left≤1099511627776∧1≤r.slice∧r.slice≤1099511627776:=by
 unfold Rq.right at h
 simp only [Bool.and_eq_true] at h
 have h1:=NQ.1 h.1.1.2
 have h2:=NQ.1 h.1.2
 omega
theorem Wo {r:Rq} {p:Pt} {n:Int} (hr:r.In) (hp:p.In) (h0:0≤n) (h1:n≤r.left):(Cu r p n).In:=by
 refine ⟨⟨hp,hr.1.2⟩,?_,hr.2.2⟩
 show BV (bif decide (r.left - n=0) then r.slice else r.left - n)
 cases decide (r.left - n=0)
 ·have:=hr.2.1;unfold BV at *;simp only [cond_false];omega
 ·exact hr.2.2
theorem Rt (r:Rq) (n:Int) (hr:r.In) (hn:BV n) (w0:World):AM Tryz.prog 134 #[rv r,.int .u64 n] w0 fun v w'=>v=svV (DD r n)∧AA [] w0 w':=by
 have hs:=St.nil w0
 refine AQ Tryz.func134 Tryz.ntmps134 (k:=?_)
 refine Ag ?_
 refine Al ?_
 refine bx hs (k:=?_);intro b2 w hz hs
 refine al hs (k:=?_);intro b4 w hz hs
 refine Ja ?_
 refine AY hs (h:=by exact Il r hr _) (k:=?_);intro w' ho hs;repeat' (first|refine Se ?_|(refine AU hs (k:=?_);intro w hs)|((with_reducible apply BM);exact rfl;exact rfl;intro c hc;(fail_if_success have:true=c:=hc);(fail_if_success have:false=c:=hc);cases c)|refine Au rfl (fun hc=>?_) fun hc=>?_|fail)
 ·refine AF ?_
  refine ⟨?_,hs.AD rfl⟩
  have:DD r n=none:=by unfold DD;rw [if_neg (fun h=>by omega)]
  rw [this];rfl
 ·have h1:r.right=true:=by simpa using ‹(!r.right)=false›
  have h2:n≠0:=by simpa using ‹(n == 0)=false›
  have h3:n≤r.left:=by omega
  have h4:=Rx h1
  have hn':=hn
  obtain ⟨hn0,Le⟩:=hn'
  have e1:IntKind.u64.wrap (n*1048576)=n*1048576:=by rw [wrap_u64];omega
  have ev:DD r n=match Lv r.i.p (n*1048576) with | none=>none | some p=>(CK (Cu r p n)).map fun u=>(u,decide (r.left - n=0)):=by unfold DD;rw [if_pos ⟨h1,h2,h3⟩]
  refine cl (h:=by exact Qp r.i.p (IntKind.u64.wrap (n*1048576)) hr.1.1 (by rw [e1];exact ⟨by omega,by omega⟩) _) (k:=?_)
  rw [e1]
  cases hp:Lv r.i.p (n*1048576) with
  | none =>
    rintro v w' ⟨rfl,ho⟩;replace hs:=hs.AK ho;repeat' (first|refine Sc ?_|(refine AU hs (k:=?_);intro w hs)|(refine al hs (k:=?_);intro b w hz hs)|fail)
    refine AF ?_
    refine ⟨?_,hs.AD rfl⟩
    rw [ev,hp];rfl
  | some p =>
    have ND:=(at_some hp).1
    have e2:IntKind.u64.wrap (r.left - n)=r.left - n:=by rw [wrap_u64];omega
    rw [hp] at ev
    simp only at ev
    have aU:=Wo hr ND hn0 h3
    have ele:(Cu r p n).left=if IntKind.u64.wrap (r.left - n)=0 then r.slice else IntKind.u64.wrap (r.left - n):=by
     rw [e2];unfold Cu
     by_cases h:r.left - n=0
     ·rw [if_pos h,decide_eq_true h];rfl
     ·rw [if_neg h,decide_eq_false h];rfl
    rintro v w' ⟨rfl,ho⟩;replace hs:=hs.AK ho
    repeat' (first|refine Sd ?_|(refine st hs (k:=?_);intro w hs)|(refine AU hs (k:=?_);intro w hs)|(refine al hs (k:=?_);intro b w hz hs)|refine Au rfl (fun hc=>?_) fun hc=>?_|fail)
    ·have ez:r.left - n=0:=by rw [← e2];assumption
     have el:Cu r p n=⟨⟨p,r.i.id,r.i.d⟩,r.slice,r.slice,r.asleep⟩:=by unfold Cu;rw [decide_eq_true ez];rfl
     rw [el] at ev aU
     rw [decide_eq_true ez] at ev
     have eb:(IntKind.u64.wrap (r.left - n) == 0)=true:=by rw [e2,ez];rfl
     refine cl (h:=by exact LG ⟨⟨p,r.i.id,r.i.d⟩,r.slice,r.slice,r.asleep⟩ aU _) (k:=?_)
     generalize CK ⟨⟨p,r.i.id,r.i.d⟩,r.slice,r.slice,r.asleep⟩=o at *
     cases o
     ·rintro v w' ⟨rfl,ho⟩;replace hs:=hs.AK ho;repeat' (first|refine Sc ?_|(refine AU hs (k:=?_);intro w hs)|fail)
      refine AF ?_
      exact ⟨by rw [ev];rfl,hs.AD rfl⟩
     ·rintro v w' ⟨rfl,ho⟩;replace hs:=hs.AK ho;repeat' (first|refine Sd ?_|(refine AU hs (k:=?_);intro w hs)|fail)
      refine AF ?_
      exact ⟨by rw [ev,eb];rfl,hs.AD rfl⟩
    ·have ez:¬r.left - n=0:=by rw [← e2];assumption
     have el:Cu r p n=⟨⟨p,r.i.id,r.i.d⟩,IntKind.u64.wrap (r.left - n),r.slice,r.asleep⟩:=by unfold Cu;rw [decide_eq_false ez,e2];rfl
     rw [el] at ev aU
     rw [decide_eq_false ez] at ev
     have eb:(IntKind.u64.wrap (r.left - n) == 0)=false:=beq_false_of_ne (by rw [e2];exact ez)
     refine cl (h:=by exact LG ⟨⟨p,r.i.id,r.i.d⟩,IntKind.u64.wrap (r.left - n),r.slice,r.asleep⟩ aU _) (k:=?_)
     generalize CK ⟨⟨p,r.i.id,r.i.d⟩,IntKind.u64.wrap (r.left - n),r.slice,r.asleep⟩=o at *
     cases o
     ·rintro v w' ⟨rfl,ho⟩;replace hs:=hs.AK ho;repeat' (first|refine Sc ?_|(refine AU hs (k:=?_);intro w hs)|fail)
      refine AF ?_
      exact ⟨by rw [ev];rfl,hs.AD rfl⟩
     ·rintro v w' ⟨rfl,ho⟩;replace hs:=hs.AK ho;repeat' (first|refine Sd ?_|(refine AU hs (k:=?_);intro w hs)|fail)
      refine AF ?_
      exact ⟨by rw [ev,eb];rfl,hs.AD rfl⟩
 ·refine AF ?_
  refine ⟨?_,hs.AD rfl⟩
  have:DD r n=none:=by unfold DD;rw [if_neg (fun h=>by simp_all)]
  rw [this];rfl
 ·refine AF ?_
  refine ⟨?_,hs.AD rfl⟩
  have:DD r n=none:=by unfold DD;rw [if_neg (fun h=>by simp_all)]
  rw [this];rfl
def EF (n a:Int):Int:=if a < n then a else n
theorem Qo {n a:Int} (h1:BV n) (h2:BV a):BV (EF n a):=by
 unfold EF BV at *;split <;> omega
def IZ:Rq→Nat→List Int→Option (Rq × Nat)
 | r,c,[]=>some (r,c)
 | r,c,n :: l=>match DD r (EF n r.left) with
   | none=>none
   | some (u,b)=>IZ u (c+bif b then 1 else 0) l
def sdV (o:Option (Rq × Nat)):Value:=match o with
 | none => .tuple #[rv .zero,.int .i64 0,.bool false]
 | some (u,c) => .tuple #[rv u,.int .i64 c,.bool true]
theorem Tu {r u:Rq} {n:Int} {b:Bool} (hr:r.In) (hn:BV n) (h:DD r n=some (u,b)):u.In:=by
 unfold DD at h
 split at h
 ·rename_i h1
  cases hp:Lv r.i.p (n*1048576) with
  | none=>rw [hp] at h;cases h
  | some p =>
    rw [hp] at h
    obtain ⟨v,hv,h⟩:=Option.map_eq_some_iff.1 h
    cases h
    exact (M8 (Wo hr (at_some hp).1 hn.1 h1.2.2) hv).1
 ·cases h
theorem Vp {r:Rq} {c:Nat} {n:Int} {l:List Int}:IZ r c (n :: l)=match DD r (EF n r.left) with
 | none=>none
 | some (u,b)=>IZ u (c+bif b then 1 else 0) l:=rfl
theorem Xf (r:Rq) (ns:List Int) (sl:Value) (hr:r.In) (hn:∀ n∈ns,BV n) (hm:ns.length≤1000000) (w0:World) (hL:Cn w0 22 1 sl (ns.map fun n=>[.int .u64 n])) :
 AM Tryz.prog 255 #[rv r,sl] w0 fun v w'=>v=sdV (IZ r 0 ns)∧AA [] w0 w':=by
 obtain ⟨ad,cap,rfl,hD⟩:=hL
 rw [List.length_map] at *
 have hs:=St.nil w0
 refine AQ Tryz.func255 Tryz.ntmps255 (k:=?_)
 refine Ag ?_
 refine Al ?_
 refine bx hs (k:=?_);intro b2 w hz hs
 refine al hs (k:=?_);intro b4 w hz hs
 refine Ja ?_
 refine BN (fun (s:Rq × Nat)=>[(2,.pointer (some ⟨b2,0,none⟩)),(4,.pointer (some ⟨b4,0,none⟩)),(7,.int .i64 (s.2:Nat))]) (fun s w=>St w0 D0 [(b4,.cells Rq.zero.cells.toArray 66,true),(b2,.cells s.1.cells.toArray 66,true)] w∧IZ r 0 ns=some s) ?_ ?_
 ·refine BD (fun (s:Nat × Rq × Nat)=>[(2,.pointer (some ⟨b2,0,none⟩)),(4,.pointer (some ⟨b4,0,none⟩)),(7,.int .i64 (s.2.2:Nat)),(13,.slice ad ns.length cap),(14,.int .i64 (ns.length:Nat)),(15,.int .i64 (s.1:Nat))])
   (fun s w=>s.1≤ns.length∧s.2.2≤s.1∧s.2.1.In∧IZ r 0 ns=IZ s.2.1 s.2.2 (ns.drop s.1)∧St w0 D0 [(b4,.cells Rq.zero.cells.toArray 66,true),(b2,.cells s.2.1.cells.toArray 66,true)] w) (fun s=>ns.length - s.1) (0,r,0) Ab ⟨Nat.zero_le _,Nat.le_refl _,hr,rfl,hs⟩ fun s env wl ⟨hi,hc0,hu,hv,hs⟩=>?_
  obtain ⟨i,u,c⟩:=s
  simp only at hi hc0 hu hv hs
  repeat' (first|refine Sa ?_|refine Au rfl (fun hc=>?_) fun hc=>?_|fail)
  ·have hlt:i < ns.length:=by omega
   obtain ⟨b,off,cs,fz,rfl,_,hb,hcs⟩:=hD (fun h=>by simp at h;subst h;cases hlt)
   have hpk:=hcs i [.int .u64 ns[i]] (by rw [List.getElem?_map,List.getElem?_eq_getElem hlt];rfl)
   have ei:=D2 (m:=ns.length) hlt om
   have ec:=D2 (i:=c) (m:=ns.length) om om
   have ed:ns.drop i=ns[i] :: ns.drop (i+1):=List.drop_eq_getElem_cons hlt
   have hnn:=hn _ (List.getElem_mem hlt)
   rw [ed,Vp] at hv
   generalize ns[i]=n at *
   refine ix (h0:=(by omega)) (h1:=(by omega)) (k:=?_)
   refine lh ((hs.AD rfl).block hb (by simp)) (by cases hpk;assumption) (k:=?_)
   refine Ja ?_
   have hin:∀ x y,DD u (EF n u.left)=some (x,y)→x.In:=fun x y h=>Tu hu (Qo hnn hu.2.1) h
   refine cl (h:=by exact Rt u (EF n u.left) hu (Qo hnn hu.2.1) _) (k:=?_)
   generalize DD u (EF n u.left)=o at *
   rcases o with _ | ⟨u',b'⟩
   ·simp only at hv
    rintro v w' ⟨rfl,ho⟩;replace hs:=hs.AK ho;repeat' (first|refine Sc ?_|(refine AU hs (k:=?_);intro w hs)|(refine al hs (k:=?_);intro b w hz hs)|fail)
    refine AF ?_
    exact ⟨by rw [hv];rfl,hs.AD rfl⟩
   ·simp only at hv
    have Gu:=hin _ _ rfl
    cases b'
    ·rintro v w' ⟨rfl,ho⟩;replace hs:=hs.AK ho;repeat' (first|refine Sd ?_|(refine AU hs (k:=?_);intro w hs)|(refine al hs (k:=?_);intro b w hz hs)|fail)
     exact A2 (i+1,u',c) (by show ns.length - (i+1) < ns.length - i;omega) (by (repeat (first | exact Ac | (apply A5;first | exact rfl | exact congrArg (Value.int .i64) ei)))) ⟨by show i+1≤_;omega,by show c≤i+1;omega,Gu,by rw [hv];rfl,hs.Bt⟩
    ·rintro v w' ⟨rfl,ho⟩;replace hs:=hs.AK ho;repeat' (first|refine vs (k:=?_)|refine Al ?_|refine Nx.h ?_|refine Ew ?_|refine ES ?_|(refine AU hs (k:=?_);intro w hs)|(refine al hs (k:=?_);intro b w hz hs)|fail)
     exact A2 (i+1,u',c+1) (by show ns.length - (i+1) < ns.length - i;omega) (by (repeat (first | exact Ac | (apply A5;first | exact rfl | exact congrArg (Value.int .i64) ei | exact congrArg (Value.int .i64) ec)))) ⟨by show i+1≤_;omega,by show c+1≤i+1;omega,Gu,by rw [hv];rfl,hs.Bt⟩
  ·have e:i=ns.length:=by omega
   subst e
   rw [List.drop_length] at hv
   exact Ar (u,c) Ab ⟨hs,hv⟩
 ·clear hs
  rintro ⟨u,c⟩ env w ⟨hs,hv⟩
  simp only at hs
  rw [hv]
  repeat' (first|refine Sa ?_|(refine AU hs (k:=?_);intro w hs)|fail)
  refine AF ?_
  exact ⟨rfl,hs.AD rfl⟩
end Go.Proofs.Q0
namespace Go.Proofs.Q0
open Go Go.RowKit
abbrev RT:={r:Rq // r.In}
def Az (r:RT):Int:=r.1.i.id
def Cl (l:List RT):Prop:=(l.map Az).Pairwise (· < ·)
def Ah (l:List RT) (i:Int):Option RT:=l.find? fun a=>decide (Az a=i)
def CF (r:RT):List RT→List RT
 | []=>[r]
 | a :: l=>if Az r < Az a then r :: a :: l else if Az r=Az a then r :: l else a :: CF r l
def Dh (i:Int) (l:List RT):List RT:=l.filter fun a=>decide (Az a≠i)
def rvals (l:List RT):Int→Option Value:=fun i=>(Ah l i).map fun a=>rv a.1
theorem Tr (i:Int):Ah [] i=none:=rfl
theorem Cv (a:RT) (l:List RT) (i:Int):Ah (a :: l) i=if Az a=i then some a else Ah l i:=by
 unfold Ah
 rw [List.find?_cons]
 by_cases h:Az a=i
 ·rw [if_pos h,decide_eq_true h]
 ·rw [if_neg h,decide_eq_false h]
theorem KL (r:RT) (i:Int):∀ l:List RT,Ah (CF r l) i=if i=Az r then some r else Ah l i
 | []=>by
   unfold CF
   rw [Cv,Tr]
   by_cases h:i=Az r
   ·rw [if_pos h,if_pos h.symm]
   ·rw [if_neg h,if_neg (fun e=>h e.symm)]
 | a :: l=>by
   unfold CF
   split
   ·rw [Cv]
    by_cases h:i=Az r
    ·rw [if_pos h,if_pos h.symm]
    ·rw [if_neg h,if_neg (fun e=>h e.symm)]
   ·split
    ·rename_i h1 h2
     rw [Cv,Cv]
     by_cases h:i=Az r
     ·rw [if_pos h,if_pos h.symm]
     ·rw [if_neg h,if_neg (fun e=>h e.symm),if_neg (fun e=>h om)]
    ·rename_i h1 h2
     rw [Cv,Cv,KL r i l]
     by_cases h:i=Az r
     ·rw [if_pos h,if_pos h,if_neg om]
     ·rw [if_neg h,if_neg h]
theorem UO (k i:Int):∀ l:List RT,Ah (Dh k l) i=if i=k then none else Ah l i
 | []=>by unfold Dh;rw [List.filter_nil,Tr];split <;> rfl
 | a :: l=>by
   have ih:=UO k i l
   unfold Dh at ih ⊢
   rw [List.filter_cons]
   by_cases h:Az a=k
   ·rw [if_neg (by simp [h]),ih,Cv]
    by_cases hi:i=k
    ·rw [if_pos hi,if_pos hi]
    ·rw [if_neg hi,if_neg hi,if_neg (fun e=>hi om)]
   ·rw [if_pos (by simp [h]),Cv,Cv,ih]
    by_cases hi:i=k
    ·rw [if_pos hi,if_pos hi,if_neg om]
    ·rw [if_neg hi,if_neg hi]
theorem Cl.tail {a:RT} {l:List RT} (h:Cl (a :: l)):Cl l:=by
 unfold Cl at *;rw [List.map_cons,List.pairwise_cons] at h;exact h.2
theorem Cl.head {a:RT} {l:List RT} (h:Cl (a :: l)):∀ b∈l,Az a < Az b:=fun b hb=>by
 unfold Cl at *;rw [List.map_cons,List.pairwise_cons] at h;exact h.1 _ (List.mem_map_of_mem hb)
theorem Cl.cons {a:RT} {l:List RT} (h:Cl l) (hd:∀ b∈l,Az a < Az b):Cl (a :: l):=by
 unfold Cl at *;rw [List.map_cons,List.pairwise_cons]
 exact ⟨fun x hx=>by obtain ⟨b,hb,rfl⟩:=List.mem_map.1 hx;exact hd b hb,h⟩
theorem CA {l:List RT} {i:Int} {a:RT} (h:Ah l i=some a):a∈l∧Az a=i:=by
 unfold Ah at h
 exact ⟨List.mem_of_find?_eq_some h,by simpa using List.find?_some h⟩
theorem U1 {l:List RT} {a:RT} (h:a∈l):(Ah l (Az a)).isSome=true:=by
 unfold Ah
 rw [List.find?_isSome]
 exact ⟨a,h,by simp⟩
theorem RD {l:List RT} {i:Int} (h:∀ b∈l,i < Az b):Ah l i=none:=by
 cases e:Ah l i with
 | none=>rfl
 | some a=>obtain ⟨h1,h2⟩:=CA e;have:=h a h1;omega
theorem MP {r b:RT}:∀ {l:List RT},b∈CF r l→b=r∨b∈l
 | [],h=>by simpa [CF] using h
 | a :: l,h=>by
   unfold CF at h
   split at h
   ·simpa using h
   ·split at h
    ·rcases List.mem_cons.1 h with h | h
     ·exact .inl h
     ·exact .inr (List.mem_cons_of_mem _ h)
    ·rcases List.mem_cons.1 h with h | h
     ·exact .inr (h ▸ List.mem_cons_self)
     ·rcases MP h with h | h
      ·exact .inl h
      ·exact .inr (List.mem_cons_of_mem _ h)
theorem ord_put {r:RT}:∀ {l:List RT},Cl l→Cl (CF r l)
 | [],h=>by show Cl [r];exact Cl.cons h (by simp)
 | a :: l,h=>by
   unfold CF
   split
   ·rename_i h1
    refine h.cons fun b hb=>?_
    rcases List.mem_cons.1 hb with rfl | hb
    ·exact h1
    ·have:=h.head b hb;omega
   ·split
    ·rename_i h1 h2
     exact h.tail.cons fun b hb=>by have:=h.head b hb;omega
    ·rename_i h1 h2
     refine (ord_put h.tail).cons fun b hb=>?_
     rcases MP hb with rfl | hb
     ·omega
     ·exact h.head b hb
theorem TD {r:RT}:∀ {l:List RT},Cl l→(CF r l).length=if (Ah l (Az r)).isSome then l.length else l.length+1
 | [],h=>rfl
 | a :: l,h=>by
   unfold CF
   split
   ·rename_i h1
    rw [RD (fun b hb=>by
     rcases List.mem_cons.1 hb with rfl | hb
     ·exact h1
     ·have:=h.head b hb;omega)]
    rfl
   ·split
    ·rename_i h1 h2
     rw [Cv,if_pos h2.symm];rfl
    ·rename_i h1 h2
     have e1:Ah (a :: l) (Az r)=Ah l (Az r):=by rw [Cv];exact if_neg fun e=>h2 e.symm
     rw [e1,List.length_cons,TD h.tail]
     cases (Ah l (Az r)).isSome <;> simp
theorem YQ {i:Int} {l:List RT} (h:Cl l):Cl (Dh i l):=by
 unfold Cl Dh at *
 exact h.sublist (List.filter_sublist.map _)
theorem TV {i:Int}:∀ {l:List RT},Cl l→(Dh i l).length=if (Ah l i).isSome then l.length - 1 else l.length
 | [],h=>rfl
 | a :: l,h=>by
   have ih:=TV (i:=i) h.tail
   unfold Dh at ih ⊢
   rw [List.filter_cons,Cv]
   by_cases e:Az a=i
   ·rw [if_neg (by simp [e]),if_pos e,ih,RD (fun b hb=>by have:=h.head b hb;omega)]
    rfl
   ·rw [if_pos (by simp [e]),if_neg e,List.length_cons,ih]
    cases hf:Ah l i with
    | none=>rfl
    | some b =>
      have h1:=(CA hf).1
      cases l with
      | nil=>cases h1
      | cons c l=>simp
theorem Tx (r:RT) (l:List RT):Iy (rvals l) (Az r) (some (rv r.1))=rvals (CF r l):=by
 funext i
 unfold Iy rvals
 rw [KL]
 by_cases h:i=Az r
 ·rw [if_pos h,decide_eq_true h];rfl
 ·rw [if_neg h,decide_eq_false h];rfl
theorem cP (k:Int) (l:List RT):Iy (rvals l) k none=rvals (Dh k l):=by
 funext i
 unfold Iy rvals
 rw [UO]
 by_cases h:i=k
 ·rw [if_pos h,decide_eq_true h];rfl
 ·rw [if_neg h,decide_eq_false h];rfl
theorem HX (l:List RT) (i:Int):(rvals l i).isSome=(Ah l i).isSome:=by unfold rvals;cases Ah l i <;> rfl
def DH (l:List RT) (i:Int):Rq:=match Ah l i with | some a=>a.1 | none => .zero
theorem L4 (l:List RT) (i:Int):(rvals l i).getD (rv .zero)=rv (DH l i):=by unfold rvals DH;cases Ah l i <;> rfl
theorem ids_iff (l:List RT) (x:Int):x∈l.map Az↔In64 x∧(rvals l x).isSome=true:=by
 rw [HX]
 constructor
 ·intro h
  obtain ⟨a,ha,rfl⟩:=List.mem_map.1 h
  exact ⟨a.2.1.2.1,U1 ha⟩
 ·rintro ⟨_,h⟩
  cases e:Ah l x with
  | none=>rw [e] at h;cases h
  | some a=>obtain ⟨h1,h2⟩:=CA e;exact List.mem_map.2 ⟨a,h1,h2⟩
theorem Ct {l:List RT} (h:Cl l) {a:RT} (ha:a∈l):Ah l (Az a)=some a:=by
 induction l with
 | nil=>cases ha
 | cons b l ih =>
   rw [Cv]
   rcases List.mem_cons.1 ha with rfl | ha
   ·rw [if_pos rfl]
   ·have:=h.head a ha
    rw [if_neg om]
    exact ih h.tail ha
end Go.Proofs.Q0
namespace Go.Proofs.Q0
open Go Go.RowKit
attribute [local irreducible] XS XC XA AX AO A7 A0 AZ A8 Aa AV SE
def eV (w:World) (sl:Value) (xs:List Int):Prop :=
 ∃ ad cap,sl = .slice ad xs.length cap∧(xs≠[]→∃ (b off:Nat) (cs:List Value) (E:TypeId) (fz:Nat × Nat),ad=some ⟨b,off,none⟩∧w.heap[b]?=some (.cells cs.toArray E fz) ∧
  ∀ (i:Nat) (x:Int),xs[i]?=some x→cs[off+i*2]?=some (.int .i64 (x / 18446744073709551616))∧cs[off+i*2+1]?=some (.int .u64 (x % 18446744073709551616)))
def psum (xs:List Int) (i:Nat):Int:=(xs.take i).sum
theorem iR {xs:List Int} {i:Nat} {x:Int} (h:xs[i]?=some x):psum xs (i+1)=psum xs i+x:=by
 unfold psum
 rw [List.take_add_one,h,List.sum_append]
 simp
theorem UA (xs:List Int):psum xs 0=0:=by simp [psum]
theorem Qn:A9 0:=by unfold A9;omega
def K5 (xs:List Int) (n:Nat):Prop:=∀ j,j≤n→A9 (psum xs j)
theorem K5.zero (xs:List Int):K5 xs 0:=fun j hj=>by
 have h0:j=0:=Nat.le_zero.1 hj
 rw [h0,UA]
 exact Qn
theorem K5.succ {xs:List Int} {n:Nat} (h:K5 xs n) (h1:A9 (psum xs (n+1))):K5 xs (n+1):=fun j hj=>by
 rcases Nat.lt_or_ge n j with h2 | h2
 ·obtain rfl:j=n+1:=by omega
  exact h1
 ·exact h j h2
theorem uM {i m:Nat} (h:i < m) (hm:m≤9223372036854775807):IntKind.i64.wrap ((i:Int)+1)=((i+1:Nat):Int):=by
 rw [wrap_i64];omega
theorem rN (xs:List Int) (sl:Value) (hin:∀ (i:Nat) (x:Int),xs[i]?=some x→A9 x) (hm:xs.length≤9223372036854775807) (w0:World) (hW:eV w0 sl xs):AM Tryz.prog 193 #[sl] w0 fun v w' =>
 (K5 xs xs.length∧v = .tuple #[wv (psum xs xs.length),.bool true]∨(∃ j,j≤xs.length∧¬ A9 (psum xs j))∧v = .tuple #[wv 0,.bool false])∧AA [] w0 w':=by
 obtain ⟨ad,cap,rfl,hD⟩:=hW
 have hs:=St.nil w0
 refine AQ Tryz.func193 Tryz.ntmps193 (k:=?_)
 refine Ag ?_
 refine Al ?_
 refine al hs (k:=?_);intro b2 w hz hs
 refine vs (k:=?_)
 refine XS.nil ?_
 refine Dw ?_
 refine Ag ?_
 refine Al ?_
 refine al hs (k:=?_);intro b4 w hz hs
 refine Ja ?_
 refine BN (fun (_:Unit)=>[(2,.pointer (some ⟨b2,0,none⟩)),(4,.pointer (some ⟨b4,0,none⟩))])
  (fun _ w=>K5 xs xs.length∧St w0 D0 [(b4,.cells #[.int .i64 (psum xs xs.length / 18446744073709551616),.int .u64 (psum xs xs.length % 18446744073709551616)] 70,true),(b2,.cells #[.int .i64 0,.int .u64 0] 70,true)] w) ?_ ?_
 ·refine BD (fun (i:Nat)=>[(2,.pointer (some ⟨b2,0,none⟩)),(4,.pointer (some ⟨b4,0,none⟩)),(9,.slice ad xs.length cap),(10,.int .i64 (xs.length:Nat)),(11,.int .i64 (i:Nat))])
   (fun i w=>i≤xs.length∧K5 xs i∧St w0 D0 [(b4,.cells #[.int .i64 (psum xs i / 18446744073709551616),.int .u64 (psum xs i % 18446744073709551616)] 70,true),(b2,.cells #[.int .i64 0,.int .u64 0] 70,true)] w)
   (fun i=>xs.length - i) 0 Ab ⟨Nat.zero_le _,K5.zero xs,by rw [UA];exact hs⟩ fun i env w ⟨hi,hf,hs⟩=>?_
  repeat' (first|refine Sa ?_|refine Au rfl (fun hc=>?_) fun hc=>?_|fail)
  ·have hlt:i < xs.length:=by omega
   obtain ⟨b,off,cs,E,fz,rfl,hb,hcs⟩:=hD (fun h=>by subst h;cases hlt)
   obtain ⟨h0,h1⟩:=hcs i _ (List.getElem?_eq_getElem hlt)
   have hx:=hin i _ (List.getElem?_eq_getElem hlt)
   have hps:=iR (List.getElem?_eq_getElem hlt)
   generalize xs[i]=x at *
   refine ix (h0:=(by omega)) (h1:=(by omega)) (k:=?_)
   refine lh2 ((hs.AD rfl).block hb (by simp)) h0 h1 (k:=?_)
   refine al hs (k:=?_);intro b6 w hz hs
   repeat' (first|refine Sa ?_|(refine AU hs (k:=?_);intro w hs)|fail)
   refine AY hs (h:=by exact PI (psum xs i) x (hf i (Nat.le_refl _)) hx _) (k:=?_);intro w' ho hs
   rcases Xh (psum xs i+x) with ⟨lT,e⟩ | ⟨lT,e⟩
   ·rw [e]
    repeat' (first|refine Sd ?_|(refine AU hs (k:=?_);intro w hs)|(refine al hs (k:=?_);intro b w hz hs)|fail)
    have ei:=uM hlt hm
    exact A2 (i+1) om (by (repeat (first | exact Ac | (apply A5;first | exact rfl | exact congrArg (Value.int .i64) ei)))) ⟨by omega,hf.succ (by rw [hps];exact lT),by rw [hps];exact hs.Bt.Bt⟩
   ·rw [e]
    repeat' (first|refine Sc ?_|(refine AU hs (k:=?_);intro w hs)|(refine al hs (k:=?_);intro b w hz hs)|fail)
    refine AF ?_
    exact ⟨.inr ⟨⟨i+1,hlt,by rw [hps];exact lT⟩,rfl⟩,hs.AD rfl⟩
  ·have e:i=xs.length:=by omega
   rw [e] at hf hs
   exact Ar () Ab ⟨hf,hs⟩
 ·rintro _ env w ⟨hf,hs⟩
  repeat' (first|refine Sa ?_|(refine AU hs (k:=?_);intro w hs)|fail)
  refine AF ?_
  exact ⟨.inl ⟨hf,rfl⟩,hs.AD rfl⟩
end Go.Proofs.Q0
