/- A part of the proof: what its functions compute. -/
import Derived.Test.YtjiiakjheghcoaaGreatDoorGc3
set_option linter.unusedVariables false
set_option linter.unusedSimpArgs false
set_option maxRecDepth 100000
set_option maxHeartbeats 64000000
set_option linter.unusedSectionVars false
namespace Go.Proofs.Q0
open Go Go.RowKit
attribute [local irreducible] XS XC XA AZ AP Aa A1 A0 A8 Ad AW SE
theorem B7.app {w w':World} {v':Value} {xs:List Int} {x:Int} {G:List Nat} (h:B7 w 3 1 v' (xs.length+1) (ints xs ++ [.int .i64 x]) G):B7 w 3 1 v' (xs ++ [x]).length (ints (xs ++ [x])) G:=by
 rw [List.length_append,← gS]
 exact h
theorem Gd:∀ (t:RB Int) (p:Option Addr) (v0:Value) (xs:List Int) (G:List Nat) (w0:World) (h:GV w0 t p) (hO:B7 w0 3 1 v0 xs.length (ints xs) G) (hlen:xs.length+t.list.length≤1000000),
 AO Tryz.prog 304 #[.pointer p,v0] w0 fun v w'=>∃ G',B7 w' 3 1 v (xs ++ t.list).length (ints (xs ++ t.list)) G'∧(∀ k∈G',k∈G∨w0.heap.size≤k)∧AA G w0 w'
 | .nil,p,v0,xs,G,w0,h,hO,hlen=>by
   have hp:p=none:=h
   subst hp
   have hs:=St.nil w0
   refine AR Tryz.func304 Tryz.ntmps304 (k:=?_)
   refine Je ?_
   refine AG ?_
   have ho:=hs.AD rfl
   rw [show xs ++ RB.nil.list=xs from List.append_nil xs]
   exact ⟨G,hO.keep ho (by simp),fun k hk => .inl hk,ho.weaken (by simp)⟩
 | .node l x r c,p,v0,xs,G,w0,⟨b,av,pl,pr,hp,hb,hl,hr⟩,hO,hlen=>by
   subst hp
   simp only [RB.list,List.length_append,List.length_cons] at hlen
   have hs:=(St.nil w0).AH hb (by simp)
   refine AR Tryz.func304 Tryz.ntmps304 (k:=?_)
   refine Jd ?_
   refine dr [] hs (k:=?_);intro hX w hs
   refine tks 0 9 ?_
   refine tks 10 4 ?_
   have fin:∀ (b2:Nat) (w3:World) (v1:Value) (G1:List Nat) (M0:B7 w3 3 1 v1 (xs ++ l.list).length (ints (xs ++ l.list)) G1) (NH:∀ k∈G1,k∈G∨w0.heap.size≤k) (AT:AA G w0 w3) (ED:w3.heap[b2]?=some (.cells #[.int .i64 x] 3 (0,0))) (v2:Value) (w4:World) (h4:(∃ G',B7 w4 3 1 v2 ((xs ++ l.list).length+1) (ints (xs ++ l.list) ++ [.int .i64 x]) G'∧∀ i∈G',i∈G1∨w3.heap.size≤i)) (Aw:AA G1 w3 w4),
    AA G w0 w4∧∃ G2,B7 w4 3 1 v2 (xs ++ l.list ++ [x]).length (ints (xs ++ l.list ++ [x])) G2∧(∀ k∈G2,k∈G∨w0.heap.size≤k)∧GV w4 r pr∧w4.heap[b]?=some (Ei x av pl pr c):=by
    intro b2 w3 v1 G1 M0 NH AT ED v2 w4 ⟨G2,K4,K0⟩ Aw
    have hsz:=AT.size
    have hn:=hO.P8
    have Lx:=M0.P8
    have Gx:=AT.block hb (fun hm=>hn b hm _ _ hb)
    refine ⟨AT.step Aw NH,G2,B7.app (w':=w4) K4,fun k hk=>?_,((hr.keep AT hn).keep Aw Lx),Aw.block Gx (fun hm=>Lx b hm _ _ Gx)⟩
    rcases K0 k hk with h | h
    ·exact NH k h
    ·exact .inr om
   have hn:=hO.P8
   have Zb:b∉G:=fun hm=>hn b hm _ _ hb
   have AK:AA [] w0 _:=hs.AB [] (by simp [hb]) (by simp [D0])
   refine HZ 9 14 hX (h1:=?_) (h2:=?_)
   ·refine cl (h:=by exact Gd l pl v0 xs G _ (hl.keep AK (fun b h=>by cases h)) (hO.keep AK (by simp)) om) (k:=?_)
    rintro v1 w1 ⟨G1,M0,NH,AM⟩
    have AT:AA G w0 w1:=(AK.weaken (by simp)).step AM (fun k hk => .inl hk)
    have hsz:=AK.size
    have CN:=AT.block hb Zb
    clear hs
    have hs:=(St.nil w1).AH CN (by simp)
    refine Jb ?_
    refine dn (k:=?_)
    refine dt 14 hX (k:=?_)
    refine bs hs (k:=?_);intro b2 w2 MF hs
    refine Jb ?_
    refine dn (k:=?_)
    refine dt 15 hX (k:=?_)
    have hnew:=hs.new (b2,true) (by simp) rfl
    have Aw:AA [] w1 w2:=hs.AB [] (by simp [CN]) (by simp [D0])
    have aAD:=M0.keep Aw (by simp)
    have ED:=hs.get At.head
    have BY:AA G w0 w2:=AT.step Aw (by simp)
    refine CO AJ rfl rfl rfl rfl rfl rfl rfl (by decide) (lit_cells (news:=[.int .i64 x]) ED) (by simp [Value.oneCell']) aAD (by simp only [List.length_append];omega) (by simp only [List.length_append];omega) ?_
    intro v2 w3 h3 Aq
    obtain ⟨Cb,G2,K4,K0,TE,Gx⟩:=fin b2 w2 v1 G1 aAD (fun k hk=>by rcases NH k hk with h | h;exact .inl h;exact .inr om) BY ED v2 w3 h3 Aq
    clear hs
    have hs:=(St.nil w3).AH Gx (by simp)
    refine Jb ?_
    refine dn (k:=?_)
    refine dt 16 hX (k:=?_)
    refine cl (h:=by exact Gd r pr v2 (xs ++ l.list ++ [x]) G2 _ TE K4 (by simp only [List.length_append,List.length_cons,List.length_nil];omega)) (k:=?_)
    rintro v3 w4 ⟨G3,H8,NU,Eb⟩
    have hb4:=Eb.block Gx (fun hm=>K4.P8 b hm _ _ Gx)
    clear hs
    have hs:=(St.nil w4).AH hb4 (by simp)
    refine Jb ?_
    refine dn (k:=?_)
    refine tk 17 hX (k:=?_)
    refine en (k:=?_)
    refine Jb ?_
    refine AG ?_
    rw [show xs ++ l.list ++ [x] ++ r.list=xs ++ (RB.node l x r c).list by simp [RB.list]] at H8
    have aAw:=Cb.size
    have Lc:AA [] w4 _:=hs.AB [] (by simp [hb4]) (by simp [D0])
    exact ⟨G3,H8.keep Lc (by simp),fun k hk=>by rcases NU k hk with h | h;exact K0 k h;exact .inr om,(Cb.step Eb K0).step Lc (by simp)⟩
   ·refine bs hs (k:=?_);intro b2 w2 MF hs
    refine Jb ?_
    refine dn (k:=?_)
    refine dt 9 hX (k:=?_)
    have hnew:=hs.new (b2,true) (by simp) rfl
    have Aw:AA [] w0 w2:=hs.AB [] (by simp [hb]) (by simp [D0])
    have ED:=hs.get At.head
    refine cl (h:=by exact Gd l pl v0 xs G _ (hl.keep Aw (fun b h=>by cases h)) (hO.keep Aw (by simp)) om) (k:=?_)
    rintro v1 w1 ⟨G1,M0,NH,AM⟩
    have AT:AA G w0 w1:=(Aw.weaken (by simp)).step AM (fun k hk => .inl hk)
    have hsz:=Aw.size
    have CN:=AT.block hb Zb
    have aAf:=AM.block ED (fun hm=>by have:=hO.lt b2 hm;omega)
    clear hs
    have hs:=(St.nil w1).AH CN (by simp)
    refine Jb ?_
    refine dn (k:=?_)
    refine dt 15 hX (k:=?_)
    refine CO AJ rfl rfl rfl rfl rfl rfl rfl (by decide) (lit_cells (news:=[.int .i64 x]) aAf) (by simp [Value.oneCell']) M0 (by simp only [List.length_append];omega) (by simp only [List.length_append];omega) ?_
    intro v2 w3 h3 Aq
    obtain ⟨Cb,G2,K4,K0,TE,Gx⟩:=fin b2 w1 v1 G1 M0 (fun k hk=>by rcases NH k hk with h | h;exact .inl h;exact .inr om) AT aAf v2 w3 h3 Aq
    clear hs
    have hs:=(St.nil w3).AH Gx (by simp)
    refine Jb ?_
    refine dn (k:=?_)
    refine dt 16 hX (k:=?_)
    refine cl (h:=by exact Gd r pr v2 (xs ++ l.list ++ [x]) G2 _ TE K4 (by simp only [List.length_append,List.length_cons,List.length_nil];omega)) (k:=?_)
    rintro v3 w4 ⟨G3,H8,NU,Eb⟩
    have hb4:=Eb.block Gx (fun hm=>K4.P8 b hm _ _ Gx)
    clear hs
    have hs:=(St.nil w4).AH hb4 (by simp)
    refine Jb ?_
    refine dn (k:=?_)
    refine tk 17 hX (k:=?_)
    refine en (k:=?_)
    refine Jb ?_
    refine AG ?_
    rw [show xs ++ l.list ++ [x] ++ r.list=xs ++ (RB.node l x r c).list by simp [RB.list]] at H8
    have aAw:=Cb.size
    have Lc:AA [] w4 _:=hs.AB [] (by simp [hb4]) (by simp [D0])
    exact ⟨G3,H8.keep Lc (by simp),fun k hk=>by rcases NU k hk with h | h;exact K0 k h;exact .inr om,(Cb.step Eb K0).step Lc (by simp)⟩
theorem Oj (tb:Nat) (t:RB Int) (F:List Nat) (w0:World) (h:Ck w0 tb t F) (hlen:t.list.length≤1000000) :
 AO Tryz.prog 291 #[.pointer (some ⟨tb,0,none⟩)] w0 fun v w'=>HW w' v t.list∧AA [] w0 w':=by
 obtain ⟨p,fp,rfl,hT,ht,hnd⟩:=h
 have hs:=(St.nil w0).AH hT (by simp)
 refine AR Tryz.func291 Tryz.ntmps291 (k:=?_)
 refine Jd ?_
 refine cl (h:=by exact Gd t p _ [] [] _ (ht.shape.keep (hs.AB [] (by simp [hT]) (by simp [D0])) (fun b h=>by cases h)) (.inl ⟨rfl,rfl,rfl,rfl⟩) (by simpa using hlen)) (k:=?_)
 rintro v w' ⟨G,hO,_,ho⟩
 replace hs:=hs.AN ho
 rw [List.nil_append] at hO
 obtain ⟨ad,cap,rfl,hd⟩:=hO.dat
 obtain ⟨R,hs,hd⟩:=(show HW w' (.slice ad t.list.length cap) t.list from ⟨ad,cap,rfl,hd⟩).read hs rfl
 refine Jc ?_
 refine AG ?_
 exact ⟨(hd _ (fun e he=>hs.ro e (by simp [he]))),hs.AB [] (by simp [hT]) (by simp [D0])⟩
theorem XU {A B:List Int} {i:Nat} (h:A.take i=B.take i) (hA:i < A.length) (hB:i < B.length) (he:A[i]=B[i]):A.take (i+1)=B.take (i+1):=by
 rw [List.take_add_one,List.take_add_one,h,List.getElem?_eq_getElem hA,List.getElem?_eq_getElem hB,he]
theorem wJ {i m:Nat} (h:i < m) (hm:m≤9223372036854775807):IntKind.i64.wrap ((i:Int)+1)=((i+1:Nat):Int):=by
 have e1:(i:Int)+1=((i+1:Nat):Int):=by omega
 rw [e1]
 exact Ke om om
theorem nD (va vb:Value) (A B:List Int) (hm:A.length≤9223372036854775807) (w0:World) (hA:HW w0 va A) (hB:HW w0 vb B) :
 AO Tryz.prog 23 #[va,vb] w0 fun v w'=>v = .bool (decide (A=B))∧AA [] w0 w':=by
 obtain ⟨Si,ca,rfl,hA⟩:=hA
 obtain ⟨TI,cb,rfl,hB⟩:=hB
 have hs:=St.nil w0
 refine AR Tryz.func23 Tryz.ntmps23 (k:=?_)
 repeat' (first|refine Sa ?_|refine xc_cond rfl (fun hc=>?_) fun hc=>?_|fail)
 ·refine AG ?_
  refine ⟨congrArg Value.bool ?_,hs.AD rfl⟩
  have hne:A≠B:=fun e=>by subst e;simp at hc
  exact (decide_eq_false hne).symm
 ·have MK:A.length=B.length:=by
   have h:((A.length:Nat):Int)=B.length:=by simpa using hc
   omega
  refine BS (fun _:Unit=>[]) (fun _ w=>A=B∧AA [] w0 w) ?_ ?_
  ·refine BG (fun (i:Nat)=>[(0,.slice Si A.length ca),(1,.slice TI B.length cb),(12,.int .i64 (A.length:Nat)),(13,.int .i64 (i:Nat))])
    (fun i w=>i≤A.length∧A.take i=B.take i∧AA [] w0 w)
    (fun i=>A.length - i) 0 Ae ⟨Nat.zero_le _,by simp,hs.AD rfl⟩ fun i env w ⟨hi,ht,ho⟩=>?_
   clear hs
   have hs:=St.nil w
   repeat' (first|refine Sa ?_|refine Ax rfl (fun hc=>?_) fun hc=>?_|fail)
   ·have hlt:i < A.length:=by omega
    have Il:i < B.length:=by omega
    obtain ⟨ba,oa,lW,fa,rfl,a2,a3,a4⟩:=hA (fun h=>by subst h;simp at hlt)
    obtain ⟨bb,ob,fV,fb,rfl,b2,b3,b4⟩:=hB (fun h=>by subst h;simp at Il)
    have ga:=a4 i _ (List.getElem?_eq_getElem hlt)
    have gb:=b4 i _ (List.getElem?_eq_getElem Il)
    have a3:=ho.block a3 (by simp)
    have b3:=ho.block b3 (by simp)
    have key:A[i]=B[i]→A.take (i+1)=B.take (i+1):=XU ht hlt Il
    have JE:A[i]≠B[i]→A≠B:=fun h e=>h (by subst e;rfl)
    have ei:=wJ hlt hm
    have ga':lW[oa+((i:Nat):Int).toNat*1]?=some (.int .i64 A[i]):=by simpa using ga
    have gb':fV[ob+((i:Nat):Int).toNat*1]?=some (.int .i64 B[i]):=by simpa using gb
    generalize A[i]=x at *
    generalize B[i]=y at *
    by_cases e:ba=bb
    ·subst e
     rw [a3] at b3
     cases b3
     replace hs:=hs.AH a3 (by simp)
     refine dr [] hs (k:=?_);intro hX w hs
     refine tks 0 2 ?_
     refine tk 2 hX (hr:=fun w' hH=>BJ AJ rfl rfl rfl om om) (k:=?_)
     refine tk 3 hX (v := .int .i64 x) (hr:=fun w' hH=>r_load AJ rfl rfl (hH rfl) At.head ga') (k:=?_)
     refine tks 4 2 ?_
     refine tk 6 hX (hr:=fun w' hH=>BJ AJ rfl rfl rfl om om) (k:=?_)
     refine tk 7 hX (v := .int .i64 y) (hr:=fun w' hH=>r_load AJ rfl rfl (hH rfl) At.head gb') (k:=?_)
     refine tk 8 hX (k:=?_)
     refine en (k:=?_)
     repeat' (first|refine Sa ?_|refine xc_cond rfl (fun hc=>?_) fun hc=>?_|fail)
     ·refine AG ?_
      exact ⟨congrArg Value.bool (decide_eq_false (JE (by simpa using hc))).symm,ho.step (hs.AB [] (by simp [a3]) (by simp [D0])) (by simp)⟩
     ·exact A4 (i+1) om (by (repeat (first | exact Ak | (apply Ac;first | exact rfl | exact congrArg (Value.int .i64) ei)))) ⟨by omega,key (by simpa using hc),ho.step (hs.AB [] (by simp [a3]) (by simp [D0])) (by simp)⟩
    ·replace hs:=(hs.AH a3 (by simp)).AH b3 (by simpa using Ne.symm e)
     refine dr [] hs (k:=?_);intro hX w hs
     refine tks 0 2 ?_
     refine tk 2 hX (hr:=fun w' hH=>BJ AJ rfl rfl rfl om om) (k:=?_)
     refine tk 3 hX (v := .int .i64 x) (hr:=fun w' hH=>r_load AJ rfl rfl (hH rfl) (At.tail At.head) ga') (k:=?_)
     refine tks 4 2 ?_
     refine tk 6 hX (hr:=fun w' hH=>BJ AJ rfl rfl rfl om om) (k:=?_)
     refine tk 7 hX (v := .int .i64 y) (hr:=fun w' hH=>r_load AJ rfl rfl (hH rfl) At.head gb') (k:=?_)
     refine tk 8 hX (k:=?_)
     refine en (k:=?_)
     repeat' (first|refine Sa ?_|refine xc_cond rfl (fun hc=>?_) fun hc=>?_|fail)
     ·refine AG ?_
      exact ⟨congrArg Value.bool (decide_eq_false (JE (by simpa using hc))).symm,ho.step (hs.AB [] (by simp [a3,b3]) (by simp [D0])) (by simp)⟩
     ·exact A4 (i+1) om (by (repeat (first | exact Ak | (apply Ac;first | exact rfl | exact congrArg (Value.int .i64) ei)))) ⟨by omega,key (by simpa using hc),ho.step (hs.AB [] (by simp [a3,b3]) (by simp [D0])) (by simp)⟩
   ·have e:i=A.length:=by omega
    have TP:A=B:=by
     have h1:A.take i=A:=List.take_of_length_le om
     have h2:B.take i=B:=List.take_of_length_le om
     rw [← h1,ht,h2]
    exact Au () Ae ⟨TP,ho.step (hs.AD rfl) (by simp)⟩
  ·rintro _ env w ⟨rfl,ho⟩
   clear hs
   have hs:=St.nil w
   refine Ja ?_
   refine AG ?_
   exact ⟨congrArg Value.bool (decide_eq_true rfl).symm,ho.step (hs.AD rfl) (by simp)⟩
theorem Ck.only {w w':World} {tb:Nat} {t:RB Int} {F:List Nat} (h:Ck w tb t F) (ho:AA [] w w'):Ck w' tb t F:=by
 obtain ⟨p,fp,h1,h2,h3,h4⟩:=h
 exact ⟨p,fp,h1,ho.block h2 (by simp),h3.keep ho (AL.nil w) (by simp),h4⟩
def Kt (w0:World) (F:List Nat):Prop:=∀ k∈F,w0.heap.size≤k
theorem Kt.step {w0 w:World} {F F':List Nat} (h:Kt w0 F) (ho:AA [] w0 w) (hs:∀ k∈F',k∈F∨w.heap.size≤k):Kt w0 F':=fun k hk=>by
 have:=ho.size
 rcases hs k hk with h' | h'
 ·exact h k h'
 ·omega
theorem AA.news {w0 w w':World} {F:List Nat} (ho:AA [] w0 w) (h:Kt w0 F) (ho':AA F w w'):AA [] w0 w':=ho.step ho' fun k hk => .inr (h k hk)
theorem cJ (w0:World):AO Tryz.prog 283 #[] w0 fun v w'=>v = .bool true∧AA [] w0 w':=by
 have hs:=St.nil w0
 refine AR Tryz.func283 Tryz.ntmps283 (k:=?_)
 refine Ja ?_
 refine cl (h:=by exact jD _) (k:=?_)
 rintro v w1 ⟨tb,F0,rfl,h0,hn,ho⟩
 have o0:AA [] w0 w1:=(hs.AD rfl).step ho (by simp)
 have n0:Kt w0 F0:=fun k hk=>Nat.le_trans (hs.AD rfl).size (hn k hk)
 clear hs
 have hs:=St.nil w1
 refine Jd ?_
 have oo:=hs.AD rfl
 refine cl (h:=by exact GO tb .nil F0 3 _ (h0.only oo) (by decide)) (k:=?_)
 rintro v w2 ⟨rfl,F1,h1,s1,o1⟩
 have n1:=n0.step (o0.step oo (by simp)) s1
 have o2:=(o0.step oo (by simp)).news n0 o1
 rw [show RB.has Hf 3 (RB.nil:RB Int)=false from rfl]
 clear hs oo
 have hs:=St.nil w2
 refine Jf ?_
 have oo:=hs.AD rfl
 refine cl (h:=by exact GO tb _ F1 1 _ (h1.only oo) (by decide)) (k:=?_)
 rintro v w3 ⟨rfl,F2,h2,s2,o3⟩
 have n2:=n1.step (o2.step oo (by simp)) s2
 have o4:=(o2.step oo (by simp)).news n1 o3
 rw [show RB.has Hf 1 (RB.insert RB.nil 3)=false by decide]
 clear hs oo
 have hs:=St.nil w3
 refine Jf ?_
 have oo:=hs.AD rfl
 refine cl (h:=by exact GO tb _ F2 2 _ (h2.only oo) (by decide)) (k:=?_)
 rintro v w4 ⟨rfl,F3,h3,s3,o5⟩
 have n3:=n2.step (o4.step oo (by simp)) s3
 have o6:=(o4.step oo (by simp)).news n2 o5
 rw [show RB.has Hf 2 (RB.insert (RB.insert RB.nil 3) 1)=false by decide]
 have el:(RB.insert (RB.insert (RB.insert RB.nil 3) 1) 2).list=[1,2,3]:=by decide
 have ed:(RB.insert (RB.insert (RB.insert RB.nil 3) 1) 2).depth=2:=by decide
 generalize RB.insert (RB.insert (RB.insert RB.nil 3) 1) 2=t at *
 clear hs oo
 have hs:=St.nil w4
 refine Ja ?_
 refine cl (h:=by exact Oj tb t F3 _ (h3.only (hs.AD rfl)) (by rw [el];decide)) (k:=?_)
 rintro v w' ⟨hd,ho⟩;replace hs:=hs.AN ho
 rw [el] at hd
 obtain ⟨ad,cp,rfl,_⟩:=id hd
 obtain ⟨R,hs,hd⟩:=hd.read hs rfl
 refine bs hs (k:=?_);intro b w hz hs
 skip
 have hb:=hs.get At.head
 refine AY hs (h:=by exact nD _ _ [1,2,3] [1,2,3] (by decide) _ (hd _ (fun e he=>hs.ro e (by simp [he]))) ⟨some ⟨b,0,none⟩,3,rfl,fun _=>⟨b,0,_,_,rfl,Nat.le_refl _,hb,fun i d h=>by match i,h with | 0,h=>simpa using h | 1,h=>simpa using h | 2,h=>simpa using h | i+3,h=>simp at h⟩⟩) (k:=?_);intro w' ho hs
 rw [show decide (([1,2,3]:List Int)=[1,2,3])=true from rfl]
 refine Jf ?_
 refine AY hs (h:=by exact YQ tb t F3 _ (h3.only (hs.AD rfl)) (by rw [el];decide)) (k:=?_);intro w' ho hs
 rw [ed]
 refine Jc ?_
 refine AG ?_
 exact ⟨rfl,o6.step (hs.AD rfl) (by simp)⟩
end Go.Proofs.Q0
namespace Go.Proofs.Q0.IB
open Go Go.RowKit
attribute [local irreducible] XS XC XA AZ AP Aa A1 A0 A8 Ad AW SE
abbrev IT:={a:It // a.In}
def DK (x y:IT):Bool:=ahead x.1 y.1
def snr (x y:IT):IT:=bif due y.1 x.1 then y else x
def all? : RB IT→Option IT
 | .nil=>none
 | .node l x r _=>some (match all? r with | none=>(match all? l with | none=>x | some a=>snr a x) | some b=>snr (match all? l with | none=>x | some a=>snr a x) b)
def Kh (l:RB IT) (x:IT) (r:RB IT):IT:=match all? r with | none=>(match all? l with | none=>x | some a=>snr a x) | some b=>snr (match all? l with | none=>x | some a=>snr a x) b
abbrev Ei (x:IT) (a:It) (pl pr:Option Addr) (c:Bool):Obj := .cells #[.int .u64 x.1.p.t,.int .u32 x.1.p.r,.int .u32 x.1.p.w,.int .i64 x.1.id,.int .u64 x.1.d.t,.int .u32 x.1.d.r,.int .u32 x.1.d.w,.int .u64 a.p.t,.int .u32 a.p.r,.int .u32 a.p.w,.int .i64 a.id,.int .u64 a.d.t,.int .u32 a.d.r,.int .u32 a.d.w,.pointer pl,.pointer pr,.bool c] 276 (0,0)
abbrev C9 (p:Option Addr) (n:Int):Obj := .cells #[.pointer p,.int .i64 n,.func (.func 176) #[] #[],.func (.func 177) #[] #[],.func (.func 178) #[] #[]] 199 (0,0)
def DW (_:World) (av:It) (l:RB IT) (x:IT) (r:RB IT):Prop:=av=(Kh l x r).1
theorem NT (x y:IT) (w0:World):AO Tryz.prog 176 #[iv x.1,iv y.1] w0 fun v w'=>v = .bool (DK x y)∧AA [] w0 w':=Ud x.1 y.1 x.2 y.2 w0
theorem II (a:It) (w0:World):AO Tryz.prog 177 #[iv a] w0 fun v w'=>v=iv a∧AA [] w0 w':=by
 have hs:=St.nil w0
 refine AR Tryz.func177 Tryz.ntmps177 (k:=?_)
 repeat' (first|refine Sa ?_|(refine AU hs (k:=?_);intro w hs)|(refine al hs (k:=?_);intro b w hz hs)|(refine bx hs (k:=?_);intro b w hz hs)|fail)
 refine AG ?_
 exact ⟨rfl,hs.AD rfl⟩
theorem its_one {w:World} {b:Nat} {a:It} (hb:w.heap[b]?=some (.cells a.cells.toArray 64 (0,0))):J5 w (.slice (some ⟨b,0,none⟩) 1 1) [a] :=
 ⟨_,1,rfl,fun _=>⟨b,0,_,(0,0),rfl,Nat.le_refl _,hb,fun i x h=>by
  cases i with
  | zero =>
    simp only [List.map_cons,List.getElem?_cons_zero,Option.some.injEq] at h
    subst h
    exact pick_of rfl rfl
  | succ i=>simp at h⟩⟩
theorem JG (x y:IT) (w0:World):AO Tryz.prog 178 #[iv x.1,iv y.1] w0 fun v w'=>v=iv (snr x y).1∧AA [] w0 w':=by
 have e:soonest x.1 [y.1]=(snr x y).1:=by unfold soonest snr;simp only [List.foldl_cons,List.foldl_nil];cases due y.1 x.1 <;> rfl
 have hs:=St.nil w0
 refine AR Tryz.func178 Tryz.ntmps178 (k:=?_)
 repeat' (first|refine Sa ?_|(refine al hs (k:=?_);intro b w hz hs)|(refine bx hs (k:=?_);intro b w hz hs)|(refine bs hs (k:=?_);intro b w hz hs)|fail)
 refine cl (h:=by exact Y0 x.1 [y.1] _ x.2 (by simp;exact y.2) (by simp) _ (its_one (hs.get At.head))) (k:=?_)
 rw [e]
 rintro v w' ⟨rfl,ho⟩;replace hs:=hs.AN ho;repeat' (first|refine Nx.h ?_|(refine AU hs (k:=?_);intro w hs)|fail)
 refine AG ?_
 exact ⟨rfl,hs.AD rfl⟩
end Go.Proofs.Q0.IB
namespace Go.Proofs.Q0.IB
open Go Go.RowKit
theorem DW.keep {w w':World} {av:It} {l:RB IT} {x:IT} {r:RB IT} {F:List Nat} (h:DW w av l x r) (_:AA F w w') {q:Prop} (_:q):DW w' av l x r:=h
def Ag (w:World):RB IT→Option Addr→List Nat→Prop
 | .nil,p,fp=>p=none∧fp=[]
 | .node l x r c,p,fp=>∃ b av pl pr fl fr,p=some ⟨b,0,none⟩∧fp=b :: (fl ++ fr)∧w.heap[b]?=some (Ei x av pl pr c)∧DW w av l x r∧Ag w l pl fl∧Ag w r pr fr
def Cn (w:World) (l:RB IT) (x:IT) (r:RB IT) (c:Bool) (p:Option Addr) (fp:List Nat):Prop :=
 ∃ b av pl pr fl fr,p=some ⟨b,0,none⟩∧fp=b :: (fl ++ fr)∧w.heap[b]?=some (Ei x av pl pr c)∧Ag w l pl fl∧Ag w r pr fr
theorem Ag.MN {w:World} {l:RB IT} {x:IT} {r:RB IT} {c:Bool} {p:Option Addr} {fp:List Nat} (h:Ag w (.node l x r c) p fp):Cn w l x r c p fp:=by
 obtain ⟨b,av,pl,pr,fl,fr,h1,h2,h3,h4,h5,h6⟩:=h
 exact ⟨b,av,pl,pr,fl,fr,h1,h2,h3,h5,h6⟩
def AL (w:World) (F:List Nat):Prop:=∀ b∈F,∃ cs fz,w.heap[b]?=some (.cells cs 276 fz)
theorem AL.nil (w:World):AL w []:=fun b h=>by cases h
theorem AL.append {w:World} {F G:List Nat} (h:AL w F) (k:AL w G):AL w (F ++ G):=fun b hb=>by
 rcases List.mem_append.1 hb with hb | hb
 ·exact h b hb
 ·exact k b hb
theorem AL.cons {w:World} {F:List Nat} {b:Nat} {cs:Array Value} {fz:Nat × Nat} (h:w.heap[b]?=some (.cells cs 276 fz)) (k:AL w F):AL w (b :: F):=fun b' hb=>by
 rcases List.mem_cons.1 hb with rfl | hb
 ·exact ⟨_,_,h⟩
 ·exact k b' hb
theorem Ag.nodes {w:World}:∀ {t:RB IT} {p:Option Addr} {fp:List Nat},Ag w t p fp→AL w fp
 | .nil,p,fp,⟨_,h⟩=>by subst h;exact AL.nil w
 | .node l x r c,p,fp,⟨b,av,pl,pr,fl,fr,h1,h2,h3,h4,h5,h6⟩=>by
   subst h2
   exact .cons h3 (h5.nodes.append h6.nodes)
theorem Cn.nodes {w:World} {l:RB IT} {x:IT} {r:RB IT} {c:Bool} {p:Option Addr} {fp:List Nat} (h:Cn w l x r c p fp):AL w fp:=by
 obtain ⟨b,av,pl,pr,fl,fr,h1,h2,h3,h5,h6⟩:=h
 subst h2
 exact .cons h3 (h5.nodes.append h6.nodes)
theorem Ag.keep {w w':World} {F:List Nat} (ho:AA F w w') (hF:AL w F):∀ {t:RB IT} {p:Option Addr} {fp:List Nat},Ag w t p fp→(∀ b∈fp,b∉F)→Ag w' t p fp
 | .nil,p,fp,h,_=>h
 | .node l x r c,p,fp,⟨b,av,pl,pr,fl,fr,h1,h2,h3,h4,h5,h6⟩,hd=>by
   subst h2
   exact ⟨b,av,pl,pr,fl,fr,h1,rfl,ho.block h3 (hd b List.mem_cons_self),h4.keep ho hF,Ag.keep ho hF h5 fun k hk=>hd k (List.mem_cons_of_mem _ (List.mem_append_left _ hk)),
    Ag.keep ho hF h6 fun k hk=>hd k (List.mem_cons_of_mem _ (List.mem_append_right _ hk))⟩
theorem head_keep {w w':World} {F:List Nat} {tb:Nat} {p:Option Addr} {n:Int} (h:w.heap[tb]?=some (C9 p n)) (ho:AA F w w') (hF:AL w F):w'.heap[tb]?=some (C9 p n) :=
 ho.block h fun hb=>by
  obtain ⟨cs',jP,h5⟩:=hF tb hb
  rw [h] at h5
  cases h5
end Go.Proofs.Q0.IB
namespace Go.Proofs.Q0.IB
open Go Go.RowKit
attribute [local irreducible] XS XC XA AZ AP Aa A1 A0 A8 Ad AW SE
theorem Bl (t:RB IT) (p:Option Addr) (fp:List Nat) (w0:World) (h:Ag w0 t p fp):AO Tryz.prog 236 #[.pointer p] w0 fun v w'=>v = .bool t.red∧AA [] w0 w':=by
 have hs:=St.nil w0
 cases t with
 | nil =>
   obtain ⟨rfl,rfl⟩:=h
   refine AR Tryz.func236 Tryz.ntmps236 (k:=?_)
   repeat' (first|refine vs (k:=?_)|refine ps (k:=?_)|refine Ao ?_|refine Nx.h ?_|fail)
   refine AG ?_
   exact ⟨rfl,hs.AD rfl⟩
 | node l x r c =>
   obtain ⟨b,av,pl,pr,fl,fr,rfl,h2,h3,h4,h5,h6⟩:=h
   replace hs:=hs.AH h3 (by simp)
   refine AR Tryz.func236 Tryz.ntmps236 (k:=?_)
   refine Ja ?_
   refine AG ?_
   exact ⟨rfl,hs.AB [] (by simp [h3]) (by simp [D0])⟩
theorem Ca {w:World} {tb b:Nat} {p:Option Addr} {n:Int} {cs:Array Value} {fz:Nat × Nat} (h:w.heap[tb]?=some (C9 p n)) (k:w.heap[b]?=some (.cells cs 276 fz)):b≠tb:=fun e=>by
 subst e
 rw [h] at k
 cases k
theorem Ec (tb:Nat) (p0:Option Addr) (n0:Int) (l:RB IT) (x:IT) (r:RB IT) (c:Bool) (p:Option Addr) (fp:List Nat) (w0:World) (hT:w0.heap[tb]?=some (C9 p0 n0)) (h:Cn w0 l x r c p fp) (hnd:fp.Nodup) (hlen:(l.list ++ x :: r.list).length≤1000000) :
 AO Tryz.prog 242 #[.pointer (some ⟨tb,0,none⟩),.pointer p] w0 fun v w'=>Ag w' (.node l x r c) p fp∧AA fp w0 w':=by
 obtain ⟨b,av,pl,pr,fl,fr,rfl,rfl,hb,hl,hr⟩:=h
 have EK:=Ca hT hb
 obtain ⟨hnb,qM⟩:=List.nodup_cons.1 hnd
 have hnl:∀ k∈fl,k∉[b]:=fun k hk hm=>by
  obtain rfl:=List.mem_singleton.1 hm
  exact hnb (List.mem_append_left _ hk)
 have Q9:∀ k∈fr,k∉[b]:=fun k hk hm=>by
  obtain rfl:=List.mem_singleton.1 hm
  exact hnb (List.mem_append_right _ hk)
 have hlr:∀ k∈fl,k∉fr:=fun k hk hm=>(List.nodup_append.1 qM).2.2 k hk k hm rfl
 have hNb:AL w0 [b]:=AL.cons hb (AL.nil w0)
 have fin:∀ (w':World) (MY:It),w'.heap[b]?=some (Ei x MY pl pr c)→DW w' MY l x r→AA [b] w0 w'→Ag w' (.node l x r c) (some ⟨b,0,none⟩) (b :: (fl ++ fr))∧AA (b :: (fl ++ fr)) w0 w':=fun w' MY h1 h2 ho =>
  ⟨⟨b,MY,pl,pr,fl,fr,rfl,rfl,h1,h2,hl.keep ho hNb hnl,hr.keep ho hNb Q9⟩,ho.weaken fun k hk=>by obtain rfl:=List.mem_singleton.1 hk;exact List.mem_cons_self⟩
 clear hnd
 have hs:=St.nil w0
 replace hs:=hs.AH hT (by simp)
 replace hs:=hs.AH hb (by simpa using EK)
 cases l with
 | nil =>
   cases r with
   | nil =>
     obtain ⟨rfl,rfl⟩:=hl
     obtain ⟨rfl,rfl⟩:=hr
     refine AR Tryz.func242 Tryz.ntmps242 (k:=?_)
     refine Jb ?_
     refine dr [12] hs (k:=?_);intro hX w hs
     refine tks 0 9 ?_
     refine dt 9 hX (k:=?_)
     refine AY hs (h:=by exact II x.1 _) (k:=?_);intro w' ho hs;refine Jb ?_
     refine dn (k:=?_)
     refine tks 10 2 ?_
     refine dt 12 hX (k:=?_)
     repeat' (first|refine Nx.h ?_|(refine AU hs (k:=?_);intro w hs)|fail)
     refine dn (k:=?_)
     refine en (k:=?_)
     refine Jd ?_
     refine JK ?_
     exact fin _ _ (hs.get At.head) rfl (hs.AB [b] (by simp [hT]) (by simp [D0]))
   | node rl rx rr rc =>
     obtain ⟨rfl,rfl⟩:=hl
     obtain ⟨rb,iD,rpl,yK,rfl',yZ,rfl,rfl,hrb,hrav,hrl,oF⟩:=hr
     have dF:iD=(Kh rl rx rr).1:=hrav
     subst dF
     have Xp:=Ca hT hrb
     have R6:rb≠b:=fun e=>by subst e;exact Q9 _ List.mem_cons_self List.mem_cons_self
     replace hs:=hs.AH hrb (by simp [Xp,R6])
     refine AR Tryz.func242 Tryz.ntmps242 (k:=?_)
     refine Jb ?_
     refine dr [12] hs (k:=?_);intro hX w hs
     refine tks 0 9 ?_
     refine dt 9 hX (k:=?_)
     refine AY hs (h:=by exact II x.1 _) (k:=?_);intro w' ho hs;refine Jb ?_
     refine dn (k:=?_)
     refine tks 10 2 ?_
     refine dt 12 hX (k:=?_)
     repeat' (first|refine Nx.h ?_|(refine AU hs (k:=?_);intro w hs)|fail)
     refine dn (k:=?_)
     refine en (k:=?_)
     repeat' (first|refine vs (k:=?_)|refine Ao ?_|refine Nx.h ?_|refine FY ?_|refine FD ?_|fail)
     refine dr [19] hs (k:=?_);intro hX w hs
     refine tks 0 16 ?_
     refine dt 16 hX (k:=?_)
     refine AY hs (h:=by exact JG x (Kh rl rx rr) _) (k:=?_);intro w' ho hs;refine Jb ?_
     refine dn (k:=?_)
     refine tks 17 2 ?_
     refine dt 19 hX (k:=?_)
     repeat' (first|refine Nx.h ?_|(refine AU hs (k:=?_);intro w hs)|fail)
     refine dn (k:=?_)
     refine en (k:=?_)
     skip
     refine JK ?_
     exact fin _ _ (hs.get (At.tail At.head)) rfl (hs.AB [b] (by simp [hT,hrb]) (by simp [D0]))
 | node ll lx lr lc =>
   cases r with
   | nil =>
     obtain ⟨lb,Vn,iL,tC,sS,tS,rfl,rfl,hlb,hlav,HQ,pG⟩:=hl
     have Sj:Vn=(Kh ll lx lr).1:=hlav
     subst Sj
     have hlt:=Ca hT hlb
     have RD:lb≠b:=fun e=>by subst e;exact hnl _ List.mem_cons_self List.mem_cons_self
     replace hs:=hs.AH hlb (by simp [hlt,RD])
     obtain ⟨rfl,rfl⟩:=hr
     refine AR Tryz.func242 Tryz.ntmps242 (k:=?_)
     refine Jb ?_
     refine dr [12] hs (k:=?_);intro hX w hs
     refine tks 0 9 ?_
     refine dt 9 hX (k:=?_)
     refine AY hs (h:=by exact II x.1 _) (k:=?_);intro w' ho hs;refine Jb ?_
     refine dn (k:=?_)
     refine tks 10 2 ?_
     refine dt 12 hX (k:=?_)
     repeat' (first|refine Nx.h ?_|(refine AU hs (k:=?_);intro w hs)|fail)
     refine dn (k:=?_)
     refine en (k:=?_)
     refine Je ?_
     refine dr [19] hs (k:=?_);intro hX w hs
     refine tks 0 16 ?_
     refine dt 16 hX (k:=?_)
     refine AY hs (h:=by exact JG (Kh ll lx lr) x _) (k:=?_);intro w' ho hs;refine Jb ?_
     refine dn (k:=?_)
     refine tks 17 2 ?_
     refine dt 19 hX (k:=?_)
     repeat' (first|refine Nx.h ?_|(refine AU hs (k:=?_);intro w hs)|fail)
     refine dn (k:=?_)
     refine en (k:=?_)
     refine Jd ?_
     refine JK ?_
     exact fin _ _ (hs.get (At.tail At.head)) rfl (hs.AB [b] (by simp [hT,hlb]) (by simp [D0]))
   | node rl rx rr rc =>
     obtain ⟨lb,Vn,iL,tC,sS,tS,rfl,rfl,hlb,hlav,HQ,pG⟩:=hl
     have Sj:Vn=(Kh ll lx lr).1:=hlav
     subst Sj
     have hlt:=Ca hT hlb
     have RD:lb≠b:=fun e=>by subst e;exact hnl _ List.mem_cons_self List.mem_cons_self
     replace hs:=hs.AH hlb (by simp [hlt,RD])
     obtain ⟨rb,iD,rpl,yK,rfl',yZ,rfl,rfl,hrb,hrav,hrl,oF⟩:=hr
     have dF:iD=(Kh rl rx rr).1:=hrav
     subst dF
     have Xp:=Ca hT hrb
     have R6:rb≠b:=fun e=>by subst e;exact Q9 _ List.mem_cons_self List.mem_cons_self
     have oS:rb≠lb:=fun e=>by subst e;exact hlr _ List.mem_cons_self List.mem_cons_self
     replace hs:=hs.AH hrb (by simp [Xp,R6,oS])
     refine AR Tryz.func242 Tryz.ntmps242 (k:=?_)
     refine Jb ?_
     refine dr [12] hs (k:=?_);intro hX w hs
     refine tks 0 9 ?_
     refine dt 9 hX (k:=?_)
     refine AY hs (h:=by exact II x.1 _) (k:=?_);intro w' ho hs;refine Jb ?_
     refine dn (k:=?_)
     refine tks 10 2 ?_
     refine dt 12 hX (k:=?_)
     repeat' (first|refine Nx.h ?_|(refine AU hs (k:=?_);intro w hs)|fail)
     refine dn (k:=?_)
     refine en (k:=?_)
     refine Je ?_
     refine dr [19] hs (k:=?_);intro hX w hs
     refine tks 0 16 ?_
     refine dt 16 hX (k:=?_)
     refine AY hs (h:=by exact JG (Kh ll lx lr) x _) (k:=?_);intro w' ho hs;refine Jb ?_
     refine dn (k:=?_)
     refine tks 17 2 ?_
     refine dt 19 hX (k:=?_)
     repeat' (first|refine Nx.h ?_|(refine AU hs (k:=?_);intro w hs)|fail)
     refine dn (k:=?_)
     refine en (k:=?_)
     refine Je ?_
     refine dr [19] hs (k:=?_);intro hX w hs
     refine tks 0 16 ?_
     refine dt 16 hX (k:=?_)
     refine AY hs (h:=by exact JG (snr (Kh ll lx lr) x) (Kh rl rx rr) _) (k:=?_);intro w' ho hs;refine Jb ?_
     refine dn (k:=?_)
     refine tks 17 2 ?_
     refine dt 19 hX (k:=?_)
     repeat' (first|refine Nx.h ?_|(refine AU hs (k:=?_);intro w hs)|fail)
     refine dn (k:=?_)
     refine en (k:=?_)
     skip
     refine JK ?_
     exact fin _ _ (hs.get (At.tail (At.tail At.head))) rfl (hs.AB [b] (by simp [hT,hlb,hrb]) (by simp [D0]))
theorem AL.lt {w:World} {F:List Nat} (h:AL w F):∀ k∈F,k < w.heap.size:=fun k hk=>by
 obtain ⟨cs,fz,h⟩:=h k hk
 exact lt_of_block h
def Cw (w0:World) (fp:List Nat) (t':RB IT) (v:Value) (w':World):Prop :=
 ∃ p' Ct,v = .pointer p'∧Ag w' t' p' Ct∧Ct.Nodup∧(∀ k∈Ct,k∈fp∨w0.heap.size≤k)∧AA fp w0 w'
theorem LF (tb:Nat) (p0:Option Addr) (n0:Int) (l:RB IT) (x:IT) (rl:RB IT) (y:IT) (rr:RB IT) (c c2:Bool) (p:Option Addr) (fp:List Nat) (w0:World) (hT:w0.heap[tb]?=some (C9 p0 n0)) (h:Cn w0 l x (.node rl y rr c2) c p fp) (hnd:fp.Nodup) (hlen:(l.list ++ x :: (rl.list ++ y :: rr.list)).length≤1000000) :
 AO Tryz.prog 243 #[.pointer (some ⟨tb,0,none⟩),.pointer p] w0 fun v w'=>Cw w0 fp (.node (.node l x rl true) y rr c) v w':=by
 obtain ⟨b,av,pl,pr,fl,fr,rfl,rfl,hb,hl,u,Js,lD,xW,frl,K3,rfl,rfl,hu,_,hrl,Vw⟩:=h
 have hp:=perm_turn b u fl frl K3
 have RC:=hp.nodup_iff.2 hnd
 have hNb:AL w0 [u,b]:=AL.cons hu (AL.cons hb (AL.nil w0))
 simp only [List.length_append,List.length_cons] at hlen
 obtain ⟨d1,d2,d3,d4,d5,d6,d7,d8⟩:u≠b∧(∀ k∈fl,k∉[u,b])∧(∀ k∈frl,k∉[u,b])∧(∀ k∈K3,k∉[u,b])∧(b :: (fl ++ frl)).Nodup∧u∉b :: (fl ++ frl)∧(∀ k∈K3,k∉b :: (fl ++ frl))∧(u :: ((b :: (fl ++ frl)) ++ K3)).Nodup:=by
  simp only [List.cons_append,List.append_assoc,List.nodup_cons,List.nodup_append,List.mem_append,List.mem_cons,List.not_mem_nil,or_false] at RC ⊢
  grind
 have hs:=St.nil w0
 replace hs:=hs.AH hb (by simp)
 replace hs:=hs.AH hu (by simpa using d1)
 refine AR Tryz.func243 Tryz.ntmps243 (k:=?_)
 repeat' (first|refine Sa ?_|(refine st hs (k:=?_);intro w hs)|fail)
 have AK:AA [u,b] w0 _:=hs.AB [u,b] (by simp) (by simp [D0])
 have CH:=hs.get (At.tail At.head)
 have X2:=hs.get At.head
 have Ez:=hl.keep AK hNb d2
 have We:=hrl.keep AK hNb d3
 have o9:=Vw.keep AK hNb d4
 have CT:=head_keep hT AK hNb
 clear hs
 refine cl (h:=by exact Ec tb p0 n0 l x rl true _ _ _ CT ⟨b,av,pl,lD,fl,frl,rfl,rfl,CH,Ez,We⟩ d5 (by simp only [List.length_append,List.length_cons];omega)) (k:=?_)
 rintro v w' ⟨Bv,AM⟩
 have NG:AL _ (b :: (fl ++ frl)):=Cn.nodes ⟨b,av,pl,lD,fl,frl,rfl,rfl,CH,Ez,We⟩
 have H6:=AM.block X2 d6
 have o8:=o9.keep AM NG d7
 have Kr:=head_keep CT AM NG
 have hs:=St.nil w'
 refine Ja ?_
 refine cl (h:=by exact Ec tb p0 n0 (.node l x rl true) y rr c _ _ _ Kr ⟨u,Js,_,xW,_,K3,rfl,rfl,H6,Bv,o8⟩ d8 (by simp only [RB.list,List.length_append,List.length_cons];omega)) (k:=?_)
 rintro v w'' ⟨Fh,AT⟩
 have hs:=St.nil w''
 refine Ja ?_
 refine AG ?_
 have e:∀ k,k∈u :: ((b :: (fl ++ frl)) ++ K3)→k∈b :: (fl ++ (u :: (frl ++ K3))):=fun k hk=>hp.mem_iff.1 hk
 have o1:AA (b :: (fl ++ (u :: (frl ++ K3)))) w0 _:=AK.weaken (by simp)
 have o2:=o1.step AM (fun k hk => .inl (e k (List.mem_cons_of_mem _ (List.mem_append_left _ hk))))
 exact ⟨_,_,rfl,Fh,d8,fun k hk => .inl (e k hk),o2.step AT (fun k hk => .inl (e k hk))⟩
theorem HC (tb:Nat) (p0:Option Addr) (n0:Int) (ll:RB IT) (y:IT) (lr:RB IT) (x:IT) (r:RB IT) (c c2:Bool) (p:Option Addr) (fp:List Nat) (w0:World) (hT:w0.heap[tb]?=some (C9 p0 n0)) (h:Cn w0 (.node ll y lr c2) x r c p fp) (hnd:fp.Nodup) (hlen:(ll.list ++ y :: (lr.list ++ x :: r.list)).length≤1000000) :
 AO Tryz.prog 244 #[.pointer (some ⟨tb,0,none⟩),.pointer p] w0 fun v w'=>Cw w0 fp (.node ll y (.node lr x r true) c) v w':=by
 obtain ⟨b,av,pl,pr,fl,fr,rfl,rfl,hb,⟨u,Js,U9,QT,fll,flr,rfl,rfl,hu,_,HQ,hlr⟩,hr⟩:=h
 have hp:=(perm_turn u b fll flr fr).symm
 have RC:=hp.nodup_iff.2 hnd
 have hNb:AL w0 [u,b]:=AL.cons hu (AL.cons hb (AL.nil w0))
 simp only [List.length_append,List.length_cons] at hlen
 obtain ⟨d1,d2,d3,d4,d5,d6,d7,d8⟩:u≠b∧(∀ k∈fr,k∉[u,b])∧(∀ k∈flr,k∉[u,b])∧(∀ k∈fll,k∉[u,b])∧(b :: (flr ++ fr)).Nodup∧u∉b :: (flr ++ fr)∧(∀ k∈fll,k∉b :: (flr ++ fr))∧(u :: (fll ++ (b :: (flr ++ fr)))).Nodup:=by
  simp only [List.cons_append,List.append_assoc,List.nodup_cons,List.nodup_append,List.mem_append,List.mem_cons,List.not_mem_nil,or_false] at RC ⊢
  grind
 have hs:=St.nil w0
 replace hs:=hs.AH hb (by simp)
 replace hs:=hs.AH hu (by simpa using d1)
 refine AR Tryz.func244 Tryz.ntmps244 (k:=?_)
 repeat' (first|refine Sa ?_|(refine st hs (k:=?_);intro w hs)|fail)
 have AK:AA [u,b] w0 _:=hs.AB [u,b] (by simp) (by simp [D0])
 have CH:=hs.get (At.tail At.head)
 have X2:=hs.get At.head
 have hrw:=hr.keep AK hNb d2
 have Wu:=hlr.keep AK hNb d3
 have oY:=HQ.keep AK hNb d4
 have CT:=head_keep hT AK hNb
 clear hs
 refine cl (h:=by exact Ec tb p0 n0 lr x r true _ _ _ CT ⟨b,av,QT,pr,flr,fr,rfl,rfl,CH,Wu,hrw⟩ d5 (by simp only [List.length_append,List.length_cons];omega)) (k:=?_)
 rintro v w' ⟨Bv,AM⟩
 have NG:AL _ (b :: (flr ++ fr)):=Cn.nodes ⟨b,av,QT,pr,flr,fr,rfl,rfl,CH,Wu,hrw⟩
 have H6:=AM.block X2 d6
 have rJ:=oY.keep AM NG d7
 have Kr:=head_keep CT AM NG
 have hs:=St.nil w'
 refine Ja ?_
 refine cl (h:=by exact Ec tb p0 n0 ll y (.node lr x r true) c _ _ _ Kr ⟨u,Js,U9,_,fll,_,rfl,rfl,H6,rJ,Bv⟩ d8 (by simp only [RB.list,List.length_append,List.length_cons];omega)) (k:=?_)
 rintro v w'' ⟨Fh,AT⟩
 have hs:=St.nil w''
 refine Ja ?_
 refine AG ?_
 have e:∀ k,k∈u :: (fll ++ (b :: (flr ++ fr)))→k∈b :: ((u :: (fll ++ flr)) ++ fr):=fun k hk=>hp.mem_iff.1 hk
 have o1:AA (b :: ((u :: (fll ++ flr)) ++ fr)) w0 _:=AK.weaken (by simp)
 have o2:=o1.step AM (fun k hk => .inl (e k (List.mem_cons_of_mem _ (List.mem_append_right _ hk))))
 exact ⟨_,_,rfl,Fh,d8,fun k hk => .inl (e k hk),o2.step AT (fun k hk => .inl (e k hk))⟩
theorem Gj (a:RB IT) (x:IT) (b:RB IT) (c1:Bool) (y:IT) (d:RB IT) (z:IT) (e:RB IT) (c2 c:Bool) (p:Option Addr) (fp:List Nat) (w0:World) (h:Ag w0 (.node (.node a x b c1) y (.node d z e c2) c) p fp) (hnd:fp.Nodup) :
 AO Tryz.prog 245 #[.pointer p] w0 fun v w'=>Ag w' (.node (.node a x b !c1) y (.node d z e !c2) !c) p fp∧AA fp w0 w':=by
 obtain ⟨m,av,_,_,_,_,rfl,rfl,hm,DF,⟨u,Js,pa,pb,fa,fb,rfl,rfl,hu,Mq,ha,hb⟩,⟨v,avv,pd,pe,fd,fe,rfl,rfl,hv,pU,hd,he⟩⟩:=h
 have hNb:AL w0 [v,u,m]:=AL.cons hv (AL.cons hu (AL.cons hm (AL.nil w0)))
 obtain ⟨d1,d2,d3,d4,d5,d6,d7⟩:u≠m∧v≠m∧v≠u∧(∀ k∈fa,k∉[v,u,m])∧(∀ k∈fb,k∉[v,u,m])∧(∀ k∈fd,k∉[v,u,m])∧(∀ k∈fe,k∉[v,u,m]):=by
  simp only [List.cons_append,List.append_assoc,List.nodup_cons,List.nodup_append,List.mem_append,List.mem_cons,List.not_mem_nil,or_false] at hnd ⊢
  grind
 have hs:=St.nil w0
 replace hs:=hs.AH hm (by simp)
 replace hs:=hs.AH hu (by simpa using d1)
 replace hs:=hs.AH hv (by simp [d2,d3])
 refine AR Tryz.func245 Tryz.ntmps245 (k:=?_)
 repeat' (first|refine Sa ?_|(refine st hs (k:=?_);intro w hs)|fail)
 refine dr [14] hs (k:=?_);intro hX w hs
 refine tks 0 14 ?_
 refine dt 14 hX (k:=?_)
 repeat' (first|refine Nx.h ?_|(refine st hs (k:=?_);intro w hs)|fail)
 refine dn (k:=?_)
 refine en (k:=?_)
 refine Jb ?_
 refine dr [14] hs (k:=?_);intro hX w hs
 refine tks 0 14 ?_
 refine dt 14 hX (k:=?_)
 repeat' (first|refine Nx.h ?_|(refine st hs (k:=?_);intro w hs)|fail)
 refine dn (k:=?_)
 refine en (k:=?_)
 skip
 refine JK ?_
 have AK:AA [v,u,m] w0 _:=hs.AB [v,u,m] (by simp) (by simp [D0])
 refine ⟨⟨m,av,_,_,_,_,rfl,rfl,hs.get (At.tail (At.tail At.head)),DF.keep AK hNb,⟨u,Js,pa,pb,fa,fb,rfl,rfl,hs.get (At.tail At.head),Mq.keep AK hNb,ha.keep AK hNb d4,hb.keep AK hNb d5⟩,⟨v,avv,pd,pe,fd,fe,rfl,rfl,hs.get At.head,pU.keep AK hNb,hd.keep AK hNb d6,he.keep AK hNb d7⟩⟩,AK.weaken (by simp)⟩
structure Has (w0:World) (tb:Nat) (p0:Option Addr) (n0:Int) (fp:List Nat) (t:RB IT) (p:Option Addr) (w:World):Prop where
 tree:∃ Ct,Ag w t p Ct∧Ct.Nodup∧(∀ k∈Ct,k∈fp∨w0.heap.size≤k)∧AA fp w0 w
 head:w.heap[tb]?=some (C9 p0 n0)
theorem Has.only {w0 w w':World} {tb:Nat} {p0:Option Addr} {n0:Int} {fp:List Nat} {t:RB IT} {p:Option Addr} (h:Has w0 tb p0 n0 fp t p w) (ho:AA [] w w'):Has w0 tb p0 n0 fp t p w':=by
 obtain ⟨⟨Ct,h1,h2,h3,h4⟩,h5⟩:=h
 exact ⟨⟨Ct,h1.keep ho (AL.nil w) (fun k _=>by simp),h2,h3,h4.step ho (by simp)⟩,head_keep h5 ho (AL.nil w)⟩
theorem Has.next {w0 w w':World} {tb:Nat} {p0:Option Addr} {n0:Int} {fp Di:List Nat} {t t':RB IT} {p:Option Addr} {v:Value} (h1:Ag w t p Di) (h2:∀ k∈Di,k∈fp∨w0.heap.size≤k) (h3:AA fp w0 w) (h4:w.heap[tb]?=some (C9 p0 n0)) (k:Cw w Di t' v w') :
 ∃ p',v = .pointer p'∧Has w0 tb p0 n0 fp t' p' w':=by
 obtain ⟨p',Ct,rfl,k1,k2,k3,k4⟩:=k
 refine ⟨p',rfl,⟨Ct,k1,k2,fun i hi=>?_,h3.step k4 h2⟩,head_keep h4 k4 h1.nodes⟩
 have:=h3.size
 rcases k3 i hi with h | h
 ·exact h2 i h
 ·exact .inr om
theorem JM (l:RB IT) (x:IT) (r:RB IT) (c:Bool):∃ l' x' r' c',RB.Dr (.node l x r c) = .node l' x' r' c':=by
 unfold RB.Dr
 cases r with
 | nil=>exact ⟨_,_,_,_,rfl⟩
 | node rl y rr d =>
   cases d <;> cases h:l.red <;> simp only [RB.BC,RB.Av,RB.BV,h,Bool.not_true,Bool.not_false,Bool.and_true,Bool.and_false,Bool.and_self,cond_true,cond_false,RB.Gw] <;> exact ⟨_,_,_,_,rfl⟩
theorem J7 (l:RB IT) (x:IT) (r:RB IT) (c:Bool):∃ l' x' r' c',RB.E3 (.node l x r c) = .node l' x' r' c':=by
 unfold RB.E3
 cases l with
 | nil=>exact ⟨_,_,_,_,rfl⟩
 | node rl y rr d =>
   cases d <;> cases h:rl.red <;> simp only [RB.BC,RB.Av,RB.BV,h,Bool.not_true,Bool.not_false,Bool.and_true,Bool.and_false,Bool.and_self,cond_true,cond_false,RB.DS] <;> exact ⟨_,_,_,_,rfl⟩
theorem Gc (tb:Nat) (p0:Option Addr) (n0:Int) (l:RB IT) (x:IT) (r:RB IT) (c:Bool) (p:Option Addr) (fp:List Nat) (w0:World) (hT:w0.heap[tb]?=some (C9 p0 n0)) (h:Cn w0 l x r c p fp) (hnd:fp.Nodup) (hlen:(l.list ++ x :: r.list).length≤1000000) :
 AO Tryz.prog 234 #[.pointer (some ⟨tb,0,none⟩),.pointer p] w0 fun v w'=>Cw w0 fp (RB.mend (.node l x r c)) v w':=by
 have hs:=St.nil w0
 refine AR Tryz.func234 Tryz.ntmps234 (k:=?_)
 refine Ja ?_
 clear hs
 refine cl (h:=by exact Ec tb p0 n0 l x r c _ _ _ hT h hnd hlen) (k:=?_)
 rintro v w1 ⟨Bv,AK⟩
 have hH:Has w0 tb p0 n0 fp (.node l x r c) p w1:=⟨⟨fp,Bv,hnd,fun k hk => .inl hk,AK⟩,head_keep hT AK h.nodes⟩
 clear Bv AK
 refine XS.nil ?_
 refine ET ?_
 refine Ai ?_
 refine Ai ?_
 refine Bg (fun _:Unit=>[(0,.pointer (some ⟨tb,0,none⟩)),(1,.pointer p),(4,.pointer none),(20,.bool (r.red && !l.red))]) (fun _ w=>Has w0 tb p0 n0 fp (.node l x r c) p w) ?_ ?_
 ·obtain ⟨⟨Di,⟨b,av,pl,pr,fl,fr,rfl,rfl,hb,DF,hl,hr⟩,KC,hsub,ho⟩,hd⟩:=hH
  have hH:Has w0 tb p0 n0 fp (.node l x r c) (some ⟨b,0,none⟩) w1:=⟨⟨_,⟨b,av,pl,pr,fl,fr,rfl,rfl,hb,DF,hl,hr⟩,KC,hsub,ho⟩,hd⟩
  have hs:=(St.nil w1).AH hb (by simp)
  refine Jk ?_
  have AM:AA [] w1 _:=hs.AB [] (by simp [hb]) (by simp [D0])
  refine AY hs (h:=by exact Bl r pr fr _ (hr.keep AM (AL.nil _) (by simp))) (k:=?_);intro w' ho hs
  generalize hq:r.red=q
  cases q
  ·refine Jj ?_
   exact AQ () Ae (hH.only (hs.AB [] (by simp [hb]) (by simp [D0])))
  ·refine Jf ?_
   have AM:AA [] w1 _:=hs.AB [] (by simp [hb]) (by simp [D0])
   refine AY hs (h:=by exact Bl l pl fl _ (hl.keep AM (AL.nil _) (by simp))) (k:=?_);intro w' ho hs
   generalize HN:l.red=q2
   refine Jc ?_
   exact AQ () Ae (hH.only (hs.AB [] (by simp [hb]) (by simp [D0])))
 clear hH
 rintro _ env w hH
 refine Bg (fun s:Option Addr=>[(0,.pointer (some ⟨tb,0,none⟩)),(1,.pointer s),(4,.pointer none)]) (fun s w=>Has w0 tb p0 n0 fp (RB.Dr (.node l x r c)) s w) ?_ ?_
 ·generalize hq:(r.red && !l.red)=q
  cases q
  ·refine Jg ?_
   refine AQ p Ae ?_
   unfold RB.Dr
   rw [RB.BC,RB.Av,hq]
   exact hH
  ·obtain ⟨⟨Di,h1,h2,h3,h4⟩,h5⟩:=hH
   simp only [Bool.and_eq_true,Bool.not_eq_true'] at hq
   obtain ⟨rl,y,rr,rfl⟩:=RB.CC hq.1
   have hs:=St.nil w
   refine Ji ?_
   refine cl (h:=by exact LF tb p0 n0 l x rl y rr c true _ _ _ h5 h1.MN h2 hlen) (k:=?_)
   rintro v w' hv
   obtain ⟨p',rfl,hH⟩:=Has.next h1 h3 h4 h5 hv
   have hs:=St.nil w'
   refine Jc ?_
   refine AQ p' Ae ?_
   unfold RB.Dr
   rw [RB.BC,RB.Av,RB.BV,hq.2]
   exact hH
 obtain ⟨l1,x1,r1,c1,e1⟩:=JM l x r c
 have fE:(l1.list ++ x1 :: r1.list).length≤1000000:=by
  have h1:(RB.Dr (.node l x r c)).list=l.list ++ x :: r.list:=by
   unfold RB.Dr
   cases (RB.red _ && _) <;> simp only [cond_true,cond_false,RB.KT,RB.list]
  rw [e1] at h1
  rw [← h1] at hlen
  exact hlen
 rintro p1 env w hH
 rw [e1] at hH
 refine Ai ?_
 refine Ai ?_
 refine Bg (fun _:Unit=>[(0,.pointer (some ⟨tb,0,none⟩)),(1,.pointer p1),(4,.pointer none),(38,.bool (l1.red && l1.left.red))]) (fun _ w=>Has w0 tb p0 n0 fp (.node l1 x1 r1 c1) p1 w) ?_ ?_
 ·obtain ⟨⟨Di,⟨b,av,pl,pr,fl,fr,rfl,rfl,hb,DF,hl,hr⟩,KC,hsub,ho⟩,hd⟩:=hH
  have hH:Has w0 tb p0 n0 fp (.node l1 x1 r1 c1) (some ⟨b,0,none⟩) w:=⟨⟨_,⟨b,av,pl,pr,fl,fr,rfl,rfl,hb,DF,hl,hr⟩,KC,hsub,ho⟩,hd⟩
  cases hq:l1.red
  ·have hs:=(St.nil w).AH hb (by simp)
   refine Jk ?_
   have AM:AA [] w _:=hs.AB [] (by simp [hb]) (by simp [D0])
   refine AY hs (h:=by exact Bl l1 pl fl _ (hl.keep AM (AL.nil _) (by simp))) (k:=?_);intro w' ho hs
   rw [hq]
   refine Jj ?_
   exact AQ () Ae (hH.only (hs.AB [] (by simp [hb]) (by simp [D0])))
  ·obtain ⟨ll,y,lr,rfl⟩:=RB.CC hq
   have hl0:=hl
   obtain ⟨u,Js,U9,QT,fll,flr,rfl,rfl,hu,Mq,HQ,hlr⟩:=hl
   have SY:u≠b:=fun e=>by
    subst e
    simp at KC
   have hs:=((St.nil w).AH hb (by simp)).AH hu (by simpa using SY)
   refine Jk ?_
   have AM:AA [] w _:=hs.AB [] (by simp [hb,hu]) (by simp [D0])
   refine AY hs (h:=by exact Bl _ _ _ _ (hl0.keep AM (AL.nil _) (by simp))) (k:=?_);intro w' ho hs
   rw [hq]
   refine Jf ?_
   have AM:AA [] w _:=hs.AB [] (by simp [hb,hu]) (by simp [D0])
   refine AY hs (h:=by exact Bl _ _ _ _ (HQ.keep AM (AL.nil _) (by simp))) (k:=?_);intro w' ho hs
   rw [RB.Av]
   generalize HN:ll.red=q2
   refine Jc ?_
   exact AQ () Ae (hH.only (hs.AB [] (by simp [hb,hu]) (by simp [D0])))
 clear hH
 rintro _ env w hH
 refine Bg (fun s:Option Addr=>[(0,.pointer (some ⟨tb,0,none⟩)),(1,.pointer s),(4,.pointer none)]) (fun s w=>Has w0 tb p0 n0 fp (RB.E3 (.node l1 x1 r1 c1)) s w) ?_ ?_
 ·generalize hq:(l1.red && l1.left.red)=q
  cases q
  ·refine Jg ?_
   refine AQ p1 Ae ?_
   unfold RB.E3
   rw [RB.Av,hq]
   exact hH
  ·obtain ⟨⟨Di,h1,h2,h3,h4⟩,h5⟩:=hH
   simp only [Bool.and_eq_true] at hq
   obtain ⟨ll,y,lr,rfl⟩:=RB.CC hq.1
   have hs:=St.nil w
   refine Ji ?_
   refine cl (h:=by exact HC tb p0 n0 ll y lr x1 r1 c1 true _ _ _ h5 h1.MN h2 (by simpa [RB.list] using fE)) (k:=?_)
   rintro v w' hv
   obtain ⟨p',rfl,hH⟩:=Has.next h1 h3 h4 h5 hv
   have hs:=St.nil w'
   refine Jc ?_
   refine AQ p' Ae ?_
   unfold RB.E3
   rw [RB.Av,RB.BV,hq.2]
   exact hH
 obtain ⟨l2,x2,r2,c2,e2⟩:=J7 l1 x1 r1 c1
 rintro p2 env w hH
 rw [e2] at hH
 refine Ai ?_
 refine Ai ?_
 refine Bg (fun _:Unit=>[(0,.pointer (some ⟨tb,0,none⟩)),(1,.pointer p2),(4,.pointer none),(53,.bool (l2.red && r2.red))]) (fun _ w=>Has w0 tb p0 n0 fp (.node l2 x2 r2 c2) p2 w) ?_ ?_
 ·obtain ⟨⟨Di,⟨b,av,pl,pr,fl,fr,rfl,rfl,hb,DF,hl,hr⟩,KC,hsub,ho⟩,hd⟩:=hH
  have hH:Has w0 tb p0 n0 fp (.node l2 x2 r2 c2) (some ⟨b,0,none⟩) w:=⟨⟨_,⟨b,av,pl,pr,fl,fr,rfl,rfl,hb,DF,hl,hr⟩,KC,hsub,ho⟩,hd⟩
  have hs:=(St.nil w).AH hb (by simp)
  refine Jk ?_
  have AM:AA [] w _:=hs.AB [] (by simp [hb]) (by simp [D0])
  refine AY hs (h:=by exact Bl l2 pl fl _ (hl.keep AM (AL.nil _) (by simp))) (k:=?_);intro w' ho hs
  generalize hq:l2.red=q
  cases q
  ·refine Jj ?_
   exact AQ () Ae (hH.only (hs.AB [] (by simp [hb]) (by simp [D0])))
  ·refine Jf ?_
   have AM:AA [] w _:=hs.AB [] (by simp [hb]) (by simp [D0])
   refine AY hs (h:=by exact Bl r2 pr fr _ (hr.keep AM (AL.nil _) (by simp))) (k:=?_);intro w' ho hs
   generalize HN:r2.red=q2
   refine Jc ?_
   exact AQ () Ae (hH.only (hs.AB [] (by simp [hb]) (by simp [D0])))
 clear hH
 rintro _ env w hH
 refine Bg (fun _:Unit=>[(0,.pointer (some ⟨tb,0,none⟩)),(1,.pointer p2),(4,.pointer none)]) (fun _ w=>Has w0 tb p0 n0 fp (RB.EZ (.node l2 x2 r2 c2)) p2 w) ?_ ?_
 ·generalize hq:(l2.red && r2.red)=q
  cases q
  ·refine Jg ?_
   refine AQ () Ae ?_
   unfold RB.EZ
   rw [RB.Av,RB.BC,hq]
   exact hH
  ·obtain ⟨⟨Di,h1,h2,h3,h4⟩,h5⟩:=hH
   simp only [Bool.and_eq_true] at hq
   obtain ⟨ll,y,lr,rfl⟩:=RB.CC hq.1
   obtain ⟨rl,z,rr,rfl⟩:=RB.CC hq.2
   have hs:=St.nil w
   refine Ji ?_
   refine cl (h:=by exact Gj ll y lr true x2 rl z rr true c2 p2 Di _ h1 h2) (k:=?_)
   rintro v w' ⟨k1,k2⟩
   have hs:=St.nil w'
   refine Jb ?_
   refine AQ () Ae ⟨⟨Di,k1,h2,h3,h4.step k2 h3⟩,head_keep h5 k2 h1.nodes⟩
 rintro _ env w hH
 have e3:RB.EZ (.node l2 x2 r2 c2)=RB.mend (.node l x r c):=by rw [← e2,← e1];rfl
 rw [e3] at hH
 have hs:=St.nil w
 obtain ⟨⟨Di,h1,h2,h3,h4⟩,h5⟩:=hH
 refine Ja ?_
 refine AG ?_
 exact ⟨_,Di,rfl,h1,h2,h3,h4.step (hs.AD rfl) (by simp)⟩
theorem Cw.up {w0 w2 w3:World} {fp EW:List Nat} {t:RB IT} {v:Value} (k:Cw w2 EW t v w3) (ho:AA fp w0 w2) (hs:∀ k∈EW,k∈fp∨w0.heap.size≤k):Cw w0 fp t v w3:=by
 obtain ⟨p',Ct,rfl,k1,k2,k3,k4⟩:=k
 refine ⟨p',Ct,rfl,k1,k2,fun i hi=>?_,ho.step k4 hs⟩
 have:=ho.size
 rcases k3 i hi with h | h
 ·exact hs i h
 ·exact .inr om
theorem PE {w w' w2:World} {b:Nat} {y y2:IT} {av O9:It} {pl pr p':Option Addr} {c c2:Bool} {fl fr:List Nat} {r l':RB IT} (hb:w.heap[b]?=some (Ei y av pl pr c)) (hl:AL w fl) (hr:Ag w r pr fr) (hnd:(b :: (fl ++ fr)).Nodup)
 (k:Cw w fl l' (.pointer p') w') (ho:AA [b] w' w2) (ED:w2.heap[b]?=some (Ei y2 O9 p' pr c2)) :
 ∃ EW,Cn w2 l' y2 r c2 (some ⟨b,0,none⟩) EW∧EW.Nodup∧(∀ i∈EW,i∈b :: (fl ++ fr)∨w.heap.size≤i)∧AA (b :: (fl ++ fr)) w w2:=by
 obtain ⟨p,Ct,e,k1,k2,k3,k4⟩:=k
 obtain rfl:p'=p:=by injection e
 have zG:=lt_of_block hb
 have hrs:=hr.nodes.lt
 simp only [List.nodup_cons,List.nodup_append,List.mem_append] at hnd
 obtain ⟨d1,d2,d3,d4⟩:=hnd
 have e1:b∉Ct:=fun hm=>by
  rcases k3 b hm with h | h
  ·exact d1 (.inl h)
  ·omega
 have e2:∀ i∈fr,i∉fl:=fun i hi hm=>d4 i hm i hi rfl
 have CN:=k4.block hb (fun h=>d1 (.inl h))
 have hN:AL w' [b]:=AL.cons CN (AL.nil w')
 refine ⟨b :: (Ct ++ fr),⟨b,O9,p',pr,Ct,fr,rfl,rfl,ED,k1.keep ho hN (fun i hi hm=>?_),(hr.keep k4 hl e2).keep ho hN (fun i hi hm=>?_)⟩,?_,?_,?_⟩
 ·obtain rfl:=List.mem_singleton.1 hm;exact e1 hi
 ·obtain rfl:=List.mem_singleton.1 hm;exact d1 (.inr hi)
 ·simp only [List.nodup_cons,List.nodup_append,List.mem_append]
  refine ⟨fun h=>?_,k2,d3,fun i hi j hj hij=>?_⟩
  ·rcases h with h | h
   ·exact e1 h
   ·exact d1 (.inr h)
  ·subst hij
   rcases k3 i hi with h | h
   ·exact d4 i h i hj rfl
   ·have:=hrs i hj;omega
 ·intro i hi
  rcases List.mem_cons.1 hi with rfl | hi
  ·exact .inl List.mem_cons_self
  ·rcases List.mem_append.1 hi with hi | hi
   ·rcases k3 i hi with h | h
    ·exact .inl (List.mem_cons_of_mem _ (List.mem_append_left _ h))
    ·exact .inr h
   ·exact .inl (List.mem_cons_of_mem _ (List.mem_append_right _ hi))
 ·exact (k4.weaken (fun i hi=>List.mem_cons_of_mem _ (List.mem_append_left _ hi))).step ho (fun i hi => .inl (by obtain rfl:=List.mem_singleton.1 hi;exact List.mem_cons_self))
theorem Mk {w w' w2:World} {b:Nat} {y y2:IT} {av O9:It} {pl pr p':Option Addr} {c c2:Bool} {fl fr:List Nat} {l r':RB IT} (hb:w.heap[b]?=some (Ei y av pl pr c)) (hl:Ag w l pl fl) (hr:AL w fr) (hnd:(b :: (fl ++ fr)).Nodup)
 (k:Cw w fr r' (.pointer p') w') (ho:AA [b] w' w2) (ED:w2.heap[b]?=some (Ei y2 O9 pl p' c2)) :
 ∃ EW,Cn w2 l y2 r' c2 (some ⟨b,0,none⟩) EW∧EW.Nodup∧(∀ i∈EW,i∈b :: (fl ++ fr)∨w.heap.size≤i)∧AA (b :: (fl ++ fr)) w w2:=by
 obtain ⟨p,Ct,e,k1,k2,k3,k4⟩:=k
 obtain rfl:p'=p:=by injection e
 have zG:=lt_of_block hb
 have hls:=hl.nodes.lt
 simp only [List.nodup_cons,List.nodup_append,List.mem_append] at hnd
 obtain ⟨d1,d2,d3,d4⟩:=hnd
 have e1:b∉Ct:=fun hm=>by
  rcases k3 b hm with h | h
  ·exact d1 (.inr h)
  ·omega
 have e2:∀ i∈fl,i∉fr:=fun i hi hm=>d4 i hi i hm rfl
 have CN:=k4.block hb (fun h=>d1 (.inr h))
 have hN:AL w' [b]:=AL.cons CN (AL.nil w')
 refine ⟨b :: (fl ++ Ct),⟨b,O9,pl,p',fl,Ct,rfl,rfl,ED,(hl.keep k4 hr e2).keep ho hN (fun i hi hm=>?_),k1.keep ho hN (fun i hi hm=>?_)⟩,?_,?_,?_⟩
 ·obtain rfl:=List.mem_singleton.1 hm;exact d1 (.inl hi)
 ·obtain rfl:=List.mem_singleton.1 hm;exact e1 hi
 ·simp only [List.nodup_cons,List.nodup_append,List.mem_append]
  refine ⟨fun h=>?_,d2,k2,fun i hi j hj hij=>?_⟩
  ·rcases h with h | h
   ·exact d1 (.inl h)
   ·exact e1 h
  ·subst hij
   rcases k3 i hj with h | h
   ·exact d4 i hi i h rfl
   ·have:=hls i hi;omega
 ·intro i hi
  rcases List.mem_cons.1 hi with rfl | hi
  ·exact .inl List.mem_cons_self
  ·rcases List.mem_append.1 hi with hi | hi
   ·exact .inl (List.mem_cons_of_mem _ (List.mem_append_left _ hi))
   ·rcases k3 i hi with h | h
    ·exact .inl (List.mem_cons_of_mem _ (List.mem_append_right _ h))
    ·exact .inr h
 ·exact (k4.weaken (fun i hi=>List.mem_cons_of_mem _ (List.mem_append_right _ hi))).step ho (fun i hi => .inl (by obtain rfl:=List.mem_singleton.1 hi;exact List.mem_cons_self))
theorem F7 (x:IT):∀ t:RB IT,(RB.ins DK t x).list.length=t.list.length+1
 | .nil=>rfl
 | .node l y r c=>by
   simp only [RB.ins]
   cases DK x y
   ·rw [cond_false,RB.D4];simp only [RB.list,List.length_append,List.length_cons,F7 x r];omega
   ·rw [cond_true,RB.D4];simp only [RB.list,List.length_append,List.length_cons,F7 x l];omega
theorem Gf (tb:Nat) (p0:Option Addr) (n0:Int) (x:IT):∀ (t:RB IT) (p:Option Addr) (fp:List Nat) (w0:World) (hT:w0.heap[tb]?=some (C9 p0 n0)) (h:Ag w0 t p fp) (hnd:fp.Nodup) (hlen:t.list.length+1≤1000000),
 AO Tryz.prog 215 #[.pointer (some ⟨tb,0,none⟩),.pointer p,iv x.1] w0 fun v w'=>Cw w0 fp (RB.ins DK t x) v w'
 | .nil,p,fp,w0,hT,⟨hp,hf⟩,hnd,hlen=>by
   subst hp hf
   have hs:=(St.nil w0).AH hT (by simp)
   refine AR Tryz.func215 Tryz.ntmps215 (k:=?_);refine Ai ?_;refine Ao ?_;refine bx hs (k:=?_);intro bq wq MG hs;refine Je ?_
   refine dr [] hs (k:=?_);intro hX w hs
   refine tks 0 6 ?_
   refine dt 6 hX (k:=?_)
   refine AY hs (h:=by exact II x.1 _) (k:=?_);intro w' ho hs;refine Jb ?_
   refine dn (k:=?_)
   refine tk 7 hX (k:=?_)
   refine dt 8 hX (k:=?_)
   refine bx hs (k:=?_);intro b w hz hs
   refine Jb ?_
   refine dn (k:=?_)
   refine tk 9 hX (k:=?_)
   refine en (k:=?_)
   refine Jb ?_
   refine AG ?_
   have ho:AA [] w0 _:=hs.AB [] (by simp [hT]) (by simp [D0])
   have hnew:=hs.new (b,true) (by simp) rfl
   exact ⟨_,[b],rfl,⟨b,_,none,none,[],[],rfl,rfl,hs.get At.head,rfl,⟨rfl,rfl⟩,⟨rfl,rfl⟩⟩,by simp,fun k hk => .inr (by obtain rfl:=List.mem_singleton.1 hk;exact hnew),ho⟩
 | .node l y r c,p,fp,w0,hT,⟨b,av,pl,pr,fl,fr,hp,hf,hb,DF,hl,hr⟩,hnd,hlen=>by
   subst hp hf
   have EK:=Ca hT hb
   have hs:=((St.nil w0).AH hT (by simp)).AH hb (by simpa using EK)
   have YB:=lt_of_block hT
   have ZT:=lt_of_block hb
   have tJ:=hl.nodes.lt
   have lt4:=hr.nodes.lt
   simp only [RB.list,List.length_append,List.length_cons] at hlen
   refine AR Tryz.func215 Tryz.ntmps215 (k:=?_);refine Ai ?_;refine Ao ?_;refine bx hs (k:=?_);intro bq wq MG hs;refine Jd ?_
   have JI:=hs.new (bq,true) (by simp) rfl
   simp only at JI
   refine dr [] hs (k:=?_);intro hX w hs
   refine tks 0 9 ?_
   refine dt 9 hX (k:=?_)
   refine AY hs (h:=by exact NT x y _) (k:=?_);intro w' ho hs
   refine Jb ?_
   refine dn (k:=?_)
   refine tk 10 hX (k:=?_)
   refine en (k:=?_)
   generalize hq:DK x y=q
   cases q
   ·have e:RB.ins DK (.node l y r c) x=RB.mend (.node l y (RB.ins DK r x) c):=by simp [RB.ins,hq]
    rw [e]
    refine Jg ?_
    have AK:AA [] w0 _:=hs.AB [] (by simp [hT,hb]) (by simp [D0])
    have CT:=head_keep hT AK (AL.nil _)
    have Ez:=hl.keep AK (AL.nil _) (by simp)
    have hrw:=hr.keep AK (AL.nil _) (by simp)
    have CH:=hs.get (At.tail At.head)
    have Jv:=hs.get At.head
    refine dr [10] hs (k:=?_);intro hX w hs
    refine tks 0 7 ?_
    refine dt 7 hX (k:=?_)
    have AK:AA [] w0 _:=hs.AB [] (by simp [hT,hb]) (by simp [D0])
    have CT:=head_keep hT AK (AL.nil _)
    have Ez:=hl.keep AK (AL.nil _) (by simp)
    have hrw:=hr.keep AK (AL.nil _) (by simp)
    have CH:=hs.get (At.tail At.head)
    have Jv:=hs.get At.head
    refine cl (h:=by exact Gf tb p0 n0 x r pr fr _ CT hrw (by simp only [List.nodup_cons,List.nodup_append] at hnd;exact hnd.2.2.1) om) (k:=?_)
    rintro v w' hk
    obtain ⟨p',hv⟩:∃ p',v = .pointer p':=by obtain ⟨p',_,hv,_⟩:=hk;exact ⟨p',hv⟩
    subst hv
    obtain ⟨_,_,_,_,_,_,k4⟩:=id hk
    have Bv:=head_keep CT k4 hrw.nodes
    have CN:=k4.block CH (fun h=>by simp [h] at hnd)
    have hq1:=k4.block Jv (fun h=>by have:=lt4 bq h;omega)
    clear hs
    have hs:=(((St.nil w').AH Bv (by simp)).AH CN (by simpa using EK)).AH hq1 (by simp;omega)
    refine Jb ?_
    refine dn (k:=?_)
    refine tks 8 2 ?_
    refine dt 10 hX (k:=?_)
    repeat' (first|refine Nx.h ?_|(refine st hs (k:=?_);intro w hs)|fail)
    refine dn (k:=?_)
    refine en (k:=?_)
    refine Ja ?_
    have AT:AA [b] w' _:=hs.AB [b] (by simp [Bv,hq1]) (by simp [D0])
    obtain ⟨EW,s1,s2,s3,s4⟩:=Mk CH Ez hrw.nodes hnd hk AT (hs.get (At.tail At.head))
    refine cl (h:=by exact Gc tb p0 n0 _ y _ c _ _ _ (head_keep Bv AT (AL.cons CN (AL.nil _))) s1 s2 (by simp only [List.length_append,List.length_cons,F7];omega)) (k:=?_)
    rintro v w3 hm
    have hsz:=AK.size
    have hm2:=hm.up ((AK.weaken (G:=b :: (fl ++ fr)) (by simp)).step s4 (fun k hk => .inl hk)) (fun k hk=>by rcases s3 k hk with h | h;exact .inl h;exact .inr om)
    have hs:=St.nil w3
    refine Jc ?_
    refine AG ?_
    exact hm2
   ·have e:RB.ins DK (.node l y r c) x=RB.mend (.node (RB.ins DK l x) y r c):=by simp [RB.ins,hq]
    rw [e]
    repeat' (first|refine Nx.h ?_|refine FY ?_|fail)
    have AK:AA [] w0 _:=hs.AB [] (by simp [hT,hb]) (by simp [D0])
    have CT:=head_keep hT AK (AL.nil _)
    have Ez:=hl.keep AK (AL.nil _) (by simp)
    have hrw:=hr.keep AK (AL.nil _) (by simp)
    have CH:=hs.get (At.tail At.head)
    have Jv:=hs.get At.head
    refine dr [10] hs (k:=?_);intro hX w hs
    refine tks 0 7 ?_
    refine dt 7 hX (k:=?_)
    have AK:AA [] w0 _:=hs.AB [] (by simp [hT,hb]) (by simp [D0])
    have CT:=head_keep hT AK (AL.nil _)
    have Ez:=hl.keep AK (AL.nil _) (by simp)
    have hrw:=hr.keep AK (AL.nil _) (by simp)
    have CH:=hs.get (At.tail At.head)
    have Jv:=hs.get At.head
    refine cl (h:=by exact Gf tb p0 n0 x l pl fl _ CT Ez (by simp only [List.nodup_cons,List.nodup_append] at hnd;exact hnd.2.1) om) (k:=?_)
    rintro v w' hk
    obtain ⟨p',hv⟩:∃ p',v = .pointer p':=by obtain ⟨p',_,hv,_⟩:=hk;exact ⟨p',hv⟩
    subst hv
    obtain ⟨_,_,_,_,_,_,k4⟩:=id hk
    have Bv:=head_keep CT k4 Ez.nodes
    have CN:=k4.block CH (fun h=>by simp [h] at hnd)
    have hq1:=k4.block Jv (fun h=>by have:=tJ bq h;omega)
    clear hs
    have hs:=(((St.nil w').AH Bv (by simp)).AH CN (by simpa using EK)).AH hq1 (by simp;omega)
    refine Jb ?_
    refine dn (k:=?_)
    refine tks 8 2 ?_
    refine dt 10 hX (k:=?_)
    repeat' (first|refine Nx.h ?_|(refine st hs (k:=?_);intro w hs)|fail)
    refine dn (k:=?_)
    refine en (k:=?_)
    refine Ja ?_
    have AT:AA [b] w' _:=hs.AB [b] (by simp [Bv,hq1]) (by simp [D0])
    obtain ⟨EW,s1,s2,s3,s4⟩:=PE CH Ez.nodes hrw hnd hk AT (hs.get (At.tail At.head))
    refine cl (h:=by exact Gc tb p0 n0 _ y _ c _ _ _ (head_keep Bv AT (AL.cons CN (AL.nil _))) s1 s2 (by simp only [List.length_append,List.length_cons,F7];omega)) (k:=?_)
    rintro v w3 hm
    have hsz:=AK.size
    have hm2:=hm.up ((AK.weaken (G:=b :: (fl ++ fr)) (by simp)).step s4 (fun k hk => .inl hk)) (fun k hk=>by rcases s3 k hk with h | h;exact .inl h;exact .inr om)
    have hs:=St.nil w3
    refine Jc ?_
    refine AG ?_
    exact hm2
theorem Pp (tb:Nat) (p:Option Addr) (n:Int) (t:RB IT) (fp:List Nat) (x:IT) (w0:World) (hT:w0.heap[tb]?=some (C9 p n)) (h:Ag w0 t p fp) :
 AO Tryz.prog 214 #[.pointer (some ⟨tb,0,none⟩),iv x.1] w0 fun v w'=>v = .bool (RB.has DK x t)∧AA [] w0 w':=by
 have hs:=(St.nil w0).AH hT (by simp)
 have YB:=lt_of_block hT
 refine AR Tryz.func214 Tryz.ntmps214 (k:=?_);refine Ai ?_;refine Ao ?_;refine bx hs (k:=?_);intro bq wq MG hs;refine Jd ?_
 have JI:=hs.new (bq,true) (by simp) rfl
 simp only at JI
 have AK:AA [] w0 _:=hs.AB [] (by simp [hT]) (by simp [D0])
 have Jv:=hs.get At.head
 refine BS (fun _:Unit=>[]) (fun _ w=>RB.has DK x t=false∧AA [] w0 w) ?_ ?_
 ·refine BG (fun (s:RB IT × Option Addr)=>[(0,.pointer (some ⟨tb,0,none⟩)),(3,.pointer (some ⟨bq,0,none⟩)),(5,.pointer s.2)])
   (fun s w=>RB.has DK x s.1=RB.has DK x t∧AA [] w0 w∧w.heap[bq]?=some (.cells x.1.cells.toArray 64 (0,0))∧∃ fp,Ag w0 s.1 s.2 fp)
   (fun s=>s.1.list.length) (t,p) Ae ⟨rfl,AK,Jv,fp,h⟩ fun s env w ⟨h1,h2,Jv,EW,h3⟩=>?_
  clear hs
  obtain ⟨s,ps⟩:=s
  dsimp only at h1 h3 ⊢
  have CT:=h2.block hT (by simp)
  cases s with
  | nil =>
    obtain ⟨rfl,rfl⟩:=h3
    have hs:=St.nil w
    refine Jd ?_
    exact Au () Ae ⟨h1.symm,h2.step (hs.AD rfl) (by simp)⟩
  | node l y r c =>
    obtain ⟨b,av,pl,pr,fl,fr,rfl,rfl,hb,DF,hl,hr⟩:=h3
    have CH:=h2.block hb (by simp)
    have EK:=Ca hT hb
    have ZT:=lt_of_block hb
    have hs:=(((St.nil w).AH CT (by simp)).AH CH (by simpa using EK)).AH Jv (by simp;omega)
    refine Je ?_
    refine dr [] hs (k:=?_);intro hX w hs
    refine tks 0 9 ?_
    refine dt 9 hX (k:=?_)
    refine AY hs (h:=by exact NT x y _) (k:=?_);intro w' ho hs
    refine Jb ?_
    refine dn (k:=?_)
    refine tk 10 hX (k:=?_)
    refine en (k:=?_)
    generalize hq:DK x y=q
    simp only [RB.has,hq] at h1
    cases q
    ·refine Jg ?_
     refine dr [] hs (k:=?_);intro hX w hs
     refine tks 0 9 ?_
     refine dt 9 hX (k:=?_)
     refine AY hs (h:=by exact NT y x _) (k:=?_);intro w' ho hs
     refine Jb ?_
     refine dn (k:=?_)
     refine tk 10 hX (k:=?_)
     refine en (k:=?_)
     generalize HN:DK y x=q2
     simp only [HN,cond_false] at h1
     cases q2
     ·refine Jd ?_
      refine AG ?_
      exact ⟨by rw [← h1];rfl,h2.step (hs.AB [] (by simp [CT,CH,Jv]) (by simp [D0])) (by simp)⟩
     ·refine Je ?_
      exact A4 (r,pr) (by simp only [RB.list,List.length_append,List.length_cons];omega) Ae ⟨h1,h2.step (hs.AB [] (by simp [CT,CH,Jv]) (by simp [D0])) (by simp),hs.get At.head,_,hr⟩
    ·refine Je ?_
     exact A4 (l,pl) (by simp only [RB.list,List.length_append,List.length_cons];omega) Ae ⟨h1,h2.step (hs.AB [] (by simp [CT,CH,Jv]) (by simp [D0])) (by simp),hs.get At.head,_,hl⟩
 ·rintro _ env w ⟨h1,h2⟩
  clear hs
  have hs:=St.nil w
  refine Ja ?_
  refine AG ?_
  exact ⟨by rw [h1];rfl,h2.step (hs.AD rfl) (by simp)⟩
theorem Nc (l:RB IT) (x:IT) (r:RB IT) (c:Bool):∃ l' x' r' c',RB.EZ (.node l x r c) = .node l' x' r' c':=by
 unfold RB.EZ
 cases l with
 | nil=>exact ⟨_,_,_,_,rfl⟩
 | node a y b d =>
   cases r with
   | nil=>cases d <;> exact ⟨_,_,_,_,rfl⟩
   | node u z v e=>cases d <;> cases e <;> exact ⟨_,_,_,_,rfl⟩
theorem Kb (l:RB IT) (x:IT) (r:RB IT) (c:Bool):∃ l' x' r' c',RB.mend (.node l x r c) = .node l' x' r' c':=by
 unfold RB.mend
 obtain ⟨l1,x1,r1,c1,e1⟩:=JM l x r c
 obtain ⟨l2,x2,r2,c2,e2⟩:=J7 l1 x1 r1 c1
 rw [e1,e2]
 exact Nc l2 x2 r2 c2
theorem RN (x:IT) (t:RB IT):∃ l' x' r' c',RB.ins DK t x = .node l' x' r' c':=by
 cases t with
 | nil=>exact ⟨_,_,_,_,rfl⟩
 | node l y r c =>
   simp only [RB.ins]
   cases DK x y
   ·exact Kb _ _ _ _
   ·exact Kb _ _ _ _
theorem Ag.Ah {w w':World} {F:List Nat} (ho:AA F w w'):∀ {t:RB IT} {p:Option Addr} {fp:List Nat},Ag w t p fp→(∀ b∈fp,b∉F)→Ag w' t p fp
 | .nil,p,fp,h,_=>h
 | .node l x r c,p,fp,⟨b,av,pl,pr,fl,fr,h1,h2,h3,h4,h5,h6⟩,hd=>by
   subst h2
   exact ⟨b,av,pl,pr,fl,fr,h1,rfl,ho.block h3 (hd b List.mem_cons_self),h4,Ag.Ah ho h5 fun k hk=>hd k (List.mem_cons_of_mem _ (List.mem_append_left _ hk)),
    Ag.Ah ho h6 fun k hk=>hd k (List.mem_cons_of_mem _ (List.mem_append_right _ hk))⟩
theorem Gm {w w':World} {b tb:Nat} {t:RB IT} {p p0:Option Addr} {n0:Int} {fp:List Nat} {cs:Array Value} {fz:Nat × Nat} (h:Ag w t p fp) (ho:AA [b,tb] w w') (hb:w.heap[b]?=some (.cells cs 276 fz)) (hT:w.heap[tb]?=some (C9 p0 n0)) (h1:b∉fp) (h2:tb∉fp):Ag w' t p fp :=
 h.Ah ho fun k hk hm=>by
  simp only [List.mem_cons,List.not_mem_nil,or_false] at hm
  rcases hm with rfl | rfl
  ·exact h1 hk
  ·exact h2 hk
def Ck (w:World) (tb:Nat) (t:RB IT) (F:List Nat):Prop:=∃ p fp,F=tb :: fp∧w.heap[tb]?=some (C9 p t.list.length)∧Ag w t p fp∧fp.Nodup
def RB.insert (t:RB IT) (x:IT):RB IT:=bif RB.has DK x t then t else RB.blacken (RB.ins DK t x)
theorem GO (tb:Nat) (t:RB IT) (F:List Nat) (x:IT) (w0:World) (h:Ck w0 tb t F) (hlen:t.list.length+1≤1000000) :
 AO Tryz.prog 179 #[.pointer (some ⟨tb,0,none⟩),iv x.1] w0 fun v w'=>v = .bool (!RB.has DK x t)∧∃ F',Ck w' tb (RB.insert t x) F'∧(∀ k∈F',k∈F∨w0.heap.size≤k)∧AA F w0 w':=by
 obtain ⟨p,fp,rfl,hT,ht,hnd⟩:=h
 have hs:=(St.nil w0).AH hT (by simp)
 have YB:=lt_of_block hT
 have tJ:=ht.nodes.lt
 refine AR Tryz.func179 Tryz.ntmps179 (k:=?_);refine Ai ?_;refine Ao ?_;refine bx hs (k:=?_);intro bq wq MG hs;refine Ja ?_
 have JI:=hs.new (bq,true) (by simp) rfl
 simp only at JI
 have AK:AA [] w0 _:=hs.AB [] (by simp [hT]) (by simp [D0])
 refine AY hs (h:=by exact Pp tb p _ t fp x _ (hs.get (At.tail At.head)) (ht.keep AK (AL.nil _) (by simp))) (k:=?_);intro w' ho hs
 unfold RB.insert
 generalize hq:RB.has DK x t=q
 cases q
 ·obtain ⟨l',y,r',c,e⟩:=RN x t
  have hl':=F7 x t
  rw [e] at hl' ⊢
  refine Jl ?_
  refine dr [10] hs (k:=?_);intro hX w hs
  refine tks 0 7 ?_
  refine dt 7 hX (k:=?_)
  have AK:AA [] w0 _:=hs.AB [] (by simp [hT]) (by simp [D0])
  have CT:=hs.get (At.tail At.head)
  have Jv:=hs.get At.head
  have htw:=ht.keep AK (AL.nil _) (by simp)
  refine cl (h:=by exact Gf tb p _ x t p fp _ CT htw hnd hlen) (k:=?_)
  rintro v w1 ⟨p',Ct,rfl,k1,k2,k3,k4⟩
  have Bv:=head_keep CT k4 htw.nodes
  have hq1:=k4.block Jv (fun h=>by have:=tJ bq h;omega)
  rw [e] at k1
  obtain ⟨b,av,pl,pr,fl,fr,rfl,rfl,hb,DF,hl,hr⟩:=k1
  have EK:=Ca Bv hb
  have aB6:b≠bq:=A3 hb hq1 (by decide)
  clear hs
  have hs:=((St.nil w1).AH Bv (by simp)).AH hq1 (by simp;omega)
  refine Jb ?_
  refine dn (k:=?_)
  replace hs:=hs.AH (b:=b) hb (by simp [EK,aB6])
  refine tks 8 2 ?_
  refine dt 10 hX (k:=?_)
  repeat' (first|refine Nx.h ?_|(refine st hs (k:=?_);intro w hs)|fail)
  refine dn (k:=?_)
  refine en (k:=?_)
  repeat' (first|refine Sa ?_|(refine st hs (k:=?_);intro w hs)|fail)
  have en:IntKind.i64.wrap ((t.list.length:Nat)+1)=((l'.list ++ y :: r'.list).length:Nat):=by
   have h1:(l'.list ++ y :: r'.list).length=t.list.length+1:=hl'
   rw [h1]
   exact Ke om om
  rw [en] at hs
  refine AG ?_
  have AT:AA [b,tb] w1 _:=hs.AB [b,tb] (by simp [hq1]) (by simp [D0])
  have hsz:=AK.size
  have OI:b∉fl∧b∉fr:=by
   simp only [List.nodup_cons,List.mem_append,not_or] at k2
   exact k2.1
  have UR:tb∉fl∧tb∉fr:=⟨(fun h=>by obtain ⟨_,_,h⟩:=hl.nodes tb h;rw [Bv] at h;cases h),(fun h=>by obtain ⟨_,_,h⟩:=hr.nodes tb h;rw [Bv] at h;cases h)⟩
  have h2:=hs.get At.head
  have h3:=hs.get (At.tail (At.tail At.head))
  have o1:AA (tb :: fp) w0 w1:=(AK.weaken (by simp)).step k4 (fun k hk => .inl (List.mem_cons_of_mem _ hk))
  refine ⟨rfl,tb :: (b :: (fl ++ fr)),⟨_,_,rfl,h3,⟨b,av,pl,pr,fl,fr,rfl,rfl,h2,DF,?_,?_⟩,k2⟩,?_,?_⟩
  ·exact Gm hl AT hb Bv OI.1 UR.1
  ·exact Gm hr AT hb Bv OI.2 UR.2
  ·intro k hk
   rcases List.mem_cons.1 hk with rfl | hk
   ·exact .inl List.mem_cons_self
   ·rcases k3 k hk with h | h
    ·exact .inl (List.mem_cons_of_mem _ h)
    ·exact .inr om
  ·refine o1.step AT (fun k hk=>?_)
   simp only [List.mem_cons,List.not_mem_nil,or_false] at hk
   rcases hk with rfl | rfl
   ·rcases k3 k List.mem_cons_self with h | h
    ·exact .inl (List.mem_cons_of_mem _ h)
    ·exact .inr om
   ·exact .inl List.mem_cons_self
 ·refine Je ?_
  refine AG ?_
  have AK:AA [] w0 _:=hs.AB [] (by simp [hT]) (by simp [D0])
  exact ⟨rfl,_,⟨p,fp,rfl,hs.get (At.tail At.head),ht.keep AK (AL.nil _) (by simp),hnd⟩,fun k hk => .inl hk,AK.weaken (by simp)⟩
def Bt (l:List IT):List Value:=(l.map fun a=>a.1.cells).flatten
theorem MQ (a b:List IT):Bt (a ++ b)=Bt a ++ Bt b:=by simp [Bt]
theorem Ms {w:World} {e k n:Nat} {v:Value} {xs:List Value} {G:List Nat} (h:B7 w e k v n xs G) {t:Nat} (hne:t≠e) {cs:Array Value} {fz:Nat × Nat} {b:Nat} (hb:w.heap[b]?=some (.cells cs t fz)):b∉G:=fun hm=>by
 rcases h with ⟨_,_,_,rfl⟩ | ⟨g,cap,cur,_,rfl,_,_,_,_,hg⟩
 ·cases hm
 ·obtain rfl:=List.mem_singleton.1 hm
  exact A3 hb hg hne rfl
theorem AL.not {w:World} {F:List Nat} (hF:AL w F) {e k n:Nat} {v:Value} {xs:List Value} {G:List Nat} (h:B7 w e k v n xs G) (hne:276≠e):∀ b∈F,b∉G:=fun b hb=>by
 obtain ⟨cs,fz,h1⟩:=hF b hb
 exact Ms h hne h1
theorem Gd:∀ (t:RB IT) (p:Option Addr) (fp:List Nat) (v0:Value) (xs:List IT) (G:List Nat) (w0:World) (h:Ag w0 t p fp) (hO:B7 w0 64 7 v0 xs.length (Bt xs) G) (hlen:xs.length+t.list.length≤1000000),
 AO Tryz.prog 239 #[.pointer p,v0] w0 fun v w'=>(∃ G',B7 w' 64 7 v (xs ++ t.list).length (Bt (xs ++ t.list)) G'∧(∀ k∈G',k∈G∨w0.heap.size≤k))∧AA G w0 w'
 | .nil,p,fp,v0,xs,G,w0,h,hO,hlen=>by
   obtain ⟨rfl,rfl⟩:=h
   have hs:=St.nil w0
   refine AR Tryz.func239 Tryz.ntmps239 (k:=?_)
   refine Je ?_
   refine AG ?_
   have ho:=hs.AD rfl
   rw [show xs ++ RB.nil.list=xs from List.append_nil xs]
   exact ⟨⟨G,hO.keep ho (by simp),fun k hk => .inl hk⟩,ho.weaken (by simp)⟩
 | .node l x r c,p,fp,v0,xs,G,w0,⟨b,av,pl,pr,fl,fr,hp',hf',hb,DF,hl,hr⟩,hO,hlen=>by
   subst hp' hf'
   simp only [RB.list,List.length_append,List.length_cons] at hlen
   have hs:=(St.nil w0).AH hb (by simp)
   have hGl:=hO.lt
   have Zb:=Ms hO (by decide) hb
   have hnl:=hl.nodes.not hO (by decide)
   have Q9:=hr.nodes.not hO (by decide)
   have ltr:=hr.nodes.lt
   have ltb:=lt_of_block hb
   refine AR Tryz.func239 Tryz.ntmps239 (k:=?_)
   refine Jd ?_
   refine dr [] hs (k:=?_);intro hX w hs
   refine tks 0 9 ?_
   refine tks 10 4 ?_
   refine rN 14 22 x.1.cells hs (k:=?_);intro f X w hp;have hs:=hp.st
   apply BM 9 14 (f:=f) (X:=X) hX hp;exact rfl;exact rfl;(first | (apply AS AJ;exact rfl) | (apply E4 AJ;exact rfl;exact rfl;exact rfl;exact rfl;exact rfl;(intro X;((repeat (first | exact C7.nil | (apply C7.one;exact rfl;(conv=>lhs;whnf);exact rfl;(repeat (first | exact Al.nil | apply Al.skip | apply Al.cons))) | (apply C7.agg;exact rfl;exact rfl;exact rfl;(repeat (first | exact Al.nil | apply Al.skip | apply Al.cons)))))))));kernel_rfl;kernel_rfl;kernel_rfl;kernel_rfl;(intro X Y;(repeat (first | exact A6 | refine A5 ?_ (by exact rfl))));(intro w' hs;first|exact AI hs.hold|exact AI hs.hold.tail|exact A9 rfl);intro f X w hp;have hs:=hp.st
   have AK:AA [] w0 _:=hs.AB [] (by simp [hb]) (by simp [D0])
   refine cl (h:=by exact Gd l pl fl v0 xs G _ (hl.keep AK (AL.nil _) (by simp)) (hO.keep AK (by simp)) om) (k:=?_)
   rintro v1 w1 ⟨⟨G1,M0,NH⟩,AM⟩
   have Jq:=AK.size
   have hp:FQ w0 ⟨G ++ [],[]⟩ _ _ _ (fun w=>B7 w 64 7 v1 (xs ++ l.list).length (Bt (xs ++ l.list)) G1) _ _ _:=⟨hp.core.call AM hGl (fun k hk hm=>by obtain rfl:=List.mem_singleton.1 hm;exact Zb hk) (by simp [D0]),M0,fun _ _ ho h=>h.keep ho (by simp)⟩
   replace hs:=hp.st
   have RK:∀ k∈G1,k∈G∨w0.heap.size≤k:=fun k hk=>by rcases NH k hk with h | h;exact .inl h;exact .inr om
   clear NH AK AM
   refine Jb ?_
   refine dn (k:=?_)
   apply Bi 14 (f:=f) (X:=X) hX hp;exact rfl;(first | (apply AS AJ;exact rfl) | (apply E4 AJ;exact rfl;exact rfl;exact rfl;exact rfl;exact rfl;(intro X;((repeat (first | exact C7.nil | (apply C7.one;exact rfl;(conv=>lhs;whnf);exact rfl;(repeat (first | exact Al.nil | apply Al.skip | apply Al.cons))) | (apply C7.agg;exact rfl;exact rfl;exact rfl;(repeat (first | exact Al.nil | apply Al.skip | apply Al.cons)))))))));kernel_rfl;kernel_rfl;(intro X Y;(repeat (first | exact A6 | refine A5 ?_ (by exact rfl))));(intro w' hs;first|exact AI hs.hold|exact AI hs.hold.tail|exact A9 rfl);intro b w hI hs
   refine dt 15 hX (k:=?_)
   have aCd:=hs.get At.head
   replace hs:=hs.CF
   have CH:=hs.get At.head
   refine CO AJ rfl rfl rfl rfl rfl rfl rfl (by decide) (lit_cells (news:=x.1.cells) aCd) (by simp [Value.oneCell']) hI (by simp only [List.length_append];omega) (by simp only [List.length_append];omega) ?_
   intro v2 w3 ⟨G2,K4,K0⟩ AT
   have MF:=hs.size
   have aB0:=Ms hI (by decide) CH
   replace hs:=hs.call AT (fun k hk hm=>by obtain rfl:=List.mem_singleton.1 hm;exact aB0 hk) (by simp)
   have aAG:B7 w3 64 7 v2 (xs ++ l.list ++ [x]).length (Bt (xs ++ l.list ++ [x])) G2:=by
    rw [MQ (xs ++ l.list) [x],List.length_append (bs:=[x])]
    exact K4
   have RM:∀ k∈G2,k∈G∨w0.heap.size≤k:=fun k hk=>by
    rcases K0 k hk with h | h
    ·exact RK k h
    ·exact .inr om
   have yM:AA (G1 ++ (G ++ [])) w0 w3:=hs.AB _ (by simp [hb]) (by simp)
   have XY:=hr.Ah yM (fun k hk hm=>by
    simp only [List.append_nil,List.mem_append] at hm
    rcases hm with hm | hm
    ·rcases RK k hm with h | h
     ·exact Q9 k hk h
     ·have:=ltr k hk;omega
    ·exact Q9 k hk hm)
   refine Jb ?_
   refine dn (k:=?_)
   refine dt 16 hX (k:=?_)
   refine cl (h:=by exact Gd r pr fr v2 (xs ++ l.list ++ [x]) G2 _ XY aAG (by simp only [List.length_append,List.length_cons,List.length_nil];omega)) (k:=?_)
   rintro v3 w4 ⟨⟨G3,H8,NU⟩,Aw⟩
   have OF:=hs.size
   have aCV:=hs.get At.head
   have aB3:=Ms aAG (by decide) aCV
   replace hs:=hs.call Aw (fun k hk hm=>by obtain rfl:=List.mem_singleton.1 hm;exact aB3 hk) (by simp)
   refine Jb ?_
   refine dn (k:=?_)
   refine tk 17 hX (k:=?_)
   refine en (k:=?_)
   refine Jb ?_
   refine AG ?_
   rw [show xs ++ l.list ++ [x] ++ r.list=xs ++ (RB.node l x r c).list by simp [RB.list]] at H8
   have aBt:AA (G2 ++ (G1 ++ (G ++ []))) w0 w4:=hs.AB _ (by simp [hb]) (by simp)
   refine ⟨⟨G3,H8,fun k hk=>?_⟩,?_⟩
   ·rcases NU k hk with h | h
    ·exact RM k h
    ·exact .inr om
   ·refine aBt.mono fun k hk hm=>?_
    simp only [List.append_nil,List.mem_append] at hm
    rcases hm with hm | hm | hm
    ·rcases RM k hm with h | h
     ·exact h
     ·omega
    ·rcases RK k hm with h | h
     ·exact h
     ·omega
    ·exact hm
def DX (w:World) (v:Value) (l:List IT):Prop:=J5 w v (l.map (·.1))
theorem PT {w:World} {v:Value} {l:List IT} {G:List Nat} (h:B7 w 64 7 v l.length (Bt l) G):DX w v l:=by
 unfold DX J5
 refine h.ls ?_ (by simp) ?_
 ·simp [Bt,Function.comp_def]
 ·intro x hx
  obtain ⟨a,_,rfl⟩:=List.mem_map.1 hx
  rfl
theorem Oj (tb:Nat) (t:RB IT) (F:List Nat) (w0:World) (h:Ck w0 tb t F) (hlen:t.list.length≤1000000) :
 AO Tryz.prog 226 #[.pointer (some ⟨tb,0,none⟩)] w0 fun v w'=>(∃ G,B7 w' 64 7 v t.list.length (Bt t.list) G∧∀ k∈G,w0.heap.size≤k)∧AA [] w0 w':=by
 obtain ⟨p,fp,rfl,hT,ht,hnd⟩:=h
 have hs:=(St.nil w0).AH hT (by simp)
 refine AR Tryz.func226 Tryz.ntmps226 (k:=?_)
 refine Jd ?_
 have AK:AA [] w0 _:=hs.AB [] (by simp [hT]) (by simp [D0])
 refine cl (h:=by exact Gd t p fp _ [] [] _ (ht.keep AK (AL.nil _) (by simp)) (.inl ⟨rfl,rfl,rfl,rfl⟩) (by simpa using hlen)) (k:=?_)
 rintro v w' ⟨⟨G,hO,hG⟩,ho⟩
 replace hs:=hs.AN ho
 rw [List.nil_append] at hO
 have hz:=AK.size
 refine Jc ?_
 refine AG ?_
 exact ⟨⟨G,hO,fun k hk=>by rcases hG k hk with h | h;cases h;omega⟩,hs.AB [] (by simp [hT]) (by simp [D0])⟩
theorem gC (tb:Nat) (t:RB IT) (F:List Nat) (w0:World) (h:Ck w0 tb t F) :
 AO Tryz.prog 84 #[.pointer (some ⟨tb,0,none⟩)] w0 fun v w'=>v = .int .i64 (t.list.length:Nat)∧AA [] w0 w':=by
 obtain ⟨p,fp,rfl,hT,ht,hnd⟩:=h
 have hs:=(St.nil w0).AH hT (by simp)
 refine AR Tryz.func84 Tryz.ntmps84 (k:=?_)
 refine Jd ?_
 refine AG ?_
 exact ⟨rfl,hs.AB [] (by simp [hT]) (by simp [D0])⟩
theorem Me (w0:World):AO Tryz.prog 175 #[.func (.func 176) #[] #[],.func (.func 177) #[] #[],.func (.func 178) #[] #[]] w0 fun v w'=>(∃ tb F,v = .pointer (some ⟨tb,0,none⟩)∧Ck w' tb .nil F∧(∀ k∈F,w0.heap.size≤k))∧AA [] w0 w':=by
 have hs:=St.nil w0
 refine AR Tryz.func175 Tryz.ntmps175 (k:=?_)
 refine Ai ?_
 refine Ao ?_
 refine vs (k:=?_)
 refine XS.nil ?_
 refine ET ?_
 refine Ai ?_
 refine Ao ?_
 refine vs (k:=?_)
 refine vs (k:=?_)
 refine vs (k:=?_)
 refine vs (k:=?_)
 refine bx hs (k:=?_);intro b w hz hs
 refine Jc ?_
 refine AG ?_
 have hnew:=hs.new (b,true) (by simp) rfl
 exact ⟨⟨b,[b],rfl,⟨none,[],rfl,hs.get At.head,⟨rfl,rfl⟩,List.nodup_nil⟩,fun k hk=>by obtain rfl:=List.mem_singleton.1 hk;exact hnew⟩,hs.AD rfl⟩
theorem SK {t:RB IT} (h:RB.both t=true):∃ a x b c1 y d z e c2 c,t = .node (.node a x b c1) y (.node d z e c2) c:=by
 cases t with
 | nil=>cases h
 | node l y r c =>
   cases l with
   | nil=>cases h
   | node a x b c1 =>
     cases r with
     | nil=>cases h
     | node d z e c2=>exact ⟨_,_,_,_,_,_,_,_,_,_,rfl⟩
theorem sub_up {w0 w:World} {fp Di EW:List Nat} (h1:∀ k∈Di,k∈fp∨w0.heap.size≤k) (h2:∀ k∈EW,k∈Di∨w.heap.size≤k) (hz:w0.heap.size≤w.heap.size):∀ k∈EW,k∈fp∨w0.heap.size≤k:=fun k hk=>by
 rcases h2 k hk with h | h
 ·exact h1 k h
 ·exact .inr om
theorem QL (tb:Nat) (p0:Option Addr) (n0:Int) (t:RB IT) (p:Option Addr) (fp:List Nat) (w0:World) (hT:w0.heap[tb]?=some (C9 p0 n0)) (h:Ag w0 t p fp) (hnd:fp.Nodup) (hlen:t.list.length≤1000000) (hb:RB.both t=true) :
 AO Tryz.prog 246 #[.pointer (some ⟨tb,0,none⟩),.pointer p] w0 fun v w'=>Cw w0 fp (RB.FF t) v w':=by
 obtain ⟨a,x,b,c1,y,d,z,e,c2,c,rfl⟩:=SK hb
 clear hb
 have hs:=St.nil w0
 refine AR Tryz.func246 Tryz.ntmps246 (k:=?_)
 refine Ja ?_
 refine cl (h:=by exact Gj a x b c1 y d z e c2 c p fp _ h hnd) (k:=?_)
 rintro v w1 ⟨k1,AK⟩
 have Bv:=head_keep hT AK h.nodes
 clear hs h
 obtain ⟨m,av,pl,pr,fl,fr,rfl,rfl,hm,DF,hl,hr⟩:=k1
 have Lg:=hr
 obtain ⟨u,Js,pd,pe,fd,fe,rfl,rfl,hu,Mq,hd,he⟩:=hr
 have zO:u≠m:=fun e=>by subst e;simp at hnd
 have hs:=((St.nil w1).AH hm (by simp)).AH hu (by simpa using zO)
 refine Ja ?_
 have AM:AA [] w1 _:=hs.AB [] (by simp [hm,hu]) (by simp [D0])
 refine AY hs (h:=by exact Bl d pd fd _ (hd.keep AM (AL.nil _) (by simp))) (k:=?_);intro w' ho hs
 cases hq:d.red
 ·refine Jd ?_
  refine AG ?_
  have AM:AA [] w1 _:=hs.AB [] (by simp [hm,hu]) (by simp [D0])
  have e1:RB.FF (.node (.node a x b c1) y (.node d z e c2) c) = .node (.node a x b !c1) y (.node d z e !c2) !c:=by
   simp [RB.FF,RB.flip,RB.BC,RB.Av,hq]
  rw [e1]
  exact ⟨_,_,rfl,Ag.keep AM (AL.nil _) ⟨m,av,pl,_,fl,_,rfl,rfl,hm,DF,hl,Lg⟩ (by simp),hnd,fun k hk => .inl hk,AK.step AM (by simp)⟩
 ·obtain ⟨da,v,de,rfl⟩:=RB.CC hq
  have e1:RB.FF (.node (.node a x b c1) y (.node (.node da v de true) z e c2) c) = .node (.node (.node a x b !c1) y da (!true)) v (.node de z e (!true)) (!!c):=by
   simp [RB.FF,RB.flip,RB.BC,RB.Av,RB.BV,RB.Bu,RB.DS,RB.Gw]
  rw [e1]
  refine Je ?_
  have AM:AA [] w1 _:=hs.AB [] (by simp [hm,hu]) (by simp [D0])
  have hl2:=hl.keep AM (AL.nil _) (by simp)
  have TE:=Lg.keep AM (AL.nil _) (by simp)
  have hm2:=hs.get (At.tail At.head)
  have Kr:=head_keep Bv AM (AL.nil _)
  have K4:AA (m :: (fl ++ (u :: (fd ++ fe)))) w0 _:=AK.step AM (by simp)
  simp only [RB.list,List.length_append,List.length_cons,List.append_assoc,List.cons_append] at hlen
  refine cl (h:=by exact HC tb p0 n0 da v de z e (!c2) true _ _ _ Kr TE.MN (by simp only [List.nodup_cons,List.nodup_append] at hnd ⊢;exact hnd.2.2.1) (by simp only [List.length_append,List.length_cons];omega)) (k:=?_)
  rintro v' w2 hk
  obtain ⟨p',hv⟩:∃ p',v' = .pointer p':=by obtain ⟨p',_,hv,_⟩:=hk;exact ⟨p',hv⟩
  subst hv
  obtain ⟨_,_,_,_,_,_,k4⟩:=id hk
  have Fh:=head_keep Kr k4 TE.nodes
  have hm3:=k4.block hm2 (fun h=>by simp only [List.nodup_cons,List.mem_append] at hnd;exact hnd.1 (.inr h))
  clear hs
  have hs:=(St.nil w2).AH hm3 (by simp)
  repeat' (first|refine Sa ?_|(refine st hs (k:=?_);intro w hs)|fail)
  have AT:AA [m] w2 _:=hs.AB [m] (by simp) (by simp [D0])
  obtain ⟨EW,s1,s2,s3,s4⟩:=Mk hm2 hl2 TE.nodes hnd hk AT (hs.get At.head)
  have hsz:=K4.size
  have s3':=sub_up (fp:=m :: (fl ++ (u :: (fd ++ fe)))) (fun k hk => .inl hk) s3 hsz
  have H8:AA (m :: (fl ++ (u :: (fd ++ fe)))) w0 _:=K4.step s4 (fun k hk => .inl hk)
  have S3:=head_keep Fh AT (AL.cons hm3 (AL.nil _))
  clear hs
  have hs:=St.nil w2
  refine cl (h:=by exact LF tb p0 n0 (.node a x b !c1) y da v (.node de z e true) (!c) (!c2) _ EW _ S3 s1 s2 (by simp only [RB.list,List.length_append,List.length_cons];omega)) (k:=?_)
  rintro v' w4 ⟨p3,mG,rfl,k1,k2,k3,k5⟩
  have QK:=head_keep S3 k5 s1.nodes
  have Ox:=sub_up s3' k3 H8.size
  have hO4:=H8.step k5 s3'
  clear hs
  have hs:=St.nil w4
  refine Ja ?_
  have Aq:=hs.AD rfl
  refine cl (h:=by exact Gj (.node a x b !c1) y da true v de z e true (!c) p3 mG _ (k1.keep Aq (AL.nil _) (by simp)) k2) (k:=?_)
  rintro v' w5 ⟨k6,Cb⟩
  have hs:=St.nil w5
  refine Ja ?_
  refine AG ?_
  exact ⟨p3,mG,rfl,k6,k2,Ox,(hO4.step Aq (by simp)).step Cb Ox⟩
theorem Wg (tb:Nat) (p0:Option Addr) (n0:Int) (t:RB IT) (p:Option Addr) (fp:List Nat) (w0:World) (hT:w0.heap[tb]?=some (C9 p0 n0)) (h:Ag w0 t p fp) (hnd:fp.Nodup) (hlen:t.list.length≤1000000) (hb:RB.both t=true) :
 AO Tryz.prog 247 #[.pointer (some ⟨tb,0,none⟩),.pointer p] w0 fun v w'=>Cw w0 fp (RB.FI t) v w':=by
 obtain ⟨a,x,b,c1,y,d,z,e,c2,c,rfl⟩:=SK hb
 clear hb
 have hs:=St.nil w0
 refine AR Tryz.func247 Tryz.ntmps247 (k:=?_)
 refine Ja ?_
 refine cl (h:=by exact Gj a x b c1 y d z e c2 c p fp _ h hnd) (k:=?_)
 rintro v w1 ⟨k1,AK⟩
 have Bv:=head_keep hT AK h.nodes
 clear hs h
 have k0:=k1
 obtain ⟨m,av,pl,pr,fl,fr,rfl,rfl,hm,DF,hl,hr⟩:=k1
 obtain ⟨u,Js,pd,pe,fd,fe,rfl,rfl,hu,Mq,hd,he⟩:=hl
 have zO:u≠m:=fun e=>by subst e;simp at hnd
 have hs:=((St.nil w1).AH hm (by simp)).AH hu (by simpa using zO)
 refine Ja ?_
 have AM:AA [] w1 _:=hs.AB [] (by simp [hm,hu]) (by simp [D0])
 refine AY hs (h:=by exact Bl a pd fd _ (hd.keep AM (AL.nil _) (by simp))) (k:=?_);intro w' ho hs
 cases hq:a.red
 ·refine Jd ?_
  refine AG ?_
  have AM:AA [] w1 _:=hs.AB [] (by simp [hm,hu]) (by simp [D0])
  have e1:RB.FI (.node (.node a x b c1) y (.node d z e c2) c) = .node (.node a x b !c1) y (.node d z e !c2) !c:=by
   simp [RB.FI,RB.flip,RB.BC,RB.Av,hq]
  rw [e1]
  exact ⟨_,_,rfl,k0.keep AM (AL.nil _) (by simp),hnd,fun k hk => .inl hk,AK.step AM (by simp)⟩
 ·obtain ⟨da,v,de,rfl⟩:=RB.CC hq
  have e1:RB.FI (.node (.node (.node da v de true) x b c1) y (.node d z e c2) c) = .node (.node da v de (!true)) x (.node b y (.node d z e !c2) (!true)) (!!c):=by
   simp [RB.FI,RB.flip,RB.BC,RB.Av,RB.BV,RB.DS]
  rw [e1]
  refine Je ?_
  have AM:AA [] w1 _:=hs.AB [] (by simp [hm,hu]) (by simp [D0])
  have Kr:=head_keep Bv AM (AL.nil _)
  have K4:AA (m :: ((u :: (fd ++ fe)) ++ fr)) w0 _:=AK.step AM (by simp)
  simp only [RB.list,List.length_append,List.length_cons,List.append_assoc,List.cons_append] at hlen
  have k00:=k0.keep AM (AL.nil _) (by simp)
  refine cl (h:=by exact HC tb p0 n0 (.node da v de true) x b y (.node d z e !c2) (!c) (!c1) _ _ _ Kr k00.MN hnd (by simp only [RB.list,List.length_append,List.length_cons];omega)) (k:=?_)
  rintro v' w4 ⟨p3,mG,rfl,k1,k2,k3,k5⟩
  have Ox:=sub_up (fun k hk => .inl hk) k3 K4.size
  have hO4:=K4.step k5 (fun k hk => .inl hk)
  clear hs
  have hs:=St.nil w4
  refine Ja ?_
  have Aq:=hs.AD rfl
  refine cl (h:=by exact Gj da v de true x b y (.node d z e !c2) true (!c) p3 mG _ (k1.keep Aq (AL.nil _) (by simp)) k2) (k:=?_)
  rintro v' w5 ⟨k6,Cb⟩
  have hs:=St.nil w5
  refine Ja ?_
  refine AG ?_
  exact ⟨p3,mG,rfl,k6,k2,Ox,(hO4.step Aq (by simp)).step Cb Ox⟩
theorem Ky {t u:RB IT} (h:RB.Ee t=some u):u.list=t.list:=by
 unfold RB.Ee at h
 cases hq:(!t.left.red && !t.left.left.red)
 ·rw [hq,cond_false] at h;cases h;rfl
 ·rw [hq,cond_true] at h
  cases hb:RB.both t
  ·rw [hb] at h;cases h
  ·rw [hb,cond_true] at h;cases h
   exact RB.W4 t
theorem SF {t u:RB IT} (h:RB.I9 t=some u):u.list=t.list:=by
 unfold RB.I9 at h
 cases hq:(!t.right.red && !t.right.left.red)
 ·rw [hq,cond_false] at h;cases h;rfl
 ·rw [hq,cond_true] at h
  cases hb:RB.both t
  ·rw [hb] at h;cases h
  ·rw [hb,cond_true] at h;cases h
   exact RB.VZ t
theorem LD:∀ (k:Nat) (t t':RB IT),RB.F8 k t=some t'→t'.list.length≤t.list.length
 | 0,t,t',h=>by cases h
 | k+1,t,t',h=>by
   simp only [RB.F8] at h
   cases h1:t.isNil
   ·rw [h1,cond_false] at h
    cases h2:t.left.isNil
    ·rw [h2,cond_false] at h
     cases hd:RB.Ee t with
     | none=>rw [hd] at h;cases h
     | some u =>
       rw [hd] at h
       cases u with
       | nil=>cases h
       | node l x r c =>
         obtain ⟨l',hl,rfl⟩:=Option.map_eq_some_iff.1 h
         have:=LD k l l' hl
         rw [RB.D4,← Ky hd]
         simp only [RB.list,List.length_append,List.length_cons]
         omega
    ·rw [h2,cond_true] at h;cases h;simp [RB.list]
   ·rw [h1,cond_true] at h;cases h
theorem TS (tb:Nat) (p0:Option Addr) (n0:Int):∀ (k:Nat) (t t':RB IT) (p:Option Addr) (fp:List Nat) (w0:World) (hT:w0.heap[tb]?=some (C9 p0 n0)) (h:Ag w0 t p fp) (hnd:fp.Nodup) (hlen:t.list.length≤1000000) (hc:RB.F8 k t=some t'),
 AO Tryz.prog 248 #[.pointer (some ⟨tb,0,none⟩),.pointer p] w0 fun v w'=>Cw w0 fp t' v w'
 | 0,t,t',p,fp,w0,hT,h,hnd,hlen,hc=>by cases hc
 | k+1,.nil,t',p,fp,w0,hT,h,hnd,hlen,hc=>by cases hc
 | k+1,.node .nil x r c,t',p,fp,w0,hT,h,hnd,hlen,hc=>by
   simp only [RB.F8,RB.isNil,RB.Av,cond_true,cond_false,Option.some.injEq] at hc
   subst hc
   obtain ⟨b,av,pl,pr,fl,fr,rfl,rfl,hb,DF,⟨rfl,rfl⟩,hr⟩:=h
   have hs:=(St.nil w0).AH hb (by simp)
   refine AR Tryz.func248 Tryz.ntmps248 (k:=?_)
   refine Je ?_
   refine AG ?_
   exact ⟨none,[],rfl,⟨rfl,rfl⟩,List.nodup_nil,(fun k hk=>by cases hk),(hs.AB [] (by simp [hb]) (by simp [D0])).weaken (by simp)⟩
 | k+1,.node (.node ll z lr lc) x r c,t',p,fp,w0,hT,h,hnd,hlen,hc=>by
   rw [RB.F8] at hc
   simp only [RB.isNil,RB.Av,cond_false] at hc
   have hH:Has w0 tb p0 n0 fp (.node (.node ll z lr lc) x r c) p w0:=⟨⟨fp,h,hnd,fun k hk => .inl hk,AA.refl _ _⟩,hT⟩
   obtain ⟨b,av,pl,pr,fl,fr,rfl,hf,hb,DF,hl,hr⟩:=h
   have hl0:=hl
   obtain ⟨u,Js,U9,QT,fll,flr,rfl,rfl,hu,Mq,HQ,hlr⟩:=hl
   have SY:u≠b:=fun e=>by subst e;rw [hf] at hnd;simp at hnd
   have hs:=((St.nil w0).AH hb (by simp)).AH hu (by simpa using SY)
   refine AR Tryz.func248 Tryz.ntmps248 (k:=?_)
   refine Jb ?_
   refine Ao ?_
   refine Jc ?_
   refine Ao ?_
   refine Jl ?_
   refine Bg (fun _:Unit=>[(0,.pointer (some ⟨tb,0,none⟩)),(1,.pointer (some ⟨b,0,none⟩)),(4,.pointer none),(26,.bool (!lc && !ll.red))]) (fun _ w=>Has w0 tb p0 n0 fp (.node (.node ll z lr lc) x r c) (some ⟨b,0,none⟩) w) ?_ ?_
   ·refine Jk ?_
    have AM:AA [] w0 _:=hs.AB [] (by simp [hb,hu]) (by simp [D0])
    refine AY hs (h:=by exact Bl _ _ _ _ (hl0.keep AM (AL.nil _) (by simp))) (k:=?_);intro w' ho hs
    rw [RB.BV]
    cases lc
    ·refine Jf ?_
     have AM:AA [] w0 _:=hs.AB [] (by simp [hb,hu]) (by simp [D0])
     refine AY hs (h:=by exact Bl _ _ _ _ (HQ.keep AM (AL.nil _) (by simp))) (k:=?_);intro w' ho hs
     generalize HN:ll.red=q2
     refine Jc ?_
     exact AQ () Ae (hH.only (hs.AB [] (by simp [hb,hu]) (by simp [D0])))
    ·refine Jj ?_
     exact AQ () Ae (hH.only (hs.AB [] (by simp [hb,hu]) (by simp [D0])))
   clear hH hs hb DF hl0 hu Mq HQ hlr hr
   rintro _ env w hH
   obtain ⟨d,hd⟩:∃ d,RB.Ee (.node (.node ll z lr lc) x r c)=some d:=by
    cases hd:RB.Ee (.node (.node ll z lr lc) x r c) with
    | none=>rw [hd] at hc;cases hc
    | some d=>exact ⟨d,rfl⟩
   rw [hd] at hc
   have hdl:=Ky hd
   refine Bg (fun s:Option Addr=>[(0,.pointer (some ⟨tb,0,none⟩)),(1,.pointer s),(4,.pointer none)]) (fun s w=>Has w0 tb p0 n0 fp d s w) ?_ ?_
   ·unfold RB.Ee at hd
    rw [RB.Av,RB.BV,RB.Av] at hd
    generalize hq:(!lc && !ll.red)=q at *
    cases q
    ·refine Jg ?_
     cases hd
     exact AQ _ Ae hH
    ·rw [cond_true] at hd
     cases hbo:RB.both (.node (.node ll z lr lc) x r c)
     ·rw [hbo] at hd;cases hd
     rw [hbo,cond_true] at hd
     cases hd
     obtain ⟨⟨Di,h1,h2,h3,h4⟩,h5⟩:=hH
     have hs:=St.nil w
     refine Ji ?_
     refine cl (h:=by exact QL tb p0 n0 _ _ _ _ h5 h1 h2 hlen hbo) (k:=?_)
     rintro v w' hv
     obtain ⟨p',rfl,hH⟩:=Has.next h1 h3 h4 h5 hv
     have hs:=St.nil w'
     refine Jc ?_
     exact AQ p' Ae hH
   clear hH
   rintro p1 env w hH
   cases d with
   | nil=>cases hc
   | node l1 x1 r1 c1 =>
   obtain ⟨l',hl',rfl⟩:=Option.map_eq_some_iff.1 hc
   obtain ⟨⟨Di,⟨b,av,pl,pr,fl,fr,rfl,rfl,hb,DF,hl,hr⟩,h2,h3,h4⟩,h5⟩:=hH
   have EK:=Ca h5 hb
   have hs:=(St.nil w).AH hb (by simp)
   rw [← hdl] at hlen
   simp only [RB.list,List.length_append,List.length_cons] at hlen
   refine Ja ?_
   have AK:AA [] w _:=hs.AB [] (by simp [hb]) (by simp [D0])
   have Ez:=hl.keep AK (AL.nil _) (by simp)
   have hrw:=hr.keep AK (AL.nil _) (by simp)
   have CH:=hs.get At.head
   have CT:=head_keep h5 AK (AL.nil _)
   refine cl (h:=by exact TS tb p0 n0 k l1 l' pl fl _ CT Ez (by simp only [List.nodup_cons,List.nodup_append] at h2;exact h2.2.1) om hl') (k:=?_)
   rintro v w' hk
   obtain ⟨p',hv⟩:∃ p',v = .pointer p':=by obtain ⟨p',_,hv,_⟩:=hk;exact ⟨p',hv⟩
   subst hv
   obtain ⟨_,_,_,_,_,_,k4⟩:=id hk
   have Bv:=head_keep CT k4 Ez.nodes
   have CN:=k4.block CH (fun h=>by simp [h] at h2)
   clear hs
   have hs:=(St.nil w').AH CN (by simp)
   repeat' (first|refine Sa ?_|(refine st hs (k:=?_);intro w hs)|fail)
   have AT:AA [b] w' _:=hs.AB [b] (by simp) (by simp [D0])
   obtain ⟨EW,s1,s2,s3,s4⟩:=PE CH Ez.nodes hrw h2 hk AT (hs.get At.head)
   have MK:=LD k l1 l' hl'
   refine cl (h:=by exact Gc tb p0 n0 _ x1 _ c1 _ _ _ (head_keep Bv AT (AL.cons CN (AL.nil _))) s1 s2 (by simp only [List.length_append,List.length_cons];omega)) (k:=?_)
   rintro v w3 hm
   have hO:=(h4.step AK (by simp)).step s4 h3
   have hm2:=hm.up hO (sub_up h3 s3 (h4.step AK (by simp)).size)
   have hs:=St.nil w3
   refine Jc ?_
   refine AG ?_
   exact hm2
abbrev bJ (a:It):Obj := .cells #[.int .u64 a.p.t,.int .u32 a.p.r,.int .u32 a.p.w,.int .i64 a.id,.int .u64 a.d.t,.int .u32 a.d.r,.int .u32 a.d.w] 64 (0,0)
theorem nodes_q {w:World} {F:List Nat} (h:AL w F) {bq:Nat} {a:It} (hQ:w.heap[bq]?=some (bJ a)):bq∉F:=fun hm=>by
 obtain ⟨cs,fz,h1⟩:=h bq hm
 exact A3 hQ h1 (by decide) rfl
structure IV (bq:Nat) (a:It) (w0:World) (tb:Nat) (p0:Option Addr) (n0:Int) (fp:List Nat) (t:RB IT) (p:Option Addr) (w:World):Prop where
 base:Has w0 tb p0 n0 fp t p w
 q:w.heap[bq]?=some (bJ a)
theorem IV.only {bq:Nat} {a:It} {w0 w w':World} {tb:Nat} {p0:Option Addr} {n0:Int} {fp:List Nat} {t:RB IT} {p:Option Addr} (h:IV bq a w0 tb p0 n0 fp t p w) (ho:AA [] w w'):IV bq a w0 tb p0 n0 fp t p w':=⟨h.base.only ho,ho.block h.q (by simp)⟩
theorem IV.next {bq:Nat} {a:It} {w0 w w':World} {tb:Nat} {p0:Option Addr} {n0:Int} {fp Di:List Nat} {t t':RB IT} {p:Option Addr} {v:Value} (h1:Ag w t p Di) (h2:∀ k∈Di,k∈fp∨w0.heap.size≤k) (h3:AA fp w0 w) (h4:w.heap[tb]?=some (C9 p0 n0)) (hQ:w.heap[bq]?=some (bJ a)) (k:Cw w Di t' v w') :
 ∃ p',v = .pointer p'∧IV bq a w0 tb p0 n0 fp t' p' w':=by
 obtain ⟨p',e,h⟩:=Has.next h1 h2 h3 h4 k
 obtain ⟨_,_,_,_,_,_,ko⟩:=k
 exact ⟨p',e,h,ko.block hQ (nodes_q h1.nodes hQ)⟩
theorem Px (x:IT):∀ (k:Nat) (t t':RB IT),RB.cut DK x k t=some t'→t'.list.length≤t.list.length
 | 0,t,t',h=>by cases h
 | k+1,.nil,t',h=>by cases h
 | k+1,.node l y r c,t',h=>by
   rw [RB.cut] at h
   cases hxy:DK x y
   ·rw [hxy,cond_false] at h
    have hu:(bif l.red then RB.DS (.node l y r c) else .node l y r c:RB IT).list=(RB.node l y r c).list:=by
     cases l.red
     ·rfl
     ·exact RB.Hh _
    generalize (bif l.red then RB.DS (.node l y r c) else .node l y r c:RB IT)=u at h hu
    cases h2:u.right.isNil
    ·rw [h2,cond_false] at h
     cases hd:RB.I9 u with
     | none=>rw [hd] at h;cases h
     | some d =>
       rw [hd] at h
       have hdl:=SF hd
       cases d with
       | nil=>cases h
       | node l2 y2 r2 c2 =>
         simp only at h
         rw [← hu,← hdl]
         cases h3:DK y2 x
         ·rw [h3,cond_false] at h
          cases hm:RB.least r2 with
          | none=>rw [hm] at h;cases h
          | some m =>
            rw [hm] at h
            obtain ⟨r',hr',rfl⟩:=Option.map_eq_some_iff.1 h
            have:=LD k r2 r' hr'
            rw [RB.D4]
            simp only [RB.list,List.length_append,List.length_cons]
            omega
         ·rw [h3,cond_true] at h
          obtain ⟨r',hr',rfl⟩:=Option.map_eq_some_iff.1 h
          have:=Px x k r2 r' hr'
          rw [RB.D4]
          simp only [RB.list,List.length_append,List.length_cons]
          omega
    ·rw [h2,cond_true] at h;cases h;simp [RB.list]
   ·rw [hxy,cond_true] at h
    cases h2:l.isNil
    ·rw [h2,cond_false] at h
     cases hd:RB.Ee (.node l y r c) with
     | none=>rw [hd] at h;cases h
     | some d =>
       rw [hd] at h
       have hdl:=Ky hd
       cases d with
       | nil=>cases h
       | node l2 y2 r2 c2 =>
         obtain ⟨l',hl',rfl⟩:=Option.map_eq_some_iff.1 h
         have:=Px x k l2 l' hl'
         rw [RB.D4,← hdl]
         simp only [RB.list,List.length_append,List.length_cons]
         omega
    ·rw [h2,cond_true] at h;cases h
theorem Tp (tb:Nat) (p0:Option Addr) (n0:Int) (x:IT):∀ (k:Nat) (t t':RB IT) (p:Option Addr) (fp:List Nat) (w0:World) (hT:w0.heap[tb]?=some (C9 p0 n0)) (h:Ag w0 t p fp) (hnd:fp.Nodup) (hlen:t.list.length≤1000000) (hc:RB.cut DK x k t=some t'),
 AO Tryz.prog 237 #[.pointer (some ⟨tb,0,none⟩),.pointer p,iv x.1] w0 fun v w'=>Cw w0 fp t' v w'
 | 0,t,t',p,fp,w0,hT,h,hnd,hlen,hc=>by cases hc
 | k+1,.nil,t',p,fp,w0,hT,h,hnd,hlen,hc=>by cases hc
 | k+1,.node l y r c,t',p,fp,w0,hT,h,hnd,hlen,hc=>by
   rw [RB.cut] at hc
   have Zo:Has w0 tb p0 n0 fp (.node l y r c) p w0:=⟨⟨fp,h,hnd,fun k hk => .inl hk,AA.refl _ _⟩,hT⟩
   obtain ⟨b,av,pl,pr,fl,fr,rfl,hf,hb,DF,hl,hr⟩:=h
   have EK:=Ca hT hb
   have hs:=((St.nil w0).AH hT (by simp)).AH hb (by simpa using EK)
   refine AR Tryz.func237 Tryz.ntmps237 (k:=?_);refine Ai ?_;refine Ao ?_;refine bx hs (k:=?_);intro bq wq MG hs;refine Jc ?_
   have JI:=hs.new (bq,true) (by simp) rfl
   simp only at JI
   refine dr [] hs (k:=?_);intro hX w hs
   refine tks 0 9 ?_
   refine dt 9 hX (k:=?_)
   refine cl (h:=by exact NT x y _) (k:=?_)
   rintro v w1 ⟨rfl,ho⟩;replace hs:=hs.AN ho
   refine Jb ?_
   refine dn (k:=?_)
   refine en (k:=?_)
   have AK:AA [] w0 w1:=hs.AB [] (by simp [hT,hb]) (by simp [D0])
   have hQ:=hs.get At.head
   have hH:IV bq x.1 w0 tb p0 n0 fp (.node l y r c) (some ⟨b,0,none⟩) w1:=⟨Zo.only AK,hQ⟩
   have Bv:=hs.get (At.tail (At.tail At.head))
   have CN:=hs.get (At.tail At.head)
   have LU:=hl.keep AK (AL.nil _) (by simp)
   have Mv:=hr.keep AK (AL.nil _) (by simp)
   generalize hq:DK x y=q
   rw [show DK x y=q from hq] at hc
   clear hs Zo hT hb hl hr ho DF
   cases q
   ·rw [cond_false] at hc
    have hs:=(St.nil w1).AH CN (by simp)
    refine Jg ?_
    refine Bg (fun _:Unit=>[(0,.pointer (some ⟨tb,0,none⟩)),(1,.pointer (some ⟨b,0,none⟩)),(5,.pointer (some ⟨bq,0,none⟩)),(6,.pointer none),(55,.bool l.red)]) (fun _ w=>IV bq x.1 w0 tb p0 n0 fp (.node l y r c) (some ⟨b,0,none⟩) w) ?_ ?_
    ·refine Jk ?_
     have AM:AA [] w1 _:=hs.AB [] (by simp [CN]) (by simp [D0])
     refine AY hs (h:=by exact Bl _ _ _ _ (LU.keep AM (AL.nil _) (by simp))) (k:=?_);intro w' ho hs
     generalize HN:l.red=q2
     refine Jb ?_
     exact AQ () Ae (hH.only (hs.AB [] (by simp [CN]) (by simp [D0])))
    clear hH hs CN LU Mv Bv
    rintro _ env w hH
    refine Bg (fun s:Option Addr=>[(0,.pointer (some ⟨tb,0,none⟩)),(1,.pointer s),(5,.pointer (some ⟨bq,0,none⟩)),(6,.pointer none)]) (fun s w=>IV bq x.1 w0 tb p0 n0 fp (bif l.red then RB.DS (.node l y r c) else .node l y r c) s w) ?_ ?_
    ·cases HN:l.red
     ·refine Jg ?_
      exact AQ _ Ae hH
     ·obtain ⟨ll,z,lr,rfl⟩:=RB.CC HN
      obtain ⟨⟨⟨Di,h1,h2,h3,h4⟩,h5⟩,hQ⟩:=hH
      have hs:=St.nil w
      refine Ji ?_
      refine cl (h:=by exact HC tb p0 n0 ll z lr y r c true _ _ _ h5 h1.MN h2 (by simpa [RB.list] using hlen)) (k:=?_)
      rintro v w' hv
      obtain ⟨p',rfl,hH⟩:=IV.next h1 h3 h4 h5 hQ hv
      have hs:=St.nil w'
      refine Jc ?_
      exact AQ p' Ae hH
    clear hH
    rintro p1 env w hH
    obtain ⟨l1,y1,r1,c1,hu,hul⟩:∃ l1 y1 r1 c1,(bif l.red then RB.DS (.node l y r c) else .node l y r c:RB IT) = .node l1 y1 r1 c1∧(RB.node l1 y1 r1 c1).list=(RB.node l y r c).list:=by
     cases HN:l.red
     ·exact ⟨_,_,_,_,rfl,rfl⟩
     ·obtain ⟨ll,z,lr,rfl⟩:=RB.CC HN
      exact ⟨_,_,_,_,rfl,RB.Hh (.node (.node ll z lr true) y r c)⟩
    rw [hu] at hH hc
    rw [RB.BC] at hc
    obtain ⟨⟨⟨Di,⟨b,av,pl,pr,fl,fr,rfl,jX,hb,DF,hl,hr⟩,h2,h3,h4⟩,h5⟩,hQ⟩:=hH
    have hH:IV bq x.1 w0 tb p0 n0 fp (.node l1 y1 r1 c1) (some ⟨b,0,none⟩) w:=⟨⟨⟨Di,⟨b,av,pl,pr,fl,fr,rfl,jX,hb,DF,hl,hr⟩,h2,h3,h4⟩,h5⟩,hQ⟩
    cases r1 with
    | nil =>
      simp only [RB.isNil,cond_true,Option.some.injEq] at hc
      subst hc
      obtain ⟨rfl,rfl⟩:=hr
      have hs:=(St.nil w).AH hb (by simp)
      refine Je ?_
      refine AG ?_
      exact ⟨none,[],rfl,⟨rfl,rfl⟩,List.nodup_nil,(fun k hk=>by cases hk),h4.step (hs.AB [] (by simp [hb]) (by simp [D0])) (by simp)⟩
    | node rl z rr rc =>
    simp only [RB.isNil,cond_false] at hc
    have Lg:=hr
    obtain ⟨u,Js,U9,QT,fll,flr,rfl,sN,Ho,Mq,HQ,hlr⟩:=hr
    have SY:u≠b:=fun e=>by subst e;rw [jX,sN] at h2;simp at h2
    have hs:=((St.nil w).AH hb (by simp)).AH Ho (by simpa using SY)
    refine Jb ?_
    refine Ao ?_
    refine Jl ?_
    refine Bg (fun _:Unit=>[(0,.pointer (some ⟨tb,0,none⟩)),(1,.pointer (some ⟨b,0,none⟩)),(5,.pointer (some ⟨bq,0,none⟩)),(6,.pointer none),(80,.bool (!rc && !rl.red))]) (fun _ w=>IV bq x.1 w0 tb p0 n0 fp (.node l1 y1 (.node rl z rr rc) c1) (some ⟨b,0,none⟩) w) ?_ ?_
    ·refine Jk ?_
     have AM:AA [] w _:=hs.AB [] (by simp [hb,Ho]) (by simp [D0])
     refine AY hs (h:=by exact Bl _ _ _ _ (Lg.keep AM (AL.nil _) (by simp))) (k:=?_);intro w' ho hs
     rw [RB.BV]
     cases rc
     ·refine Jf ?_
      have AM:AA [] w _:=hs.AB [] (by simp [hb,Ho]) (by simp [D0])
      refine AY hs (h:=by exact Bl _ _ _ _ (HQ.keep AM (AL.nil _) (by simp))) (k:=?_);intro w' ho hs
      generalize HN:rl.red=q2
      refine Jc ?_
      exact AQ () Ae (hH.only (hs.AB [] (by simp [hb,Ho]) (by simp [D0])))
     ·refine Jj ?_
      exact AQ () Ae (hH.only (hs.AB [] (by simp [hb,Ho]) (by simp [D0])))
    clear hH hs hb hl Lg Ho Mq HQ hlr h2 h3 h4 h5 DF jX sN
    rintro _ env w hH
    obtain ⟨d,hd⟩:∃ d,RB.I9 (.node l1 y1 (.node rl z rr rc) c1)=some d:=by
     cases hd:RB.I9 (.node l1 y1 (.node rl z rr rc) c1) with
     | none=>rw [hd] at hc;cases hc
     | some d=>exact ⟨d,rfl⟩
    rw [hd] at hc
    have hdl:=SF hd
    rw [hul] at hdl
    refine Bg (fun s:Option Addr=>[(0,.pointer (some ⟨tb,0,none⟩)),(1,.pointer s),(5,.pointer (some ⟨bq,0,none⟩)),(6,.pointer none)]) (fun s w=>IV bq x.1 w0 tb p0 n0 fp d s w) ?_ ?_
    ·unfold RB.I9 at hd
     rw [RB.BC,RB.BV,RB.Av] at hd
     generalize hq:(!rc && !rl.red)=q at *
     cases q
     ·refine Jg ?_
      cases hd
      exact AQ _ Ae hH
     ·rw [cond_true] at hd
      cases hbo:RB.both (.node l1 y1 (.node rl z rr rc) c1)
      ·rw [hbo] at hd;cases hd
      rw [hbo,cond_true] at hd
      cases hd
      obtain ⟨⟨⟨Di,h1,h2,h3,h4⟩,h5⟩,hQ⟩:=hH
      have hs:=St.nil w
      refine Ji ?_
      refine cl (h:=by exact Wg tb p0 n0 _ _ _ _ h5 h1 h2 (by rw [hul];exact hlen) hbo) (k:=?_)
      rintro v w' hv
      obtain ⟨p',rfl,hH⟩:=IV.next h1 h3 h4 h5 hQ hv
      have hs:=St.nil w'
      refine Jc ?_
      exact AQ p' Ae hH
    clear hH
    rintro p2 env wB hH
    cases d with
    | nil=>cases hc
    | node l2 y2 r2 c2 =>
    simp only at hc
    obtain ⟨⟨⟨Di,⟨b,av,pl,pr,fl,fr,rfl,rfl,hb,DF,hl,hr⟩,h2,h3,h4⟩,h5⟩,hQ⟩:=hH
    have EK:=Ca h5 hb
    have n1:=A3 hQ hb (by decide)
    have n2:=A3 hQ h5 (by decide)
    have hs:=(((St.nil wB).AH h5 (by simp)).AH hb (by simpa using EK)).AH hQ (by simp [n1,n2])
    rw [← hdl] at hlen
    simp only [RB.list,List.length_append,List.length_cons] at hlen
    refine Jb ?_
    refine dr [] hs (k:=?_);intro hX w hs
    refine tks 0 9 ?_
    refine dt 9 hX (k:=?_)
    refine AY hs (h:=by exact NT y2 x _) (k:=?_);intro w' ho hs
    refine Jb ?_
    refine dn (k:=?_)
    refine en (k:=?_)
    generalize nO:DK y2 x=q3
    rw [show DK y2 x=q3 from nO] at hc
    have AK:AA [] wB _:=hs.AB [] (by simp [h5,hb,hQ]) (by simp [D0])
    have Ez:=hl.keep AK (AL.nil _) (by simp)
    have hrw:=hr.keep AK (AL.nil _) (by simp)
    have CH:=hs.get (At.tail At.head)
    have CT:=hs.get (At.tail (At.tail At.head))
    have SL:=hs.get At.head
    have M0:=h4.step AK (by simp)
    have aAE:fr.Nodup:=by simp only [List.nodup_cons,List.nodup_append] at h2;exact h2.2.2.1
    cases q3
    ·rw [cond_false] at hc
     obtain ⟨m,hm⟩:∃ m,RB.least r2=some m:=by
      cases hm:RB.least r2 with
      | none=>rw [hm] at hc;cases hc
      | some m=>exact ⟨m,rfl⟩
     rw [hm] at hc
     obtain ⟨r',hr',rfl⟩:=Option.map_eq_some_iff.1 hc
     clear hs
     have hs:=(St.nil w').AH CH (by simp)
     refine Jd ?_
     refine BS (fun q:Nat=>[(0,.pointer (some ⟨tb,0,none⟩)),(1,.pointer (some ⟨b,0,none⟩)),(5,.pointer (some ⟨bq,0,none⟩)),(6,.pointer none),(7,.pointer (some ⟨q,0,none⟩))]) (fun q w2=>AA [] w' w2∧q∈fr∧∃ MY Xo Z8 c',w'.heap[q]?=some (Ei m MY Xo Z8 c')) ?_ ?_
     ·refine BG (fun (s:RB IT × Option Addr)=>[(0,.pointer (some ⟨tb,0,none⟩)),(1,.pointer (some ⟨b,0,none⟩)),(5,.pointer (some ⟨bq,0,none⟩)),(6,.pointer none),(7,.pointer s.2)])
       (fun s w2=>AA [] w' w2∧RB.least s.1=some m∧∃ ZK,Ag w' s.1 s.2 ZK∧∀ k∈ZK,k∈fr)
       (fun s=>s.1.list.length) (r2,pr) Ae ⟨hs.AB [] (by simp [CH]) (by simp [D0]),hm,fr,hrw,fun k hk=>hk⟩ fun s env w2 ⟨g1,g2,ZK,g3,g4⟩=>?_
      clear hs
      obtain ⟨s,ps⟩:=s
      dsimp only at g2 g3 ⊢
      cases s with
      | nil=>cases g2
      | node sl sz sr sc =>
      obtain ⟨q,avq,pql,pqr,fql,fqr,rfl,rfl,Z7,hqa,jW,hqr⟩:=g3
      have HN:=g1.block Z7 (by simp)
      have hs:=(St.nil w2).AH HN (by simp)
      cases sl with
      | nil =>
        obtain ⟨rfl,rfl⟩:=jW
        simp only [RB.least,Option.some.injEq] at g2
        subst g2
        refine Jd ?_
        exact Au q Ae ⟨g1.step (hs.AB [] (by simp [HN]) (by simp [D0])) (by simp),g4 q List.mem_cons_self,_,_,_,_,Z7⟩
      | node a1 a2 a3 a4 =>
        have aBd:=jW
        obtain ⟨_,_,_,_,_,_,rfl,_⟩:=jW
        refine Je ?_
        exact A4 (.node a1 a2 a3 a4,_) (by simp only [RB.list,List.length_append,List.length_cons];omega) Ae ⟨g1.step (hs.AB [] (by simp [HN]) (by simp [D0])) (by simp),g2,fql,aBd,fun k hk=>g4 k (List.mem_cons_of_mem _ (List.mem_append_left _ hk))⟩
     ·clear hs
      rintro q env w2 ⟨g1,g2,avq,plq,prq,cq,g3⟩
      have Z7:q≠b:=fun e=>by subst e;simp [g2] at h2
      have ED:=g1.block CH (by simp)
      have HN:=g1.block g3 (by simp)
      have hs:=((St.nil w2).AH ED (by simp)).AH HN (by simpa using Z7)
      repeat' (first|refine Sa ?_|(refine AU hs (k:=?_);intro w hs)|fail)
      have AM:AA [b] w2 _:=hs.AB [b] (by simp [HN]) (by simp [D0])
      have hN:AL w2 [b]:=AL.cons ED (AL.nil _)
      have OI:b∉fl∧b∉fr:=by simp only [List.nodup_cons,List.mem_append,not_or] at h2;exact h2.1
      have hl3:=(Ez.keep g1 (AL.nil _) (by simp)).keep AM hN (fun k hk hm=>by obtain rfl:=List.mem_singleton.1 hm;exact OI.1 hk)
      have XY:=(hrw.keep g1 (AL.nil _) (by simp)).keep AM hN (fun k hk hm=>by obtain rfl:=List.mem_singleton.1 hm;exact OI.2 hk)
      have Gx:=hs.get (At.tail At.head)
      have Fh:=head_keep (head_keep CT g1 (AL.nil _)) AM hN
      have H8:=(M0.step g1 (by simp)).step AM (fun k hk=>by obtain rfl:=List.mem_singleton.1 hk;exact h3 k List.mem_cons_self)
      refine cl (h:=by exact TS tb p0 n0 k r2 r' pr fr _ Fh XY aAE om hr') (k:=?_)
      rintro v w4 hk
      obtain ⟨p',hv⟩:∃ p',v = .pointer p':=by obtain ⟨p',_,hv,_⟩:=hk;exact ⟨p',hv⟩
      subst hv
      obtain ⟨_,_,_,_,_,_,k4⟩:=id hk
      have S3:=head_keep Fh k4 XY.nodes
      have hb4:=k4.block Gx OI.2
      clear hs
      have hs:=(St.nil w4).AH hb4 (by simp)
      repeat' (first|refine Sa ?_|(refine st hs (k:=?_);intro w hs)|fail)
      have BY:AA [b] w4 _:=hs.AB [b] (by simp) (by simp [D0])
      obtain ⟨EW,s1,s2,s3,s4⟩:=Mk Gx hl3 XY.nodes h2 hk BY (hs.get At.head)
      have MK:=LD k r2 r' hr'
      refine cl (h:=by exact Gc tb p0 n0 _ m _ c2 _ _ _ (head_keep S3 BY (AL.cons hb4 (AL.nil _))) s1 s2 (by simp only [List.length_append,List.length_cons];omega)) (k:=?_)
      rintro v w5 hm
      have hO:=H8.step s4 h3
      have hm2:=hm.up hO (sub_up h3 s3 H8.size)
      have hs:=St.nil w5
      refine Jc ?_
      refine AG ?_
      exact hm2
    ·rw [cond_true] at hc
     obtain ⟨r',hr',rfl⟩:=Option.map_eq_some_iff.1 hc
     repeat' (first|refine Nx.h ?_|refine FY ?_|fail)
     refine dr [10] hs (k:=?_);intro hX w hs
     refine tks 0 7 ?_
     refine dt 7 hX (k:=?_)
     have AK:AA [] wB _:=hs.AB [] (by simp [h5,hb,hQ]) (by simp [D0])
     have Ez:=hl.keep AK (AL.nil _) (by simp)
     have hrw:=hr.keep AK (AL.nil _) (by simp)
     have CH:=hs.get (At.tail At.head)
     have CT:=hs.get (At.tail (At.tail At.head))
     have SL:=hs.get At.head
     have M0:=h4.step AK (by simp)
     refine cl (h:=by exact Tp tb p0 n0 x k r2 r' pr fr _ CT hrw aAE om hr') (k:=?_)
     rintro v w4 hk
     obtain ⟨p',hv⟩:∃ p',v = .pointer p':=by obtain ⟨p',_,hv,_⟩:=hk;exact ⟨p',hv⟩
     subst hv
     obtain ⟨_,_,_,_,_,_,k4⟩:=id hk
     have Bv:=head_keep CT k4 hrw.nodes
     have CN:=k4.block CH (fun h=>by simp [h] at h2)
     have hq1:=k4.block SL (nodes_q hrw.nodes SL)
     clear hs
     have hs:=(((St.nil w4).AH Bv (by simp)).AH CN (by simpa using EK)).AH hq1 (by simp [n1,n2])
     refine Jb ?_
     refine dn (k:=?_)
     refine tks 8 2 ?_
     refine dt 10 hX (k:=?_)
     repeat' (first|refine Nx.h ?_|(refine st hs (k:=?_);intro w hs)|fail)
     refine dn (k:=?_)
     refine en (k:=?_)
     refine Ja ?_
     have AT:AA [b] w4 _:=hs.AB [b] (by simp [Bv,hq1]) (by simp [D0])
     obtain ⟨EW,s1,s2,s3,s4⟩:=Mk CH Ez hrw.nodes h2 hk AT (hs.get (At.tail At.head))
     have MK:=Px x k r2 r' hr'
     refine cl (h:=by exact Gc tb p0 n0 _ y2 _ c2 _ _ _ (head_keep Bv AT (AL.cons CN (AL.nil _))) s1 s2 (by simp only [List.length_append,List.length_cons];omega)) (k:=?_)
     rintro v w3 hm
     have hm2:=hm.up (M0.step s4 h3) (sub_up h3 s3 M0.size)
     have hs:=St.nil w3
     refine Jc ?_
     refine AG ?_
     exact hm2
   ·rw [cond_true] at hc
    cases l with
    | nil=>cases hc
    | node ll z lr lc =>
    simp only [RB.isNil,cond_false] at hc
    have hl0:=LU
    obtain ⟨u,Js,U9,QT,fll,flr,rfl,rfl,hu,Mq,HQ,hlr⟩:=LU
    have SY:u≠b:=fun e=>by subst e;rw [hf] at hnd;simp at hnd
    have hs:=((St.nil w1).AH CN (by simp)).AH hu (by simpa using SY)
    repeat' (first|refine Nx.h ?_|refine FY ?_|fail)
    refine Bg (fun _:Unit=>[(0,.pointer (some ⟨tb,0,none⟩)),(1,.pointer (some ⟨b,0,none⟩)),(5,.pointer (some ⟨bq,0,none⟩)),(6,.pointer none),(34,.bool (!lc && !ll.red))]) (fun _ w=>IV bq x.1 w0 tb p0 n0 fp (.node (.node ll z lr lc) y r c) (some ⟨b,0,none⟩) w) ?_ ?_
    ·refine Jk ?_
     have AM:AA [] w1 _:=hs.AB [] (by simp [CN,hu]) (by simp [D0])
     refine AY hs (h:=by exact Bl _ _ _ _ (hl0.keep AM (AL.nil _) (by simp))) (k:=?_);intro w' ho hs
     rw [RB.BV]
     cases lc
     ·refine Jf ?_
      have AM:AA [] w1 _:=hs.AB [] (by simp [CN,hu]) (by simp [D0])
      refine AY hs (h:=by exact Bl _ _ _ _ (HQ.keep AM (AL.nil _) (by simp))) (k:=?_);intro w' ho hs
      generalize HN:ll.red=q2
      refine Jc ?_
      exact AQ () Ae (hH.only (hs.AB [] (by simp [CN,hu]) (by simp [D0])))
     ·refine Jj ?_
      exact AQ () Ae (hH.only (hs.AB [] (by simp [CN,hu]) (by simp [D0])))
    clear hH hs CN hl0 hu Mq HQ hlr Mv Bv
    rintro _ env w hH
    obtain ⟨d,hd⟩:∃ d,RB.Ee (.node (.node ll z lr lc) y r c)=some d:=by
     cases hd:RB.Ee (.node (.node ll z lr lc) y r c) with
     | none=>rw [hd] at hc;cases hc
     | some d=>exact ⟨d,rfl⟩
    rw [hd] at hc
    have hdl:=Ky hd
    refine Bg (fun s:Option Addr=>[(0,.pointer (some ⟨tb,0,none⟩)),(1,.pointer s),(5,.pointer (some ⟨bq,0,none⟩)),(6,.pointer none)]) (fun s w=>IV bq x.1 w0 tb p0 n0 fp d s w) ?_ ?_
    ·unfold RB.Ee at hd
     rw [RB.Av,RB.BV,RB.Av] at hd
     generalize hq:(!lc && !ll.red)=q at *
     cases q
     ·refine Jg ?_
      cases hd
      exact AQ _ Ae hH
     ·rw [cond_true] at hd
      cases hbo:RB.both (.node (.node ll z lr lc) y r c)
      ·rw [hbo] at hd;cases hd
      rw [hbo,cond_true] at hd
      cases hd
      obtain ⟨⟨⟨Di,h1,h2,h3,h4⟩,h5⟩,hQ⟩:=hH
      have hs:=St.nil w
      refine Ji ?_
      refine cl (h:=by exact QL tb p0 n0 _ _ _ _ h5 h1 h2 hlen hbo) (k:=?_)
      rintro v w' hv
      obtain ⟨p',rfl,hH⟩:=IV.next h1 h3 h4 h5 hQ hv
      have hs:=St.nil w'
      refine Jc ?_
      exact AQ p' Ae hH
    clear hH
    rintro p1 env w hH
    cases d with
    | nil=>cases hc
    | node l1 x1 r1 c1 =>
    obtain ⟨l',hl',rfl⟩:=Option.map_eq_some_iff.1 hc
    obtain ⟨⟨⟨Di,⟨b,av,pl,pr,fl,fr,rfl,rfl,hb,DF,hl,hr⟩,h2,h3,h4⟩,h5⟩,hQ⟩:=hH
    have EK:=Ca h5 hb
    have n1:=A3 hQ hb (by decide)
    have n2:=A3 hQ h5 (by decide)
    have hs:=(((St.nil w).AH h5 (by simp)).AH hb (by simpa using EK)).AH hQ (by simp [n1,n2])
    rw [← hdl] at hlen
    simp only [RB.list,List.length_append,List.length_cons] at hlen
    refine Jb ?_
    refine dr [10] hs (k:=?_);intro hX wD hs
    refine tks 0 7 ?_
    refine dt 7 hX (k:=?_)
    have AK:AA [] w _:=hs.AB [] (by simp [h5,hb,hQ]) (by simp [D0])
    have SL:=hs.get At.head
    have Ez:=hl.keep AK (AL.nil _) (by simp)
    have hrw:=hr.keep AK (AL.nil _) (by simp)
    have CH:=hs.get (At.tail At.head)
    have CT:=head_keep h5 AK (AL.nil _)
    refine cl (h:=by exact Tp tb p0 n0 x k l1 l' pl fl _ CT Ez (by simp only [List.nodup_cons,List.nodup_append] at h2;exact h2.2.1) om hl') (k:=?_)
    rintro v w' hk
    obtain ⟨p',hv⟩:∃ p',v = .pointer p':=by obtain ⟨p',_,hv,_⟩:=hk;exact ⟨p',hv⟩
    subst hv
    obtain ⟨_,_,_,_,_,_,k4⟩:=id hk
    have Bv:=head_keep CT k4 Ez.nodes
    have CN:=k4.block CH (fun h=>by simp [h] at h2)
    have hq1:=k4.block SL (nodes_q Ez.nodes SL)
    clear hs
    have hs:=(((St.nil w').AH Bv (by simp)).AH CN (by simpa using EK)).AH hq1 (by simp [n1,n2])
    refine Jb ?_
    refine dn (k:=?_)
    refine tks 8 2 ?_
    refine dt 10 hX (k:=?_)
    repeat' (first|refine Nx.h ?_|(refine st hs (k:=?_);intro w hs)|fail)
    refine dn (k:=?_)
    refine en (k:=?_)
    refine Ja ?_
    have AT:AA [b] w' _:=hs.AB [b] (by simp [Bv,hq1]) (by simp [D0])
    obtain ⟨EW,s1,s2,s3,s4⟩:=PE CH Ez.nodes hrw h2 hk AT (hs.get (At.tail At.head))
    have MK:=Px x k l1 l' hl'
    refine cl (h:=by exact Gc tb p0 n0 _ x1 _ c1 _ _ _ (head_keep Bv AT (AL.cons CN (AL.nil _))) s1 s2 (by simp only [List.length_append,List.length_cons];omega)) (k:=?_)
    rintro v w3 hm
    have hO:=(h4.step AK (by simp)).step s4 h3
    have hm2:=hm.up hO (sub_up h3 s3 (h4.step AK (by simp)).size)
    have hs:=St.nil w3
    refine Jc ?_
    refine AG ?_
    exact hm2
abbrev HR (b:Bool):Obj := .cells #[.bool b] 4 (0,0)
abbrev aAd (tb:Nat):Obj := .cells #[.pointer (some ⟨tb,0,none⟩)] 109 (0,0)
abbrev VX (a:It):Obj := .cells #[.int .u64 a.p.t,.int .u32 a.p.r,.int .u32 a.p.w,.int .i64 a.id,.int .u64 a.d.t,.int .u32 a.d.r,.int .u32 a.d.w] 64 (0,0)
def Mf (acc:Option IT) (m:IT):Option IT:=some (match acc with | none=>m | some a=>snr a m)
def JT (acc:Option IT):It:=match acc with | none => .zero | some a=>a.1
def NZ (acc:Option IT) (t:RB IT):Option IT:=match all? t with | none=>acc | some a=>Mf acc a
def Dd (q:IT→Bool):RB IT→Option IT→Option IT
 | .nil,acc=>acc
 | .node l x r _,acc=>bif q x then Dd q r (Mf (NZ acc l) x) else Dd q l acc
theorem XB (b7 b2 b6 tb:Nat) (p:Option Addr) (n0:Int) (acc:Option IT) (m:IT) (w0:World) (h7:w0.heap[b7]?=some (HR acc.isSome)) (h2:w0.heap[b2]?=some (aAd tb)) (h6:w0.heap[b6]?=some (VX (JT acc))) (hT:w0.heap[tb]?=some (C9 p n0)) :
 AO Tryz.prog 249 #[iv m.1,.pointer (some ⟨b7,0,none⟩),.pointer (some ⟨b2,0,none⟩),.pointer (some ⟨b6,0,none⟩)] w0 fun v w'=>w'.heap[b7]?=some (HR true)∧w'.heap[b6]?=some (VX (JT (Mf acc m)))∧AA [b7,b6] w0 w':=by
 have n1:b2≠tb:=A3 h2 hT (by decide)
 have n2:b6≠tb:=A3 h6 hT (by decide)
 have n3:b7≠tb:=A3 h7 hT (by decide)
 have n4:b6≠b2:=A3 h6 h2 (by decide)
 have n5:b7≠b2:=A3 h7 h2 (by decide)
 have n6:b7≠b6:=A3 h7 h6 (by decide)
 have hs:=((((St.nil w0).AH hT (by simp)).AH h2 (by simpa using n1)).AH h6 (by simp [n2,n4])).AH h7 (by simp [n3,n5,n6])
 cases acc with
 | none =>
   refine AR Tryz.func249 Tryz.ntmps249 (k:=?_);refine Ai ?_;refine Ao ?_;refine bx hs (k:=?_);intro bq wq MG hs;repeat' (first|refine Sd ?_|(refine st hs (k:=?_);intro w hs)|(refine AU hs (k:=?_);intro w hs)|fail)
   refine JK ?_
   have ho:AA [b7,b6] w0 _:=hs.AB [b7,b6] (by simp [h2,hT]) (by simp [D0])
   exact ⟨hs.get (At.tail At.head),hs.get (At.tail (At.tail At.head)),ho⟩
 | some a =>
   refine AR Tryz.func249 Tryz.ntmps249 (k:=?_);refine Ai ?_;refine Ao ?_;refine bx hs (k:=?_);intro bq wq MG hs;refine Je ?_
   refine dr [7] hs (k:=?_);intro hX w hs
   refine tks 0 6 ?_
   refine dt 6 hX (k:=?_)
   refine AY hs (h:=by exact JG a m _) (k:=?_);intro w' ho hs;refine Jb ?_
   refine dn (k:=?_)
   refine dt 7 hX (k:=?_)
   repeat' (first|refine Nx.h ?_|(refine AU hs (k:=?_);intro w hs)|fail)
   refine dn (k:=?_)
   refine en (k:=?_)
   repeat' (first|refine Sa ?_|(refine st hs (k:=?_);intro w hs)|(refine AU hs (k:=?_);intro w hs)|fail)
   refine JK ?_
   have ho:AA [b7,b6] w0 _:=hs.AB [b7,b6] (by simp [h2,hT]) (by simp [D0])
   exact ⟨hs.get (At.tail At.head),hs.get (At.tail (At.tail At.head)),ho⟩
structure Gs (w0:World) (tb b2 b4 b6 b7:Nat) (acc:Option IT) (w:World):Prop where
 o:AA [] w0 w
 h2:w.heap[b2]?=some (aAd tb)
 h7:w.heap[b7]?=some (HR acc.isSome)
 h6:w.heap[b6]?=some (VX (JT acc))
 h4:w.heap[b4]?=some (VX .zero)
theorem Gs.only {w0 w w':World} {tb b2 b4 b6 b7:Nat} {acc:Option IT} (h:Gs w0 tb b2 b4 b6 b7 acc w) (ho:AA [] w w'):Gs w0 tb b2 b4 b6 b7 acc w':=by
 obtain ⟨o,h2,h7,h6,h4⟩:=h
 exact ⟨o.step ho (by simp),ho.block h2 (by simp),ho.block h7 (by simp),ho.block h6 (by simp),ho.block h4 (by simp)⟩
theorem Gs.add {w0 w w':World} {tb b2 b4 b6 b7:Nat} {acc:Option IT} {m:IT} (h:Gs w0 tb b2 b4 b6 b7 acc w) (g6:w0.heap.size≤b6) (g7:w0.heap.size≤b7) (OJ:b4≠b6)
 (k7:w'.heap[b7]?=some (HR true)) (k6:w'.heap[b6]?=some (VX (JT (Mf acc m)))) (ho:AA [b7,b6] w w'):Gs w0 tb b2 b4 b6 b7 (Mf acc m) w':=by
 obtain ⟨o,h2,h7,h6,h4⟩:=h
 refine ⟨o.step ho (fun k hk=>?_),ho.block h2 (fun hm=>?_),k7,k6,ho.block h4 (fun hm=>?_)⟩
 ·simp only [List.mem_cons,List.not_mem_nil,or_false] at hk
  rcases hk with rfl | rfl
  ·exact .inr g7
  ·exact .inr g6
 ·simp only [List.mem_cons,List.not_mem_nil,or_false] at hm
  rcases hm with rfl | rfl
  ·exact A3 h2 h7 (by decide) rfl
  ·exact A3 h2 h6 (by decide) rfl
 ·simp only [List.mem_cons,List.not_mem_nil,or_false] at hm
  rcases hm with rfl | rfl
  ·exact A3 h4 h7 (by decide) rfl
  ·exact OJ rfl
theorem vL {w:World} {x:IT} {c:Bool} {b:Nat} {av:It} {pr:Option Addr} {fl:List Nat} {a1:RB IT} (hlb:w.heap[b]?=some (Ei x av (some ⟨b,0,none⟩) pr c)) (HQ:Ag w a1 (some ⟨b,0,none⟩) fl):False:=by
 revert fl
 induction a1 with
 | nil=>rintro fl ⟨h,_⟩;cases h
 | node a y d e ih _ =>
   rintro fl ⟨b',MY,Xo,Z8,QU,fr',h1,h2,h3,h4,h5,h6⟩
   cases h1
   rw [hlb] at h3
   have hp:(some ⟨b,0,none⟩:Option Addr)=Xo:=by
    injection h3 with h3;injection h3 with h3;injection h3 with h3
    simp only [List.cons.injEq,Value.pointer.injEq] at h3
    exact h3.2.2.2.2.2.2.2.2.2.2.2.2.2.2.1
   rw [← hp] at h5
   exact ih h5
theorem rP (tb:Nat) (t:RB IT) (F:List Nat) (w0:World) (h:Ck w0 tb t F) (fid:Nat) (caps:List Value) (q:IT→Bool)
 (hq:∀ (y:IT) (w:World),y∈t.list→AA [] w0 w→AO Tryz.prog fid (iv y.1 :: caps).toArray w fun v w'=>v = .bool (q y)∧AA [] w w') :
 AO Tryz.prog 240 #[.pointer (some ⟨tb,0,none⟩),.func (.func fid) #[] caps.toArray] w0 fun v w'=>v = .tuple #[iv (JT (Dd q t none)),.bool (Dd q t none).isSome]∧AA [] w0 w':=by
 obtain ⟨p,fp,rfl,hT,ht,hnd⟩:=h
 have hs:=(St.nil w0).AH hT (by simp)
 refine AR Tryz.func240 Tryz.ntmps240 (k:=?_)
 refine Jb ?_
 refine Ao ?_
 refine bx hs (k:=?_);intro b2 w hz hs
 refine al hs (k:=?_);intro b4 w hz hs
 refine Jc ?_
 refine Ao ?_
 refine al hs (k:=?_);intro b6 w hz hs
 refine Jb ?_
 refine Ao ?_
 refine al hs (k:=?_);intro b7 w hz hs
 repeat' (first|refine Sd ?_|(refine st hs (k:=?_);intro w hs)|fail)
 have g2:=hs.new (b2,true) (by simp) rfl
 have g4:=hs.new (b4,true) (by simp) rfl
 have g6:=hs.new (b6,true) (by simp) rfl
 have g7:=hs.new (b7,true) (by simp) rfl
 have OJ:b4≠b6:=by have:=hs.nd;simp only [List.map_cons,List.nodup_cons,List.mem_cons,not_or] at this;exact Ne.symm this.2.1.1
 have EM:Gs w0 tb b2 b4 b6 b7 none _:=⟨hs.AB [] (by simp [hT]) (by simp [D0]),hs.get (At.tail (At.tail (At.tail At.head))),hs.get At.head,hs.get (At.tail At.head),hs.get (At.tail (At.tail At.head))⟩
 refine BS (fun _:Unit=>[(4,.pointer (some ⟨b4,0,none⟩)),(6,.pointer (some ⟨b6,0,none⟩)),(7,.pointer (some ⟨b7,0,none⟩))]) (fun _ w=>Gs w0 tb b2 b4 b6 b7 (Dd q t none) w) ?_ ?_
 ·refine BG (fun (s:RB IT × Option Addr × Option IT)=>[(1,.func (.func fid) #[] caps.toArray),(2,.pointer (some ⟨b2,0,none⟩)),(4,.pointer (some ⟨b4,0,none⟩)),(6,.pointer (some ⟨b6,0,none⟩)),(7,.pointer (some ⟨b7,0,none⟩)),(8,.func (.func 249) #[] #[.pointer (some ⟨b7,0,none⟩),.pointer (some ⟨b2,0,none⟩),.pointer (some ⟨b6,0,none⟩)]),(9,.pointer s.2.1)])
   (fun s w=>Gs w0 tb b2 b4 b6 b7 s.2.2 w∧Dd q t none=Dd q s.1 s.2.2∧(∀ y∈s.1.list,y∈t.list)∧∃ ZK,Ag w0 s.1 s.2.1 ZK)
   (fun s=>s.1.list.length) (t,p,none) Ae ⟨EM,rfl,fun _ h=>h,fp,ht⟩ fun s env w2 ⟨k1,k2,k3,ZK,k4⟩=>?_
  clear hs EM
  obtain ⟨s,ps,acc⟩:=s
  dsimp only at k1 k2 k3 k4 ⊢
  cases s with
  | nil =>
    obtain ⟨rfl,rfl⟩:=k4
    have hs:=St.nil w2
    refine Jd ?_
    exact Au () Ae (by rw [k2];exact k1.only (hs.AD rfl))
  | node l y r c =>
    obtain ⟨b,av,pl,pr,fl,fr,rfl,rfl,hb,DF,hl,hr⟩:=k4
    have CH:=k1.o.block hb (by simp)
    have CT:=k1.o.block hT (by simp)
    have EK:=Ca hT hb
    have d1:b≠b2:=A3 CH k1.h2 (by decide)
    have hs:=((St.nil w2).AH k1.h2 (by simp)).AH CH (by simpa using d1)
    have k3l:∀ z∈l.list,z∈t.list:=fun z hz=>k3 z (by simp [RB.list,hz])
    have k3r:∀ z∈r.list,z∈t.list:=fun z hz=>k3 z (by simp [RB.list,hz])
    refine Je ?_
    have ho:=hs.AB [] (by simp [CH,k1.h2]) (by simp [D0])
    refine AY hs (h:=by exact hq y _ (k3 y (by simp [RB.list])) (k1.o.step ho (by simp))) (k:=?_);intro w' ho hs
    cases hqy:q y
    ·have e1:Dd q (.node l y r c) acc=Dd q l acc:=by simp [Dd,hqy]
     rw [e1] at k2
     refine Je ?_
     exact A4 (l,pl,acc) (by simp only [RB.list,List.length_append,List.length_cons];omega) Ae ⟨k1.only (hs.AB [] (by simp [CH,k1.h2]) (by simp [D0])),k2,k3l,fl,hl⟩
    ·have e1:Dd q (.node l y r c) acc=Dd q r (Mf (NZ acc l) y):=by simp [Dd,hqy]
     rw [e1] at k2
     have DE:=k1.only (hs.AB [] (by simp [CH,k1.h2]) (by simp [D0]))
     clear k1 CH CT hs ho
     have aCD:∀ (w:World) (acc:Option IT),Gs w0 tb b2 b4 b6 b7 acc w→b∉[b7,b6]∧tb∉[b7,b6]:=fun w acc k=>by
      have CH:=k.o.block hb (by simp)
      have CT:=k.o.block hT (by simp)
      obtain ⟨_,_,k7,k6,_⟩:=k
      have e1:=A3 CH k7 (by decide)
      have e2:=A3 CH k6 (by decide)
      have e3:=A3 CT k7 (by decide)
      have e4:=A3 CT k6 (by decide)
      simp [e1,e2,e3,e4]
     have hs:=St.nil w'
     refine Jl ?_
     refine Bg (fun _:Unit=>[(1,.func (.func fid) #[] caps.toArray),(2,.pointer (some ⟨b2,0,none⟩)),(4,.pointer (some ⟨b4,0,none⟩)),(6,.pointer (some ⟨b6,0,none⟩)),(7,.pointer (some ⟨b7,0,none⟩)),(8,.func (.func 249) #[] #[.pointer (some ⟨b7,0,none⟩),.pointer (some ⟨b2,0,none⟩),.pointer (some ⟨b6,0,none⟩)]),(9,.pointer (some ⟨b,0,none⟩)),(35,.bool (!RB.isNil l))]) (fun _ w=>Gs w0 tb b2 b4 b6 b7 acc w) ?_ ?_
     ·have CH:=DE.o.block hb (by simp)
      clear hs
      have hs:=(St.nil w').AH CH (by simp)
      cases l with
      | nil =>
        obtain ⟨rfl,rfl⟩:=hl
        refine Ja ?_
        exact AQ () Ae (DE.only (hs.AB [] (by simp [CH]) (by simp [D0])))
      | node a1 a2 a3 a4 =>
        obtain ⟨_,_,_,_,_,_,rfl,_⟩:=hl
        refine Ja ?_
        exact AQ () Ae (DE.only (hs.AB [] (by simp [CH]) (by simp [D0])))
     clear DE hs
     rintro _ env w3 DE
     refine Bg (fun _:Unit=>[(1,.func (.func fid) #[] caps.toArray),(2,.pointer (some ⟨b2,0,none⟩)),(4,.pointer (some ⟨b4,0,none⟩)),(6,.pointer (some ⟨b6,0,none⟩)),(7,.pointer (some ⟨b7,0,none⟩)),(8,.func (.func 249) #[] #[.pointer (some ⟨b7,0,none⟩),.pointer (some ⟨b2,0,none⟩),.pointer (some ⟨b6,0,none⟩)]),(9,.pointer (some ⟨b,0,none⟩))]) (fun _ w=>Gs w0 tb b2 b4 b6 b7 (NZ acc l) w) ?_ ?_
     ·have CH:=DE.o.block hb (by simp)
      cases l with
      | nil =>
        have hs:=St.nil w3
        refine Jg ?_
        exact AQ () Ae DE
      | node a1 a2 a3 a4 =>
        obtain ⟨lb,Vn,iL,tC,sS,tS,rfl,rfl,hlb,hlav,HQ,hlr⟩:=hl
        have Sj:Vn=(Kh a1 a2 a3).1:=hlav
        subst Sj
        have aAH:=DE.o.block hlb (by simp)
        have aCY:lb≠b:=fun e=>by
         subst e
         rw [hlb] at hb
         have hp:(some ⟨lb,0,none⟩:Option Addr)=iL:=by
          injection hb with h3;injection h3 with h3;injection h3 with h3
          simp only [List.cons.injEq,Value.pointer.injEq] at h3
          exact h3.2.2.2.2.2.2.2.2.2.2.2.2.2.2.1.symm
         rw [← hp] at hlb HQ
         exact vL hlb HQ
        have hs:=((St.nil w3).AH CH (by simp)).AH aAH (by simpa using aCY)
        refine Ji ?_
        have ho:=hs.AB [] (by simp [CH,aAH]) (by simp [D0])
        have D5:=DE.only ho
        obtain ⟨o,q2,q7,q6,_⟩:=id D5
        refine cl (h:=by exact XB b7 b2 b6 tb p _ acc (Kh a1 a2 a3) _ q7 q2 q6 (o.block hT (by simp))) (k:=?_)
        rintro v w4 ⟨m7,m6,mo⟩
        have hs:=St.nil w4
        refine Jb ?_
        exact AQ () Ae (D5.add g6 g7 OJ m7 m6 mo)
     clear DE
     rintro _ env w4 DE
     have CH:=DE.o.block hb (by simp)
     have CT:=DE.o.block hT (by simp)
     have d2:b2≠tb:=A3 DE.h2 CT (by decide)
     have hs:=(((St.nil w4).AH CT (by simp)).AH DE.h2 (by simpa using d2)).AH CH (by simp [d1,EK])
     refine Jb ?_
     refine dr [] hs (k:=?_);intro hX w hs
     refine tks 0 9 ?_
     refine dt 9 hX (k:=?_)
     refine cl (h:=by exact II y.1 _) (k:=?_)
     rintro v w5 ⟨rfl,ho⟩;replace hs:=hs.AN ho
     refine Jb ?_
     refine dn (k:=?_)
     refine dt 10 hX (k:=?_)
     have D5:=DE.only (hs.AB [] (by simp [CH,CT,DE.h2]) (by simp [D0]))
     obtain ⟨o,q2,q7,q6,_⟩:=id D5
     refine cl (h:=by exact XB b7 b2 b6 tb p _ (NZ acc l) y _ q7 q2 q6 (o.block hT (by simp))) (k:=?_)
     rintro v6 w6 ⟨m7,m6,mo⟩
     have hn:=aCD _ _ D5
     have NI:=D5.add g6 g7 OJ m7 m6 mo
     have Gx:=NI.o.block hb (by simp)
     have Fh:=NI.o.block hT (by simp)
     clear hs
     have hs:=(((St.nil w6).AH Fh (by simp)).AH NI.h2 (by simpa using d2)).AH Gx (by simp [d1,EK])
     refine Jb ?_
     refine dn (k:=?_)
     refine en (k:=?_)
     refine Ja ?_
     exact A4 (r,pr,Mf (NZ acc l) y) (by simp only [RB.list,List.length_append,List.length_cons];omega) Ae ⟨NI.only (hs.AB [] (by simp [Gx,Fh,NI.h2]) (by simp [D0])),k2,k3r,fr,hr⟩
 ·rintro _ env w ⟨o,k2,k7,k6,k4⟩
  clear hs EM
  have d1:b7≠b6:=A3 k7 k6 (by decide)
  have d2:b7≠b4:=A3 k7 k4 (by decide)
  have hs:=(((St.nil w).AH k4 (by simp)).AH k6 (by simpa using Ne.symm OJ)).AH k7 (by simp [d1,d2])
  refine Jb ?_
  have hR:∀ {w'':World} {o:Obj},St w D0 [(b7,HR (Dd q t none).isSome,false),(b6,VX (JT (Dd q t none)),false),(b4,o,false)] w''→True=True→FZ [(b7,HR (Dd q t none).isSome,false),(b6,VX (JT (Dd q t none)),false)] w'':=fun hs _ e he=>hs.at_ e (by
   simp only [List.mem_cons,List.not_mem_nil,or_false] at he ⊢
   rcases he with he | he
   ·exact .inl he
   ·exact .inr (.inl he))
  refine uH [] [(b7,HR (Dd q t none).isSome,false),(b6,VX (JT (Dd q t none)),false)] hs (k:=?_);intro hX w hs
  refine tks 0 2 ?_
  refine dt 2 hX (k:=?_)
  repeat' (first|refine Nx.h ?_|(refine AU hs (k:=?_);intro w hs)|fail)
  refine dn (k:=?_)
  refine tk 3 hX (k:=?_)
  refine en (k:=?_)
  refine Jb ?_
  refine AG ?_
  have ho:=hs.AB [b4] (by simp [k6,k7]) (by simp [D0])
  exact ⟨rfl,o.step ho (by simp [g4])⟩
end Go.Proofs.Q0.IB
namespace Go.Proofs.Q0
open Go Go.RowKit
attribute [local irreducible] XS XC XA AZ AP Aa A1 A0 A8 Ad AW SE
theorem aAy:Tz (-7) 2 = .tuple #[wv (-4),.int .u64 1,.bool true]:=by kernel_rfl
theorem xF:Ej (9223372036854775808*2) = .tuple #[wv 18446744073709551616,.bool true]:=by kernel_rfl
theorem cU (w0:World):AO Tryz.prog 321 #[] w0 fun v w'=>v = .bool true∧AA [] w0 w':=by
 have hs:=St.nil w0
 refine AR Tryz.func321 Tryz.ntmps321 (k:=?_)
 refine Ja ?_
 refine AY hs (h:=by exact Fj (-7) (by decide) (by decide) _) (k:=?_);intro w' ho hs
 skip
 refine AY hs (h:=by exact Z1 (-7) 2 (by decide) (by decide) (by decide) _) (k:=?_);intro w' ho hs
 rw [aAy]
 repeat' (first|refine Sa ?_|(refine AU hs (k:=?_);intro w hs)|(refine al hs (k:=?_);intro b w hz hs)|fail)
 refine AY hs (h:=by exact Pf 9223372036854775808 (by decide) (by decide) _) (k:=?_);intro w' ho hs
 skip
 refine AY hs (h:=by exact QC 9223372036854775808 2 (by decide) (by decide) (by decide) _) (k:=?_);intro w' ho hs
 rw [xF]
 repeat' (first|refine Sb ?_|(refine AU hs (k:=?_);intro w hs)|(refine al hs (k:=?_);intro b w hz hs)|fail)
 refine dr [] hs (k:=?_);intro hX w hs
 refine tks 0 6 ?_
 refine dt 6 hX (k:=?_)
 refine AY hs (h:=by exact Fj (-4) (by decide) (by decide) _) (k:=?_);intro w' ho hs
 refine Jb ?_
 refine dn (k:=?_)
 refine tks 7 12 ?_
 refine en (k:=?_)
 refine Jb ?_
 refine AG ?_
 exact ⟨rfl,hs.AD rfl⟩
theorem Ye (s:Int):(A7 s∧Ej s = .tuple #[wv s,.bool true])∨(¬ A7 s∧Ej s = .tuple #[wv 0,.bool false]):=by
 unfold Ej
 by_cases h:A7 s
 ·rw [if_pos h];exact .inl ⟨h,rfl⟩
 ·rw [if_neg h];exact .inr ⟨h,rfl⟩
theorem vY {x y:Int}:0 < C6 x y↔y < x:=by unfold C6;repeat' split <;> omega
theorem wF {x y:Int}:C6 x y < 0↔x < y:=by unfold C6;repeat' split <;> omega
theorem step_ret (a n d r:Int) (ha:BL a) (hn:BL n) (hd:BL d) (hr:0≤r) (hrd:r < d) (hp:a*n+r < 18446744073709551616) (lB:0≤a*n) (w0:World) :
 AO Tryz.prog 318 #[.int .u64 a,.int .u64 n,.int .u64 d,.int .u64 r] w0 fun v w'=>v = .tuple #[.int .u64 ((a*n+r) / d),.int .u64 ((a*n+r) % d),.bool true]∧AA [] w0 w':=by
 have hs:=St.nil w0
 obtain ⟨ha0,ha1⟩:=ha
 obtain ⟨hn0,Lx⟩:=hn
 obtain ⟨hd0,hd1⟩:=hd
 have e1:a*n / 18446744073709551616=0:=by omega
 have e2:a*n % 18446744073709551616=a*n:=by omega
 have e3:(a*n+r+0) / 18446744073709551616=0:=by omega
 have e4:(a*n+r+0) % 18446744073709551616=a*n+r:=by omega
 refine AR Tryz.func318 Tryz.ntmps318 (k:=?_)
 repeat' (first|refine Sa ?_|refine Ax rfl (fun hc=>?_) fun hc=>?_|fail)
 ·omega
 ·refine cl (h:=by exact PA a n ha0 ha1 hn0 Lx _) (k:=?_)
  rw [e1,e2]
  rintro v w' ⟨rfl,ho⟩;replace hs:=hs.AN ho;refine Ja ?_
  refine cl (h:=by exact JC (a*n) r 0 lB hr (by decide) (by decide) _) (k:=?_)
  rw [e3,e4]
  rintro v w' ⟨rfl,rfl⟩
  repeat' (first|refine Sa ?_|refine Ax rfl (fun hc=>?_) fun hc=>?_|fail)
  ·simp only [wrap_u64] at hc
   omega
  ·refine AY hs (h:=by exact Oa 0 (a*n+r) d (by decide) om hd1 om hp _) (k:=?_);intro w' ho hs;refine Ja ?_
   refine AG ?_
   refine ⟨?_,hs.AD rfl⟩
   rw [Int.zero_mul,Int.zero_add]
   rfl
theorem kJ (sl:Value) (w0:World) (hL:Cu w0 22 1 sl [[.int .u64 1],[.int .u64 1],[.int .u64 1]]) :
 AO Tryz.prog 319 #[.int .u64 1,.int .u64 3,.int .u64 0,sl] w0 fun v w'=>v = .tuple #[.int .u64 1,.int .u64 0,.bool true]∧AA [] w0 w':=by
 obtain ⟨ad,cap,rfl,hD⟩:=hL
 obtain ⟨b,off,cs,fz,rfl,_,hb,hcs⟩:=hD (by simp)
 have hs:=St.nil w0
 refine AR Tryz.func319 Tryz.ntmps319 (k:=?_)
 refine Jd ?_
 refine BS (fun (_:Unit)=>[(8,.int .u64 1),(2,.int .u64 0)]) (fun _ w=>St w0 D0 [] w) ?_ ?_
 ·refine BG (fun (i:Nat)=>[(0,.int .u64 1),(1,.int .u64 3),(2,.int .u64 ((i % 3:Nat):Int)),(8,.int .u64 ((i / 3:Nat):Int)),(21,.slice (some ⟨b,off,none⟩) 3 cap),(22,.int .i64 (3:Nat)),(23,.int .i64 (i:Nat))])
   (fun i w=>i≤3∧St w0 D0 [] w) (fun i=>3 - i) 0 Ae ⟨Nat.zero_le _,hs⟩ fun i env w ⟨hi,hs⟩=>?_
  repeat' (first|refine Sa ?_|refine Ax rfl (fun hc=>?_) fun hc=>?_|fail)
  ·have hlt:i < 3:=by omega
   have hpk:EA cs (off+i*1) 1 [.int .u64 1]:=by
    have:i=0∨i=1∨i=2:=by omega
    rcases this with rfl | rfl | rfl <;> exact hcs _ _ rfl
   have ei:=Dl (m:=3) hlt om
   refine ix (h0:=(by omega)) (h1:=(by omega)) (k:=?_)
   refine lh ((hs.AD rfl).block hb (by simp)) (by cases hpk;assumption) (k:=?_)
   refine Ja ?_
   refine AY hs (h:=by exact step_ret 1 1 3 ((i % 3:Nat):Int) (by decide) (by decide) (by decide) om om om (by decide) _) (k:=?_);intro w' ho hs;refine Ja ?_
   refine cl (h:=by exact JC ((i / 3:Nat):Int) ((1*1+((i % 3:Nat):Int)) / 3) 0 om om (by decide) (by decide) _) (k:=?_)
   rintro v w' ⟨rfl,rfl⟩
   repeat' (first|refine Sa ?_|refine xc_cond rfl (fun hc=>?_) fun hc=>?_|fail)
   ·simp only [bne_iff_ne,ne_eq] at hc
    omega
   ·have e5:(((i / 3:Nat):Int)+(1*1+((i % 3:Nat):Int)) / 3+0) % 18446744073709551616=(((i+1) / 3:Nat):Int):=by omega
    have e6:(1*1+((i % 3:Nat):Int)) % 3=(((i+1) % 3:Nat):Int):=by omega
    exact A4 (i+1) om (by (repeat (first | exact Ak | (apply Ac;first | exact rfl | exact congrArg (Value.int .i64) ei | exact congrArg (Value.int .u64) e5 | exact congrArg (Value.int .u64) e6)))) ⟨by omega,hs⟩
  ·have e:i=3:=by omega
   subst e
   exact Au () Ae hs
 ·rintro _ env w hs
  refine Ja ?_
  refine AG ?_
  exact ⟨rfl,hs.AD rfl⟩
theorem S8 (w0:World):AO Tryz.prog 320 #[] w0 fun v w'=>v = .bool true∧AA [] w0 w':=by
 have hs:=St.nil w0
 refine AR Tryz.func320 Tryz.ntmps320 (k:=?_)
 refine Ja ?_
 refine AY hs (h:=by exact cU _) (k:=?_);intro w' ho hs;refine Jc ?_
 refine AG ?_
 exact ⟨rfl,hs.AD rfl⟩
theorem fS (w0:World):AO Tryz.prog 311 #[] w0 fun v w'=>v = .bool true∧AA [] w0 w':=by
 have hs:=St.nil w0
 refine AR Tryz.func311 Tryz.ntmps311 (k:=?_)
 refine Ja ?_
 refine AY hs (h:=by exact step_ret 3 5 4 1 (by decide) (by decide) (by decide) (by decide) (by decide) (by decide) (by decide) _) (k:=?_);intro w' ho hs;repeat' (first|refine Sa ?_|(refine bs hs (k:=?_);intro b w hz hs)|fail)
 have hb:=hs.get At.head
 (with_reducible apply LM);exact rfl;exact rfl;exact kJ _ _ ⟨some ⟨_,0,none⟩,3,rfl,fun _=>⟨_,0,_,(0,0),rfl,by decide,hb,fun i x h=>(by
  have:i=0∨i=1∨i=2:=by
   rcases Nat.lt_or_ge i 3 with h' | h'
   ·omega
   ·rw [List.getElem?_eq_none (by simp;omega)] at h;cases h
  rcases this with rfl | rfl | rfl <;> (cases h;exact .cons rfl .nil))⟩⟩
 rintro v w' ⟨rfl,ho⟩;replace hs:=hs.AN ho;refine Ja ?_
 refine AY hs (h:=by exact S8 _) (k:=?_);intro w' ho hs;refine Jc ?_
 refine AG ?_
 exact ⟨rfl,hs.AD rfl⟩
theorem cO (w0:World):AO Tryz.prog 308 #[] w0 fun v w'=>v = .bool true∧AA [] w0 w':=by
 have hs:=St.nil w0
 refine AR Tryz.func308 Tryz.ntmps308 (k:=?_)
 refine Ja ?_
 refine AY hs (h:=by exact fS _) (k:=?_);intro w' ho hs;refine Jc ?_
 refine AG ?_
 exact ⟨rfl,hs.AD rfl⟩
theorem fJ (w0:World):AO Tryz.prog 312 #[] w0 fun v w'=>v = .bool true∧AA [] w0 w':=by
 have hs:=St.nil w0
 refine AR Tryz.func312 Tryz.ntmps312 (k:=?_)
 refine Ja ?_
 refine AY hs (h:=by exact S8 _) (k:=?_);intro w' ho hs;refine Jf ?_
 refine cl (h:=by exact JB _ _ _) (k:=?_)
 rw [show sn 2 18446744073709551615=3 from by decide]
 rintro v w' ⟨rfl,ho⟩;replace hs:=hs.AN ho;refine Jc ?_
 refine AG ?_
 exact ⟨rfl,hs.AD rfl⟩
theorem fN (w0:World):AO Tryz.prog 309 #[] w0 fun v w'=>v = .bool true∧AA [] w0 w':=by
 have hs:=St.nil w0
 refine AR Tryz.func309 Tryz.ntmps309 (k:=?_)
 refine Ja ?_
 refine AY hs (h:=by exact fJ _) (k:=?_);intro w' ho hs;refine Jc ?_
 refine AG ?_
 exact ⟨rfl,hs.AD rfl⟩
theorem cX (w0:World):AO Tryz.prog 297 #[] w0 fun v w'=>v = .bool true∧AA [] w0 w':=by
 have hs:=St.nil w0
 refine AR Tryz.func297 Tryz.ntmps297 (k:=?_)
 refine Ja ?_
 refine cl (h:=by exact RF ⟨5,0,3⟩ 7 (by decide) (by decide) _) (k:=?_)
 rw [show HG ⟨5,0,3⟩ 7=some ⟨7,1,3⟩ from by decide]
 rintro v w' ⟨rfl,ho⟩;replace hs:=hs.AN ho;repeat' (first|refine Sa ?_|(refine AU hs (k:=?_);intro w hs)|(refine al hs (k:=?_);intro b w hz hs)|fail)
 refine AY hs (h:=by exact cO _) (k:=?_);intro w' ho hs;refine Jf ?_
 refine AY hs (h:=by exact fN _) (k:=?_);intro w' ho hs;refine Jc ?_
 refine AG ?_
 exact ⟨rfl,hs.AD rfl⟩
theorem bZ (w0:World):AO Tryz.prog 288 #[] w0 fun v w'=>v = .bool true∧AA [] w0 w':=by
 have hs:=St.nil w0
 refine AR Tryz.func288 Tryz.ntmps288 (k:=?_)
 refine Ja ?_
 refine AY hs (h:=by exact cX _) (k:=?_);intro w' ho hs;refine Jc ?_
 refine AG ?_
 exact ⟨rfl,hs.AD rfl⟩
theorem fQ (w0:World):AO Tryz.prog 282 #[] w0 fun v w'=>v = .bool true∧AA [] w0 w':=by
 have hs:=St.nil w0
 refine AR Tryz.func282 Tryz.ntmps282 (k:=?_)
 repeat' (first|refine Sa ?_|(refine st hs (k:=?_);intro w hs)|(refine AU hs (k:=?_);intro w hs)|(refine al hs (k:=?_);intro b w hz hs)|fail)
 refine AY hs (h:=by exact bZ _) (k:=?_);intro w' ho hs;refine Jf ?_
 refine cl (h:=by exact Tm ⟨⟨1,0,1⟩,1,⟨2,0,1⟩⟩ ⟨⟨1,0,1⟩,2,⟨2,0,1⟩⟩ (by decide) (by decide) _) (k:=?_)
 rw [show due ⟨⟨1,0,1⟩,1,⟨2,0,1⟩⟩ ⟨⟨1,0,1⟩,2,⟨2,0,1⟩⟩=true from by decide]
 rintro v w' ⟨rfl,ho⟩;replace hs:=hs.AN ho;refine Jf ?_
 refine cl (h:=by exact Tm ⟨⟨1,0,1⟩,2,⟨2,0,1⟩⟩ ⟨⟨1,0,1⟩,1,⟨2,0,1⟩⟩ (by decide) (by decide) _) (k:=?_)
 rw [show due ⟨⟨1,0,1⟩,2,⟨2,0,1⟩⟩ ⟨⟨1,0,1⟩,1,⟨2,0,1⟩⟩=false from by decide]
 rintro v w' ⟨rfl,ho⟩;replace hs:=hs.AN ho;refine Jc ?_
 refine AG ?_
 exact ⟨rfl,hs.AD rfl⟩
theorem fR (w0:World):AO Tryz.prog 279 #[] w0 fun v w'=>v = .bool true∧AA [] w0 w':=by
 have hs:=St.nil w0
 refine AR Tryz.func279 Tryz.ntmps279 (k:=?_)
 refine Ja ?_
 refine AY hs (h:=by exact fQ _) (k:=?_);intro w' ho hs;refine Jc ?_
 refine AG ?_
 exact ⟨rfl,hs.AD rfl⟩
end Go.Proofs.Q0
