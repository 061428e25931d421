/- A part of the proof: what its functions compute. -/
import Derived.Test.YtjiiakjheghcoaaGreatDoorGa3
set_option linter.unusedVariables false
set_option linter.unusedSimpArgs false
set_option maxRecDepth 100000
set_option maxHeartbeats 64000000
set_option linter.unusedSectionVars false
namespace Go.Proofs.Q0
open Go Go.RowKit
attribute [local irreducible] XS XC XA AX AO A6 AZ AY A7 Ab AV SE
theorem BS.app {w w':World} {v':Value} {xs:List Int} {x:Int} {G:List Nat} (h:BS w 3 1 v' (xs.length+1) (ints xs ++ [.int .i64 x]) G):BS w 3 1 v' (xs ++ [x]).length (ints (xs ++ [x])) G:=by
 rw [List.length_append,← dI]
 exact h
theorem GA:∀ (t:RB Int) (p:Option Addr) (v0:Value) (xs:List Int) (G:List Nat) (w0:World) (h:Fl w0 t p) (hO:BS w0 3 1 v0 xs.length (ints xs) G) (hlen:xs.length+t.list.length≤1000000),
 AM Tryz.prog 304 #[.pointer p,v0] w0 fun v w'=>∃ G',BS w' 3 1 v (xs ++ t.list).length (ints (xs ++ t.list)) G'∧(∀ k∈G',k∈G∨w0.heap.size≤k)∧AA G w0 w'
 | .nil,p,v0,xs,G,w0,h,hO,hlen=>by
   have hp:p=none:=h
   subst hp
   have hs:=St.nil w0
   refine AQ Tryz.func304 Tryz.ntmps304 (k:=?_)
   refine Je ?_
   refine AF ?_
   have ho:=hs.AD rfl
   rw [show xs ++ RB.nil.list=xs from List.append_nil xs]
   exact ⟨G,hO.keep ho (by simp),fun k hk => .inl hk,ho.weaken (by simp)⟩
 | .node l x r c,p,v0,xs,G,w0,⟨b,av,pl,pr,hp,hb,hl,hr⟩,hO,hlen=>by
   subst hp
   simp only [RB.list,List.length_append,List.length_cons] at hlen
   have hs:=(St.nil w0).AG hb (by simp)
   refine AQ Tryz.func304 Tryz.ntmps304 (k:=?_)
   refine Jd ?_
   refine dr [] hs (k:=?_);intro hX w hs
   refine tks 0 9 ?_
   refine tks 10 4 ?_
   have fin:∀ (b2:Nat) (w3:World) (v1:Value) (G1:List Nat) (MA:BS w3 3 1 v1 (xs ++ l.list).length (ints (xs ++ l.list)) G1) (M8:∀ k∈G1,k∈G∨w0.heap.size≤k) (AS:AA G w0 w3) (Dj:w3.heap[b2]?=some (.cells #[.int .i64 x] 3 (0,0))) (v2:Value) (w4:World) (h4:(∃ G',BS w4 3 1 v2 ((xs ++ l.list).length+1) (ints (xs ++ l.list) ++ [.int .i64 x]) G'∧∀ i∈G',i∈G1∨w3.heap.size≤i)) (Al:AA G1 w3 w4),
    AA G w0 w4∧∃ G2,BS w4 3 1 v2 (xs ++ l.list ++ [x]).length (ints (xs ++ l.list ++ [x])) G2∧(∀ k∈G2,k∈G∨w0.heap.size≤k)∧Fl w4 r pr∧w4.heap[b]?=some (EO x av pl pr c):=by
    intro b2 w3 v1 G1 MA M8 AS Dj v2 w4 ⟨G2,KL,KN⟩ Al
    have hsz:=AS.size
    have hn:=hO.O3
    have Lc:=MA.O3
    have GM:=AS.block hb (fun hm=>hn b hm _ _ hb)
    refine ⟨AS.step Al M8,G2,BS.app (w':=w4) KL,fun k hk=>?_,((hr.keep AS hn).keep Al Lc),Al.block GM (fun hm=>Lc b hm _ _ GM)⟩
    rcases KN k hk with h | h
    ·exact M8 k h
    ·exact .inr om
   have hn:=hO.O3
   have Yz:b∉G:=fun hm=>hn b hm _ _ hb
   have AJ:AA [] w0 _:=hs.AB [] (by simp [hb]) (by simp [D0])
   refine Gu 9 14 hX (h1:=?_) (h2:=?_)
   ·refine cl (h:=by exact GA l pl v0 xs G _ (hl.keep AJ (fun b h=>by cases h)) (hO.keep AJ (by simp)) om) (k:=?_)
    rintro v1 w1 ⟨G1,MA,M8,AN⟩
    have AS:AA G w0 w1:=(AJ.weaken (by simp)).step AN (fun k hk => .inl hk)
    have hsz:=AJ.size
    have CD:=AS.block hb Yz
    clear hs
    have hs:=(St.nil w1).AG CD (by simp)
    refine Jb ?_
    refine dn (k:=?_)
    refine dt 14 hX (k:=?_)
    refine bs hs (k:=?_);intro b2 w2 M6 hs
    refine Jb ?_
    refine dn (k:=?_)
    refine dt 15 hX (k:=?_)
    have hnew:=hs.new (b2,true) (by simp) rfl
    have Al:AA [] w1 w2:=hs.AB [] (by simp [CD]) (by simp [D0])
    have tN:=MA.keep Al (by simp)
    have Dj:=hs.get At.head
    have BJ:AA G w0 w2:=AS.step Al (by simp)
    refine CE AI rfl rfl rfl rfl rfl rfl rfl (by decide) (lit_cells (news:=[.int .i64 x]) Dj) (by simp [Value.oneCell']) tN (by simp only [List.length_append];omega) (by simp only [List.length_append];omega) ?_
    intro v2 w3 h3 Ak
    obtain ⟨CQ,G2,KL,KN,RP,GM⟩:=fin b2 w2 v1 G1 tN (fun k hk=>by rcases M8 k hk with h | h;exact .inl h;exact .inr om) BJ Dj v2 w3 h3 Ak
    clear hs
    have hs:=(St.nil w3).AG GM (by simp)
    refine Jb ?_
    refine dn (k:=?_)
    refine dt 16 hX (k:=?_)
    refine cl (h:=by exact GA r pr v2 (xs ++ l.list ++ [x]) G2 _ RP KL (by simp only [List.length_append,List.length_cons,List.length_nil];omega)) (k:=?_)
    rintro v3 w4 ⟨G3,HM,Mo,Da⟩
    have hb4:=Da.block GM (fun hm=>KL.O3 b hm _ _ GM)
    clear hs
    have hs:=(St.nil w4).AG hb4 (by simp)
    refine Jb ?_
    refine dn (k:=?_)
    refine tk 17 hX (k:=?_)
    refine en (k:=?_)
    refine Jb ?_
    refine AF ?_
    rw [show xs ++ l.list ++ [x] ++ r.list=xs ++ (RB.node l x r c).list by simp [RB.list]] at HM
    have wK:=CQ.size
    have LZ:AA [] w4 _:=hs.AB [] (by simp [hb4]) (by simp [D0])
    exact ⟨G3,HM.keep LZ (by simp),fun k hk=>by rcases Mo k hk with h | h;exact KN k h;exact .inr om,(CQ.step Da KN).step LZ (by simp)⟩
   ·refine bs hs (k:=?_);intro b2 w2 M6 hs
    refine Jb ?_
    refine dn (k:=?_)
    refine dt 9 hX (k:=?_)
    have hnew:=hs.new (b2,true) (by simp) rfl
    have Al:AA [] w0 w2:=hs.AB [] (by simp [hb]) (by simp [D0])
    have Dj:=hs.get At.head
    refine cl (h:=by exact GA l pl v0 xs G _ (hl.keep Al (fun b h=>by cases h)) (hO.keep Al (by simp)) om) (k:=?_)
    rintro v1 w1 ⟨G1,MA,M8,AN⟩
    have AS:AA G w0 w1:=(Al.weaken (by simp)).step AN (fun k hk => .inl hk)
    have hsz:=Al.size
    have CD:=AS.block hb Yz
    have vT:=AN.block Dj (fun hm=>by have:=hO.lt b2 hm;omega)
    clear hs
    have hs:=(St.nil w1).AG CD (by simp)
    refine Jb ?_
    refine dn (k:=?_)
    refine dt 15 hX (k:=?_)
    refine CE AI rfl rfl rfl rfl rfl rfl rfl (by decide) (lit_cells (news:=[.int .i64 x]) vT) (by simp [Value.oneCell']) MA (by simp only [List.length_append];omega) (by simp only [List.length_append];omega) ?_
    intro v2 w3 h3 Ak
    obtain ⟨CQ,G2,KL,KN,RP,GM⟩:=fin b2 w1 v1 G1 MA (fun k hk=>by rcases M8 k hk with h | h;exact .inl h;exact .inr om) AS vT v2 w3 h3 Ak
    clear hs
    have hs:=(St.nil w3).AG GM (by simp)
    refine Jb ?_
    refine dn (k:=?_)
    refine dt 16 hX (k:=?_)
    refine cl (h:=by exact GA r pr v2 (xs ++ l.list ++ [x]) G2 _ RP KL (by simp only [List.length_append,List.length_cons,List.length_nil];omega)) (k:=?_)
    rintro v3 w4 ⟨G3,HM,Mo,Da⟩
    have hb4:=Da.block GM (fun hm=>KL.O3 b hm _ _ GM)
    clear hs
    have hs:=(St.nil w4).AG hb4 (by simp)
    refine Jb ?_
    refine dn (k:=?_)
    refine tk 17 hX (k:=?_)
    refine en (k:=?_)
    refine Jb ?_
    refine AF ?_
    rw [show xs ++ l.list ++ [x] ++ r.list=xs ++ (RB.node l x r c).list by simp [RB.list]] at HM
    have wK:=CQ.size
    have LZ:AA [] w4 _:=hs.AB [] (by simp [hb4]) (by simp [D0])
    exact ⟨G3,HM.keep LZ (by simp),fun k hk=>by rcases Mo k hk with h | h;exact KN k h;exact .inr om,(CQ.step Da KN).step LZ (by simp)⟩
theorem Nq (tb:Nat) (t:RB Int) (F:List Nat) (w0:World) (h:C8 w0 tb t F) (hlen:t.list.length≤1000000) :
 AM Tryz.prog 291 #[.pointer (some ⟨tb,0,none⟩)] w0 fun v w'=>HL w' v t.list∧AA [] w0 w':=by
 obtain ⟨p,fp,rfl,hT,ht,hnd⟩:=h
 have hs:=(St.nil w0).AG hT (by simp)
 refine AQ Tryz.func291 Tryz.ntmps291 (k:=?_)
 refine Jd ?_
 refine cl (h:=by exact GA t p _ [] [] _ (ht.shape.keep (hs.AB [] (by simp [hT]) (by simp [D0])) (fun b h=>by cases h)) (.inl ⟨rfl,rfl,rfl,rfl⟩) (by simpa using hlen)) (k:=?_)
 rintro v w' ⟨G,hO,_,ho⟩
 replace hs:=hs.AL ho
 rw [List.nil_append] at hO
 obtain ⟨ad,cap,rfl,hd⟩:=hO.dat
 obtain ⟨R,hs,hd⟩:=(show HL w' (.slice ad t.list.length cap) t.list from ⟨ad,cap,rfl,hd⟩).read hs rfl
 refine Jc ?_
 refine AF ?_
 exact ⟨(hd _ (fun e he=>hs.ro e (by simp [he]))),hs.AB [] (by simp [hT]) (by simp [D0])⟩
theorem XJ {A B:List Int} {i:Nat} (h:A.take i=B.take i) (hA:i < A.length) (hB:i < B.length) (he:A[i]=B[i]):A.take (i+1)=B.take (i+1):=by
 rw [List.take_add_one,List.take_add_one,h,List.getElem?_eq_getElem hA,List.getElem?_eq_getElem hB,he]
theorem rJ {i m:Nat} (h:i < m) (hm:m≤9223372036854775807):IntKind.i64.wrap ((i:Int)+1)=((i+1:Nat):Int):=by
 have e1:(i:Int)+1=((i+1:Nat):Int):=by omega
 rw [e1]
 exact Jz om om
theorem jD (va vb:Value) (A B:List Int) (hm:A.length≤9223372036854775807) (w0:World) (hA:HL w0 va A) (hB:HL w0 vb B) :
 AM Tryz.prog 23 #[va,vb] w0 fun v w'=>v = .bool (decide (A=B))∧AA [] w0 w':=by
 obtain ⟨Oe,ca,rfl,hA⟩:=hA
 obtain ⟨Nt,cb,rfl,hB⟩:=hB
 have hs:=St.nil w0
 refine AQ Tryz.func23 Tryz.ntmps23 (k:=?_)
 repeat' (first|refine Sa ?_|refine xc_cond rfl (fun hc=>?_) fun hc=>?_|fail)
 ·refine AF ?_
  refine ⟨congrArg Value.bool ?_,hs.AD rfl⟩
  have hne:A≠B:=fun e=>by subst e;simp at hc
  exact (decide_eq_false hne).symm
 ·have KI:A.length=B.length:=by
   have h:((A.length:Nat):Int)=B.length:=by simpa using hc
   omega
  refine BH (fun _:Unit=>[]) (fun _ w=>A=B∧AA [] w0 w) ?_ ?_
  ·refine BF (fun (i:Nat)=>[(0,.slice Oe A.length ca),(1,.slice Nt B.length cb),(12,.int .i64 (A.length:Nat)),(13,.int .i64 (i:Nat))])
    (fun i w=>i≤A.length∧A.take i=B.take i∧AA [] w0 w)
    (fun i=>A.length - i) 0 Aa ⟨Nat.zero_le _,by simp,hs.AD rfl⟩ fun i env w ⟨hi,ht,ho⟩=>?_
   clear hs
   have hs:=St.nil w
   repeat' (first|refine Sa ?_|refine Av rfl (fun hc=>?_) fun hc=>?_|fail)
   ·have hlt:i < A.length:=by omega
    have GW:i < B.length:=by omega
    obtain ⟨ba,oa,Yc,fa,rfl,a2,a3,a4⟩:=hA (fun h=>by subst h;simp at hlt)
    obtain ⟨bb,ob,Y6,fb,rfl,b2,b3,b4⟩:=hB (fun h=>by subst h;simp at GW)
    have ga:=a4 i _ (List.getElem?_eq_getElem hlt)
    have gb:=b4 i _ (List.getElem?_eq_getElem GW)
    have a3:=ho.block a3 (by simp)
    have b3:=ho.block b3 (by simp)
    have key:A[i]=B[i]→A.take (i+1)=B.take (i+1):=XJ ht hlt GW
    have HJ:A[i]≠B[i]→A≠B:=fun h e=>h (by subst e;rfl)
    have ei:=rJ hlt hm
    have ga':Yc[oa+((i:Nat):Int).toNat*1]?=some (.int .i64 A[i]):=by simpa using ga
    have gb':Y6[ob+((i:Nat):Int).toNat*1]?=some (.int .i64 B[i]):=by simpa using gb
    generalize A[i]=x at *
    generalize B[i]=y at *
    by_cases e:ba=bb
    ·subst e
     rw [a3] at b3
     cases b3
     replace hs:=hs.AG a3 (by simp)
     refine dr [] hs (k:=?_);intro hX w hs
     refine tks 0 2 ?_
     refine tk 2 hX (hr:=fun w' hH=>BE AI rfl rfl rfl om om) (k:=?_)
     refine tk 3 hX (v := .int .i64 x) (hr:=fun w' hH=>r_load AI rfl rfl (hH rfl) At.head ga') (k:=?_)
     refine tks 4 2 ?_
     refine tk 6 hX (hr:=fun w' hH=>BE AI rfl rfl rfl om om) (k:=?_)
     refine tk 7 hX (v := .int .i64 y) (hr:=fun w' hH=>r_load AI rfl rfl (hH rfl) At.head gb') (k:=?_)
     refine tk 8 hX (k:=?_)
     refine en (k:=?_)
     repeat' (first|refine Sa ?_|refine xc_cond rfl (fun hc=>?_) fun hc=>?_|fail)
     ·refine AF ?_
      exact ⟨congrArg Value.bool (decide_eq_false (HJ (by simpa using hc))).symm,ho.step (hs.AB [] (by simp [a3]) (by simp [D0])) (by simp)⟩
     ·exact A2 (i+1) om (by (repeat (first | exact Ac | (apply A5;first | exact rfl | exact congrArg (Value.int .i64) ei)))) ⟨by omega,key (by simpa using hc),ho.step (hs.AB [] (by simp [a3]) (by simp [D0])) (by simp)⟩
    ·replace hs:=(hs.AG a3 (by simp)).AG b3 (by simpa using Ne.symm e)
     refine dr [] hs (k:=?_);intro hX w hs
     refine tks 0 2 ?_
     refine tk 2 hX (hr:=fun w' hH=>BE AI rfl rfl rfl om om) (k:=?_)
     refine tk 3 hX (v := .int .i64 x) (hr:=fun w' hH=>r_load AI rfl rfl (hH rfl) (At.tail At.head) ga') (k:=?_)
     refine tks 4 2 ?_
     refine tk 6 hX (hr:=fun w' hH=>BE AI rfl rfl rfl om om) (k:=?_)
     refine tk 7 hX (v := .int .i64 y) (hr:=fun w' hH=>r_load AI rfl rfl (hH rfl) At.head gb') (k:=?_)
     refine tk 8 hX (k:=?_)
     refine en (k:=?_)
     repeat' (first|refine Sa ?_|refine xc_cond rfl (fun hc=>?_) fun hc=>?_|fail)
     ·refine AF ?_
      exact ⟨congrArg Value.bool (decide_eq_false (HJ (by simpa using hc))).symm,ho.step (hs.AB [] (by simp [a3,b3]) (by simp [D0])) (by simp)⟩
     ·exact A2 (i+1) om (by (repeat (first | exact Ac | (apply A5;first | exact rfl | exact congrArg (Value.int .i64) ei)))) ⟨by omega,key (by simpa using hc),ho.step (hs.AB [] (by simp [a3,b3]) (by simp [D0])) (by simp)⟩
   ·have e:i=A.length:=by omega
    have Ox:A=B:=by
     have h1:A.take i=A:=List.take_of_length_le om
     have h2:B.take i=B:=List.take_of_length_le om
     rw [← h1,ht,h2]
    exact Am () Aa ⟨Ox,ho.step (hs.AD rfl) (by simp)⟩
  ·rintro _ env w ⟨rfl,ho⟩
   clear hs
   have hs:=St.nil w
   refine Ja ?_
   refine AF ?_
   exact ⟨congrArg Value.bool (decide_eq_true rfl).symm,ho.step (hs.AD rfl) (by simp)⟩
theorem C8.only {w w':World} {tb:Nat} {t:RB Int} {F:List Nat} (h:C8 w tb t F) (ho:AA [] w w'):C8 w' tb t F:=by
 obtain ⟨p,fp,h1,h2,h3,h4⟩:=h
 exact ⟨p,fp,h1,ho.block h2 (by simp),h3.keep ho (AK.nil w) (by simp),h4⟩
def K6 (w0:World) (F:List Nat):Prop:=∀ k∈F,w0.heap.size≤k
theorem K6.step {w0 w:World} {F F':List Nat} (h:K6 w0 F) (ho:AA [] w0 w) (hs:∀ k∈F',k∈F∨w.heap.size≤k):K6 w0 F':=fun k hk=>by
 have:=ho.size
 rcases hs k hk with h' | h'
 ·exact h k h'
 ·omega
theorem AA.news {w0 w w':World} {F:List Nat} (ho:AA [] w0 w) (h:K6 w0 F) (ho':AA F w w'):AA [] w0 w':=ho.step ho' fun k hk => .inr (h k hk)
theorem bK (w0:World):AM Tryz.prog 283 #[] w0 fun v w'=>v = .bool true∧AA [] w0 w':=by
 have hs:=St.nil w0
 refine AQ Tryz.func283 Tryz.ntmps283 (k:=?_)
 refine Ja ?_
 refine cl (h:=by exact jV _) (k:=?_)
 rintro v w1 ⟨tb,F0,rfl,h0,hn,ho⟩
 have o0:AA [] w0 w1:=(hs.AD rfl).step ho (by simp)
 have n0:K6 w0 F0:=fun k hk=>Nat.le_trans (hs.AD rfl).size (hn k hk)
 clear hs
 have hs:=St.nil w1
 refine Jd ?_
 have oo:=hs.AD rfl
 refine cl (h:=by exact Fe tb .nil F0 3 _ (h0.only oo) (by decide)) (k:=?_)
 rintro v w2 ⟨rfl,F1,h1,s1,o1⟩
 have n1:=n0.step (o0.step oo (by simp)) s1
 have o2:=(o0.step oo (by simp)).news n0 o1
 rw [show RB.has Gq 3 (RB.nil:RB Int)=false from rfl]
 clear hs oo
 have hs:=St.nil w2
 refine Jf ?_
 have oo:=hs.AD rfl
 refine cl (h:=by exact Fe tb _ F1 1 _ (h1.only oo) (by decide)) (k:=?_)
 rintro v w3 ⟨rfl,F2,h2,s2,o3⟩
 have n2:=n1.step (o2.step oo (by simp)) s2
 have o4:=(o2.step oo (by simp)).news n1 o3
 rw [show RB.has Gq 1 (RB.insert RB.nil 3)=false by decide]
 clear hs oo
 have hs:=St.nil w3
 refine Jf ?_
 have oo:=hs.AD rfl
 refine cl (h:=by exact Fe tb _ F2 2 _ (h2.only oo) (by decide)) (k:=?_)
 rintro v w4 ⟨rfl,F3,h3,s3,o5⟩
 have n3:=n2.step (o4.step oo (by simp)) s3
 have o6:=(o4.step oo (by simp)).news n2 o5
 rw [show RB.has Gq 2 (RB.insert (RB.insert RB.nil 3) 1)=false by decide]
 have el:(RB.insert (RB.insert (RB.insert RB.nil 3) 1) 2).list=[1,2,3]:=by decide
 have ed:(RB.insert (RB.insert (RB.insert RB.nil 3) 1) 2).depth=2:=by decide
 generalize RB.insert (RB.insert (RB.insert RB.nil 3) 1) 2=t at *
 clear hs oo
 have hs:=St.nil w4
 refine Ja ?_
 refine cl (h:=by exact Nq tb t F3 _ (h3.only (hs.AD rfl)) (by rw [el];decide)) (k:=?_)
 rintro v w' ⟨hd,ho⟩;replace hs:=hs.AL ho
 rw [el] at hd
 obtain ⟨ad,cp,rfl,_⟩:=id hd
 obtain ⟨R,hs,hd⟩:=hd.read hs rfl
 refine bs hs (k:=?_);intro b w hz hs
 skip
 have hb:=hs.get At.head
 refine AW hs (h:=by exact jD _ _ [1,2,3] [1,2,3] (by decide) _ (hd _ (fun e he=>hs.ro e (by simp [he]))) ⟨some ⟨b,0,none⟩,3,rfl,fun _=>⟨b,0,_,_,rfl,Nat.le_refl _,hb,fun i d h=>by match i,h with | 0,h=>simpa using h | 1,h=>simpa using h | 2,h=>simpa using h | i+3,h=>simp at h⟩⟩) (k:=?_);intro w' ho hs
 rw [show decide (([1,2,3]:List Int)=[1,2,3])=true from rfl]
 refine Jf ?_
 refine AW hs (h:=by exact X9 tb t F3 _ (h3.only (hs.AD rfl)) (by rw [el];decide)) (k:=?_);intro w' ho hs
 rw [ed]
 refine Jc ?_
 refine AF ?_
 exact ⟨rfl,o6.step (hs.AD rfl) (by simp)⟩
end Go.Proofs.Q0
namespace Go.Proofs.Q0.IB
open Go Go.RowKit
attribute [local irreducible] XS XC XA AX AO A6 AZ AY A7 Ab AV SE
abbrev IT:={a:It // a.In}
def Cr (x y:IT):Bool:=ahead x.1 y.1
def snr (x y:IT):IT:=bif due y.1 x.1 then y else x
def all? : RB IT→Option IT
 | .nil=>none
 | .node l x r _=>some (match all? r with | none=>(match all? l with | none=>x | some a=>snr a x) | some b=>snr (match all? l with | none=>x | some a=>snr a x) b)
def KV (l:RB IT) (x:IT) (r:RB IT):IT:=match all? r with | none=>(match all? l with | none=>x | some a=>snr a x) | some b=>snr (match all? l with | none=>x | some a=>snr a x) b
abbrev EO (x:IT) (a:It) (pl pr:Option Addr) (c:Bool):Obj := .cells #[.int .u64 x.1.p.t,.int .u32 x.1.p.r,.int .u32 x.1.p.w,.int .i64 x.1.id,.int .u64 x.1.d.t,.int .u32 x.1.d.r,.int .u32 x.1.d.w,.int .u64 a.p.t,.int .u32 a.p.r,.int .u32 a.p.w,.int .i64 a.id,.int .u64 a.d.t,.int .u32 a.d.r,.int .u32 a.d.w,.pointer pl,.pointer pr,.bool c] 276 (0,0)
abbrev C3 (p:Option Addr) (n:Int):Obj := .cells #[.pointer p,.int .i64 n,.func (.func 176) #[] #[],.func (.func 177) #[] #[],.func (.func 178) #[] #[]] 199 (0,0)
def DA (_:World) (av:It) (l:RB IT) (x:IT) (r:RB IT):Prop:=av=(KV l x r).1
theorem MY (x y:IT) (w0:World):AM Tryz.prog 176 #[iv x.1,iv y.1] w0 fun v w'=>v = .bool (Cr x y)∧AA [] w0 w':=Tp x.1 y.1 x.2 y.2 w0
theorem H8 (a:It) (w0:World):AM Tryz.prog 177 #[iv a] w0 fun v w'=>v=iv a∧AA [] w0 w':=by
 have hs:=St.nil w0
 refine AQ Tryz.func177 Tryz.ntmps177 (k:=?_)
 repeat' (first|refine Sa ?_|(refine AU hs (k:=?_);intro w hs)|(refine al hs (k:=?_);intro b w hz hs)|(refine bx hs (k:=?_);intro b w hz hs)|fail)
 refine AF ?_
 exact ⟨rfl,hs.AD rfl⟩
theorem its_one {w:World} {b:Nat} {a:It} (hb:w.heap[b]?=some (.cells a.cells.toArray 64 (0,0))):JF w (.slice (some ⟨b,0,none⟩) 1 1) [a] :=
 ⟨_,1,rfl,fun _=>⟨b,0,_,(0,0),rfl,Nat.le_refl _,hb,fun i x h=>by
  cases i with
  | zero =>
    simp only [List.map_cons,List.getElem?_cons_zero,Option.some.injEq] at h
    subst h
    exact pick_of rfl rfl
  | succ i=>simp at h⟩⟩
theorem JK (x y:IT) (w0:World):AM Tryz.prog 178 #[iv x.1,iv y.1] w0 fun v w'=>v=iv (snr x y).1∧AA [] w0 w':=by
 have e:soonest x.1 [y.1]=(snr x y).1:=by unfold soonest snr;simp only [List.foldl_cons,List.foldl_nil];cases due y.1 x.1 <;> rfl
 have hs:=St.nil w0
 refine AQ Tryz.func178 Tryz.ntmps178 (k:=?_)
 repeat' (first|refine Sa ?_|(refine al hs (k:=?_);intro b w hz hs)|(refine bx hs (k:=?_);intro b w hz hs)|(refine bs hs (k:=?_);intro b w hz hs)|fail)
 refine cl (h:=by exact X7 x.1 [y.1] _ x.2 (by simp;exact y.2) (by simp) _ (its_one (hs.get At.head))) (k:=?_)
 rw [e]
 rintro v w' ⟨rfl,ho⟩;replace hs:=hs.AL ho;repeat' (first|refine Nx.h ?_|(refine AU hs (k:=?_);intro w hs)|fail)
 refine AF ?_
 exact ⟨rfl,hs.AD rfl⟩
end Go.Proofs.Q0.IB
namespace Go.Proofs.Q0.IB
open Go Go.RowKit
theorem DA.keep {w w':World} {av:It} {l:RB IT} {x:IT} {r:RB IT} {F:List Nat} (h:DA w av l x r) (_:AA F w w') {q:Prop} (_:q):DA w' av l x r:=h
def Ad (w:World):RB IT→Option Addr→List Nat→Prop
 | .nil,p,fp=>p=none∧fp=[]
 | .node l x r c,p,fp=>∃ b av pl pr fl fr,p=some ⟨b,0,none⟩∧fp=b :: (fl ++ fr)∧w.heap[b]?=some (EO x av pl pr c)∧DA w av l x r∧Ad w l pl fl∧Ad w r pr fr
def C5 (w:World) (l:RB IT) (x:IT) (r:RB IT) (c:Bool) (p:Option Addr) (fp:List Nat):Prop :=
 ∃ b av pl pr fl fr,p=some ⟨b,0,none⟩∧fp=b :: (fl ++ fr)∧w.heap[b]?=some (EO x av pl pr c)∧Ad w l pl fl∧Ad w r pr fr
theorem Ad.Lr {w:World} {l:RB IT} {x:IT} {r:RB IT} {c:Bool} {p:Option Addr} {fp:List Nat} (h:Ad w (.node l x r c) p fp):C5 w l x r c p fp:=by
 obtain ⟨b,av,pl,pr,fl,fr,h1,h2,h3,h4,h5,h6⟩:=h
 exact ⟨b,av,pl,pr,fl,fr,h1,h2,h3,h5,h6⟩
def AK (w:World) (F:List Nat):Prop:=∀ b∈F,∃ cs fz,w.heap[b]?=some (.cells cs 276 fz)
theorem AK.nil (w:World):AK w []:=fun b h=>by cases h
theorem AK.append {w:World} {F G:List Nat} (h:AK w F) (k:AK w G):AK w (F ++ G):=fun b hb=>by
 rcases List.mem_append.1 hb with hb | hb
 ·exact h b hb
 ·exact k b hb
theorem AK.cons {w:World} {F:List Nat} {b:Nat} {cs:Array Value} {fz:Nat × Nat} (h:w.heap[b]?=some (.cells cs 276 fz)) (k:AK w F):AK w (b :: F):=fun b' hb=>by
 rcases List.mem_cons.1 hb with rfl | hb
 ·exact ⟨_,_,h⟩
 ·exact k b' hb
theorem Ad.nodes {w:World}:∀ {t:RB IT} {p:Option Addr} {fp:List Nat},Ad w t p fp→AK w fp
 | .nil,p,fp,⟨_,h⟩=>by subst h;exact AK.nil w
 | .node l x r c,p,fp,⟨b,av,pl,pr,fl,fr,h1,h2,h3,h4,h5,h6⟩=>by
   subst h2
   exact .cons h3 (h5.nodes.append h6.nodes)
theorem C5.nodes {w:World} {l:RB IT} {x:IT} {r:RB IT} {c:Bool} {p:Option Addr} {fp:List Nat} (h:C5 w l x r c p fp):AK w fp:=by
 obtain ⟨b,av,pl,pr,fl,fr,h1,h2,h3,h5,h6⟩:=h
 subst h2
 exact .cons h3 (h5.nodes.append h6.nodes)
theorem Ad.keep {w w':World} {F:List Nat} (ho:AA F w w') (hF:AK w F):∀ {t:RB IT} {p:Option Addr} {fp:List Nat},Ad w t p fp→(∀ b∈fp,b∉F)→Ad w' t p fp
 | .nil,p,fp,h,_=>h
 | .node l x r c,p,fp,⟨b,av,pl,pr,fl,fr,h1,h2,h3,h4,h5,h6⟩,hd=>by
   subst h2
   exact ⟨b,av,pl,pr,fl,fr,h1,rfl,ho.block h3 (hd b List.mem_cons_self),h4.keep ho hF,Ad.keep ho hF h5 fun k hk=>hd k (List.mem_cons_of_mem _ (List.mem_append_left _ hk)),
    Ad.keep ho hF h6 fun k hk=>hd k (List.mem_cons_of_mem _ (List.mem_append_right _ hk))⟩
theorem head_keep {w w':World} {F:List Nat} {tb:Nat} {p:Option Addr} {n:Int} (h:w.heap[tb]?=some (C3 p n)) (ho:AA F w w') (hF:AK w F):w'.heap[tb]?=some (C3 p n) :=
 ho.block h fun hb=>by
  obtain ⟨cs',iR,h5⟩:=hF tb hb
  rw [h] at h5
  cases h5
end Go.Proofs.Q0.IB
namespace Go.Proofs.Q0.IB
open Go Go.RowKit
attribute [local irreducible] XS XC XA AX AO A6 AZ AY A7 Ab AV SE
theorem Bc (t:RB IT) (p:Option Addr) (fp:List Nat) (w0:World) (h:Ad w0 t p fp):AM Tryz.prog 236 #[.pointer p] w0 fun v w'=>v = .bool t.red∧AA [] w0 w':=by
 have hs:=St.nil w0
 cases t with
 | nil =>
   obtain ⟨rfl,rfl⟩:=h
   refine AQ Tryz.func236 Tryz.ntmps236 (k:=?_)
   repeat' (first|refine vs (k:=?_)|refine ps (k:=?_)|refine Aq ?_|refine Nx.h ?_|fail)
   refine AF ?_
   exact ⟨rfl,hs.AD rfl⟩
 | node l x r c =>
   obtain ⟨b,av,pl,pr,fl,fr,rfl,h2,h3,h4,h5,h6⟩:=h
   replace hs:=hs.AG h3 (by simp)
   refine AQ Tryz.func236 Tryz.ntmps236 (k:=?_)
   refine Ja ?_
   refine AF ?_
   exact ⟨rfl,hs.AB [] (by simp [h3]) (by simp [D0])⟩
theorem C2 {w:World} {tb b:Nat} {p:Option Addr} {n:Int} {cs:Array Value} {fz:Nat × Nat} (h:w.heap[tb]?=some (C3 p n)) (k:w.heap[b]?=some (.cells cs 276 fz)):b≠tb:=fun e=>by
 subst e
 rw [h] at k
 cases k
theorem ED (tb:Nat) (p0:Option Addr) (n0:Int) (l:RB IT) (x:IT) (r:RB IT) (c:Bool) (p:Option Addr) (fp:List Nat) (w0:World) (hT:w0.heap[tb]?=some (C3 p0 n0)) (h:C5 w0 l x r c p fp) (hnd:fp.Nodup) (hlen:(l.list ++ x :: r.list).length≤1000000) :
 AM Tryz.prog 242 #[.pointer (some ⟨tb,0,none⟩),.pointer p] w0 fun v w'=>Ad w' (.node l x r c) p fp∧AA fp w0 w':=by
 obtain ⟨b,av,pl,pr,fl,fr,rfl,rfl,hb,hl,hr⟩:=h
 have Dw:=C2 hT hb
 obtain ⟨hnb,mU⟩:=List.nodup_cons.1 hnd
 have hnl:∀ k∈fl,k∉[b]:=fun k hk hm=>by
  obtain rfl:=List.mem_singleton.1 hm
  exact hnb (List.mem_append_left _ hk)
 have Pk:∀ k∈fr,k∉[b]:=fun k hk hm=>by
  obtain rfl:=List.mem_singleton.1 hm
  exact hnb (List.mem_append_right _ hk)
 have hlr:∀ k∈fl,k∉fr:=fun k hk hm=>(List.nodup_append.1 mU).2.2 k hk k hm rfl
 have hNb:AK w0 [b]:=AK.cons hb (AK.nil w0)
 have fin:∀ (w':World) (Lx:It),w'.heap[b]?=some (EO x Lx pl pr c)→DA w' Lx l x r→AA [b] w0 w'→Ad w' (.node l x r c) (some ⟨b,0,none⟩) (b :: (fl ++ fr))∧AA (b :: (fl ++ fr)) w0 w':=fun w' Lx h1 h2 ho =>
  ⟨⟨b,Lx,pl,pr,fl,fr,rfl,rfl,h1,h2,hl.keep ho hNb hnl,hr.keep ho hNb Pk⟩,ho.weaken fun k hk=>by obtain rfl:=List.mem_singleton.1 hk;exact List.mem_cons_self⟩
 clear hnd
 have hs:=St.nil w0
 replace hs:=hs.AG hT (by simp)
 replace hs:=hs.AG hb (by simpa using Dw)
 cases l with
 | nil =>
   cases r with
   | nil =>
     obtain ⟨rfl,rfl⟩:=hl
     obtain ⟨rfl,rfl⟩:=hr
     refine AQ Tryz.func242 Tryz.ntmps242 (k:=?_)
     refine Jb ?_
     refine dr [12] hs (k:=?_);intro hX w hs
     refine tks 0 9 ?_
     refine dt 9 hX (k:=?_)
     refine AW hs (h:=by exact H8 x.1 _) (k:=?_);intro w' ho hs;refine Jb ?_
     refine dn (k:=?_)
     refine tks 10 2 ?_
     refine dt 12 hX (k:=?_)
     repeat' (first|refine Nx.h ?_|(refine AU hs (k:=?_);intro w hs)|fail)
     refine dn (k:=?_)
     refine en (k:=?_)
     refine Jd ?_
     refine Iu ?_
     exact fin _ _ (hs.get At.head) rfl (hs.AB [b] (by simp [hT]) (by simp [D0]))
   | node rl rx rr rc =>
     obtain ⟨rfl,rfl⟩:=hl
     obtain ⟨rb,eZ,yM,tT,rfl',wG,rfl,rfl,hrb,hrav,hrl,kZ⟩:=hr
     have aY:eZ=(KV rl rx rr).1:=hrav
     subst aY
     have Wo:=C2 hT hrb
     have RH:rb≠b:=fun e=>by subst e;exact Pk _ List.mem_cons_self List.mem_cons_self
     replace hs:=hs.AG hrb (by simp [Wo,RH])
     refine AQ Tryz.func242 Tryz.ntmps242 (k:=?_)
     refine Jb ?_
     refine dr [12] hs (k:=?_);intro hX w hs
     refine tks 0 9 ?_
     refine dt 9 hX (k:=?_)
     refine AW hs (h:=by exact H8 x.1 _) (k:=?_);intro w' ho hs;refine Jb ?_
     refine dn (k:=?_)
     refine tks 10 2 ?_
     refine dt 12 hX (k:=?_)
     repeat' (first|refine Nx.h ?_|(refine AU hs (k:=?_);intro w hs)|fail)
     refine dn (k:=?_)
     refine en (k:=?_)
     repeat' (first|refine vs (k:=?_)|refine Aq ?_|refine Nx.h ?_|refine Et ?_|refine EJ ?_|fail)
     refine dr [19] hs (k:=?_);intro hX w hs
     refine tks 0 16 ?_
     refine dt 16 hX (k:=?_)
     refine AW hs (h:=by exact JK x (KV rl rx rr) _) (k:=?_);intro w' ho hs;refine Jb ?_
     refine dn (k:=?_)
     refine tks 17 2 ?_
     refine dt 19 hX (k:=?_)
     repeat' (first|refine Nx.h ?_|(refine AU hs (k:=?_);intro w hs)|fail)
     refine dn (k:=?_)
     refine en (k:=?_)
     skip
     refine Iu ?_
     exact fin _ _ (hs.get (At.tail At.head)) rfl (hs.AB [b] (by simp [hT,hrb]) (by simp [D0]))
 | node ll lx lr lc =>
   cases r with
   | nil =>
     obtain ⟨lb,Vv,kA,qF,qJ,p7,rfl,rfl,hlb,hlav,Gc,nY⟩:=hl
     have S5:Vv=(KV ll lx lr).1:=hlav
     subst S5
     have hlt:=C2 hT hlb
     have RA:lb≠b:=fun e=>by subst e;exact hnl _ List.mem_cons_self List.mem_cons_self
     replace hs:=hs.AG hlb (by simp [hlt,RA])
     obtain ⟨rfl,rfl⟩:=hr
     refine AQ Tryz.func242 Tryz.ntmps242 (k:=?_)
     refine Jb ?_
     refine dr [12] hs (k:=?_);intro hX w hs
     refine tks 0 9 ?_
     refine dt 9 hX (k:=?_)
     refine AW hs (h:=by exact H8 x.1 _) (k:=?_);intro w' ho hs;refine Jb ?_
     refine dn (k:=?_)
     refine tks 10 2 ?_
     refine dt 12 hX (k:=?_)
     repeat' (first|refine Nx.h ?_|(refine AU hs (k:=?_);intro w hs)|fail)
     refine dn (k:=?_)
     refine en (k:=?_)
     refine Je ?_
     refine dr [19] hs (k:=?_);intro hX w hs
     refine tks 0 16 ?_
     refine dt 16 hX (k:=?_)
     refine AW hs (h:=by exact JK (KV ll lx lr) x _) (k:=?_);intro w' ho hs;refine Jb ?_
     refine dn (k:=?_)
     refine tks 17 2 ?_
     refine dt 19 hX (k:=?_)
     repeat' (first|refine Nx.h ?_|(refine AU hs (k:=?_);intro w hs)|fail)
     refine dn (k:=?_)
     refine en (k:=?_)
     refine Jd ?_
     refine Iu ?_
     exact fin _ _ (hs.get (At.tail At.head)) rfl (hs.AB [b] (by simp [hT,hlb]) (by simp [D0]))
   | node rl rx rr rc =>
     obtain ⟨lb,Vv,kA,qF,qJ,p7,rfl,rfl,hlb,hlav,Gc,nY⟩:=hl
     have S5:Vv=(KV ll lx lr).1:=hlav
     subst S5
     have hlt:=C2 hT hlb
     have RA:lb≠b:=fun e=>by subst e;exact hnl _ List.mem_cons_self List.mem_cons_self
     replace hs:=hs.AG hlb (by simp [hlt,RA])
     obtain ⟨rb,eZ,yM,tT,rfl',wG,rfl,rfl,hrb,hrav,hrl,kZ⟩:=hr
     have aY:eZ=(KV rl rx rr).1:=hrav
     subst aY
     have Wo:=C2 hT hrb
     have RH:rb≠b:=fun e=>by subst e;exact Pk _ List.mem_cons_self List.mem_cons_self
     have nG:rb≠lb:=fun e=>by subst e;exact hlr _ List.mem_cons_self List.mem_cons_self
     replace hs:=hs.AG hrb (by simp [Wo,RH,nG])
     refine AQ Tryz.func242 Tryz.ntmps242 (k:=?_)
     refine Jb ?_
     refine dr [12] hs (k:=?_);intro hX w hs
     refine tks 0 9 ?_
     refine dt 9 hX (k:=?_)
     refine AW hs (h:=by exact H8 x.1 _) (k:=?_);intro w' ho hs;refine Jb ?_
     refine dn (k:=?_)
     refine tks 10 2 ?_
     refine dt 12 hX (k:=?_)
     repeat' (first|refine Nx.h ?_|(refine AU hs (k:=?_);intro w hs)|fail)
     refine dn (k:=?_)
     refine en (k:=?_)
     refine Je ?_
     refine dr [19] hs (k:=?_);intro hX w hs
     refine tks 0 16 ?_
     refine dt 16 hX (k:=?_)
     refine AW hs (h:=by exact JK (KV ll lx lr) x _) (k:=?_);intro w' ho hs;refine Jb ?_
     refine dn (k:=?_)
     refine tks 17 2 ?_
     refine dt 19 hX (k:=?_)
     repeat' (first|refine Nx.h ?_|(refine AU hs (k:=?_);intro w hs)|fail)
     refine dn (k:=?_)
     refine en (k:=?_)
     refine Je ?_
     refine dr [19] hs (k:=?_);intro hX w hs
     refine tks 0 16 ?_
     refine dt 16 hX (k:=?_)
     refine AW hs (h:=by exact JK (snr (KV ll lx lr) x) (KV rl rx rr) _) (k:=?_);intro w' ho hs;refine Jb ?_
     refine dn (k:=?_)
     refine tks 17 2 ?_
     refine dt 19 hX (k:=?_)
     repeat' (first|refine Nx.h ?_|(refine AU hs (k:=?_);intro w hs)|fail)
     refine dn (k:=?_)
     refine en (k:=?_)
     skip
     refine Iu ?_
     exact fin _ _ (hs.get (At.tail (At.tail At.head))) rfl (hs.AB [b] (by simp [hT,hlb,hrb]) (by simp [D0]))
theorem AK.lt {w:World} {F:List Nat} (h:AK w F):∀ k∈F,k < w.heap.size:=fun k hk=>by
 obtain ⟨cs,fz,h⟩:=h k hk
 exact lt_of_block h
def Cg (w0:World) (fp:List Nat) (t':RB IT) (v:Value) (w':World):Prop :=
 ∃ p' C9,v = .pointer p'∧Ad w' t' p' C9∧C9.Nodup∧(∀ k∈C9,k∈fp∨w0.heap.size≤k)∧AA fp w0 w'
theorem Ke (tb:Nat) (p0:Option Addr) (n0:Int) (l:RB IT) (x:IT) (rl:RB IT) (y:IT) (rr:RB IT) (c c2:Bool) (p:Option Addr) (fp:List Nat) (w0:World) (hT:w0.heap[tb]?=some (C3 p0 n0)) (h:C5 w0 l x (.node rl y rr c2) c p fp) (hnd:fp.Nodup) (hlen:(l.list ++ x :: (rl.list ++ y :: rr.list)).length≤1000000) :
 AM Tryz.prog 243 #[.pointer (some ⟨tb,0,none⟩),.pointer p] w0 fun v w'=>Cg w0 fp (.node (.node l x rl true) y rr c) v w':=by
 obtain ⟨b,av,pl,pr,fl,fr,rfl,rfl,hb,hl,u,JV,gG,vZ,frl,KJ,rfl,rfl,hu,_,hrl,VE⟩:=h
 have hp:=perm_turn b u fl frl KJ
 have Qc:=hp.nodup_iff.2 hnd
 have hNb:AK w0 [u,b]:=AK.cons hu (AK.cons hb (AK.nil w0))
 simp only [List.length_append,List.length_cons] at hlen
 obtain ⟨d1,d2,d3,d4,d5,d6,d7,d8⟩:u≠b∧(∀ k∈fl,k∉[u,b])∧(∀ k∈frl,k∉[u,b])∧(∀ k∈KJ,k∉[u,b])∧(b :: (fl ++ frl)).Nodup∧u∉b :: (fl ++ frl)∧(∀ k∈KJ,k∉b :: (fl ++ frl))∧(u :: ((b :: (fl ++ frl)) ++ KJ)).Nodup:=by
  simp only [List.cons_append,List.append_assoc,List.nodup_cons,List.nodup_append,List.mem_append,List.mem_cons,List.not_mem_nil,or_false] at Qc ⊢
  grind
 have hs:=St.nil w0
 replace hs:=hs.AG hb (by simp)
 replace hs:=hs.AG hu (by simpa using d1)
 refine AQ Tryz.func243 Tryz.ntmps243 (k:=?_)
 repeat' (first|refine Sa ?_|(refine st hs (k:=?_);intro w hs)|fail)
 have AJ:AA [u,b] w0 _:=hs.AB [u,b] (by simp) (by simp [D0])
 have Bw:=hs.get (At.tail At.head)
 have Up:=hs.get At.head
 have E5:=hl.keep AJ hNb d2
 have V7:=hrl.keep AJ hNb d3
 have lM:=VE.keep AJ hNb d4
 have CI:=head_keep hT AJ hNb
 clear hs
 refine cl (h:=by exact ED tb p0 n0 l x rl true _ _ _ CI ⟨b,av,pl,gG,fl,frl,rfl,rfl,Bw,E5,V7⟩ d5 (by simp only [List.length_append,List.length_cons];omega)) (k:=?_)
 rintro v w' ⟨Bl,AN⟩
 have Mk:AK _ (b :: (fl ++ frl)):=C5.nodes ⟨b,av,pl,gG,fl,frl,rfl,rfl,Bw,E5,V7⟩
 have Gm:=AN.block Up d6
 have nN:=lM.keep AN Mk d7
 have K5:=head_keep CI AN Mk
 have hs:=St.nil w'
 refine Ja ?_
 refine cl (h:=by exact ED tb p0 n0 (.node l x rl true) y rr c _ _ _ K5 ⟨u,JV,_,vZ,_,KJ,rfl,rfl,Gm,Bl,nN⟩ d8 (by simp only [RB.list,List.length_append,List.length_cons];omega)) (k:=?_)
 rintro v w'' ⟨Fj,AS⟩
 have hs:=St.nil w''
 refine Ja ?_
 refine AF ?_
 have e:∀ k,k∈u :: ((b :: (fl ++ frl)) ++ KJ)→k∈b :: (fl ++ (u :: (frl ++ KJ))):=fun k hk=>hp.mem_iff.1 hk
 have o1:AA (b :: (fl ++ (u :: (frl ++ KJ)))) w0 _:=AJ.weaken (by simp)
 have o2:=o1.step AN (fun k hk => .inl (e k (List.mem_cons_of_mem _ (List.mem_append_left _ hk))))
 exact ⟨_,_,rfl,Fj,d8,fun k hk => .inl (e k hk),o2.step AS (fun k hk => .inl (e k hk))⟩
theorem GQ (tb:Nat) (p0:Option Addr) (n0:Int) (ll:RB IT) (y:IT) (lr:RB IT) (x:IT) (r:RB IT) (c c2:Bool) (p:Option Addr) (fp:List Nat) (w0:World) (hT:w0.heap[tb]?=some (C3 p0 n0)) (h:C5 w0 (.node ll y lr c2) x r c p fp) (hnd:fp.Nodup) (hlen:(ll.list ++ y :: (lr.list ++ x :: r.list)).length≤1000000) :
 AM Tryz.prog 244 #[.pointer (some ⟨tb,0,none⟩),.pointer p] w0 fun v w'=>Cg w0 fp (.node ll y (.node lr x r true) c) v w':=by
 obtain ⟨b,av,pl,pr,fl,fr,rfl,rfl,hb,⟨u,JV,UH,Pf,fll,flr,rfl,rfl,hu,_,Gc,hlr⟩,hr⟩:=h
 have hp:=(perm_turn u b fll flr fr).symm
 have Qc:=hp.nodup_iff.2 hnd
 have hNb:AK w0 [u,b]:=AK.cons hu (AK.cons hb (AK.nil w0))
 simp only [List.length_append,List.length_cons] at hlen
 obtain ⟨d1,d2,d3,d4,d5,d6,d7,d8⟩:u≠b∧(∀ k∈fr,k∉[u,b])∧(∀ k∈flr,k∉[u,b])∧(∀ k∈fll,k∉[u,b])∧(b :: (flr ++ fr)).Nodup∧u∉b :: (flr ++ fr)∧(∀ k∈fll,k∉b :: (flr ++ fr))∧(u :: (fll ++ (b :: (flr ++ fr)))).Nodup:=by
  simp only [List.cons_append,List.append_assoc,List.nodup_cons,List.nodup_append,List.mem_append,List.mem_cons,List.not_mem_nil,or_false] at Qc ⊢
  grind
 have hs:=St.nil w0
 replace hs:=hs.AG hb (by simp)
 replace hs:=hs.AG hu (by simpa using d1)
 refine AQ Tryz.func244 Tryz.ntmps244 (k:=?_)
 repeat' (first|refine Sa ?_|(refine st hs (k:=?_);intro w hs)|fail)
 have AJ:AA [u,b] w0 _:=hs.AB [u,b] (by simp) (by simp [D0])
 have Bw:=hs.get (At.tail At.head)
 have Up:=hs.get At.head
 have hrw:=hr.keep AJ hNb d2
 have W9:=hlr.keep AJ hNb d3
 have nZ:=Gc.keep AJ hNb d4
 have CI:=head_keep hT AJ hNb
 clear hs
 refine cl (h:=by exact ED tb p0 n0 lr x r true _ _ _ CI ⟨b,av,Pf,pr,flr,fr,rfl,rfl,Bw,W9,hrw⟩ d5 (by simp only [List.length_append,List.length_cons];omega)) (k:=?_)
 rintro v w' ⟨Bl,AN⟩
 have Mk:AK _ (b :: (flr ++ fr)):=C5.nodes ⟨b,av,Pf,pr,flr,fr,rfl,rfl,Bw,W9,hrw⟩
 have Gm:=AN.block Up d6
 have lH:=nZ.keep AN Mk d7
 have K5:=head_keep CI AN Mk
 have hs:=St.nil w'
 refine Ja ?_
 refine cl (h:=by exact ED tb p0 n0 ll y (.node lr x r true) c _ _ _ K5 ⟨u,JV,UH,_,fll,_,rfl,rfl,Gm,lH,Bl⟩ d8 (by simp only [RB.list,List.length_append,List.length_cons];omega)) (k:=?_)
 rintro v w'' ⟨Fj,AS⟩
 have hs:=St.nil w''
 refine Ja ?_
 refine AF ?_
 have e:∀ k,k∈u :: (fll ++ (b :: (flr ++ fr)))→k∈b :: ((u :: (fll ++ flr)) ++ fr):=fun k hk=>hp.mem_iff.1 hk
 have o1:AA (b :: ((u :: (fll ++ flr)) ++ fr)) w0 _:=AJ.weaken (by simp)
 have o2:=o1.step AN (fun k hk => .inl (e k (List.mem_cons_of_mem _ (List.mem_append_right _ hk))))
 exact ⟨_,_,rfl,Fj,d8,fun k hk => .inl (e k hk),o2.step AS (fun k hk => .inl (e k hk))⟩
theorem GH (a:RB IT) (x:IT) (b:RB IT) (c1:Bool) (y:IT) (d:RB IT) (z:IT) (e:RB IT) (c2 c:Bool) (p:Option Addr) (fp:List Nat) (w0:World) (h:Ad w0 (.node (.node a x b c1) y (.node d z e c2) c) p fp) (hnd:fp.Nodup) :
 AM Tryz.prog 245 #[.pointer p] w0 fun v w'=>Ad w' (.node (.node a x b !c1) y (.node d z e !c2) !c) p fp∧AA fp w0 w':=by
 obtain ⟨m,av,_,_,_,_,rfl,rfl,hm,Cm,⟨u,JV,pa,pb,fa,fb,rfl,rfl,hu,Mi,ha,hb⟩,⟨v,x5,pd,pe,fd,fe,rfl,rfl,hv,mX,hd,he⟩⟩:=h
 have hNb:AK w0 [v,u,m]:=AK.cons hv (AK.cons hu (AK.cons hm (AK.nil w0)))
 obtain ⟨d1,d2,d3,d4,d5,d6,d7⟩:u≠m∧v≠m∧v≠u∧(∀ k∈fa,k∉[v,u,m])∧(∀ k∈fb,k∉[v,u,m])∧(∀ k∈fd,k∉[v,u,m])∧(∀ k∈fe,k∉[v,u,m]):=by
  simp only [List.cons_append,List.append_assoc,List.nodup_cons,List.nodup_append,List.mem_append,List.mem_cons,List.not_mem_nil,or_false] at hnd ⊢
  grind
 have hs:=St.nil w0
 replace hs:=hs.AG hm (by simp)
 replace hs:=hs.AG hu (by simpa using d1)
 replace hs:=hs.AG hv (by simp [d2,d3])
 refine AQ Tryz.func245 Tryz.ntmps245 (k:=?_)
 repeat' (first|refine Sa ?_|(refine st hs (k:=?_);intro w hs)|fail)
 refine dr [14] hs (k:=?_);intro hX w hs
 refine tks 0 14 ?_
 refine dt 14 hX (k:=?_)
 repeat' (first|refine Nx.h ?_|(refine st hs (k:=?_);intro w hs)|fail)
 refine dn (k:=?_)
 refine en (k:=?_)
 refine Jb ?_
 refine dr [14] hs (k:=?_);intro hX w hs
 refine tks 0 14 ?_
 refine dt 14 hX (k:=?_)
 repeat' (first|refine Nx.h ?_|(refine st hs (k:=?_);intro w hs)|fail)
 refine dn (k:=?_)
 refine en (k:=?_)
 skip
 refine Iu ?_
 have AJ:AA [v,u,m] w0 _:=hs.AB [v,u,m] (by simp) (by simp [D0])
 refine ⟨⟨m,av,_,_,_,_,rfl,rfl,hs.get (At.tail (At.tail At.head)),Cm.keep AJ hNb,⟨u,JV,pa,pb,fa,fb,rfl,rfl,hs.get (At.tail At.head),Mi.keep AJ hNb,ha.keep AJ hNb d4,hb.keep AJ hNb d5⟩,⟨v,x5,pd,pe,fd,fe,rfl,rfl,hs.get At.head,mX.keep AJ hNb,hd.keep AJ hNb d6,he.keep AJ hNb d7⟩⟩,AJ.weaken (by simp)⟩
structure Has (w0:World) (tb:Nat) (p0:Option Addr) (n0:Int) (fp:List Nat) (t:RB IT) (p:Option Addr) (w:World):Prop where
 tree:∃ C9,Ad w t p C9∧C9.Nodup∧(∀ k∈C9,k∈fp∨w0.heap.size≤k)∧AA fp w0 w
 head:w.heap[tb]?=some (C3 p0 n0)
theorem Has.only {w0 w w':World} {tb:Nat} {p0:Option Addr} {n0:Int} {fp:List Nat} {t:RB IT} {p:Option Addr} (h:Has w0 tb p0 n0 fp t p w) (ho:AA [] w w'):Has w0 tb p0 n0 fp t p w':=by
 obtain ⟨⟨C9,h1,h2,h3,h4⟩,h5⟩:=h
 exact ⟨⟨C9,h1.keep ho (AK.nil w) (fun k _=>by simp),h2,h3,h4.step ho (by simp)⟩,head_keep h5 ho (AK.nil w)⟩
theorem Has.next {w0 w w':World} {tb:Nat} {p0:Option Addr} {n0:Int} {fp DR:List Nat} {t t':RB IT} {p:Option Addr} {v:Value} (h1:Ad w t p DR) (h2:∀ k∈DR,k∈fp∨w0.heap.size≤k) (h3:AA fp w0 w) (h4:w.heap[tb]?=some (C3 p0 n0)) (k:Cg w DR t' v w') :
 ∃ p',v = .pointer p'∧Has w0 tb p0 n0 fp t' p' w':=by
 obtain ⟨p',C9,rfl,k1,k2,k3,k4⟩:=k
 refine ⟨p',rfl,⟨C9,k1,k2,fun i hi=>?_,h3.step k4 h2⟩,head_keep h4 k4 h1.nodes⟩
 have:=h3.size
 rcases k3 i hi with h | h
 ·exact h2 i h
 ·exact .inr om
theorem Ix (l:RB IT) (x:IT) (r:RB IT) (c:Bool):∃ l' x' r' c',RB.DX (.node l x r c) = .node l' x' r' c':=by
 unfold RB.DX
 cases r with
 | nil=>exact ⟨_,_,_,_,rfl⟩
 | node rl y rr d =>
   cases d <;> cases h:l.red <;> simp only [RB.Az,RB.Au,RB.BN,h,Bool.not_true,Bool.not_false,Bool.and_true,Bool.and_false,Bool.and_self,cond_true,cond_false,RB.GN] <;> exact ⟨_,_,_,_,rfl⟩
theorem Ia (l:RB IT) (x:IT) (r:RB IT) (c:Bool):∃ l' x' r' c',RB.Dz (.node l x r c) = .node l' x' r' c':=by
 unfold RB.Dz
 cases l with
 | nil=>exact ⟨_,_,_,_,rfl⟩
 | node rl y rr d =>
   cases d <;> cases h:rl.red <;> simp only [RB.Az,RB.Au,RB.BN,h,Bool.not_true,Bool.not_false,Bool.and_true,Bool.and_false,Bool.and_self,cond_true,cond_false,RB.Cz] <;> exact ⟨_,_,_,_,rfl⟩
theorem Fz (tb:Nat) (p0:Option Addr) (n0:Int) (l:RB IT) (x:IT) (r:RB IT) (c:Bool) (p:Option Addr) (fp:List Nat) (w0:World) (hT:w0.heap[tb]?=some (C3 p0 n0)) (h:C5 w0 l x r c p fp) (hnd:fp.Nodup) (hlen:(l.list ++ x :: r.list).length≤1000000) :
 AM Tryz.prog 234 #[.pointer (some ⟨tb,0,none⟩),.pointer p] w0 fun v w'=>Cg w0 fp (RB.mend (.node l x r c)) v w':=by
 have hs:=St.nil w0
 refine AQ Tryz.func234 Tryz.ntmps234 (k:=?_)
 refine Ja ?_
 clear hs
 refine cl (h:=by exact ED tb p0 n0 l x r c _ _ _ hT h hnd hlen) (k:=?_)
 rintro v w1 ⟨Bl,AJ⟩
 have hH:Has w0 tb p0 n0 fp (.node l x r c) p w1:=⟨⟨fp,Bl,hnd,fun k hk => .inl hk,AJ⟩,head_keep hT AJ h.nodes⟩
 clear Bl AJ
 refine XS.nil ?_
 refine Dt ?_
 refine Ag ?_
 refine Ag ?_
 refine B8 (fun _:Unit=>[(0,.pointer (some ⟨tb,0,none⟩)),(1,.pointer p),(4,.pointer none),(20,.bool (r.red && !l.red))]) (fun _ w=>Has w0 tb p0 n0 fp (.node l x r c) p w) ?_ ?_
 ·obtain ⟨⟨DR,⟨b,av,pl,pr,fl,fr,rfl,rfl,hb,Cm,hl,hr⟩,J3,hsub,ho⟩,hd⟩:=hH
  have hH:Has w0 tb p0 n0 fp (.node l x r c) (some ⟨b,0,none⟩) w1:=⟨⟨_,⟨b,av,pl,pr,fl,fr,rfl,rfl,hb,Cm,hl,hr⟩,J3,hsub,ho⟩,hd⟩
  have hs:=(St.nil w1).AG hb (by simp)
  refine Jk ?_
  have AN:AA [] w1 _:=hs.AB [] (by simp [hb]) (by simp [D0])
  refine AW hs (h:=by exact Bc r pr fr _ (hr.keep AN (AK.nil _) (by simp))) (k:=?_);intro w' ho hs
  generalize hq:r.red=q
  cases q
  ·refine Jj ?_
   exact AP () Aa (hH.only (hs.AB [] (by simp [hb]) (by simp [D0])))
  ·refine Jf ?_
   have AN:AA [] w1 _:=hs.AB [] (by simp [hb]) (by simp [D0])
   refine AW hs (h:=by exact Bc l pl fl _ (hl.keep AN (AK.nil _) (by simp))) (k:=?_);intro w' ho hs
   generalize GZ:l.red=q2
   refine Jc ?_
   exact AP () Aa (hH.only (hs.AB [] (by simp [hb]) (by simp [D0])))
 clear hH
 rintro _ env w hH
 refine B8 (fun s:Option Addr=>[(0,.pointer (some ⟨tb,0,none⟩)),(1,.pointer s),(4,.pointer none)]) (fun s w=>Has w0 tb p0 n0 fp (RB.DX (.node l x r c)) s w) ?_ ?_
 ·generalize hq:(r.red && !l.red)=q
  cases q
  ·refine Jg ?_
   refine AP p Aa ?_
   unfold RB.DX
   rw [RB.Az,RB.Au,hq]
   exact hH
  ·obtain ⟨⟨DR,h1,h2,h3,h4⟩,h5⟩:=hH
   simp only [Bool.and_eq_true,Bool.not_eq_true'] at hq
   obtain ⟨rl,y,rr,rfl⟩:=RB.Br hq.1
   have hs:=St.nil w
   refine Ji ?_
   refine cl (h:=by exact Ke tb p0 n0 l x rl y rr c true _ _ _ h5 h1.Lr h2 hlen) (k:=?_)
   rintro v w' hv
   obtain ⟨p',rfl,hH⟩:=Has.next h1 h3 h4 h5 hv
   have hs:=St.nil w'
   refine Jc ?_
   refine AP p' Aa ?_
   unfold RB.DX
   rw [RB.Az,RB.Au,RB.BN,hq.2]
   exact hH
 obtain ⟨l1,x1,r1,c1,e1⟩:=Ix l x r c
 have bL:(l1.list ++ x1 :: r1.list).length≤1000000:=by
  have h1:(RB.DX (.node l x r c)).list=l.list ++ x :: r.list:=by
   unfold RB.DX
   cases (RB.red _ && _) <;> simp only [cond_true,cond_false,RB.Jv,RB.list]
  rw [e1] at h1
  rw [← h1] at hlen
  exact hlen
 rintro p1 env w hH
 rw [e1] at hH
 refine Ag ?_
 refine Ag ?_
 refine B8 (fun _:Unit=>[(0,.pointer (some ⟨tb,0,none⟩)),(1,.pointer p1),(4,.pointer none),(38,.bool (l1.red && l1.left.red))]) (fun _ w=>Has w0 tb p0 n0 fp (.node l1 x1 r1 c1) p1 w) ?_ ?_
 ·obtain ⟨⟨DR,⟨b,av,pl,pr,fl,fr,rfl,rfl,hb,Cm,hl,hr⟩,J3,hsub,ho⟩,hd⟩:=hH
  have hH:Has w0 tb p0 n0 fp (.node l1 x1 r1 c1) (some ⟨b,0,none⟩) w:=⟨⟨_,⟨b,av,pl,pr,fl,fr,rfl,rfl,hb,Cm,hl,hr⟩,J3,hsub,ho⟩,hd⟩
  cases hq:l1.red
  ·have hs:=(St.nil w).AG hb (by simp)
   refine Jk ?_
   have AN:AA [] w _:=hs.AB [] (by simp [hb]) (by simp [D0])
   refine AW hs (h:=by exact Bc l1 pl fl _ (hl.keep AN (AK.nil _) (by simp))) (k:=?_);intro w' ho hs
   rw [hq]
   refine Jj ?_
   exact AP () Aa (hH.only (hs.AB [] (by simp [hb]) (by simp [D0])))
  ·obtain ⟨ll,y,lr,rfl⟩:=RB.Br hq
   have hl0:=hl
   obtain ⟨u,JV,UH,Pf,fll,flr,rfl,rfl,hu,Mi,Gc,hlr⟩:=hl
   have RO:u≠b:=fun e=>by
    subst e
    simp at J3
   have hs:=((St.nil w).AG hb (by simp)).AG hu (by simpa using RO)
   refine Jk ?_
   have AN:AA [] w _:=hs.AB [] (by simp [hb,hu]) (by simp [D0])
   refine AW hs (h:=by exact Bc _ _ _ _ (hl0.keep AN (AK.nil _) (by simp))) (k:=?_);intro w' ho hs
   rw [hq]
   refine Jf ?_
   have AN:AA [] w _:=hs.AB [] (by simp [hb,hu]) (by simp [D0])
   refine AW hs (h:=by exact Bc _ _ _ _ (Gc.keep AN (AK.nil _) (by simp))) (k:=?_);intro w' ho hs
   rw [RB.Au]
   generalize GZ:ll.red=q2
   refine Jc ?_
   exact AP () Aa (hH.only (hs.AB [] (by simp [hb,hu]) (by simp [D0])))
 clear hH
 rintro _ env w hH
 refine B8 (fun s:Option Addr=>[(0,.pointer (some ⟨tb,0,none⟩)),(1,.pointer s),(4,.pointer none)]) (fun s w=>Has w0 tb p0 n0 fp (RB.Dz (.node l1 x1 r1 c1)) s w) ?_ ?_
 ·generalize hq:(l1.red && l1.left.red)=q
  cases q
  ·refine Jg ?_
   refine AP p1 Aa ?_
   unfold RB.Dz
   rw [RB.Au,hq]
   exact hH
  ·obtain ⟨⟨DR,h1,h2,h3,h4⟩,h5⟩:=hH
   simp only [Bool.and_eq_true] at hq
   obtain ⟨ll,y,lr,rfl⟩:=RB.Br hq.1
   have hs:=St.nil w
   refine Ji ?_
   refine cl (h:=by exact GQ tb p0 n0 ll y lr x1 r1 c1 true _ _ _ h5 h1.Lr h2 (by simpa [RB.list] using bL)) (k:=?_)
   rintro v w' hv
   obtain ⟨p',rfl,hH⟩:=Has.next h1 h3 h4 h5 hv
   have hs:=St.nil w'
   refine Jc ?_
   refine AP p' Aa ?_
   unfold RB.Dz
   rw [RB.Au,RB.BN,hq.2]
   exact hH
 obtain ⟨l2,x2,r2,c2,e2⟩:=Ia l1 x1 r1 c1
 rintro p2 env w hH
 rw [e2] at hH
 refine Ag ?_
 refine Ag ?_
 refine B8 (fun _:Unit=>[(0,.pointer (some ⟨tb,0,none⟩)),(1,.pointer p2),(4,.pointer none),(53,.bool (l2.red && r2.red))]) (fun _ w=>Has w0 tb p0 n0 fp (.node l2 x2 r2 c2) p2 w) ?_ ?_
 ·obtain ⟨⟨DR,⟨b,av,pl,pr,fl,fr,rfl,rfl,hb,Cm,hl,hr⟩,J3,hsub,ho⟩,hd⟩:=hH
  have hH:Has w0 tb p0 n0 fp (.node l2 x2 r2 c2) (some ⟨b,0,none⟩) w:=⟨⟨_,⟨b,av,pl,pr,fl,fr,rfl,rfl,hb,Cm,hl,hr⟩,J3,hsub,ho⟩,hd⟩
  have hs:=(St.nil w).AG hb (by simp)
  refine Jk ?_
  have AN:AA [] w _:=hs.AB [] (by simp [hb]) (by simp [D0])
  refine AW hs (h:=by exact Bc l2 pl fl _ (hl.keep AN (AK.nil _) (by simp))) (k:=?_);intro w' ho hs
  generalize hq:l2.red=q
  cases q
  ·refine Jj ?_
   exact AP () Aa (hH.only (hs.AB [] (by simp [hb]) (by simp [D0])))
  ·refine Jf ?_
   have AN:AA [] w _:=hs.AB [] (by simp [hb]) (by simp [D0])
   refine AW hs (h:=by exact Bc r2 pr fr _ (hr.keep AN (AK.nil _) (by simp))) (k:=?_);intro w' ho hs
   generalize GZ:r2.red=q2
   refine Jc ?_
   exact AP () Aa (hH.only (hs.AB [] (by simp [hb]) (by simp [D0])))
 clear hH
 rintro _ env w hH
 refine B8 (fun _:Unit=>[(0,.pointer (some ⟨tb,0,none⟩)),(1,.pointer p2),(4,.pointer none)]) (fun _ w=>Has w0 tb p0 n0 fp (RB.Dy (.node l2 x2 r2 c2)) p2 w) ?_ ?_
 ·generalize hq:(l2.red && r2.red)=q
  cases q
  ·refine Jg ?_
   refine AP () Aa ?_
   unfold RB.Dy
   rw [RB.Au,RB.Az,hq]
   exact hH
  ·obtain ⟨⟨DR,h1,h2,h3,h4⟩,h5⟩:=hH
   simp only [Bool.and_eq_true] at hq
   obtain ⟨ll,y,lr,rfl⟩:=RB.Br hq.1
   obtain ⟨rl,z,rr,rfl⟩:=RB.Br hq.2
   have hs:=St.nil w
   refine Ji ?_
   refine cl (h:=by exact GH ll y lr true x2 rl z rr true c2 p2 DR _ h1 h2) (k:=?_)
   rintro v w' ⟨k1,k2⟩
   have hs:=St.nil w'
   refine Jb ?_
   refine AP () Aa ⟨⟨DR,k1,h2,h3,h4.step k2 h3⟩,head_keep h5 k2 h1.nodes⟩
 rintro _ env w hH
 have e3:RB.Dy (.node l2 x2 r2 c2)=RB.mend (.node l x r c):=by rw [← e2,← e1];rfl
 rw [e3] at hH
 have hs:=St.nil w
 obtain ⟨⟨DR,h1,h2,h3,h4⟩,h5⟩:=hH
 refine Ja ?_
 refine AF ?_
 exact ⟨_,DR,rfl,h1,h2,h3,h4.step (hs.AD rfl) (by simp)⟩
theorem Cg.up {w0 w2 w3:World} {fp Dx:List Nat} {t:RB IT} {v:Value} (k:Cg w2 Dx t v w3) (ho:AA fp w0 w2) (hs:∀ k∈Dx,k∈fp∨w0.heap.size≤k):Cg w0 fp t v w3:=by
 obtain ⟨p',C9,rfl,k1,k2,k3,k4⟩:=k
 refine ⟨p',C9,rfl,k1,k2,fun i hi=>?_,ho.step k4 hs⟩
 have:=ho.size
 rcases k3 i hi with h | h
 ·exact hs i h
 ·exact .inr om
theorem Ow {w w' w2:World} {b:Nat} {y y2:IT} {av PC:It} {pl pr p':Option Addr} {c c2:Bool} {fl fr:List Nat} {r l':RB IT} (hb:w.heap[b]?=some (EO y av pl pr c)) (hl:AK w fl) (hr:Ad w r pr fr) (hnd:(b :: (fl ++ fr)).Nodup)
 (k:Cg w fl l' (.pointer p') w') (ho:AA [b] w' w2) (Dj:w2.heap[b]?=some (EO y2 PC p' pr c2)) :
 ∃ Dx,C5 w2 l' y2 r c2 (some ⟨b,0,none⟩) Dx∧Dx.Nodup∧(∀ i∈Dx,i∈b :: (fl ++ fr)∨w.heap.size≤i)∧AA (b :: (fl ++ fr)) w w2:=by
 obtain ⟨p,C9,e,k1,k2,k3,k4⟩:=k
 obtain rfl:p'=p:=by injection e
 have y7:=lt_of_block hb
 have yO:=hr.nodes.lt
 simp only [List.nodup_cons,List.nodup_append,List.mem_append] at hnd
 obtain ⟨d1,d2,d3,d4⟩:=hnd
 have e1:b∉C9:=fun hm=>by
  rcases k3 b hm with h | h
  ·exact d1 (.inl h)
  ·omega
 have e2:∀ i∈fr,i∉fl:=fun i hi hm=>d4 i hm i hi rfl
 have CD:=k4.block hb (fun h=>d1 (.inl h))
 have hN:AK w' [b]:=AK.cons CD (AK.nil w')
 refine ⟨b :: (C9 ++ fr),⟨b,PC,p',pr,C9,fr,rfl,rfl,Dj,k1.keep ho hN (fun i hi hm=>?_),(hr.keep k4 hl e2).keep ho hN (fun i hi hm=>?_)⟩,?_,?_,?_⟩
 ·obtain rfl:=List.mem_singleton.1 hm;exact e1 hi
 ·obtain rfl:=List.mem_singleton.1 hm;exact d1 (.inr hi)
 ·simp only [List.nodup_cons,List.nodup_append,List.mem_append]
  refine ⟨fun h=>?_,k2,d3,fun i hi j hj hij=>?_⟩
  ·rcases h with h | h
   ·exact e1 h
   ·exact d1 (.inr h)
  ·subst hij
   rcases k3 i hi with h | h
   ·exact d4 i h i hj rfl
   ·have:=yO i hj;omega
 ·intro i hi
  rcases List.mem_cons.1 hi with rfl | hi
  ·exact .inl List.mem_cons_self
  ·rcases List.mem_append.1 hi with hi | hi
   ·rcases k3 i hi with h | h
    ·exact .inl (List.mem_cons_of_mem _ (List.mem_append_left _ h))
    ·exact .inr h
   ·exact .inl (List.mem_cons_of_mem _ (List.mem_append_right _ hi))
 ·exact (k4.weaken (fun i hi=>List.mem_cons_of_mem _ (List.mem_append_left _ hi))).step ho (fun i hi => .inl (by obtain rfl:=List.mem_singleton.1 hi;exact List.mem_cons_self))
theorem Ml {w w' w2:World} {b:Nat} {y y2:IT} {av PC:It} {pl pr p':Option Addr} {c c2:Bool} {fl fr:List Nat} {l r':RB IT} (hb:w.heap[b]?=some (EO y av pl pr c)) (hl:Ad w l pl fl) (hr:AK w fr) (hnd:(b :: (fl ++ fr)).Nodup)
 (k:Cg w fr r' (.pointer p') w') (ho:AA [b] w' w2) (Dj:w2.heap[b]?=some (EO y2 PC pl p' c2)) :
 ∃ Dx,C5 w2 l y2 r' c2 (some ⟨b,0,none⟩) Dx∧Dx.Nodup∧(∀ i∈Dx,i∈b :: (fl ++ fr)∨w.heap.size≤i)∧AA (b :: (fl ++ fr)) w w2:=by
 obtain ⟨p,C9,e,k1,k2,k3,k4⟩:=k
 obtain rfl:p'=p:=by injection e
 have y7:=lt_of_block hb
 have hls:=hl.nodes.lt
 simp only [List.nodup_cons,List.nodup_append,List.mem_append] at hnd
 obtain ⟨d1,d2,d3,d4⟩:=hnd
 have e1:b∉C9:=fun hm=>by
  rcases k3 b hm with h | h
  ·exact d1 (.inr h)
  ·omega
 have e2:∀ i∈fl,i∉fr:=fun i hi hm=>d4 i hi i hm rfl
 have CD:=k4.block hb (fun h=>d1 (.inr h))
 have hN:AK w' [b]:=AK.cons CD (AK.nil w')
 refine ⟨b :: (fl ++ C9),⟨b,PC,pl,p',fl,C9,rfl,rfl,Dj,(hl.keep k4 hr e2).keep ho hN (fun i hi hm=>?_),k1.keep ho hN (fun i hi hm=>?_)⟩,?_,?_,?_⟩
 ·obtain rfl:=List.mem_singleton.1 hm;exact d1 (.inl hi)
 ·obtain rfl:=List.mem_singleton.1 hm;exact e1 hi
 ·simp only [List.nodup_cons,List.nodup_append,List.mem_append]
  refine ⟨fun h=>?_,d2,k2,fun i hi j hj hij=>?_⟩
  ·rcases h with h | h
   ·exact d1 (.inl h)
   ·exact e1 h
  ·subst hij
   rcases k3 i hj with h | h
   ·exact d4 i hi i h rfl
   ·have:=hls i hi;omega
 ·intro i hi
  rcases List.mem_cons.1 hi with rfl | hi
  ·exact .inl List.mem_cons_self
  ·rcases List.mem_append.1 hi with hi | hi
   ·exact .inl (List.mem_cons_of_mem _ (List.mem_append_left _ hi))
   ·rcases k3 i hi with h | h
    ·exact .inl (List.mem_cons_of_mem _ (List.mem_append_right _ h))
    ·exact .inr h
 ·exact (k4.weaken (fun i hi=>List.mem_cons_of_mem _ (List.mem_append_right _ hi))).step ho (fun i hi => .inl (by obtain rfl:=List.mem_singleton.1 hi;exact List.mem_cons_self))
theorem Ex (x:IT):∀ t:RB IT,(RB.ins Cr t x).list.length=t.list.length+1
 | .nil=>rfl
 | .node l y r c=>by
   simp only [RB.ins]
   cases Cr x y
   ·rw [cond_false,RB.DD];simp only [RB.list,List.length_append,List.length_cons,Ex x r];omega
   ·rw [cond_true,RB.DD];simp only [RB.list,List.length_append,List.length_cons,Ex x l];omega
theorem Fv (tb:Nat) (p0:Option Addr) (n0:Int) (x:IT):∀ (t:RB IT) (p:Option Addr) (fp:List Nat) (w0:World) (hT:w0.heap[tb]?=some (C3 p0 n0)) (h:Ad w0 t p fp) (hnd:fp.Nodup) (hlen:t.list.length+1≤1000000),
 AM Tryz.prog 215 #[.pointer (some ⟨tb,0,none⟩),.pointer p,iv x.1] w0 fun v w'=>Cg w0 fp (RB.ins Cr t x) v w'
 | .nil,p,fp,w0,hT,⟨hp,hf⟩,hnd,hlen=>by
   subst hp hf
   have hs:=(St.nil w0).AG hT (by simp)
   refine AQ Tryz.func215 Tryz.ntmps215 (k:=?_);refine Ag ?_;refine Aq ?_;refine bx hs (k:=?_);intro bq wq Ln hs;refine Je ?_
   refine dr [] hs (k:=?_);intro hX w hs
   refine tks 0 6 ?_
   refine dt 6 hX (k:=?_)
   refine AW hs (h:=by exact H8 x.1 _) (k:=?_);intro w' ho hs;refine Jb ?_
   refine dn (k:=?_)
   refine tk 7 hX (k:=?_)
   refine dt 8 hX (k:=?_)
   refine bx hs (k:=?_);intro b w hz hs
   refine Jb ?_
   refine dn (k:=?_)
   refine tk 9 hX (k:=?_)
   refine en (k:=?_)
   refine Jb ?_
   refine AF ?_
   have ho:AA [] w0 _:=hs.AB [] (by simp [hT]) (by simp [D0])
   have hnew:=hs.new (b,true) (by simp) rfl
   exact ⟨_,[b],rfl,⟨b,_,none,none,[],[],rfl,rfl,hs.get At.head,rfl,⟨rfl,rfl⟩,⟨rfl,rfl⟩⟩,by simp,fun k hk => .inr (by obtain rfl:=List.mem_singleton.1 hk;exact hnew),ho⟩
 | .node l y r c,p,fp,w0,hT,⟨b,av,pl,pr,fl,fr,hp,hf,hb,Cm,hl,hr⟩,hnd,hlen=>by
   subst hp hf
   have Dw:=C2 hT hb
   have hs:=((St.nil w0).AG hT (by simp)).AG hb (by simpa using Dw)
   have Vd:=lt_of_block hT
   have pL:=lt_of_block hb
   have pN:=hl.nodes.lt
   have lt4:=hr.nodes.lt
   simp only [RB.list,List.length_append,List.length_cons] at hlen
   refine AQ Tryz.func215 Tryz.ntmps215 (k:=?_);refine Ag ?_;refine Aq ?_;refine bx hs (k:=?_);intro bq wq Ln hs;refine Jd ?_
   have JJ:=hs.new (bq,true) (by simp) rfl
   simp only at JJ
   refine dr [] hs (k:=?_);intro hX w hs
   refine tks 0 9 ?_
   refine dt 9 hX (k:=?_)
   refine AW hs (h:=by exact MY x y _) (k:=?_);intro w' ho hs
   refine Jb ?_
   refine dn (k:=?_)
   refine tk 10 hX (k:=?_)
   refine en (k:=?_)
   generalize hq:Cr x y=q
   cases q
   ·have e:RB.ins Cr (.node l y r c) x=RB.mend (.node l y (RB.ins Cr r x) c):=by simp [RB.ins,hq]
    rw [e]
    refine Jg ?_
    have AJ:AA [] w0 _:=hs.AB [] (by simp [hT,hb]) (by simp [D0])
    have CI:=head_keep hT AJ (AK.nil _)
    have E5:=hl.keep AJ (AK.nil _) (by simp)
    have hrw:=hr.keep AJ (AK.nil _) (by simp)
    have Bw:=hs.get (At.tail At.head)
    have JR:=hs.get At.head
    refine dr [10] hs (k:=?_);intro hX w hs
    refine tks 0 7 ?_
    refine dt 7 hX (k:=?_)
    have AJ:AA [] w0 _:=hs.AB [] (by simp [hT,hb]) (by simp [D0])
    have CI:=head_keep hT AJ (AK.nil _)
    have E5:=hl.keep AJ (AK.nil _) (by simp)
    have hrw:=hr.keep AJ (AK.nil _) (by simp)
    have Bw:=hs.get (At.tail At.head)
    have JR:=hs.get At.head
    refine cl (h:=by exact Fv tb p0 n0 x r pr fr _ CI hrw (by simp only [List.nodup_cons,List.nodup_append] at hnd;exact hnd.2.2.1) om) (k:=?_)
    rintro v w' hk
    obtain ⟨p',hv⟩:∃ p',v = .pointer p':=by obtain ⟨p',_,hv,_⟩:=hk;exact ⟨p',hv⟩
    subst hv
    obtain ⟨_,_,_,_,_,_,k4⟩:=id hk
    have Bl:=head_keep CI k4 hrw.nodes
    have CD:=k4.block Bw (fun h=>by simp [h] at hnd)
    have hq1:=k4.block JR (fun h=>by have:=lt4 bq h;omega)
    clear hs
    have hs:=(((St.nil w').AG Bl (by simp)).AG CD (by simpa using Dw)).AG hq1 (by simp;omega)
    refine Jb ?_
    refine dn (k:=?_)
    refine tks 8 2 ?_
    refine dt 10 hX (k:=?_)
    repeat' (first|refine Nx.h ?_|(refine st hs (k:=?_);intro w hs)|fail)
    refine dn (k:=?_)
    refine en (k:=?_)
    refine Ja ?_
    have AS:AA [b] w' _:=hs.AB [b] (by simp [Bl,hq1]) (by simp [D0])
    obtain ⟨Dx,s1,s2,s3,s4⟩:=Ml Bw E5 hrw.nodes hnd hk AS (hs.get (At.tail At.head))
    refine cl (h:=by exact Fz tb p0 n0 _ y _ c _ _ _ (head_keep Bl AS (AK.cons CD (AK.nil _))) s1 s2 (by simp only [List.length_append,List.length_cons,Ex];omega)) (k:=?_)
    rintro v w3 hm
    have hsz:=AJ.size
    have hm2:=hm.up ((AJ.weaken (G:=b :: (fl ++ fr)) (by simp)).step s4 (fun k hk => .inl hk)) (fun k hk=>by rcases s3 k hk with h | h;exact .inl h;exact .inr om)
    have hs:=St.nil w3
    refine Jc ?_
    refine AF ?_
    exact hm2
   ·have e:RB.ins Cr (.node l y r c) x=RB.mend (.node (RB.ins Cr l x) y r c):=by simp [RB.ins,hq]
    rw [e]
    repeat' (first|refine Nx.h ?_|refine Et ?_|fail)
    have AJ:AA [] w0 _:=hs.AB [] (by simp [hT,hb]) (by simp [D0])
    have CI:=head_keep hT AJ (AK.nil _)
    have E5:=hl.keep AJ (AK.nil _) (by simp)
    have hrw:=hr.keep AJ (AK.nil _) (by simp)
    have Bw:=hs.get (At.tail At.head)
    have JR:=hs.get At.head
    refine dr [10] hs (k:=?_);intro hX w hs
    refine tks 0 7 ?_
    refine dt 7 hX (k:=?_)
    have AJ:AA [] w0 _:=hs.AB [] (by simp [hT,hb]) (by simp [D0])
    have CI:=head_keep hT AJ (AK.nil _)
    have E5:=hl.keep AJ (AK.nil _) (by simp)
    have hrw:=hr.keep AJ (AK.nil _) (by simp)
    have Bw:=hs.get (At.tail At.head)
    have JR:=hs.get At.head
    refine cl (h:=by exact Fv tb p0 n0 x l pl fl _ CI E5 (by simp only [List.nodup_cons,List.nodup_append] at hnd;exact hnd.2.1) om) (k:=?_)
    rintro v w' hk
    obtain ⟨p',hv⟩:∃ p',v = .pointer p':=by obtain ⟨p',_,hv,_⟩:=hk;exact ⟨p',hv⟩
    subst hv
    obtain ⟨_,_,_,_,_,_,k4⟩:=id hk
    have Bl:=head_keep CI k4 E5.nodes
    have CD:=k4.block Bw (fun h=>by simp [h] at hnd)
    have hq1:=k4.block JR (fun h=>by have:=pN bq h;omega)
    clear hs
    have hs:=(((St.nil w').AG Bl (by simp)).AG CD (by simpa using Dw)).AG hq1 (by simp;omega)
    refine Jb ?_
    refine dn (k:=?_)
    refine tks 8 2 ?_
    refine dt 10 hX (k:=?_)
    repeat' (first|refine Nx.h ?_|(refine st hs (k:=?_);intro w hs)|fail)
    refine dn (k:=?_)
    refine en (k:=?_)
    refine Ja ?_
    have AS:AA [b] w' _:=hs.AB [b] (by simp [Bl,hq1]) (by simp [D0])
    obtain ⟨Dx,s1,s2,s3,s4⟩:=Ow Bw E5.nodes hrw hnd hk AS (hs.get (At.tail At.head))
    refine cl (h:=by exact Fz tb p0 n0 _ y _ c _ _ _ (head_keep Bl AS (AK.cons CD (AK.nil _))) s1 s2 (by simp only [List.length_append,List.length_cons,Ex];omega)) (k:=?_)
    rintro v w3 hm
    have hsz:=AJ.size
    have hm2:=hm.up ((AJ.weaken (G:=b :: (fl ++ fr)) (by simp)).step s4 (fun k hk => .inl hk)) (fun k hk=>by rcases s3 k hk with h | h;exact .inl h;exact .inr om)
    have hs:=St.nil w3
    refine Jc ?_
    refine AF ?_
    exact hm2
theorem PI (tb:Nat) (p:Option Addr) (n:Int) (t:RB IT) (fp:List Nat) (x:IT) (w0:World) (hT:w0.heap[tb]?=some (C3 p n)) (h:Ad w0 t p fp) :
 AM Tryz.prog 214 #[.pointer (some ⟨tb,0,none⟩),iv x.1] w0 fun v w'=>v = .bool (RB.has Cr x t)∧AA [] w0 w':=by
 have hs:=(St.nil w0).AG hT (by simp)
 have Vd:=lt_of_block hT
 refine AQ Tryz.func214 Tryz.ntmps214 (k:=?_);refine Ag ?_;refine Aq ?_;refine bx hs (k:=?_);intro bq wq Ln hs;refine Jd ?_
 have JJ:=hs.new (bq,true) (by simp) rfl
 simp only at JJ
 have AJ:AA [] w0 _:=hs.AB [] (by simp [hT]) (by simp [D0])
 have JR:=hs.get At.head
 refine BH (fun _:Unit=>[]) (fun _ w=>RB.has Cr x t=false∧AA [] w0 w) ?_ ?_
 ·refine BF (fun (s:RB IT × Option Addr)=>[(0,.pointer (some ⟨tb,0,none⟩)),(3,.pointer (some ⟨bq,0,none⟩)),(5,.pointer s.2)])
   (fun s w=>RB.has Cr x s.1=RB.has Cr x t∧AA [] w0 w∧w.heap[bq]?=some (.cells x.1.cells.toArray 64 (0,0))∧∃ fp,Ad w0 s.1 s.2 fp)
   (fun s=>s.1.list.length) (t,p) Aa ⟨rfl,AJ,JR,fp,h⟩ fun s env w ⟨h1,h2,JR,Dx,h3⟩=>?_
  clear hs
  obtain ⟨s,ps⟩:=s
  dsimp only at h1 h3 ⊢
  have CI:=h2.block hT (by simp)
  cases s with
  | nil =>
    obtain ⟨rfl,rfl⟩:=h3
    have hs:=St.nil w
    refine Jd ?_
    exact Am () Aa ⟨h1.symm,h2.step (hs.AD rfl) (by simp)⟩
  | node l y r c =>
    obtain ⟨b,av,pl,pr,fl,fr,rfl,rfl,hb,Cm,hl,hr⟩:=h3
    have Bw:=h2.block hb (by simp)
    have Dw:=C2 hT hb
    have pL:=lt_of_block hb
    have hs:=(((St.nil w).AG CI (by simp)).AG Bw (by simpa using Dw)).AG JR (by simp;omega)
    refine Je ?_
    refine dr [] hs (k:=?_);intro hX w hs
    refine tks 0 9 ?_
    refine dt 9 hX (k:=?_)
    refine AW hs (h:=by exact MY x y _) (k:=?_);intro w' ho hs
    refine Jb ?_
    refine dn (k:=?_)
    refine tk 10 hX (k:=?_)
    refine en (k:=?_)
    generalize hq:Cr x y=q
    simp only [RB.has,hq] at h1
    cases q
    ·refine Jg ?_
     refine dr [] hs (k:=?_);intro hX w hs
     refine tks 0 9 ?_
     refine dt 9 hX (k:=?_)
     refine AW hs (h:=by exact MY y x _) (k:=?_);intro w' ho hs
     refine Jb ?_
     refine dn (k:=?_)
     refine tk 10 hX (k:=?_)
     refine en (k:=?_)
     generalize GZ:Cr y x=q2
     simp only [GZ,cond_false] at h1
     cases q2
     ·refine Jd ?_
      refine AF ?_
      exact ⟨by rw [← h1];rfl,h2.step (hs.AB [] (by simp [CI,Bw,JR]) (by simp [D0])) (by simp)⟩
     ·refine Je ?_
      exact A2 (r,pr) (by simp only [RB.list,List.length_append,List.length_cons];omega) Aa ⟨h1,h2.step (hs.AB [] (by simp [CI,Bw,JR]) (by simp [D0])) (by simp),hs.get At.head,_,hr⟩
    ·refine Je ?_
     exact A2 (l,pl) (by simp only [RB.list,List.length_append,List.length_cons];omega) Aa ⟨h1,h2.step (hs.AB [] (by simp [CI,Bw,JR]) (by simp [D0])) (by simp),hs.get At.head,_,hl⟩
 ·rintro _ env w ⟨h1,h2⟩
  clear hs
  have hs:=St.nil w
  refine Ja ?_
  refine AF ?_
  exact ⟨by rw [h1];rfl,h2.step (hs.AD rfl) (by simp)⟩
theorem NK (l:RB IT) (x:IT) (r:RB IT) (c:Bool):∃ l' x' r' c',RB.Dy (.node l x r c) = .node l' x' r' c':=by
 unfold RB.Dy
 cases l with
 | nil=>exact ⟨_,_,_,_,rfl⟩
 | node a y b d =>
   cases r with
   | nil=>cases d <;> exact ⟨_,_,_,_,rfl⟩
   | node u z v e=>cases d <;> cases e <;> exact ⟨_,_,_,_,rfl⟩
theorem KQ (l:RB IT) (x:IT) (r:RB IT) (c:Bool):∃ l' x' r' c',RB.mend (.node l x r c) = .node l' x' r' c':=by
 unfold RB.mend
 obtain ⟨l1,x1,r1,c1,e1⟩:=Ix l x r c
 obtain ⟨l2,x2,r2,c2,e2⟩:=Ia l1 x1 r1 c1
 rw [e1,e2]
 exact NK l2 x2 r2 c2
theorem Q9 (x:IT) (t:RB IT):∃ l' x' r' c',RB.ins Cr t x = .node l' x' r' c':=by
 cases t with
 | nil=>exact ⟨_,_,_,_,rfl⟩
 | node l y r c =>
   simp only [RB.ins]
   cases Cr x y
   ·exact KQ _ _ _ _
   ·exact KQ _ _ _ _
theorem Ad.Ae {w w':World} {F:List Nat} (ho:AA F w w'):∀ {t:RB IT} {p:Option Addr} {fp:List Nat},Ad w t p fp→(∀ b∈fp,b∉F)→Ad w' t p fp
 | .nil,p,fp,h,_=>h
 | .node l x r c,p,fp,⟨b,av,pl,pr,fl,fr,h1,h2,h3,h4,h5,h6⟩,hd=>by
   subst h2
   exact ⟨b,av,pl,pr,fl,fr,h1,rfl,ho.block h3 (hd b List.mem_cons_self),h4,Ad.Ae ho h5 fun k hk=>hd k (List.mem_cons_of_mem _ (List.mem_append_left _ hk)),
    Ad.Ae ho h6 fun k hk=>hd k (List.mem_cons_of_mem _ (List.mem_append_right _ hk))⟩
theorem GG {w w':World} {b tb:Nat} {t:RB IT} {p p0:Option Addr} {n0:Int} {fp:List Nat} {cs:Array Value} {fz:Nat × Nat} (h:Ad w t p fp) (ho:AA [b,tb] w w') (hb:w.heap[b]?=some (.cells cs 276 fz)) (hT:w.heap[tb]?=some (C3 p0 n0)) (h1:b∉fp) (h2:tb∉fp):Ad w' t p fp :=
 h.Ae ho fun k hk hm=>by
  simp only [List.mem_cons,List.not_mem_nil,or_false] at hm
  rcases hm with rfl | rfl
  ·exact h1 hk
  ·exact h2 hk
def C8 (w:World) (tb:Nat) (t:RB IT) (F:List Nat):Prop:=∃ p fp,F=tb :: fp∧w.heap[tb]?=some (C3 p t.list.length)∧Ad w t p fp∧fp.Nodup
def RB.insert (t:RB IT) (x:IT):RB IT:=bif RB.has Cr x t then t else RB.blacken (RB.ins Cr t x)
theorem Fe (tb:Nat) (t:RB IT) (F:List Nat) (x:IT) (w0:World) (h:C8 w0 tb t F) (hlen:t.list.length+1≤1000000) :
 AM Tryz.prog 179 #[.pointer (some ⟨tb,0,none⟩),iv x.1] w0 fun v w'=>v = .bool (!RB.has Cr x t)∧∃ F',C8 w' tb (RB.insert t x) F'∧(∀ k∈F',k∈F∨w0.heap.size≤k)∧AA F w0 w':=by
 obtain ⟨p,fp,rfl,hT,ht,hnd⟩:=h
 have hs:=(St.nil w0).AG hT (by simp)
 have Vd:=lt_of_block hT
 have pN:=ht.nodes.lt
 refine AQ Tryz.func179 Tryz.ntmps179 (k:=?_);refine Ag ?_;refine Aq ?_;refine bx hs (k:=?_);intro bq wq Ln hs;refine Ja ?_
 have JJ:=hs.new (bq,true) (by simp) rfl
 simp only at JJ
 have AJ:AA [] w0 _:=hs.AB [] (by simp [hT]) (by simp [D0])
 refine AW hs (h:=by exact PI tb p _ t fp x _ (hs.get (At.tail At.head)) (ht.keep AJ (AK.nil _) (by simp))) (k:=?_);intro w' ho hs
 unfold RB.insert
 generalize hq:RB.has Cr x t=q
 cases q
 ·obtain ⟨l',y,r',c,e⟩:=Q9 x t
  have hl':=Ex x t
  rw [e] at hl' ⊢
  refine Jl ?_
  refine dr [10] hs (k:=?_);intro hX w hs
  refine tks 0 7 ?_
  refine dt 7 hX (k:=?_)
  have AJ:AA [] w0 _:=hs.AB [] (by simp [hT]) (by simp [D0])
  have CI:=hs.get (At.tail At.head)
  have JR:=hs.get At.head
  have htw:=ht.keep AJ (AK.nil _) (by simp)
  refine cl (h:=by exact Fv tb p _ x t p fp _ CI htw hnd hlen) (k:=?_)
  rintro v w1 ⟨p',C9,rfl,k1,k2,k3,k4⟩
  have Bl:=head_keep CI k4 htw.nodes
  have hq1:=k4.block JR (fun h=>by have:=pN bq h;omega)
  rw [e] at k1
  obtain ⟨b,av,pl,pr,fl,fr,rfl,rfl,hb,Cm,hl,hr⟩:=k1
  have Dw:=C2 Bl hb
  have aAT:b≠bq:=A0 hb hq1 (by decide)
  clear hs
  have hs:=((St.nil w1).AG Bl (by simp)).AG hq1 (by simp;omega)
  refine Jb ?_
  refine dn (k:=?_)
  replace hs:=hs.AG (b:=b) hb (by simp [Dw,aAT])
  refine tks 8 2 ?_
  refine dt 10 hX (k:=?_)
  repeat' (first|refine Nx.h ?_|(refine st hs (k:=?_);intro w hs)|fail)
  refine dn (k:=?_)
  refine en (k:=?_)
  repeat' (first|refine Sa ?_|(refine st hs (k:=?_);intro w hs)|fail)
  have en:IntKind.i64.wrap ((t.list.length:Nat)+1)=((l'.list ++ y :: r'.list).length:Nat):=by
   have h1:(l'.list ++ y :: r'.list).length=t.list.length+1:=hl'
   rw [h1]
   exact Jz om om
  rw [en] at hs
  refine AF ?_
  have AS:AA [b,tb] w1 _:=hs.AB [b,tb] (by simp [hq1]) (by simp [D0])
  have hsz:=AJ.size
  have Nd:b∉fl∧b∉fr:=by
   simp only [List.nodup_cons,List.mem_append,not_or] at k2
   exact k2.1
  have Ud:tb∉fl∧tb∉fr:=⟨(fun h=>by obtain ⟨_,_,h⟩:=hl.nodes tb h;rw [Bl] at h;cases h),(fun h=>by obtain ⟨_,_,h⟩:=hr.nodes tb h;rw [Bl] at h;cases h)⟩
  have h2:=hs.get At.head
  have h3:=hs.get (At.tail (At.tail At.head))
  have o1:AA (tb :: fp) w0 w1:=(AJ.weaken (by simp)).step k4 (fun k hk => .inl (List.mem_cons_of_mem _ hk))
  refine ⟨rfl,tb :: (b :: (fl ++ fr)),⟨_,_,rfl,h3,⟨b,av,pl,pr,fl,fr,rfl,rfl,h2,Cm,?_,?_⟩,k2⟩,?_,?_⟩
  ·exact GG hl AS hb Bl Nd.1 Ud.1
  ·exact GG hr AS hb Bl Nd.2 Ud.2
  ·intro k hk
   rcases List.mem_cons.1 hk with rfl | hk
   ·exact .inl List.mem_cons_self
   ·rcases k3 k hk with h | h
    ·exact .inl (List.mem_cons_of_mem _ h)
    ·exact .inr om
  ·refine o1.step AS (fun k hk=>?_)
   simp only [List.mem_cons,List.not_mem_nil,or_false] at hk
   rcases hk with rfl | rfl
   ·rcases k3 k List.mem_cons_self with h | h
    ·exact .inl (List.mem_cons_of_mem _ h)
    ·exact .inr om
   ·exact .inl List.mem_cons_self
 ·refine Je ?_
  refine AF ?_
  have AJ:AA [] w0 _:=hs.AB [] (by simp [hT]) (by simp [D0])
  exact ⟨rfl,_,⟨p,fp,rfl,hs.get (At.tail At.head),ht.keep AJ (AK.nil _) (by simp),hnd⟩,fun k hk => .inl hk,AJ.weaken (by simp)⟩
def Be (l:List IT):List Value:=(l.map fun a=>a.1.cells).flatten
theorem Lu (a b:List IT):Be (a ++ b)=Be a ++ Be b:=by simp [Be]
theorem M1 {w:World} {e k n:Nat} {v:Value} {xs:List Value} {G:List Nat} (h:BS w e k v n xs G) {t:Nat} (hne:t≠e) {cs:Array Value} {fz:Nat × Nat} {b:Nat} (hb:w.heap[b]?=some (.cells cs t fz)):b∉G:=fun hm=>by
 rcases h with ⟨_,_,_,rfl⟩ | ⟨g,cap,cur,_,rfl,_,_,_,_,hg⟩
 ·cases hm
 ·obtain rfl:=List.mem_singleton.1 hm
  exact A0 hb hg hne rfl
theorem AK.not {w:World} {F:List Nat} (hF:AK w F) {e k n:Nat} {v:Value} {xs:List Value} {G:List Nat} (h:BS w e k v n xs G) (hne:276≠e):∀ b∈F,b∉G:=fun b hb=>by
 obtain ⟨cs,fz,h1⟩:=hF b hb
 exact M1 h hne h1
theorem GA:∀ (t:RB IT) (p:Option Addr) (fp:List Nat) (v0:Value) (xs:List IT) (G:List Nat) (w0:World) (h:Ad w0 t p fp) (hO:BS w0 64 7 v0 xs.length (Be xs) G) (hlen:xs.length+t.list.length≤1000000),
 AM Tryz.prog 239 #[.pointer p,v0] w0 fun v w'=>(∃ G',BS w' 64 7 v (xs ++ t.list).length (Be (xs ++ t.list)) G'∧(∀ k∈G',k∈G∨w0.heap.size≤k))∧AA G w0 w'
 | .nil,p,fp,v0,xs,G,w0,h,hO,hlen=>by
   obtain ⟨rfl,rfl⟩:=h
   have hs:=St.nil w0
   refine AQ Tryz.func239 Tryz.ntmps239 (k:=?_)
   refine Je ?_
   refine AF ?_
   have ho:=hs.AD rfl
   rw [show xs ++ RB.nil.list=xs from List.append_nil xs]
   exact ⟨⟨G,hO.keep ho (by simp),fun k hk => .inl hk⟩,ho.weaken (by simp)⟩
 | .node l x r c,p,fp,v0,xs,G,w0,⟨b,av,pl,pr,fl,fr,hp',hf',hb,Cm,hl,hr⟩,hO,hlen=>by
   subst hp' hf'
   simp only [RB.list,List.length_append,List.length_cons] at hlen
   have hs:=(St.nil w0).AG hb (by simp)
   have hGl:=hO.lt
   have Yz:=M1 hO (by decide) hb
   have hnl:=hl.nodes.not hO (by decide)
   have Pk:=hr.nodes.not hO (by decide)
   have ltr:=hr.nodes.lt
   have ltb:=lt_of_block hb
   refine AQ Tryz.func239 Tryz.ntmps239 (k:=?_)
   refine Jd ?_
   refine dr [] hs (k:=?_);intro hX w hs
   refine tks 0 9 ?_
   refine tks 10 4 ?_
   refine mB 14 22 x.1.cells hs (k:=?_);intro f X w hp;have hs:=hp.st
   apply BG 9 14 (f:=f) (X:=X) hX hp;exact rfl;exact rfl;(first | (apply AR AI;exact rfl) | (apply EA AI;exact rfl;exact rfl;exact rfl;exact rfl;exact rfl;(intro X;((repeat (first | exact CW.nil | (apply CW.one;exact rfl;(conv=>lhs;whnf);exact rfl;(repeat (first | exact Ai.nil | apply Ai.skip | apply Ai.cons))) | (apply CW.agg;exact rfl;exact rfl;exact rfl;(repeat (first | exact Ai.nil | apply Ai.skip | apply Ai.cons)))))))));kernel_rfl;kernel_rfl;kernel_rfl;kernel_rfl;(intro X Y;(repeat (first | exact A4 | refine A3 ?_ (by exact rfl))));(intro w' hs;first|exact AH hs.hold|exact AH hs.hold.tail|exact A8 rfl);intro f X w hp;have hs:=hp.st
   have AJ:AA [] w0 _:=hs.AB [] (by simp [hb]) (by simp [D0])
   refine cl (h:=by exact GA l pl fl v0 xs G _ (hl.keep AJ (AK.nil _) (by simp)) (hO.keep AJ (by simp)) om) (k:=?_)
   rintro v1 w1 ⟨⟨G1,MA,M8⟩,AN⟩
   have JO:=AJ.size
   have hp:Ed w0 ⟨G ++ [],[]⟩ _ _ _ (fun w=>BS w 64 7 v1 (xs ++ l.list).length (Be (xs ++ l.list)) G1) _ _ _:=⟨hp.core.call AN hGl (fun k hk hm=>by obtain rfl:=List.mem_singleton.1 hm;exact Yz hk) (by simp [D0]),MA,fun _ _ ho h=>h.keep ho (by simp)⟩
   replace hs:=hp.st
   have QY:∀ k∈G1,k∈G∨w0.heap.size≤k:=fun k hk=>by rcases M8 k hk with h | h;exact .inl h;exact .inr om
   clear M8 AJ AN
   refine Jb ?_
   refine dn (k:=?_)
   apply B9 14 (f:=f) (X:=X) hX hp;exact rfl;(first | (apply AR AI;exact rfl) | (apply EA AI;exact rfl;exact rfl;exact rfl;exact rfl;exact rfl;(intro X;((repeat (first | exact CW.nil | (apply CW.one;exact rfl;(conv=>lhs;whnf);exact rfl;(repeat (first | exact Ai.nil | apply Ai.skip | apply Ai.cons))) | (apply CW.agg;exact rfl;exact rfl;exact rfl;(repeat (first | exact Ai.nil | apply Ai.skip | apply Ai.cons)))))))));kernel_rfl;kernel_rfl;(intro X Y;(repeat (first | exact A4 | refine A3 ?_ (by exact rfl))));(intro w' hs;first|exact AH hs.hold|exact AH hs.hold.tail|exact A8 rfl);intro b w hI hs
   refine dt 15 hX (k:=?_)
   have aBK:=hs.get At.head
   replace hs:=hs.Bu
   have Bw:=hs.get At.head
   refine CE AI rfl rfl rfl rfl rfl rfl rfl (by decide) (lit_cells (news:=x.1.cells) aBK) (by simp [Value.oneCell']) hI (by simp only [List.length_append];omega) (by simp only [List.length_append];omega) ?_
   intro v2 w3 ⟨G2,KL,KN⟩ AS
   have M6:=hs.size
   have aAN:=M1 hI (by decide) Bw
   replace hs:=hs.call AS (fun k hk hm=>by obtain rfl:=List.mem_singleton.1 hm;exact aAN hk) (by simp)
   have uX:BS w3 64 7 v2 (xs ++ l.list ++ [x]).length (Be (xs ++ l.list ++ [x])) G2:=by
    rw [Lu (xs ++ l.list) [x],List.length_append (bs:=[x])]
    exact KL
   have QX:∀ k∈G2,k∈G∨w0.heap.size≤k:=fun k hk=>by
    rcases KN k hk with h | h
    ·exact QY k h
    ·exact .inr om
   have zG:AA (G1 ++ (G ++ [])) w0 w3:=hs.AB _ (by simp [hb]) (by simp)
   have XU:=hr.Ae zG (fun k hk hm=>by
    simp only [List.append_nil,List.mem_append] at hm
    rcases hm with hm | hm
    ·rcases QY k hm with h | h
     ·exact Pk k hk h
     ·have:=ltr k hk;omega
    ·exact Pk k hk hm)
   refine Jb ?_
   refine dn (k:=?_)
   refine dt 16 hX (k:=?_)
   refine cl (h:=by exact GA r pr fr v2 (xs ++ l.list ++ [x]) G2 _ XU uX (by simp only [List.length_append,List.length_cons,List.length_nil];omega)) (k:=?_)
   rintro v3 w4 ⟨⟨G3,HM,Mo⟩,Al⟩
   have Nc:=hs.size
   have aAk:=hs.get At.head
   have aAo:=M1 uX (by decide) aAk
   replace hs:=hs.call Al (fun k hk hm=>by obtain rfl:=List.mem_singleton.1 hm;exact aAo hk) (by simp)
   refine Jb ?_
   refine dn (k:=?_)
   refine tk 17 hX (k:=?_)
   refine en (k:=?_)
   refine Jb ?_
   refine AF ?_
   rw [show xs ++ l.list ++ [x] ++ r.list=xs ++ (RB.node l x r c).list by simp [RB.list]] at HM
   have aAh:AA (G2 ++ (G1 ++ (G ++ []))) w0 w4:=hs.AB _ (by simp [hb]) (by simp)
   refine ⟨⟨G3,HM,fun k hk=>?_⟩,?_⟩
   ·rcases Mo k hk with h | h
    ·exact QX k h
    ·exact .inr om
   ·refine aAh.mono fun k hk hm=>?_
    simp only [List.append_nil,List.mem_append] at hm
    rcases hm with hm | hm | hm
    ·rcases QX k hm with h | h
     ·exact h
     ·omega
    ·rcases QY k hm with h | h
     ·exact h
     ·omega
    ·exact hm
def DB (w:World) (v:Value) (l:List IT):Prop:=JF w v (l.map (·.1))
theorem ON {w:World} {v:Value} {l:List IT} {G:List Nat} (h:BS w 64 7 v l.length (Be l) G):DB w v l:=by
 unfold DB JF
 refine h.ls ?_ (by simp) ?_
 ·simp [Be,Function.comp_def]
 ·intro x hx
  obtain ⟨a,_,rfl⟩:=List.mem_map.1 hx
  rfl
theorem Nq (tb:Nat) (t:RB IT) (F:List Nat) (w0:World) (h:C8 w0 tb t F) (hlen:t.list.length≤1000000) :
 AM Tryz.prog 226 #[.pointer (some ⟨tb,0,none⟩)] w0 fun v w'=>(∃ G,BS w' 64 7 v t.list.length (Be t.list) G∧∀ k∈G,w0.heap.size≤k)∧AA [] w0 w':=by
 obtain ⟨p,fp,rfl,hT,ht,hnd⟩:=h
 have hs:=(St.nil w0).AG hT (by simp)
 refine AQ Tryz.func226 Tryz.ntmps226 (k:=?_)
 refine Jd ?_
 have AJ:AA [] w0 _:=hs.AB [] (by simp [hT]) (by simp [D0])
 refine cl (h:=by exact GA t p fp _ [] [] _ (ht.keep AJ (AK.nil _) (by simp)) (.inl ⟨rfl,rfl,rfl,rfl⟩) (by simpa using hlen)) (k:=?_)
 rintro v w' ⟨⟨G,hO,hG⟩,ho⟩
 replace hs:=hs.AL ho
 rw [List.nil_append] at hO
 have hz:=AJ.size
 refine Jc ?_
 refine AF ?_
 exact ⟨⟨G,hO,fun k hk=>by rcases hG k hk with h | h;cases h;omega⟩,hs.AB [] (by simp [hT]) (by simp [D0])⟩
theorem gV (tb:Nat) (t:RB IT) (F:List Nat) (w0:World) (h:C8 w0 tb t F) :
 AM Tryz.prog 84 #[.pointer (some ⟨tb,0,none⟩)] w0 fun v w'=>v = .int .i64 (t.list.length:Nat)∧AA [] w0 w':=by
 obtain ⟨p,fp,rfl,hT,ht,hnd⟩:=h
 have hs:=(St.nil w0).AG hT (by simp)
 refine AQ Tryz.func84 Tryz.ntmps84 (k:=?_)
 refine Jd ?_
 refine AF ?_
 exact ⟨rfl,hs.AB [] (by simp [hT]) (by simp [D0])⟩
theorem MF (w0:World):AM Tryz.prog 175 #[.func (.func 176) #[] #[],.func (.func 177) #[] #[],.func (.func 178) #[] #[]] w0 fun v w'=>(∃ tb F,v = .pointer (some ⟨tb,0,none⟩)∧C8 w' tb .nil F∧(∀ k∈F,w0.heap.size≤k))∧AA [] w0 w':=by
 have hs:=St.nil w0
 refine AQ Tryz.func175 Tryz.ntmps175 (k:=?_)
 refine Ag ?_
 refine Aq ?_
 refine vs (k:=?_)
 refine XS.nil ?_
 refine Dt ?_
 refine Ag ?_
 refine Aq ?_
 refine vs (k:=?_)
 refine vs (k:=?_)
 refine vs (k:=?_)
 refine vs (k:=?_)
 refine bx hs (k:=?_);intro b w hz hs
 refine Jc ?_
 refine AF ?_
 have hnew:=hs.new (b,true) (by simp) rfl
 exact ⟨⟨b,[b],rfl,⟨none,[],rfl,hs.get At.head,⟨rfl,rfl⟩,List.nodup_nil⟩,fun k hk=>by obtain rfl:=List.mem_singleton.1 hk;exact hnew⟩,hs.AD rfl⟩
theorem SY {t:RB IT} (h:RB.both t=true):∃ a x b c1 y d z e c2 c,t = .node (.node a x b c1) y (.node d z e c2) c:=by
 cases t with
 | nil=>cases h
 | node l y r c =>
   cases l with
   | nil=>cases h
   | node a x b c1 =>
     cases r with
     | nil=>cases h
     | node d z e c2=>exact ⟨_,_,_,_,_,_,_,_,_,_,rfl⟩
theorem sub_up {w0 w:World} {fp DR Dx:List Nat} (h1:∀ k∈DR,k∈fp∨w0.heap.size≤k) (h2:∀ k∈Dx,k∈DR∨w.heap.size≤k) (hz:w0.heap.size≤w.heap.size):∀ k∈Dx,k∈fp∨w0.heap.size≤k:=fun k hk=>by
 rcases h2 k hk with h | h
 ·exact h1 k h
 ·exact .inr om
theorem P6 (tb:Nat) (p0:Option Addr) (n0:Int) (t:RB IT) (p:Option Addr) (fp:List Nat) (w0:World) (hT:w0.heap[tb]?=some (C3 p0 n0)) (h:Ad w0 t p fp) (hnd:fp.Nodup) (hlen:t.list.length≤1000000) (hb:RB.both t=true) :
 AM Tryz.prog 246 #[.pointer (some ⟨tb,0,none⟩),.pointer p] w0 fun v w'=>Cg w0 fp (RB.E7 t) v w':=by
 obtain ⟨a,x,b,c1,y,d,z,e,c2,c,rfl⟩:=SY hb
 clear hb
 have hs:=St.nil w0
 refine AQ Tryz.func246 Tryz.ntmps246 (k:=?_)
 refine Ja ?_
 refine cl (h:=by exact GH a x b c1 y d z e c2 c p fp _ h hnd) (k:=?_)
 rintro v w1 ⟨k1,AJ⟩
 have Bl:=head_keep hT AJ h.nodes
 clear hs h
 obtain ⟨m,av,pl,pr,fl,fr,rfl,rfl,hm,Cm,hl,hr⟩:=k1
 have LR:=hr
 obtain ⟨u,JV,pd,pe,fd,fe,rfl,rfl,hu,Mi,hd,he⟩:=hr
 have uH:u≠m:=fun e=>by subst e;simp at hnd
 have hs:=((St.nil w1).AG hm (by simp)).AG hu (by simpa using uH)
 refine Ja ?_
 have AN:AA [] w1 _:=hs.AB [] (by simp [hm,hu]) (by simp [D0])
 refine AW hs (h:=by exact Bc d pd fd _ (hd.keep AN (AK.nil _) (by simp))) (k:=?_);intro w' ho hs
 cases hq:d.red
 ·refine Jd ?_
  refine AF ?_
  have AN:AA [] w1 _:=hs.AB [] (by simp [hm,hu]) (by simp [D0])
  have e1:RB.E7 (.node (.node a x b c1) y (.node d z e c2) c) = .node (.node a x b !c1) y (.node d z e !c2) !c:=by
   simp [RB.E7,RB.flip,RB.Az,RB.Au,hq]
  rw [e1]
  exact ⟨_,_,rfl,Ad.keep AN (AK.nil _) ⟨m,av,pl,_,fl,_,rfl,rfl,hm,Cm,hl,LR⟩ (by simp),hnd,fun k hk => .inl hk,AJ.step AN (by simp)⟩
 ·obtain ⟨da,v,de,rfl⟩:=RB.Br hq
  have e1:RB.E7 (.node (.node a x b c1) y (.node (.node da v de true) z e c2) c) = .node (.node (.node a x b !c1) y da (!true)) v (.node de z e (!true)) (!!c):=by
   simp [RB.E7,RB.flip,RB.Az,RB.Au,RB.BN,RB.CK,RB.Cz,RB.GN]
  rw [e1]
  refine Je ?_
  have AN:AA [] w1 _:=hs.AB [] (by simp [hm,hu]) (by simp [D0])
  have hl2:=hl.keep AN (AK.nil _) (by simp)
  have RP:=LR.keep AN (AK.nil _) (by simp)
  have hm2:=hs.get (At.tail At.head)
  have K5:=head_keep Bl AN (AK.nil _)
  have KL:AA (m :: (fl ++ (u :: (fd ++ fe)))) w0 _:=AJ.step AN (by simp)
  simp only [RB.list,List.length_append,List.length_cons,List.append_assoc,List.cons_append] at hlen
  refine cl (h:=by exact GQ tb p0 n0 da v de z e (!c2) true _ _ _ K5 RP.Lr (by simp only [List.nodup_cons,List.nodup_append] at hnd ⊢;exact hnd.2.2.1) (by simp only [List.length_append,List.length_cons];omega)) (k:=?_)
  rintro v' w2 hk
  obtain ⟨p',hv⟩:∃ p',v' = .pointer p':=by obtain ⟨p',_,hv,_⟩:=hk;exact ⟨p',hv⟩
  subst hv
  obtain ⟨_,_,_,_,_,_,k4⟩:=id hk
  have Fj:=head_keep K5 k4 RP.nodes
  have hm3:=k4.block hm2 (fun h=>by simp only [List.nodup_cons,List.mem_append] at hnd;exact hnd.1 (.inr h))
  clear hs
  have hs:=(St.nil w2).AG hm3 (by simp)
  repeat' (first|refine Sa ?_|(refine st hs (k:=?_);intro w hs)|fail)
  have AS:AA [m] w2 _:=hs.AB [m] (by simp) (by simp [D0])
  obtain ⟨Dx,s1,s2,s3,s4⟩:=Ml hm2 hl2 RP.nodes hnd hk AS (hs.get At.head)
  have hsz:=KL.size
  have s3':=sub_up (fp:=m :: (fl ++ (u :: (fd ++ fe)))) (fun k hk => .inl hk) s3 hsz
  have HM:AA (m :: (fl ++ (u :: (fd ++ fe)))) w0 _:=KL.step s4 (fun k hk => .inl hk)
  have Rj:=head_keep Fj AS (AK.cons hm3 (AK.nil _))
  clear hs
  have hs:=St.nil w2
  refine cl (h:=by exact Ke tb p0 n0 (.node a x b !c1) y da v (.node de z e true) (!c) (!c2) _ Dx _ Rj s1 s2 (by simp only [RB.list,List.length_append,List.length_cons];omega)) (k:=?_)
  rintro v' w4 ⟨p3,gN,rfl,k1,k2,k3,k5⟩
  have VM:=head_keep Rj k5 s1.nodes
  have OM:=sub_up s3' k3 HM.size
  have uA:=HM.step k5 s3'
  clear hs
  have hs:=St.nil w4
  refine Ja ?_
  have Ak:=hs.AD rfl
  refine cl (h:=by exact GH (.node a x b !c1) y da true v de z e true (!c) p3 gN _ (k1.keep Ak (AK.nil _) (by simp)) k2) (k:=?_)
  rintro v' w5 ⟨k6,CQ⟩
  have hs:=St.nil w5
  refine Ja ?_
  refine AF ?_
  exact ⟨p3,gN,rfl,k6,k2,OM,(uA.step Ak (by simp)).step CQ OM⟩
theorem WO (tb:Nat) (p0:Option Addr) (n0:Int) (t:RB IT) (p:Option Addr) (fp:List Nat) (w0:World) (hT:w0.heap[tb]?=some (C3 p0 n0)) (h:Ad w0 t p fp) (hnd:fp.Nodup) (hlen:t.list.length≤1000000) (hb:RB.both t=true) :
 AM Tryz.prog 247 #[.pointer (some ⟨tb,0,none⟩),.pointer p] w0 fun v w'=>Cg w0 fp (RB.Eg t) v w':=by
 obtain ⟨a,x,b,c1,y,d,z,e,c2,c,rfl⟩:=SY hb
 clear hb
 have hs:=St.nil w0
 refine AQ Tryz.func247 Tryz.ntmps247 (k:=?_)
 refine Ja ?_
 refine cl (h:=by exact GH a x b c1 y d z e c2 c p fp _ h hnd) (k:=?_)
 rintro v w1 ⟨k1,AJ⟩
 have Bl:=head_keep hT AJ h.nodes
 clear hs h
 have k0:=k1
 obtain ⟨m,av,pl,pr,fl,fr,rfl,rfl,hm,Cm,hl,hr⟩:=k1
 obtain ⟨u,JV,pd,pe,fd,fe,rfl,rfl,hu,Mi,hd,he⟩:=hl
 have uH:u≠m:=fun e=>by subst e;simp at hnd
 have hs:=((St.nil w1).AG hm (by simp)).AG hu (by simpa using uH)
 refine Ja ?_
 have AN:AA [] w1 _:=hs.AB [] (by simp [hm,hu]) (by simp [D0])
 refine AW hs (h:=by exact Bc a pd fd _ (hd.keep AN (AK.nil _) (by simp))) (k:=?_);intro w' ho hs
 cases hq:a.red
 ·refine Jd ?_
  refine AF ?_
  have AN:AA [] w1 _:=hs.AB [] (by simp [hm,hu]) (by simp [D0])
  have e1:RB.Eg (.node (.node a x b c1) y (.node d z e c2) c) = .node (.node a x b !c1) y (.node d z e !c2) !c:=by
   simp [RB.Eg,RB.flip,RB.Az,RB.Au,hq]
  rw [e1]
  exact ⟨_,_,rfl,k0.keep AN (AK.nil _) (by simp),hnd,fun k hk => .inl hk,AJ.step AN (by simp)⟩
 ·obtain ⟨da,v,de,rfl⟩:=RB.Br hq
  have e1:RB.Eg (.node (.node (.node da v de true) x b c1) y (.node d z e c2) c) = .node (.node da v de (!true)) x (.node b y (.node d z e !c2) (!true)) (!!c):=by
   simp [RB.Eg,RB.flip,RB.Az,RB.Au,RB.BN,RB.Cz]
  rw [e1]
  refine Je ?_
  have AN:AA [] w1 _:=hs.AB [] (by simp [hm,hu]) (by simp [D0])
  have K5:=head_keep Bl AN (AK.nil _)
  have KL:AA (m :: ((u :: (fd ++ fe)) ++ fr)) w0 _:=AJ.step AN (by simp)
  simp only [RB.list,List.length_append,List.length_cons,List.append_assoc,List.cons_append] at hlen
  have k00:=k0.keep AN (AK.nil _) (by simp)
  refine cl (h:=by exact GQ tb p0 n0 (.node da v de true) x b y (.node d z e !c2) (!c) (!c1) _ _ _ K5 k00.Lr hnd (by simp only [RB.list,List.length_append,List.length_cons];omega)) (k:=?_)
  rintro v' w4 ⟨p3,gN,rfl,k1,k2,k3,k5⟩
  have OM:=sub_up (fun k hk => .inl hk) k3 KL.size
  have uA:=KL.step k5 (fun k hk => .inl hk)
  clear hs
  have hs:=St.nil w4
  refine Ja ?_
  have Ak:=hs.AD rfl
  refine cl (h:=by exact GH da v de true x b y (.node d z e !c2) true (!c) p3 gN _ (k1.keep Ak (AK.nil _) (by simp)) k2) (k:=?_)
  rintro v' w5 ⟨k6,CQ⟩
  have hs:=St.nil w5
  refine Ja ?_
  refine AF ?_
  exact ⟨p3,gN,rfl,k6,k2,OM,(uA.step Ak (by simp)).step CQ OM⟩
theorem Ki {t u:RB IT} (h:RB.EM t=some u):u.list=t.list:=by
 unfold RB.EM at h
 cases hq:(!t.left.red && !t.left.left.red)
 ·rw [hq,cond_false] at h;cases h;rfl
 ·rw [hq,cond_true] at h
  cases hb:RB.both t
  ·rw [hb] at h;cases h
  ·rw [hb,cond_true] at h;cases h
   exact RB.XE t
theorem R6 {t u:RB IT} (h:RB.IK t=some u):u.list=t.list:=by
 unfold RB.IK at h
 cases hq:(!t.right.red && !t.right.left.red)
 ·rw [hq,cond_false] at h;cases h;rfl
 ·rw [hq,cond_true] at h
  cases hb:RB.both t
  ·rw [hb] at h;cases h
  ·rw [hb,cond_true] at h;cases h
   exact RB.Uk t
theorem Ka:∀ (k:Nat) (t t':RB IT),RB.Ez k t=some t'→t'.list.length≤t.list.length
 | 0,t,t',h=>by cases h
 | k+1,t,t',h=>by
   simp only [RB.Ez] at h
   cases h1:t.isNil
   ·rw [h1,cond_false] at h
    cases h2:t.left.isNil
    ·rw [h2,cond_false] at h
     cases hd:RB.EM t with
     | none=>rw [hd] at h;cases h
     | some u =>
       rw [hd] at h
       cases u with
       | nil=>cases h
       | node l x r c =>
         obtain ⟨l',hl,rfl⟩:=Option.map_eq_some_iff.1 h
         have:=Ka k l l' hl
         rw [RB.DD,← Ki hd]
         simp only [RB.list,List.length_append,List.length_cons]
         omega
    ·rw [h2,cond_true] at h;cases h;simp [RB.list]
   ·rw [h1,cond_true] at h;cases h
theorem SC (tb:Nat) (p0:Option Addr) (n0:Int):∀ (k:Nat) (t t':RB IT) (p:Option Addr) (fp:List Nat) (w0:World) (hT:w0.heap[tb]?=some (C3 p0 n0)) (h:Ad w0 t p fp) (hnd:fp.Nodup) (hlen:t.list.length≤1000000) (hc:RB.Ez k t=some t'),
 AM Tryz.prog 248 #[.pointer (some ⟨tb,0,none⟩),.pointer p] w0 fun v w'=>Cg w0 fp t' v w'
 | 0,t,t',p,fp,w0,hT,h,hnd,hlen,hc=>by cases hc
 | k+1,.nil,t',p,fp,w0,hT,h,hnd,hlen,hc=>by cases hc
 | k+1,.node .nil x r c,t',p,fp,w0,hT,h,hnd,hlen,hc=>by
   simp only [RB.Ez,RB.isNil,RB.Au,cond_true,cond_false,Option.some.injEq] at hc
   subst hc
   obtain ⟨b,av,pl,pr,fl,fr,rfl,rfl,hb,Cm,⟨rfl,rfl⟩,hr⟩:=h
   have hs:=(St.nil w0).AG hb (by simp)
   refine AQ Tryz.func248 Tryz.ntmps248 (k:=?_)
   refine Je ?_
   refine AF ?_
   exact ⟨none,[],rfl,⟨rfl,rfl⟩,List.nodup_nil,(fun k hk=>by cases hk),(hs.AB [] (by simp [hb]) (by simp [D0])).weaken (by simp)⟩
 | k+1,.node (.node ll z lr lc) x r c,t',p,fp,w0,hT,h,hnd,hlen,hc=>by
   rw [RB.Ez] at hc
   simp only [RB.isNil,RB.Au,cond_false] at hc
   have hH:Has w0 tb p0 n0 fp (.node (.node ll z lr lc) x r c) p w0:=⟨⟨fp,h,hnd,fun k hk => .inl hk,AA.refl _ _⟩,hT⟩
   obtain ⟨b,av,pl,pr,fl,fr,rfl,hf,hb,Cm,hl,hr⟩:=h
   have hl0:=hl
   obtain ⟨u,JV,UH,Pf,fll,flr,rfl,rfl,hu,Mi,Gc,hlr⟩:=hl
   have RO:u≠b:=fun e=>by subst e;rw [hf] at hnd;simp at hnd
   have hs:=((St.nil w0).AG hb (by simp)).AG hu (by simpa using RO)
   refine AQ Tryz.func248 Tryz.ntmps248 (k:=?_)
   refine Jb ?_
   refine Aq ?_
   refine Jc ?_
   refine Aq ?_
   refine Jl ?_
   refine B8 (fun _:Unit=>[(0,.pointer (some ⟨tb,0,none⟩)),(1,.pointer (some ⟨b,0,none⟩)),(4,.pointer none),(26,.bool (!lc && !ll.red))]) (fun _ w=>Has w0 tb p0 n0 fp (.node (.node ll z lr lc) x r c) (some ⟨b,0,none⟩) w) ?_ ?_
   ·refine Jk ?_
    have AN:AA [] w0 _:=hs.AB [] (by simp [hb,hu]) (by simp [D0])
    refine AW hs (h:=by exact Bc _ _ _ _ (hl0.keep AN (AK.nil _) (by simp))) (k:=?_);intro w' ho hs
    rw [RB.BN]
    cases lc
    ·refine Jf ?_
     have AN:AA [] w0 _:=hs.AB [] (by simp [hb,hu]) (by simp [D0])
     refine AW hs (h:=by exact Bc _ _ _ _ (Gc.keep AN (AK.nil _) (by simp))) (k:=?_);intro w' ho hs
     generalize GZ:ll.red=q2
     refine Jc ?_
     exact AP () Aa (hH.only (hs.AB [] (by simp [hb,hu]) (by simp [D0])))
    ·refine Jj ?_
     exact AP () Aa (hH.only (hs.AB [] (by simp [hb,hu]) (by simp [D0])))
   clear hH hs hb Cm hl0 hu Mi Gc hlr hr
   rintro _ env w hH
   obtain ⟨d,hd⟩:∃ d,RB.EM (.node (.node ll z lr lc) x r c)=some d:=by
    cases hd:RB.EM (.node (.node ll z lr lc) x r c) with
    | none=>rw [hd] at hc;cases hc
    | some d=>exact ⟨d,rfl⟩
   rw [hd] at hc
   have hdl:=Ki hd
   refine B8 (fun s:Option Addr=>[(0,.pointer (some ⟨tb,0,none⟩)),(1,.pointer s),(4,.pointer none)]) (fun s w=>Has w0 tb p0 n0 fp d s w) ?_ ?_
   ·unfold RB.EM at hd
    rw [RB.Au,RB.BN,RB.Au] at hd
    generalize hq:(!lc && !ll.red)=q at *
    cases q
    ·refine Jg ?_
     cases hd
     exact AP _ Aa hH
    ·rw [cond_true] at hd
     cases hbo:RB.both (.node (.node ll z lr lc) x r c)
     ·rw [hbo] at hd;cases hd
     rw [hbo,cond_true] at hd
     cases hd
     obtain ⟨⟨DR,h1,h2,h3,h4⟩,h5⟩:=hH
     have hs:=St.nil w
     refine Ji ?_
     refine cl (h:=by exact P6 tb p0 n0 _ _ _ _ h5 h1 h2 hlen hbo) (k:=?_)
     rintro v w' hv
     obtain ⟨p',rfl,hH⟩:=Has.next h1 h3 h4 h5 hv
     have hs:=St.nil w'
     refine Jc ?_
     exact AP p' Aa hH
   clear hH
   rintro p1 env w hH
   cases d with
   | nil=>cases hc
   | node l1 x1 r1 c1 =>
   obtain ⟨l',hl',rfl⟩:=Option.map_eq_some_iff.1 hc
   obtain ⟨⟨DR,⟨b,av,pl,pr,fl,fr,rfl,rfl,hb,Cm,hl,hr⟩,h2,h3,h4⟩,h5⟩:=hH
   have Dw:=C2 h5 hb
   have hs:=(St.nil w).AG hb (by simp)
   rw [← hdl] at hlen
   simp only [RB.list,List.length_append,List.length_cons] at hlen
   refine Ja ?_
   have AJ:AA [] w _:=hs.AB [] (by simp [hb]) (by simp [D0])
   have E5:=hl.keep AJ (AK.nil _) (by simp)
   have hrw:=hr.keep AJ (AK.nil _) (by simp)
   have Bw:=hs.get At.head
   have CI:=head_keep h5 AJ (AK.nil _)
   refine cl (h:=by exact SC tb p0 n0 k l1 l' pl fl _ CI E5 (by simp only [List.nodup_cons,List.nodup_append] at h2;exact h2.2.1) om hl') (k:=?_)
   rintro v w' hk
   obtain ⟨p',hv⟩:∃ p',v = .pointer p':=by obtain ⟨p',_,hv,_⟩:=hk;exact ⟨p',hv⟩
   subst hv
   obtain ⟨_,_,_,_,_,_,k4⟩:=id hk
   have Bl:=head_keep CI k4 E5.nodes
   have CD:=k4.block Bw (fun h=>by simp [h] at h2)
   clear hs
   have hs:=(St.nil w').AG CD (by simp)
   repeat' (first|refine Sa ?_|(refine st hs (k:=?_);intro w hs)|fail)
   have AS:AA [b] w' _:=hs.AB [b] (by simp) (by simp [D0])
   obtain ⟨Dx,s1,s2,s3,s4⟩:=Ow Bw E5.nodes hrw h2 hk AS (hs.get At.head)
   have KI:=Ka k l1 l' hl'
   refine cl (h:=by exact Fz tb p0 n0 _ x1 _ c1 _ _ _ (head_keep Bl AS (AK.cons CD (AK.nil _))) s1 s2 (by simp only [List.length_append,List.length_cons];omega)) (k:=?_)
   rintro v w3 hm
   have hO:=(h4.step AJ (by simp)).step s4 h3
   have hm2:=hm.up hO (sub_up h3 s3 (h4.step AJ (by simp)).size)
   have hs:=St.nil w3
   refine Jc ?_
   refine AF ?_
   exact hm2
abbrev aS (a:It):Obj := .cells #[.int .u64 a.p.t,.int .u32 a.p.r,.int .u32 a.p.w,.int .i64 a.id,.int .u64 a.d.t,.int .u32 a.d.r,.int .u32 a.d.w] 64 (0,0)
theorem nodes_q {w:World} {F:List Nat} (h:AK w F) {bq:Nat} {a:It} (hQ:w.heap[bq]?=some (aS a)):bq∉F:=fun hm=>by
 obtain ⟨cs,fz,h1⟩:=h bq hm
 exact A0 hQ h1 (by decide) rfl
structure Hh (bq:Nat) (a:It) (w0:World) (tb:Nat) (p0:Option Addr) (n0:Int) (fp:List Nat) (t:RB IT) (p:Option Addr) (w:World):Prop where
 base:Has w0 tb p0 n0 fp t p w
 q:w.heap[bq]?=some (aS a)
theorem Hh.only {bq:Nat} {a:It} {w0 w w':World} {tb:Nat} {p0:Option Addr} {n0:Int} {fp:List Nat} {t:RB IT} {p:Option Addr} (h:Hh bq a w0 tb p0 n0 fp t p w) (ho:AA [] w w'):Hh bq a w0 tb p0 n0 fp t p w':=⟨h.base.only ho,ho.block h.q (by simp)⟩
theorem Hh.next {bq:Nat} {a:It} {w0 w w':World} {tb:Nat} {p0:Option Addr} {n0:Int} {fp DR:List Nat} {t t':RB IT} {p:Option Addr} {v:Value} (h1:Ad w t p DR) (h2:∀ k∈DR,k∈fp∨w0.heap.size≤k) (h3:AA fp w0 w) (h4:w.heap[tb]?=some (C3 p0 n0)) (hQ:w.heap[bq]?=some (aS a)) (k:Cg w DR t' v w') :
 ∃ p',v = .pointer p'∧Hh bq a w0 tb p0 n0 fp t' p' w':=by
 obtain ⟨p',e,h⟩:=Has.next h1 h2 h3 h4 k
 obtain ⟨_,_,_,_,_,_,ko⟩:=k
 exact ⟨p',e,h,ko.block hQ (nodes_q h1.nodes hQ)⟩
theorem PD (x:IT):∀ (k:Nat) (t t':RB IT),RB.cut Cr x k t=some t'→t'.list.length≤t.list.length
 | 0,t,t',h=>by cases h
 | k+1,.nil,t',h=>by cases h
 | k+1,.node l y r c,t',h=>by
   rw [RB.cut] at h
   cases hxy:Cr x y
   ·rw [hxy,cond_false] at h
    have hu:(bif l.red then RB.Cz (.node l y r c) else .node l y r c:RB IT).list=(RB.node l y r c).list:=by
     cases l.red
     ·rfl
     ·exact RB.HN _
    generalize (bif l.red then RB.Cz (.node l y r c) else .node l y r c:RB IT)=u at h hu
    cases h2:u.right.isNil
    ·rw [h2,cond_false] at h
     cases hd:RB.IK u with
     | none=>rw [hd] at h;cases h
     | some d =>
       rw [hd] at h
       have hdl:=R6 hd
       cases d with
       | nil=>cases h
       | node l2 y2 r2 c2 =>
         simp only at h
         rw [← hu,← hdl]
         cases h3:Cr y2 x
         ·rw [h3,cond_false] at h
          cases hm:RB.least r2 with
          | none=>rw [hm] at h;cases h
          | some m =>
            rw [hm] at h
            obtain ⟨r',hr',rfl⟩:=Option.map_eq_some_iff.1 h
            have:=Ka k r2 r' hr'
            rw [RB.DD]
            simp only [RB.list,List.length_append,List.length_cons]
            omega
         ·rw [h3,cond_true] at h
          obtain ⟨r',hr',rfl⟩:=Option.map_eq_some_iff.1 h
          have:=PD x k r2 r' hr'
          rw [RB.DD]
          simp only [RB.list,List.length_append,List.length_cons]
          omega
    ·rw [h2,cond_true] at h;cases h;simp [RB.list]
   ·rw [hxy,cond_true] at h
    cases h2:l.isNil
    ·rw [h2,cond_false] at h
     cases hd:RB.EM (.node l y r c) with
     | none=>rw [hd] at h;cases h
     | some d =>
       rw [hd] at h
       have hdl:=Ki hd
       cases d with
       | nil=>cases h
       | node l2 y2 r2 c2 =>
         obtain ⟨l',hl',rfl⟩:=Option.map_eq_some_iff.1 h
         have:=PD x k l2 l' hl'
         rw [RB.DD,← hdl]
         simp only [RB.list,List.length_append,List.length_cons]
         omega
    ·rw [h2,cond_true] at h;cases h
theorem TW (tb:Nat) (p0:Option Addr) (n0:Int) (x:IT):∀ (k:Nat) (t t':RB IT) (p:Option Addr) (fp:List Nat) (w0:World) (hT:w0.heap[tb]?=some (C3 p0 n0)) (h:Ad w0 t p fp) (hnd:fp.Nodup) (hlen:t.list.length≤1000000) (hc:RB.cut Cr x k t=some t'),
 AM Tryz.prog 237 #[.pointer (some ⟨tb,0,none⟩),.pointer p,iv x.1] w0 fun v w'=>Cg w0 fp t' v w'
 | 0,t,t',p,fp,w0,hT,h,hnd,hlen,hc=>by cases hc
 | k+1,.nil,t',p,fp,w0,hT,h,hnd,hlen,hc=>by cases hc
 | k+1,.node l y r c,t',p,fp,w0,hT,h,hnd,hlen,hc=>by
   rw [RB.cut] at hc
   have ZE:Has w0 tb p0 n0 fp (.node l y r c) p w0:=⟨⟨fp,h,hnd,fun k hk => .inl hk,AA.refl _ _⟩,hT⟩
   obtain ⟨b,av,pl,pr,fl,fr,rfl,hf,hb,Cm,hl,hr⟩:=h
   have Dw:=C2 hT hb
   have hs:=((St.nil w0).AG hT (by simp)).AG hb (by simpa using Dw)
   refine AQ Tryz.func237 Tryz.ntmps237 (k:=?_);refine Ag ?_;refine Aq ?_;refine bx hs (k:=?_);intro bq wq Ln hs;refine Jc ?_
   have JJ:=hs.new (bq,true) (by simp) rfl
   simp only at JJ
   refine dr [] hs (k:=?_);intro hX w hs
   refine tks 0 9 ?_
   refine dt 9 hX (k:=?_)
   refine cl (h:=by exact MY x y _) (k:=?_)
   rintro v w1 ⟨rfl,ho⟩;replace hs:=hs.AL ho
   refine Jb ?_
   refine dn (k:=?_)
   refine en (k:=?_)
   have AJ:AA [] w0 w1:=hs.AB [] (by simp [hT,hb]) (by simp [D0])
   have hQ:=hs.get At.head
   have hH:Hh bq x.1 w0 tb p0 n0 fp (.node l y r c) (some ⟨b,0,none⟩) w1:=⟨ZE.only AJ,hQ⟩
   have Bl:=hs.get (At.tail (At.tail At.head))
   have CD:=hs.get (At.tail At.head)
   have LJ:=hl.keep AJ (AK.nil _) (by simp)
   have Lz:=hr.keep AJ (AK.nil _) (by simp)
   generalize hq:Cr x y=q
   rw [show Cr x y=q from hq] at hc
   clear hs ZE hT hb hl hr ho Cm
   cases q
   ·rw [cond_false] at hc
    have hs:=(St.nil w1).AG CD (by simp)
    refine Jg ?_
    refine B8 (fun _:Unit=>[(0,.pointer (some ⟨tb,0,none⟩)),(1,.pointer (some ⟨b,0,none⟩)),(5,.pointer (some ⟨bq,0,none⟩)),(6,.pointer none),(55,.bool l.red)]) (fun _ w=>Hh bq x.1 w0 tb p0 n0 fp (.node l y r c) (some ⟨b,0,none⟩) w) ?_ ?_
    ·refine Jk ?_
     have AN:AA [] w1 _:=hs.AB [] (by simp [CD]) (by simp [D0])
     refine AW hs (h:=by exact Bc _ _ _ _ (LJ.keep AN (AK.nil _) (by simp))) (k:=?_);intro w' ho hs
     generalize GZ:l.red=q2
     refine Jb ?_
     exact AP () Aa (hH.only (hs.AB [] (by simp [CD]) (by simp [D0])))
    clear hH hs CD LJ Lz Bl
    rintro _ env w hH
    refine B8 (fun s:Option Addr=>[(0,.pointer (some ⟨tb,0,none⟩)),(1,.pointer s),(5,.pointer (some ⟨bq,0,none⟩)),(6,.pointer none)]) (fun s w=>Hh bq x.1 w0 tb p0 n0 fp (bif l.red then RB.Cz (.node l y r c) else .node l y r c) s w) ?_ ?_
    ·cases GZ:l.red
     ·refine Jg ?_
      exact AP _ Aa hH
     ·obtain ⟨ll,z,lr,rfl⟩:=RB.Br GZ
      obtain ⟨⟨⟨DR,h1,h2,h3,h4⟩,h5⟩,hQ⟩:=hH
      have hs:=St.nil w
      refine Ji ?_
      refine cl (h:=by exact GQ tb p0 n0 ll z lr y r c true _ _ _ h5 h1.Lr h2 (by simpa [RB.list] using hlen)) (k:=?_)
      rintro v w' hv
      obtain ⟨p',rfl,hH⟩:=Hh.next h1 h3 h4 h5 hQ hv
      have hs:=St.nil w'
      refine Jc ?_
      exact AP p' Aa hH
    clear hH
    rintro p1 env w hH
    obtain ⟨l1,y1,r1,c1,hu,hul⟩:∃ l1 y1 r1 c1,(bif l.red then RB.Cz (.node l y r c) else .node l y r c:RB IT) = .node l1 y1 r1 c1∧(RB.node l1 y1 r1 c1).list=(RB.node l y r c).list:=by
     cases GZ:l.red
     ·exact ⟨_,_,_,_,rfl,rfl⟩
     ·obtain ⟨ll,z,lr,rfl⟩:=RB.Br GZ
      exact ⟨_,_,_,_,rfl,RB.HN (.node (.node ll z lr true) y r c)⟩
    rw [hu] at hH hc
    rw [RB.Az] at hc
    obtain ⟨⟨⟨DR,⟨b,av,pl,pr,fl,fr,rfl,iE,hb,Cm,hl,hr⟩,h2,h3,h4⟩,h5⟩,hQ⟩:=hH
    have hH:Hh bq x.1 w0 tb p0 n0 fp (.node l1 y1 r1 c1) (some ⟨b,0,none⟩) w:=⟨⟨⟨DR,⟨b,av,pl,pr,fl,fr,rfl,iE,hb,Cm,hl,hr⟩,h2,h3,h4⟩,h5⟩,hQ⟩
    cases r1 with
    | nil =>
      simp only [RB.isNil,cond_true,Option.some.injEq] at hc
      subst hc
      obtain ⟨rfl,rfl⟩:=hr
      have hs:=(St.nil w).AG hb (by simp)
      refine Je ?_
      refine AF ?_
      exact ⟨none,[],rfl,⟨rfl,rfl⟩,List.nodup_nil,(fun k hk=>by cases hk),h4.step (hs.AB [] (by simp [hb]) (by simp [D0])) (by simp)⟩
    | node rl z rr rc =>
    simp only [RB.isNil,cond_false] at hc
    have LR:=hr
    obtain ⟨u,JV,UH,Pf,fll,flr,rfl,oC,JP,Mi,Gc,hlr⟩:=hr
    have RO:u≠b:=fun e=>by subst e;rw [iE,oC] at h2;simp at h2
    have hs:=((St.nil w).AG hb (by simp)).AG JP (by simpa using RO)
    refine Jb ?_
    refine Aq ?_
    refine Jl ?_
    refine B8 (fun _:Unit=>[(0,.pointer (some ⟨tb,0,none⟩)),(1,.pointer (some ⟨b,0,none⟩)),(5,.pointer (some ⟨bq,0,none⟩)),(6,.pointer none),(80,.bool (!rc && !rl.red))]) (fun _ w=>Hh bq x.1 w0 tb p0 n0 fp (.node l1 y1 (.node rl z rr rc) c1) (some ⟨b,0,none⟩) w) ?_ ?_
    ·refine Jk ?_
     have AN:AA [] w _:=hs.AB [] (by simp [hb,JP]) (by simp [D0])
     refine AW hs (h:=by exact Bc _ _ _ _ (LR.keep AN (AK.nil _) (by simp))) (k:=?_);intro w' ho hs
     rw [RB.BN]
     cases rc
     ·refine Jf ?_
      have AN:AA [] w _:=hs.AB [] (by simp [hb,JP]) (by simp [D0])
      refine AW hs (h:=by exact Bc _ _ _ _ (Gc.keep AN (AK.nil _) (by simp))) (k:=?_);intro w' ho hs
      generalize GZ:rl.red=q2
      refine Jc ?_
      exact AP () Aa (hH.only (hs.AB [] (by simp [hb,JP]) (by simp [D0])))
     ·refine Jj ?_
      exact AP () Aa (hH.only (hs.AB [] (by simp [hb,JP]) (by simp [D0])))
    clear hH hs hb hl LR JP Mi Gc hlr h2 h3 h4 h5 Cm iE oC
    rintro _ env w hH
    obtain ⟨d,hd⟩:∃ d,RB.IK (.node l1 y1 (.node rl z rr rc) c1)=some d:=by
     cases hd:RB.IK (.node l1 y1 (.node rl z rr rc) c1) with
     | none=>rw [hd] at hc;cases hc
     | some d=>exact ⟨d,rfl⟩
    rw [hd] at hc
    have hdl:=R6 hd
    rw [hul] at hdl
    refine B8 (fun s:Option Addr=>[(0,.pointer (some ⟨tb,0,none⟩)),(1,.pointer s),(5,.pointer (some ⟨bq,0,none⟩)),(6,.pointer none)]) (fun s w=>Hh bq x.1 w0 tb p0 n0 fp d s w) ?_ ?_
    ·unfold RB.IK at hd
     rw [RB.Az,RB.BN,RB.Au] at hd
     generalize hq:(!rc && !rl.red)=q at *
     cases q
     ·refine Jg ?_
      cases hd
      exact AP _ Aa hH
     ·rw [cond_true] at hd
      cases hbo:RB.both (.node l1 y1 (.node rl z rr rc) c1)
      ·rw [hbo] at hd;cases hd
      rw [hbo,cond_true] at hd
      cases hd
      obtain ⟨⟨⟨DR,h1,h2,h3,h4⟩,h5⟩,hQ⟩:=hH
      have hs:=St.nil w
      refine Ji ?_
      refine cl (h:=by exact WO tb p0 n0 _ _ _ _ h5 h1 h2 (by rw [hul];exact hlen) hbo) (k:=?_)
      rintro v w' hv
      obtain ⟨p',rfl,hH⟩:=Hh.next h1 h3 h4 h5 hQ hv
      have hs:=St.nil w'
      refine Jc ?_
      exact AP p' Aa hH
    clear hH
    rintro p2 env wB hH
    cases d with
    | nil=>cases hc
    | node l2 y2 r2 c2 =>
    simp only at hc
    obtain ⟨⟨⟨DR,⟨b,av,pl,pr,fl,fr,rfl,rfl,hb,Cm,hl,hr⟩,h2,h3,h4⟩,h5⟩,hQ⟩:=hH
    have Dw:=C2 h5 hb
    have n1:=A0 hQ hb (by decide)
    have n2:=A0 hQ h5 (by decide)
    have hs:=(((St.nil wB).AG h5 (by simp)).AG hb (by simpa using Dw)).AG hQ (by simp [n1,n2])
    rw [← hdl] at hlen
    simp only [RB.list,List.length_append,List.length_cons] at hlen
    refine Jb ?_
    refine dr [] hs (k:=?_);intro hX w hs
    refine tks 0 9 ?_
    refine dt 9 hX (k:=?_)
    refine AW hs (h:=by exact MY y2 x _) (k:=?_);intro w' ho hs
    refine Jb ?_
    refine dn (k:=?_)
    refine en (k:=?_)
    generalize iL:Cr y2 x=q3
    rw [show Cr y2 x=q3 from iL] at hc
    have AJ:AA [] wB _:=hs.AB [] (by simp [h5,hb,hQ]) (by simp [D0])
    have E5:=hl.keep AJ (AK.nil _) (by simp)
    have hrw:=hr.keep AJ (AK.nil _) (by simp)
    have Bw:=hs.get (At.tail At.head)
    have CI:=hs.get (At.tail (At.tail At.head))
    have Rn:=hs.get At.head
    have MA:=h4.step AJ (by simp)
    have xI:fr.Nodup:=by simp only [List.nodup_cons,List.nodup_append] at h2;exact h2.2.2.1
    cases q3
    ·rw [cond_false] at hc
     obtain ⟨m,hm⟩:∃ m,RB.least r2=some m:=by
      cases hm:RB.least r2 with
      | none=>rw [hm] at hc;cases hc
      | some m=>exact ⟨m,rfl⟩
     rw [hm] at hc
     obtain ⟨r',hr',rfl⟩:=Option.map_eq_some_iff.1 hc
     clear hs
     have hs:=(St.nil w').AG Bw (by simp)
     refine Jd ?_
     refine BH (fun q:Nat=>[(0,.pointer (some ⟨tb,0,none⟩)),(1,.pointer (some ⟨b,0,none⟩)),(5,.pointer (some ⟨bq,0,none⟩)),(6,.pointer none),(7,.pointer (some ⟨q,0,none⟩))]) (fun q w2=>AA [] w' w2∧q∈fr∧∃ Lx Vy Yf c',w'.heap[q]?=some (EO m Lx Vy Yf c')) ?_ ?_
     ·refine BF (fun (s:RB IT × Option Addr)=>[(0,.pointer (some ⟨tb,0,none⟩)),(1,.pointer (some ⟨b,0,none⟩)),(5,.pointer (some ⟨bq,0,none⟩)),(6,.pointer none),(7,.pointer s.2)])
       (fun s w2=>AA [] w' w2∧RB.least s.1=some m∧∃ Yb,Ad w' s.1 s.2 Yb∧∀ k∈Yb,k∈fr)
       (fun s=>s.1.list.length) (r2,pr) Aa ⟨hs.AB [] (by simp [Bw]) (by simp [D0]),hm,fr,hrw,fun k hk=>hk⟩ fun s env w2 ⟨g1,g2,Yb,g3,g4⟩=>?_
      clear hs
      obtain ⟨s,ps⟩:=s
      dsimp only at g2 g3 ⊢
      cases s with
      | nil=>cases g2
      | node sl sz sr sc =>
      obtain ⟨q,avq,pql,pqr,fql,fqr,rfl,rfl,Y9,hqa,iC,hqr⟩:=g3
      have GZ:=g1.block Y9 (by simp)
      have hs:=(St.nil w2).AG GZ (by simp)
      cases sl with
      | nil =>
        obtain ⟨rfl,rfl⟩:=iC
        simp only [RB.least,Option.some.injEq] at g2
        subst g2
        refine Jd ?_
        exact Am q Aa ⟨g1.step (hs.AB [] (by simp [GZ]) (by simp [D0])) (by simp),g4 q List.mem_cons_self,_,_,_,_,Y9⟩
      | node a1 a2 a3 a4 =>
        have aAX:=iC
        obtain ⟨_,_,_,_,_,_,rfl,_⟩:=iC
        refine Je ?_
        exact A2 (.node a1 a2 a3 a4,_) (by simp only [RB.list,List.length_append,List.length_cons];omega) Aa ⟨g1.step (hs.AB [] (by simp [GZ]) (by simp [D0])) (by simp),g2,fql,aAX,fun k hk=>g4 k (List.mem_cons_of_mem _ (List.mem_append_left _ hk))⟩
     ·clear hs
      rintro q env w2 ⟨g1,g2,avq,plq,prq,cq,g3⟩
      have Y9:q≠b:=fun e=>by subst e;simp [g2] at h2
      have Dj:=g1.block Bw (by simp)
      have GZ:=g1.block g3 (by simp)
      have hs:=((St.nil w2).AG Dj (by simp)).AG GZ (by simpa using Y9)
      repeat' (first|refine Sa ?_|(refine AU hs (k:=?_);intro w hs)|fail)
      have AN:AA [b] w2 _:=hs.AB [b] (by simp [GZ]) (by simp [D0])
      have hN:AK w2 [b]:=AK.cons Dj (AK.nil _)
      have Nd:b∉fl∧b∉fr:=by simp only [List.nodup_cons,List.mem_append,not_or] at h2;exact h2.1
      have hl3:=(E5.keep g1 (AK.nil _) (by simp)).keep AN hN (fun k hk hm=>by obtain rfl:=List.mem_singleton.1 hm;exact Nd.1 hk)
      have XU:=(hrw.keep g1 (AK.nil _) (by simp)).keep AN hN (fun k hk hm=>by obtain rfl:=List.mem_singleton.1 hm;exact Nd.2 hk)
      have GM:=hs.get (At.tail At.head)
      have Fj:=head_keep (head_keep CI g1 (AK.nil _)) AN hN
      have HM:=(MA.step g1 (by simp)).step AN (fun k hk=>by obtain rfl:=List.mem_singleton.1 hk;exact h3 k List.mem_cons_self)
      refine cl (h:=by exact SC tb p0 n0 k r2 r' pr fr _ Fj XU xI om hr') (k:=?_)
      rintro v w4 hk
      obtain ⟨p',hv⟩:∃ p',v = .pointer p':=by obtain ⟨p',_,hv,_⟩:=hk;exact ⟨p',hv⟩
      subst hv
      obtain ⟨_,_,_,_,_,_,k4⟩:=id hk
      have Rj:=head_keep Fj k4 XU.nodes
      have hb4:=k4.block GM Nd.2
      clear hs
      have hs:=(St.nil w4).AG hb4 (by simp)
      repeat' (first|refine Sa ?_|(refine st hs (k:=?_);intro w hs)|fail)
      have BJ:AA [b] w4 _:=hs.AB [b] (by simp) (by simp [D0])
      obtain ⟨Dx,s1,s2,s3,s4⟩:=Ml GM hl3 XU.nodes h2 hk BJ (hs.get At.head)
      have KI:=Ka k r2 r' hr'
      refine cl (h:=by exact Fz tb p0 n0 _ m _ c2 _ _ _ (head_keep Rj BJ (AK.cons hb4 (AK.nil _))) s1 s2 (by simp only [List.length_append,List.length_cons];omega)) (k:=?_)
      rintro v w5 hm
      have hO:=HM.step s4 h3
      have hm2:=hm.up hO (sub_up h3 s3 HM.size)
      have hs:=St.nil w5
      refine Jc ?_
      refine AF ?_
      exact hm2
    ·rw [cond_true] at hc
     obtain ⟨r',hr',rfl⟩:=Option.map_eq_some_iff.1 hc
     repeat' (first|refine Nx.h ?_|refine Et ?_|fail)
     refine dr [10] hs (k:=?_);intro hX w hs
     refine tks 0 7 ?_
     refine dt 7 hX (k:=?_)
     have AJ:AA [] wB _:=hs.AB [] (by simp [h5,hb,hQ]) (by simp [D0])
     have E5:=hl.keep AJ (AK.nil _) (by simp)
     have hrw:=hr.keep AJ (AK.nil _) (by simp)
     have Bw:=hs.get (At.tail At.head)
     have CI:=hs.get (At.tail (At.tail At.head))
     have Rn:=hs.get At.head
     have MA:=h4.step AJ (by simp)
     refine cl (h:=by exact TW tb p0 n0 x k r2 r' pr fr _ CI hrw xI om hr') (k:=?_)
     rintro v w4 hk
     obtain ⟨p',hv⟩:∃ p',v = .pointer p':=by obtain ⟨p',_,hv,_⟩:=hk;exact ⟨p',hv⟩
     subst hv
     obtain ⟨_,_,_,_,_,_,k4⟩:=id hk
     have Bl:=head_keep CI k4 hrw.nodes
     have CD:=k4.block Bw (fun h=>by simp [h] at h2)
     have hq1:=k4.block Rn (nodes_q hrw.nodes Rn)
     clear hs
     have hs:=(((St.nil w4).AG Bl (by simp)).AG CD (by simpa using Dw)).AG hq1 (by simp [n1,n2])
     refine Jb ?_
     refine dn (k:=?_)
     refine tks 8 2 ?_
     refine dt 10 hX (k:=?_)
     repeat' (first|refine Nx.h ?_|(refine st hs (k:=?_);intro w hs)|fail)
     refine dn (k:=?_)
     refine en (k:=?_)
     refine Ja ?_
     have AS:AA [b] w4 _:=hs.AB [b] (by simp [Bl,hq1]) (by simp [D0])
     obtain ⟨Dx,s1,s2,s3,s4⟩:=Ml Bw E5 hrw.nodes h2 hk AS (hs.get (At.tail At.head))
     have KI:=PD x k r2 r' hr'
     refine cl (h:=by exact Fz tb p0 n0 _ y2 _ c2 _ _ _ (head_keep Bl AS (AK.cons CD (AK.nil _))) s1 s2 (by simp only [List.length_append,List.length_cons];omega)) (k:=?_)
     rintro v w3 hm
     have hm2:=hm.up (MA.step s4 h3) (sub_up h3 s3 MA.size)
     have hs:=St.nil w3
     refine Jc ?_
     refine AF ?_
     exact hm2
   ·rw [cond_true] at hc
    cases l with
    | nil=>cases hc
    | node ll z lr lc =>
    simp only [RB.isNil,cond_false] at hc
    have hl0:=LJ
    obtain ⟨u,JV,UH,Pf,fll,flr,rfl,rfl,hu,Mi,Gc,hlr⟩:=LJ
    have RO:u≠b:=fun e=>by subst e;rw [hf] at hnd;simp at hnd
    have hs:=((St.nil w1).AG CD (by simp)).AG hu (by simpa using RO)
    repeat' (first|refine Nx.h ?_|refine Et ?_|fail)
    refine B8 (fun _:Unit=>[(0,.pointer (some ⟨tb,0,none⟩)),(1,.pointer (some ⟨b,0,none⟩)),(5,.pointer (some ⟨bq,0,none⟩)),(6,.pointer none),(34,.bool (!lc && !ll.red))]) (fun _ w=>Hh bq x.1 w0 tb p0 n0 fp (.node (.node ll z lr lc) y r c) (some ⟨b,0,none⟩) w) ?_ ?_
    ·refine Jk ?_
     have AN:AA [] w1 _:=hs.AB [] (by simp [CD,hu]) (by simp [D0])
     refine AW hs (h:=by exact Bc _ _ _ _ (hl0.keep AN (AK.nil _) (by simp))) (k:=?_);intro w' ho hs
     rw [RB.BN]
     cases lc
     ·refine Jf ?_
      have AN:AA [] w1 _:=hs.AB [] (by simp [CD,hu]) (by simp [D0])
      refine AW hs (h:=by exact Bc _ _ _ _ (Gc.keep AN (AK.nil _) (by simp))) (k:=?_);intro w' ho hs
      generalize GZ:ll.red=q2
      refine Jc ?_
      exact AP () Aa (hH.only (hs.AB [] (by simp [CD,hu]) (by simp [D0])))
     ·refine Jj ?_
      exact AP () Aa (hH.only (hs.AB [] (by simp [CD,hu]) (by simp [D0])))
    clear hH hs CD hl0 hu Mi Gc hlr Lz Bl
    rintro _ env w hH
    obtain ⟨d,hd⟩:∃ d,RB.EM (.node (.node ll z lr lc) y r c)=some d:=by
     cases hd:RB.EM (.node (.node ll z lr lc) y r c) with
     | none=>rw [hd] at hc;cases hc
     | some d=>exact ⟨d,rfl⟩
    rw [hd] at hc
    have hdl:=Ki hd
    refine B8 (fun s:Option Addr=>[(0,.pointer (some ⟨tb,0,none⟩)),(1,.pointer s),(5,.pointer (some ⟨bq,0,none⟩)),(6,.pointer none)]) (fun s w=>Hh bq x.1 w0 tb p0 n0 fp d s w) ?_ ?_
    ·unfold RB.EM at hd
     rw [RB.Au,RB.BN,RB.Au] at hd
     generalize hq:(!lc && !ll.red)=q at *
     cases q
     ·refine Jg ?_
      cases hd
      exact AP _ Aa hH
     ·rw [cond_true] at hd
      cases hbo:RB.both (.node (.node ll z lr lc) y r c)
      ·rw [hbo] at hd;cases hd
      rw [hbo,cond_true] at hd
      cases hd
      obtain ⟨⟨⟨DR,h1,h2,h3,h4⟩,h5⟩,hQ⟩:=hH
      have hs:=St.nil w
      refine Ji ?_
      refine cl (h:=by exact P6 tb p0 n0 _ _ _ _ h5 h1 h2 hlen hbo) (k:=?_)
      rintro v w' hv
      obtain ⟨p',rfl,hH⟩:=Hh.next h1 h3 h4 h5 hQ hv
      have hs:=St.nil w'
      refine Jc ?_
      exact AP p' Aa hH
    clear hH
    rintro p1 env w hH
    cases d with
    | nil=>cases hc
    | node l1 x1 r1 c1 =>
    obtain ⟨l',hl',rfl⟩:=Option.map_eq_some_iff.1 hc
    obtain ⟨⟨⟨DR,⟨b,av,pl,pr,fl,fr,rfl,rfl,hb,Cm,hl,hr⟩,h2,h3,h4⟩,h5⟩,hQ⟩:=hH
    have Dw:=C2 h5 hb
    have n1:=A0 hQ hb (by decide)
    have n2:=A0 hQ h5 (by decide)
    have hs:=(((St.nil w).AG h5 (by simp)).AG hb (by simpa using Dw)).AG hQ (by simp [n1,n2])
    rw [← hdl] at hlen
    simp only [RB.list,List.length_append,List.length_cons] at hlen
    refine Jb ?_
    refine dr [10] hs (k:=?_);intro hX wD hs
    refine tks 0 7 ?_
    refine dt 7 hX (k:=?_)
    have AJ:AA [] w _:=hs.AB [] (by simp [h5,hb,hQ]) (by simp [D0])
    have Rn:=hs.get At.head
    have E5:=hl.keep AJ (AK.nil _) (by simp)
    have hrw:=hr.keep AJ (AK.nil _) (by simp)
    have Bw:=hs.get (At.tail At.head)
    have CI:=head_keep h5 AJ (AK.nil _)
    refine cl (h:=by exact TW tb p0 n0 x k l1 l' pl fl _ CI E5 (by simp only [List.nodup_cons,List.nodup_append] at h2;exact h2.2.1) om hl') (k:=?_)
    rintro v w' hk
    obtain ⟨p',hv⟩:∃ p',v = .pointer p':=by obtain ⟨p',_,hv,_⟩:=hk;exact ⟨p',hv⟩
    subst hv
    obtain ⟨_,_,_,_,_,_,k4⟩:=id hk
    have Bl:=head_keep CI k4 E5.nodes
    have CD:=k4.block Bw (fun h=>by simp [h] at h2)
    have hq1:=k4.block Rn (nodes_q E5.nodes Rn)
    clear hs
    have hs:=(((St.nil w').AG Bl (by simp)).AG CD (by simpa using Dw)).AG hq1 (by simp [n1,n2])
    refine Jb ?_
    refine dn (k:=?_)
    refine tks 8 2 ?_
    refine dt 10 hX (k:=?_)
    repeat' (first|refine Nx.h ?_|(refine st hs (k:=?_);intro w hs)|fail)
    refine dn (k:=?_)
    refine en (k:=?_)
    refine Ja ?_
    have AS:AA [b] w' _:=hs.AB [b] (by simp [Bl,hq1]) (by simp [D0])
    obtain ⟨Dx,s1,s2,s3,s4⟩:=Ow Bw E5.nodes hrw h2 hk AS (hs.get (At.tail At.head))
    have KI:=PD x k l1 l' hl'
    refine cl (h:=by exact Fz tb p0 n0 _ x1 _ c1 _ _ _ (head_keep Bl AS (AK.cons CD (AK.nil _))) s1 s2 (by simp only [List.length_append,List.length_cons];omega)) (k:=?_)
    rintro v w3 hm
    have hO:=(h4.step AJ (by simp)).step s4 h3
    have hm2:=hm.up hO (sub_up h3 s3 (h4.step AJ (by simp)).size)
    have hs:=St.nil w3
    refine Jc ?_
    refine AF ?_
    exact hm2
abbrev Gk (b:Bool):Obj := .cells #[.bool b] 4 (0,0)
abbrev zE (tb:Nat):Obj := .cells #[.pointer (some ⟨tb,0,none⟩)] 109 (0,0)
abbrev UX (a:It):Obj := .cells #[.int .u64 a.p.t,.int .u32 a.p.r,.int .u32 a.p.w,.int .i64 a.id,.int .u64 a.d.t,.int .u32 a.d.r,.int .u32 a.d.w] 64 (0,0)
def MO (acc:Option IT) (m:IT):Option IT:=some (match acc with | none=>m | some a=>snr a m)
def JE (acc:Option IT):It:=match acc with | none => .zero | some a=>a.1
def NY (acc:Option IT) (t:RB IT):Option IT:=match all? t with | none=>acc | some a=>MO acc a
def DN (q:IT→Bool):RB IT→Option IT→Option IT
 | .nil,acc=>acc
 | .node l x r _,acc=>bif q x then DN q r (MO (NY acc l) x) else DN q l acc
theorem XO (b7 b2 b6 tb:Nat) (p:Option Addr) (n0:Int) (acc:Option IT) (m:IT) (w0:World) (h7:w0.heap[b7]?=some (Gk acc.isSome)) (h2:w0.heap[b2]?=some (zE tb)) (h6:w0.heap[b6]?=some (UX (JE acc))) (hT:w0.heap[tb]?=some (C3 p n0)) :
 AM Tryz.prog 249 #[iv m.1,.pointer (some ⟨b7,0,none⟩),.pointer (some ⟨b2,0,none⟩),.pointer (some ⟨b6,0,none⟩)] w0 fun v w'=>w'.heap[b7]?=some (Gk true)∧w'.heap[b6]?=some (UX (JE (MO acc m)))∧AA [b7,b6] w0 w':=by
 have n1:b2≠tb:=A0 h2 hT (by decide)
 have n2:b6≠tb:=A0 h6 hT (by decide)
 have n3:b7≠tb:=A0 h7 hT (by decide)
 have n4:b6≠b2:=A0 h6 h2 (by decide)
 have n5:b7≠b2:=A0 h7 h2 (by decide)
 have n6:b7≠b6:=A0 h7 h6 (by decide)
 have hs:=((((St.nil w0).AG hT (by simp)).AG h2 (by simpa using n1)).AG h6 (by simp [n2,n4])).AG h7 (by simp [n3,n5,n6])
 cases acc with
 | none =>
   refine AQ Tryz.func249 Tryz.ntmps249 (k:=?_);refine Ag ?_;refine Aq ?_;refine bx hs (k:=?_);intro bq wq Ln hs;repeat' (first|refine Sd ?_|(refine st hs (k:=?_);intro w hs)|(refine AU hs (k:=?_);intro w hs)|fail)
   refine Iu ?_
   have ho:AA [b7,b6] w0 _:=hs.AB [b7,b6] (by simp [h2,hT]) (by simp [D0])
   exact ⟨hs.get (At.tail At.head),hs.get (At.tail (At.tail At.head)),ho⟩
 | some a =>
   refine AQ Tryz.func249 Tryz.ntmps249 (k:=?_);refine Ag ?_;refine Aq ?_;refine bx hs (k:=?_);intro bq wq Ln hs;refine Je ?_
   refine dr [7] hs (k:=?_);intro hX w hs
   refine tks 0 6 ?_
   refine dt 6 hX (k:=?_)
   refine AW hs (h:=by exact JK a m _) (k:=?_);intro w' ho hs;refine Jb ?_
   refine dn (k:=?_)
   refine dt 7 hX (k:=?_)
   repeat' (first|refine Nx.h ?_|(refine AU hs (k:=?_);intro w hs)|fail)
   refine dn (k:=?_)
   refine en (k:=?_)
   repeat' (first|refine Sa ?_|(refine st hs (k:=?_);intro w hs)|(refine AU hs (k:=?_);intro w hs)|fail)
   refine Iu ?_
   have ho:AA [b7,b6] w0 _:=hs.AB [b7,b6] (by simp [h2,hT]) (by simp [D0])
   exact ⟨hs.get (At.tail At.head),hs.get (At.tail (At.tail At.head)),ho⟩
structure GL (w0:World) (tb b2 b4 b6 b7:Nat) (acc:Option IT) (w:World):Prop where
 o:AA [] w0 w
 h2:w.heap[b2]?=some (zE tb)
 h7:w.heap[b7]?=some (Gk acc.isSome)
 h6:w.heap[b6]?=some (UX (JE acc))
 h4:w.heap[b4]?=some (UX .zero)
theorem GL.only {w0 w w':World} {tb b2 b4 b6 b7:Nat} {acc:Option IT} (h:GL w0 tb b2 b4 b6 b7 acc w) (ho:AA [] w w'):GL w0 tb b2 b4 b6 b7 acc w':=by
 obtain ⟨o,h2,h7,h6,h4⟩:=h
 exact ⟨o.step ho (by simp),ho.block h2 (by simp),ho.block h7 (by simp),ho.block h6 (by simp),ho.block h4 (by simp)⟩
theorem GL.add {w0 w w':World} {tb b2 b4 b6 b7:Nat} {acc:Option IT} {m:IT} (h:GL w0 tb b2 b4 b6 b7 acc w) (g6:w0.heap.size≤b6) (g7:w0.heap.size≤b7) (Na:b4≠b6)
 (k7:w'.heap[b7]?=some (Gk true)) (k6:w'.heap[b6]?=some (UX (JE (MO acc m)))) (ho:AA [b7,b6] w w'):GL w0 tb b2 b4 b6 b7 (MO acc m) w':=by
 obtain ⟨o,h2,h7,h6,h4⟩:=h
 refine ⟨o.step ho (fun k hk=>?_),ho.block h2 (fun hm=>?_),k7,k6,ho.block h4 (fun hm=>?_)⟩
 ·simp only [List.mem_cons,List.not_mem_nil,or_false] at hk
  rcases hk with rfl | rfl
  ·exact .inr g7
  ·exact .inr g6
 ·simp only [List.mem_cons,List.not_mem_nil,or_false] at hm
  rcases hm with rfl | rfl
  ·exact A0 h2 h7 (by decide) rfl
  ·exact A0 h2 h6 (by decide) rfl
 ·simp only [List.mem_cons,List.not_mem_nil,or_false] at hm
  rcases hm with rfl | rfl
  ·exact A0 h4 h7 (by decide) rfl
  ·exact Na rfl
theorem rQ {w:World} {x:IT} {c:Bool} {b:Nat} {av:It} {pr:Option Addr} {fl:List Nat} {a1:RB IT} (hlb:w.heap[b]?=some (EO x av (some ⟨b,0,none⟩) pr c)) (Gc:Ad w a1 (some ⟨b,0,none⟩) fl):False:=by
 revert fl
 induction a1 with
 | nil=>rintro fl ⟨h,_⟩;cases h
 | node a y d e ih _ =>
   rintro fl ⟨b',Lx,Vy,Yf,Py,fr',h1,h2,h3,h4,h5,h6⟩
   cases h1
   rw [hlb] at h3
   have hp:(some ⟨b,0,none⟩:Option Addr)=Vy:=by
    injection h3 with h3;injection h3 with h3;injection h3 with h3
    simp only [List.cons.injEq,Value.pointer.injEq] at h3
    exact h3.2.2.2.2.2.2.2.2.2.2.2.2.2.2.1
   rw [← hp] at h5
   exact ih h5
theorem kL (tb:Nat) (t:RB IT) (F:List Nat) (w0:World) (h:C8 w0 tb t F) (fid:Nat) (caps:List Value) (q:IT→Bool)
 (hq:∀ (y:IT) (w:World),y∈t.list→AA [] w0 w→AM Tryz.prog fid (iv y.1 :: caps).toArray w fun v w'=>v = .bool (q y)∧AA [] w w') :
 AM Tryz.prog 240 #[.pointer (some ⟨tb,0,none⟩),.func (.func fid) #[] caps.toArray] w0 fun v w'=>v = .tuple #[iv (JE (DN q t none)),.bool (DN q t none).isSome]∧AA [] w0 w':=by
 obtain ⟨p,fp,rfl,hT,ht,hnd⟩:=h
 have hs:=(St.nil w0).AG hT (by simp)
 refine AQ Tryz.func240 Tryz.ntmps240 (k:=?_)
 refine Jb ?_
 refine Aq ?_
 refine bx hs (k:=?_);intro b2 w hz hs
 refine al hs (k:=?_);intro b4 w hz hs
 refine Jc ?_
 refine Aq ?_
 refine al hs (k:=?_);intro b6 w hz hs
 refine Jb ?_
 refine Aq ?_
 refine al hs (k:=?_);intro b7 w hz hs
 repeat' (first|refine Sd ?_|(refine st hs (k:=?_);intro w hs)|fail)
 have g2:=hs.new (b2,true) (by simp) rfl
 have g4:=hs.new (b4,true) (by simp) rfl
 have g6:=hs.new (b6,true) (by simp) rfl
 have g7:=hs.new (b7,true) (by simp) rfl
 have Na:b4≠b6:=by have:=hs.nd;simp only [List.map_cons,List.nodup_cons,List.mem_cons,not_or] at this;exact Ne.symm this.2.1.1
 have Dp:GL w0 tb b2 b4 b6 b7 none _:=⟨hs.AB [] (by simp [hT]) (by simp [D0]),hs.get (At.tail (At.tail (At.tail At.head))),hs.get At.head,hs.get (At.tail At.head),hs.get (At.tail (At.tail At.head))⟩
 refine BH (fun _:Unit=>[(4,.pointer (some ⟨b4,0,none⟩)),(6,.pointer (some ⟨b6,0,none⟩)),(7,.pointer (some ⟨b7,0,none⟩))]) (fun _ w=>GL w0 tb b2 b4 b6 b7 (DN q t none) w) ?_ ?_
 ·refine BF (fun (s:RB IT × Option Addr × Option IT)=>[(1,.func (.func fid) #[] caps.toArray),(2,.pointer (some ⟨b2,0,none⟩)),(4,.pointer (some ⟨b4,0,none⟩)),(6,.pointer (some ⟨b6,0,none⟩)),(7,.pointer (some ⟨b7,0,none⟩)),(8,.func (.func 249) #[] #[.pointer (some ⟨b7,0,none⟩),.pointer (some ⟨b2,0,none⟩),.pointer (some ⟨b6,0,none⟩)]),(9,.pointer s.2.1)])
   (fun s w=>GL w0 tb b2 b4 b6 b7 s.2.2 w∧DN q t none=DN q s.1 s.2.2∧(∀ y∈s.1.list,y∈t.list)∧∃ Yb,Ad w0 s.1 s.2.1 Yb)
   (fun s=>s.1.list.length) (t,p,none) Aa ⟨Dp,rfl,fun _ h=>h,fp,ht⟩ fun s env w2 ⟨k1,k2,k3,Yb,k4⟩=>?_
  clear hs Dp
  obtain ⟨s,ps,acc⟩:=s
  dsimp only at k1 k2 k3 k4 ⊢
  cases s with
  | nil =>
    obtain ⟨rfl,rfl⟩:=k4
    have hs:=St.nil w2
    refine Jd ?_
    exact Am () Aa (by rw [k2];exact k1.only (hs.AD rfl))
  | node l y r c =>
    obtain ⟨b,av,pl,pr,fl,fr,rfl,rfl,hb,Cm,hl,hr⟩:=k4
    have Bw:=k1.o.block hb (by simp)
    have CI:=k1.o.block hT (by simp)
    have Dw:=C2 hT hb
    have d1:b≠b2:=A0 Bw k1.h2 (by decide)
    have hs:=((St.nil w2).AG k1.h2 (by simp)).AG Bw (by simpa using d1)
    have k3l:∀ z∈l.list,z∈t.list:=fun z hz=>k3 z (by simp [RB.list,hz])
    have k3r:∀ z∈r.list,z∈t.list:=fun z hz=>k3 z (by simp [RB.list,hz])
    refine Je ?_
    have ho:=hs.AB [] (by simp [Bw,k1.h2]) (by simp [D0])
    refine AW hs (h:=by exact hq y _ (k3 y (by simp [RB.list])) (k1.o.step ho (by simp))) (k:=?_);intro w' ho hs
    cases hqy:q y
    ·have e1:DN q (.node l y r c) acc=DN q l acc:=by simp [DN,hqy]
     rw [e1] at k2
     refine Je ?_
     exact A2 (l,pl,acc) (by simp only [RB.list,List.length_append,List.length_cons];omega) Aa ⟨k1.only (hs.AB [] (by simp [Bw,k1.h2]) (by simp [D0])),k2,k3l,fl,hl⟩
    ·have e1:DN q (.node l y r c) acc=DN q r (MO (NY acc l) y):=by simp [DN,hqy]
     rw [e1] at k2
     have Cl:=k1.only (hs.AB [] (by simp [Bw,k1.h2]) (by simp [D0]))
     clear k1 Bw CI hs ho
     have aA7:∀ (w:World) (acc:Option IT),GL w0 tb b2 b4 b6 b7 acc w→b∉[b7,b6]∧tb∉[b7,b6]:=fun w acc k=>by
      have Bw:=k.o.block hb (by simp)
      have CI:=k.o.block hT (by simp)
      obtain ⟨_,_,k7,k6,_⟩:=k
      have e1:=A0 Bw k7 (by decide)
      have e2:=A0 Bw k6 (by decide)
      have e3:=A0 CI k7 (by decide)
      have e4:=A0 CI k6 (by decide)
      simp [e1,e2,e3,e4]
     have hs:=St.nil w'
     refine Jl ?_
     refine B8 (fun _:Unit=>[(1,.func (.func fid) #[] caps.toArray),(2,.pointer (some ⟨b2,0,none⟩)),(4,.pointer (some ⟨b4,0,none⟩)),(6,.pointer (some ⟨b6,0,none⟩)),(7,.pointer (some ⟨b7,0,none⟩)),(8,.func (.func 249) #[] #[.pointer (some ⟨b7,0,none⟩),.pointer (some ⟨b2,0,none⟩),.pointer (some ⟨b6,0,none⟩)]),(9,.pointer (some ⟨b,0,none⟩)),(35,.bool (!RB.isNil l))]) (fun _ w=>GL w0 tb b2 b4 b6 b7 acc w) ?_ ?_
     ·have Bw:=Cl.o.block hb (by simp)
      clear hs
      have hs:=(St.nil w').AG Bw (by simp)
      cases l with
      | nil =>
        obtain ⟨rfl,rfl⟩:=hl
        refine Ja ?_
        exact AP () Aa (Cl.only (hs.AB [] (by simp [Bw]) (by simp [D0])))
      | node a1 a2 a3 a4 =>
        obtain ⟨_,_,_,_,_,_,rfl,_⟩:=hl
        refine Ja ?_
        exact AP () Aa (Cl.only (hs.AB [] (by simp [Bw]) (by simp [D0])))
     clear Cl hs
     rintro _ env w3 Cl
     refine B8 (fun _:Unit=>[(1,.func (.func fid) #[] caps.toArray),(2,.pointer (some ⟨b2,0,none⟩)),(4,.pointer (some ⟨b4,0,none⟩)),(6,.pointer (some ⟨b6,0,none⟩)),(7,.pointer (some ⟨b7,0,none⟩)),(8,.func (.func 249) #[] #[.pointer (some ⟨b7,0,none⟩),.pointer (some ⟨b2,0,none⟩),.pointer (some ⟨b6,0,none⟩)]),(9,.pointer (some ⟨b,0,none⟩))]) (fun _ w=>GL w0 tb b2 b4 b6 b7 (NY acc l) w) ?_ ?_
     ·have Bw:=Cl.o.block hb (by simp)
      cases l with
      | nil =>
        have hs:=St.nil w3
        refine Jg ?_
        exact AP () Aa Cl
      | node a1 a2 a3 a4 =>
        obtain ⟨lb,Vv,kA,qF,qJ,p7,rfl,rfl,hlb,hlav,Gc,hlr⟩:=hl
        have S5:Vv=(KV a1 a2 a3).1:=hlav
        subst S5
        have tW:=Cl.o.block hlb (by simp)
        have aAg:lb≠b:=fun e=>by
         subst e
         rw [hlb] at hb
         have hp:(some ⟨lb,0,none⟩:Option Addr)=kA:=by
          injection hb with h3;injection h3 with h3;injection h3 with h3
          simp only [List.cons.injEq,Value.pointer.injEq] at h3
          exact h3.2.2.2.2.2.2.2.2.2.2.2.2.2.2.1.symm
         rw [← hp] at hlb Gc
         exact rQ hlb Gc
        have hs:=((St.nil w3).AG Bw (by simp)).AG tW (by simpa using aAg)
        refine Ji ?_
        have ho:=hs.AB [] (by simp [Bw,tW]) (by simp [D0])
        have DW:=Cl.only ho
        obtain ⟨o,q2,q7,q6,_⟩:=id DW
        refine cl (h:=by exact XO b7 b2 b6 tb p _ acc (KV a1 a2 a3) _ q7 q2 q6 (o.block hT (by simp))) (k:=?_)
        rintro v w4 ⟨m7,m6,mo⟩
        have hs:=St.nil w4
        refine Jb ?_
        exact AP () Aa (DW.add g6 g7 Na m7 m6 mo)
     clear Cl
     rintro _ env w4 Cl
     have Bw:=Cl.o.block hb (by simp)
     have CI:=Cl.o.block hT (by simp)
     have d2:b2≠tb:=A0 Cl.h2 CI (by decide)
     have hs:=(((St.nil w4).AG CI (by simp)).AG Cl.h2 (by simpa using d2)).AG Bw (by simp [d1,Dw])
     refine Jb ?_
     refine dr [] hs (k:=?_);intro hX w hs
     refine tks 0 9 ?_
     refine dt 9 hX (k:=?_)
     refine cl (h:=by exact H8 y.1 _) (k:=?_)
     rintro v w5 ⟨rfl,ho⟩;replace hs:=hs.AL ho
     refine Jb ?_
     refine dn (k:=?_)
     refine dt 10 hX (k:=?_)
     have DW:=Cl.only (hs.AB [] (by simp [Bw,CI,Cl.h2]) (by simp [D0]))
     obtain ⟨o,q2,q7,q6,_⟩:=id DW
     refine cl (h:=by exact XO b7 b2 b6 tb p _ (NY acc l) y _ q7 q2 q6 (o.block hT (by simp))) (k:=?_)
     rintro v6 w6 ⟨m7,m6,mo⟩
     have hn:=aA7 _ _ DW
     have MX:=DW.add g6 g7 Na m7 m6 mo
     have GM:=MX.o.block hb (by simp)
     have Fj:=MX.o.block hT (by simp)
     clear hs
     have hs:=(((St.nil w6).AG Fj (by simp)).AG MX.h2 (by simpa using d2)).AG GM (by simp [d1,Dw])
     refine Jb ?_
     refine dn (k:=?_)
     refine en (k:=?_)
     refine Ja ?_
     exact A2 (r,pr,MO (NY acc l) y) (by simp only [RB.list,List.length_append,List.length_cons];omega) Aa ⟨MX.only (hs.AB [] (by simp [GM,Fj,MX.h2]) (by simp [D0])),k2,k3r,fr,hr⟩
 ·rintro _ env w ⟨o,k2,k7,k6,k4⟩
  clear hs Dp
  have d1:b7≠b6:=A0 k7 k6 (by decide)
  have d2:b7≠b4:=A0 k7 k4 (by decide)
  have hs:=(((St.nil w).AG k4 (by simp)).AG k6 (by simpa using Ne.symm Na)).AG k7 (by simp [d1,d2])
  refine Jb ?_
  have hR:∀ {w'':World} {o:Obj},St w D0 [(b7,Gk (DN q t none).isSome,false),(b6,UX (JE (DN q t none)),false),(b4,o,false)] w''→True=True→Ew [(b7,Gk (DN q t none).isSome,false),(b6,UX (JE (DN q t none)),false)] w'':=fun hs _ e he=>hs.at_ e (by
   simp only [List.mem_cons,List.not_mem_nil,or_false] at he ⊢
   rcases he with he | he
   ·exact .inl he
   ·exact .inr (.inl he))
  refine p8 [] [(b7,Gk (DN q t none).isSome,false),(b6,UX (JE (DN q t none)),false)] hs (k:=?_);intro hX w hs
  refine tks 0 2 ?_
  refine dt 2 hX (k:=?_)
  repeat' (first|refine Nx.h ?_|(refine AU hs (k:=?_);intro w hs)|fail)
  refine dn (k:=?_)
  refine tk 3 hX (k:=?_)
  refine en (k:=?_)
  refine Jb ?_
  refine AF ?_
  have ho:=hs.AB [b4] (by simp [k6,k7]) (by simp [D0])
  exact ⟨rfl,o.step ho (by simp [g4])⟩
end Go.Proofs.Q0.IB
namespace Go.Proofs.Q0
open Go Go.RowKit
attribute [local irreducible] XS XC XA AX AO A6 AZ AY A7 Ab AV SE
theorem xO:TT (-7) 2 = .tuple #[wv (-4),.int .u64 1,.bool true]:=by kernel_rfl
theorem sK:EN (9223372036854775808*2) = .tuple #[wv 18446744073709551616,.bool true]:=by kernel_rfl
theorem aQ (w0:World):AM Tryz.prog 321 #[] w0 fun v w'=>v = .bool true∧AA [] w0 w':=by
 have hs:=St.nil w0
 refine AQ Tryz.func321 Tryz.ntmps321 (k:=?_)
 refine Ja ?_
 refine AW hs (h:=by exact Fg (-7) (by decide) (by decide) _) (k:=?_);intro w' ho hs
 skip
 refine AW hs (h:=by exact Yp (-7) 2 (by decide) (by decide) (by decide) _) (k:=?_);intro w' ho hs
 rw [xO]
 repeat' (first|refine Sa ?_|(refine AU hs (k:=?_);intro w hs)|(refine al hs (k:=?_);intro b w hz hs)|fail)
 refine AW hs (h:=by exact P3 9223372036854775808 (by decide) (by decide) _) (k:=?_);intro w' ho hs
 skip
 refine AW hs (h:=by exact PF 9223372036854775808 2 (by decide) (by decide) (by decide) _) (k:=?_);intro w' ho hs
 rw [sK]
 repeat' (first|refine Sb ?_|(refine AU hs (k:=?_);intro w hs)|(refine al hs (k:=?_);intro b w hz hs)|fail)
 refine dr [] hs (k:=?_);intro hX w hs
 refine tks 0 6 ?_
 refine dt 6 hX (k:=?_)
 refine AW hs (h:=by exact Fg (-4) (by decide) (by decide) _) (k:=?_);intro w' ho hs
 refine Jb ?_
 refine dn (k:=?_)
 refine tks 7 12 ?_
 refine en (k:=?_)
 refine Jb ?_
 refine AF ?_
 exact ⟨rfl,hs.AD rfl⟩
theorem Xv (s:Int):(A9 s∧EN s = .tuple #[wv s,.bool true])∨(¬ A9 s∧EN s = .tuple #[wv 0,.bool false]):=by
 unfold EN
 by_cases h:A9 s
 ·rw [if_pos h];exact .inl ⟨h,rfl⟩
 ·rw [if_neg h];exact .inr ⟨h,rfl⟩
theorem rB {x y:Int}:0 < CZ x y↔y < x:=by unfold CZ;repeat' split <;> omega
theorem rO {x y:Int}:CZ x y < 0↔x < y:=by unfold CZ;repeat' split <;> omega
theorem step_ret (a n d r:Int) (ha:BV a) (hn:BV n) (hd:BV d) (hr:0≤r) (hrd:r < d) (hp:a*n+r < 18446744073709551616) (iY:0≤a*n) (w0:World) :
 AM Tryz.prog 318 #[.int .u64 a,.int .u64 n,.int .u64 d,.int .u64 r] w0 fun v w'=>v = .tuple #[.int .u64 ((a*n+r) / d),.int .u64 ((a*n+r) % d),.bool true]∧AA [] w0 w':=by
 have hs:=St.nil w0
 obtain ⟨ha0,ha1⟩:=ha
 obtain ⟨hn0,Lc⟩:=hn
 obtain ⟨hd0,hd1⟩:=hd
 have e1:a*n / 18446744073709551616=0:=by omega
 have e2:a*n % 18446744073709551616=a*n:=by omega
 have e3:(a*n+r+0) / 18446744073709551616=0:=by omega
 have e4:(a*n+r+0) % 18446744073709551616=a*n+r:=by omega
 refine AQ Tryz.func318 Tryz.ntmps318 (k:=?_)
 repeat' (first|refine Sa ?_|refine Av rfl (fun hc=>?_) fun hc=>?_|fail)
 ·omega
 ·refine cl (h:=by exact Oa a n ha0 ha1 hn0 Lc _) (k:=?_)
  rw [e1,e2]
  rintro v w' ⟨rfl,ho⟩;replace hs:=hs.AL ho;refine Ja ?_
  refine cl (h:=by exact I2 (a*n) r 0 iY hr (by decide) (by decide) _) (k:=?_)
  rw [e3,e4]
  rintro v w' ⟨rfl,rfl⟩
  repeat' (first|refine Sa ?_|refine Av rfl (fun hc=>?_) fun hc=>?_|fail)
  ·simp only [wrap_u64] at hc
   omega
  ·refine AW hs (h:=by exact OA 0 (a*n+r) d (by decide) om hd1 om hp _) (k:=?_);intro w' ho hs;refine Ja ?_
   refine AF ?_
   refine ⟨?_,hs.AD rfl⟩
   rw [Int.zero_mul,Int.zero_add]
   rfl
theorem jK (sl:Value) (w0:World) (hL:C1 w0 22 1 sl [[.int .u64 1],[.int .u64 1],[.int .u64 1]]) :
 AM Tryz.prog 319 #[.int .u64 1,.int .u64 3,.int .u64 0,sl] w0 fun v w'=>v = .tuple #[.int .u64 1,.int .u64 0,.bool true]∧AA [] w0 w':=by
 obtain ⟨ad,cap,rfl,hD⟩:=hL
 obtain ⟨b,off,cs,fz,rfl,_,hb,hcs⟩:=hD (by simp)
 have hs:=St.nil w0
 refine AQ Tryz.func319 Tryz.ntmps319 (k:=?_)
 refine Jd ?_
 refine BH (fun (_:Unit)=>[(8,.int .u64 1),(2,.int .u64 0)]) (fun _ w=>St w0 D0 [] w) ?_ ?_
 ·refine BF (fun (i:Nat)=>[(0,.int .u64 1),(1,.int .u64 3),(2,.int .u64 ((i % 3:Nat):Int)),(8,.int .u64 ((i / 3:Nat):Int)),(21,.slice (some ⟨b,off,none⟩) 3 cap),(22,.int .i64 (3:Nat)),(23,.int .i64 (i:Nat))])
   (fun i w=>i≤3∧St w0 D0 [] w) (fun i=>3 - i) 0 Aa ⟨Nat.zero_le _,hs⟩ fun i env w ⟨hi,hs⟩=>?_
  repeat' (first|refine Sa ?_|refine Av rfl (fun hc=>?_) fun hc=>?_|fail)
  ·have hlt:i < 3:=by omega
   have hpk:De cs (off+i*1) 1 [.int .u64 1]:=by
    have:i=0∨i=1∨i=2:=by omega
    rcases this with rfl | rfl | rfl <;> exact hcs _ _ rfl
   have ei:=DH (m:=3) hlt om
   refine ix (h0:=(by omega)) (h1:=(by omega)) (k:=?_)
   refine lh ((hs.AD rfl).block hb (by simp)) (by cases hpk;assumption) (k:=?_)
   refine Ja ?_
   refine AW hs (h:=by exact step_ret 1 1 3 ((i % 3:Nat):Int) (by decide) (by decide) (by decide) om om om (by decide) _) (k:=?_);intro w' ho hs;refine Ja ?_
   refine cl (h:=by exact I2 ((i / 3:Nat):Int) ((1*1+((i % 3:Nat):Int)) / 3) 0 om om (by decide) (by decide) _) (k:=?_)
   rintro v w' ⟨rfl,rfl⟩
   repeat' (first|refine Sa ?_|refine xc_cond rfl (fun hc=>?_) fun hc=>?_|fail)
   ·simp only [bne_iff_ne,ne_eq] at hc
    omega
   ·have e5:(((i / 3:Nat):Int)+(1*1+((i % 3:Nat):Int)) / 3+0) % 18446744073709551616=(((i+1) / 3:Nat):Int):=by omega
    have e6:(1*1+((i % 3:Nat):Int)) % 3=(((i+1) % 3:Nat):Int):=by omega
    exact A2 (i+1) om (by (repeat (first | exact Ac | (apply A5;first | exact rfl | exact congrArg (Value.int .i64) ei | exact congrArg (Value.int .u64) e5 | exact congrArg (Value.int .u64) e6)))) ⟨by omega,hs⟩
  ·have e:i=3:=by omega
   subst e
   exact Am () Aa hs
 ·rintro _ env w hs
  refine Ja ?_
  refine AF ?_
  exact ⟨rfl,hs.AD rfl⟩
theorem SA (w0:World):AM Tryz.prog 320 #[] w0 fun v w'=>v = .bool true∧AA [] w0 w':=by
 have hs:=St.nil w0
 refine AQ Tryz.func320 Tryz.ntmps320 (k:=?_)
 refine Ja ?_
 refine AW hs (h:=by exact aQ _) (k:=?_);intro w' ho hs;refine Jc ?_
 refine AF ?_
 exact ⟨rfl,hs.AD rfl⟩
theorem cC (w0:World):AM Tryz.prog 311 #[] w0 fun v w'=>v = .bool true∧AA [] w0 w':=by
 have hs:=St.nil w0
 refine AQ Tryz.func311 Tryz.ntmps311 (k:=?_)
 refine Ja ?_
 refine AW hs (h:=by exact step_ret 3 5 4 1 (by decide) (by decide) (by decide) (by decide) (by decide) (by decide) (by decide) _) (k:=?_);intro w' ho hs;repeat' (first|refine Sa ?_|(refine bs hs (k:=?_);intro b w hz hs)|fail)
 have hb:=hs.get At.head
 (with_reducible apply Kp);exact rfl;exact rfl;exact jK _ _ ⟨some ⟨_,0,none⟩,3,rfl,fun _=>⟨_,0,_,(0,0),rfl,by decide,hb,fun i x h=>(by
  have:i=0∨i=1∨i=2:=by
   rcases Nat.lt_or_ge i 3 with h' | h'
   ·omega
   ·rw [List.getElem?_eq_none (by simp;omega)] at h;cases h
  rcases this with rfl | rfl | rfl <;> (cases h;exact .cons rfl .nil))⟩⟩
 rintro v w' ⟨rfl,ho⟩;replace hs:=hs.AL ho;refine Ja ?_
 refine AW hs (h:=by exact SA _) (k:=?_);intro w' ho hs;refine Jc ?_
 refine AF ?_
 exact ⟨rfl,hs.AD rfl⟩
theorem Z3 (w0:World):AM Tryz.prog 308 #[] w0 fun v w'=>v = .bool true∧AA [] w0 w':=by
 have hs:=St.nil w0
 refine AQ Tryz.func308 Tryz.ntmps308 (k:=?_)
 refine Ja ?_
 refine AW hs (h:=by exact cC _) (k:=?_);intro w' ho hs;refine Jc ?_
 refine AF ?_
 exact ⟨rfl,hs.AD rfl⟩
theorem bJ (w0:World):AM Tryz.prog 312 #[] w0 fun v w'=>v = .bool true∧AA [] w0 w':=by
 have hs:=St.nil w0
 refine AQ Tryz.func312 Tryz.ntmps312 (k:=?_)
 refine Ja ?_
 refine AW hs (h:=by exact SA _) (k:=?_);intro w' ho hs;refine Jf ?_
 refine cl (h:=by exact I5 _ _ _) (k:=?_)
 rw [show sn 2 18446744073709551615=3 from by decide]
 rintro v w' ⟨rfl,ho⟩;replace hs:=hs.AL ho;refine Jc ?_
 refine AF ?_
 exact ⟨rfl,hs.AD rfl⟩
theorem ZR (w0:World):AM Tryz.prog 309 #[] w0 fun v w'=>v = .bool true∧AA [] w0 w':=by
 have hs:=St.nil w0
 refine AQ Tryz.func309 Tryz.ntmps309 (k:=?_)
 refine Ja ?_
 refine AW hs (h:=by exact bJ _) (k:=?_);intro w' ho hs;refine Jc ?_
 refine AF ?_
 exact ⟨rfl,hs.AD rfl⟩
theorem aU (w0:World):AM Tryz.prog 297 #[] w0 fun v w'=>v = .bool true∧AA [] w0 w':=by
 have hs:=St.nil w0
 refine AQ Tryz.func297 Tryz.ntmps297 (k:=?_)
 refine Ja ?_
 refine cl (h:=by exact Qp ⟨5,0,3⟩ 7 (by decide) (by decide) _) (k:=?_)
 rw [show MJ ⟨5,0,3⟩ 7=some ⟨7,1,3⟩ from by decide]
 rintro v w' ⟨rfl,ho⟩;replace hs:=hs.AL ho;repeat' (first|refine Sa ?_|(refine AU hs (k:=?_);intro w hs)|(refine al hs (k:=?_);intro b w hz hs)|fail)
 refine AW hs (h:=by exact Z3 _) (k:=?_);intro w' ho hs;refine Jf ?_
 refine AW hs (h:=by exact ZR _) (k:=?_);intro w' ho hs;refine Jc ?_
 refine AF ?_
 exact ⟨rfl,hs.AD rfl⟩
theorem Z5 (w0:World):AM Tryz.prog 288 #[] w0 fun v w'=>v = .bool true∧AA [] w0 w':=by
 have hs:=St.nil w0
 refine AQ Tryz.func288 Tryz.ntmps288 (k:=?_)
 refine Ja ?_
 refine AW hs (h:=by exact aU _) (k:=?_);intro w' ho hs;refine Jc ?_
 refine AF ?_
 exact ⟨rfl,hs.AD rfl⟩
theorem Zq (w0:World):AM Tryz.prog 282 #[] w0 fun v w'=>v = .bool true∧AA [] w0 w':=by
 have hs:=St.nil w0
 refine AQ Tryz.func282 Tryz.ntmps282 (k:=?_)
 repeat' (first|refine Sa ?_|(refine st hs (k:=?_);intro w hs)|(refine AU hs (k:=?_);intro w hs)|(refine al hs (k:=?_);intro b w hz hs)|fail)
 refine AW hs (h:=by exact Z5 _) (k:=?_);intro w' ho hs;refine Jf ?_
 refine cl (h:=by exact TV ⟨⟨1,0,1⟩,1,⟨2,0,1⟩⟩ ⟨⟨1,0,1⟩,2,⟨2,0,1⟩⟩ (by decide) (by decide) _) (k:=?_)
 rw [show due ⟨⟨1,0,1⟩,1,⟨2,0,1⟩⟩ ⟨⟨1,0,1⟩,2,⟨2,0,1⟩⟩=true from by decide]
 rintro v w' ⟨rfl,ho⟩;replace hs:=hs.AL ho;refine Jf ?_
 refine cl (h:=by exact TV ⟨⟨1,0,1⟩,2,⟨2,0,1⟩⟩ ⟨⟨1,0,1⟩,1,⟨2,0,1⟩⟩ (by decide) (by decide) _) (k:=?_)
 rw [show due ⟨⟨1,0,1⟩,2,⟨2,0,1⟩⟩ ⟨⟨1,0,1⟩,1,⟨2,0,1⟩⟩=false from by decide]
 rintro v w' ⟨rfl,ho⟩;replace hs:=hs.AL ho;refine Jc ?_
 refine AF ?_
 exact ⟨rfl,hs.AD rfl⟩
theorem Zr (w0:World):AM Tryz.prog 279 #[] w0 fun v w'=>v = .bool true∧AA [] w0 w':=by
 have hs:=St.nil w0
 refine AQ Tryz.func279 Tryz.ntmps279 (k:=?_)
 refine Ja ?_
 refine AW hs (h:=by exact Zq _) (k:=?_);intro w' ho hs;refine Jc ?_
 refine AF ?_
 exact ⟨rfl,hs.AD rfl⟩
end Go.Proofs.Q0
