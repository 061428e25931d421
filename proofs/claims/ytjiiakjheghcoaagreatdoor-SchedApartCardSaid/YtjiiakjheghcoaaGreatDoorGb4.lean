/- A part of the proof: what its functions compute. -/
import Derived.Test.YtjiiakjheghcoaaGreatDoorGb3
set_option linter.unusedVariables false
set_option linter.unusedSimpArgs false
set_option maxRecDepth 100000
set_option maxHeartbeats 64000000
set_option linter.unusedSectionVars false
namespace Go.Proofs.Q0
open Go Go.RowKit
attribute [local irreducible] XS XC XA AX AO A7 A0 AZ A8 Aa AV SE
theorem Ba.app {w w':World} {v':Value} {xs:List Int} {x:Int} {G:List Nat} (h:Ba w 3 1 v' (xs.length+1) (ints xs ++ [.int .i64 x]) G):Ba w 3 1 v' (xs ++ [x]).length (ints (xs ++ [x])) G:=by
 rw [List.length_append,← jW]
 exact h
theorem GA:∀ (t:RB Int) (p:Option Addr) (v0:Value) (xs:List Int) (G:List Nat) (w0:World) (h:Fl w0 t p) (hO:Ba w0 3 1 v0 xs.length (ints xs) G) (hlen:xs.length+t.list.length≤1000000),
 AM Tryz.prog 304 #[.pointer p,v0] w0 fun v w'=>∃ G',Ba w' 3 1 v (xs ++ t.list).length (ints (xs ++ t.list)) G'∧(∀ k∈G',k∈G∨w0.heap.size≤k)∧AA G w0 w'
 | .nil,p,v0,xs,G,w0,h,hO,hlen=>by
   have hp:p=none:=h
   subst hp
   have hs:=St.nil w0
   refine AQ Tryz.func304 Tryz.ntmps304 (k:=?_)
   refine Je ?_
   refine AF ?_
   have ho:=hs.AD rfl
   rw [show xs ++ RB.nil.list=xs from List.append_nil xs]
   exact ⟨G,hO.keep ho (by simp),fun k hk => .inl hk,ho.weaken (by simp)⟩
 | .node l x r c,p,v0,xs,G,w0,⟨b,av,pl,pr,hp,hb,hl,hr⟩,hO,hlen=>by
   subst hp
   simp only [RB.list,List.length_append,List.length_cons] at hlen
   have hs:=(St.nil w0).AG hb (by simp)
   refine AQ Tryz.func304 Tryz.ntmps304 (k:=?_)
   refine Jd ?_
   refine dr [] hs (k:=?_);intro hX w hs
   refine tks 0 9 ?_
   refine tks 10 4 ?_
   have fin:∀ (b2:Nat) (w3:World) (v1:Value) (G1:List Nat) (LW:Ba w3 3 1 v1 (xs ++ l.list).length (ints (xs ++ l.list)) G1) (MW:∀ k∈G1,k∈G∨w0.heap.size≤k) (AT:AA G w0 w3) (Dv:w3.heap[b2]?=some (.cells #[.int .i64 x] 3 (0,0))) (v2:Value) (w4:World) (h4:(∃ G',Ba w4 3 1 v2 ((xs ++ l.list).length+1) (ints (xs ++ l.list) ++ [.int .i64 x]) G'∧∀ i∈G',i∈G1∨w3.heap.size≤i)) (Ao:AA G1 w3 w4),
    AA G w0 w4∧∃ G2,Ba w4 3 1 v2 (xs ++ l.list ++ [x]).length (ints (xs ++ l.list ++ [x])) G2∧(∀ k∈G2,k∈G∨w0.heap.size≤k)∧Fl w4 r pr∧w4.heap[b]?=some (EO x av pl pr c):=by
    intro b2 w3 v1 G1 LW MW AT Dv v2 w4 ⟨G2,Jv,Ju⟩ Ao
    have hsz:=AT.size
    have hn:=hO.Nh
    have Le:=LW.Nh
    have GR:=AT.block hb (fun hm=>hn b hm _ _ hb)
    refine ⟨AT.step Ao MW,G2,Ba.app (w':=w4) Jv,fun k hk=>?_,((hr.keep AT hn).keep Ao Le),Ao.block GR (fun hm=>Le b hm _ _ GR)⟩
    rcases Ju k hk with h | h
    ·exact MW k h
    ·exact .inr om
   have hn:=hO.Nh
   have Yp:b∉G:=fun hm=>hn b hm _ _ hb
   have AJ:AA [] w0 _:=hs.AB [] (by simp [hb]) (by simp [D0])
   refine HL 9 14 hX (h1:=?_) (h2:=?_)
   ·refine cl (h:=by exact GA l pl v0 xs G _ (hl.keep AJ (fun b h=>by cases h)) (hO.keep AJ (by simp)) om) (k:=?_)
    rintro v1 w1 ⟨G1,LW,MW,AN⟩
    have AT:AA G w0 w1:=(AJ.weaken (by simp)).step AN (fun k hk => .inl hk)
    have hsz:=AJ.size
    have CD:=AT.block hb Yp
    clear hs
    have hs:=(St.nil w1).AG CD (by simp)
    refine Jb ?_
    refine dn (k:=?_)
    refine dt 14 hX (k:=?_)
    refine bs hs (k:=?_);intro b2 w2 MK hs
    refine Jb ?_
    refine dn (k:=?_)
    refine dt 15 hX (k:=?_)
    have hnew:=hs.new (b2,true) (by simp) rfl
    have Ao:AA [] w1 w2:=hs.AB [] (by simp [CD]) (by simp [D0])
    have yH:=LW.keep Ao (by simp)
    have Dv:=hs.get At.head
    have BK:AA G w0 w2:=AT.step Ao (by simp)
    refine CM AI rfl rfl rfl rfl rfl rfl rfl (by decide) (lit_cells (news:=[.int .i64 x]) Dv) (by simp [Value.oneCell']) yH (by simp only [List.length_append];omega) (by simp only [List.length_append];omega) ?_
    intro v2 w3 h3 Ak
    obtain ⟨C1,G2,Jv,Ju,Ra,GR⟩:=fin b2 w2 v1 G1 yH (fun k hk=>by rcases MW k hk with h | h;exact .inl h;exact .inr om) BK Dv v2 w3 h3 Ak
    clear hs
    have hs:=(St.nil w3).AG GR (by simp)
    refine Jb ?_
    refine dn (k:=?_)
    refine dt 16 hX (k:=?_)
    refine cl (h:=by exact GA r pr v2 (xs ++ l.list ++ [x]) G2 _ Ra Jv (by simp only [List.length_append,List.length_cons,List.length_nil];omega)) (k:=?_)
    rintro v3 w4 ⟨G3,HB,N4,E3⟩
    have hb4:=E3.block GR (fun hm=>Jv.Nh b hm _ _ GR)
    clear hs
    have hs:=(St.nil w4).AG hb4 (by simp)
    refine Jb ?_
    refine dn (k:=?_)
    refine tk 17 hX (k:=?_)
    refine en (k:=?_)
    refine Jb ?_
    refine AF ?_
    rw [show xs ++ l.list ++ [x] ++ r.list=xs ++ (RB.node l x r c).list by simp [RB.list]] at HB
    have xE:=C1.size
    have MO:AA [] w4 _:=hs.AB [] (by simp [hb4]) (by simp [D0])
    exact ⟨G3,HB.keep MO (by simp),fun k hk=>by rcases N4 k hk with h | h;exact Ju k h;exact .inr om,(C1.step E3 Ju).step MO (by simp)⟩
   ·refine bs hs (k:=?_);intro b2 w2 MK hs
    refine Jb ?_
    refine dn (k:=?_)
    refine dt 9 hX (k:=?_)
    have hnew:=hs.new (b2,true) (by simp) rfl
    have Ao:AA [] w0 w2:=hs.AB [] (by simp [hb]) (by simp [D0])
    have Dv:=hs.get At.head
    refine cl (h:=by exact GA l pl v0 xs G _ (hl.keep Ao (fun b h=>by cases h)) (hO.keep Ao (by simp)) om) (k:=?_)
    rintro v1 w1 ⟨G1,LW,MW,AN⟩
    have AT:AA G w0 w1:=(Ao.weaken (by simp)).step AN (fun k hk => .inl hk)
    have hsz:=Ao.size
    have CD:=AT.block hb Yp
    have yS:=AN.block Dv (fun hm=>by have:=hO.lt b2 hm;omega)
    clear hs
    have hs:=(St.nil w1).AG CD (by simp)
    refine Jb ?_
    refine dn (k:=?_)
    refine dt 15 hX (k:=?_)
    refine CM AI rfl rfl rfl rfl rfl rfl rfl (by decide) (lit_cells (news:=[.int .i64 x]) yS) (by simp [Value.oneCell']) LW (by simp only [List.length_append];omega) (by simp only [List.length_append];omega) ?_
    intro v2 w3 h3 Ak
    obtain ⟨C1,G2,Jv,Ju,Ra,GR⟩:=fin b2 w1 v1 G1 LW (fun k hk=>by rcases MW k hk with h | h;exact .inl h;exact .inr om) AT yS v2 w3 h3 Ak
    clear hs
    have hs:=(St.nil w3).AG GR (by simp)
    refine Jb ?_
    refine dn (k:=?_)
    refine dt 16 hX (k:=?_)
    refine cl (h:=by exact GA r pr v2 (xs ++ l.list ++ [x]) G2 _ Ra Jv (by simp only [List.length_append,List.length_cons,List.length_nil];omega)) (k:=?_)
    rintro v3 w4 ⟨G3,HB,N4,E3⟩
    have hb4:=E3.block GR (fun hm=>Jv.Nh b hm _ _ GR)
    clear hs
    have hs:=(St.nil w4).AG hb4 (by simp)
    refine Jb ?_
    refine dn (k:=?_)
    refine tk 17 hX (k:=?_)
    refine en (k:=?_)
    refine Jb ?_
    refine AF ?_
    rw [show xs ++ l.list ++ [x] ++ r.list=xs ++ (RB.node l x r c).list by simp [RB.list]] at HB
    have xE:=C1.size
    have MO:AA [] w4 _:=hs.AB [] (by simp [hb4]) (by simp [D0])
    exact ⟨G3,HB.keep MO (by simp),fun k hk=>by rcases N4 k hk with h | h;exact Ju k h;exact .inr om,(C1.step E3 Ju).step MO (by simp)⟩
theorem O5 (tb:Nat) (t:RB Int) (F:List Nat) (w0:World) (h:C6 w0 tb t F) (hlen:t.list.length≤1000000) :
 AM Tryz.prog 291 #[.pointer (some ⟨tb,0,none⟩)] w0 fun v w'=>HC w' v t.list∧AA [] w0 w':=by
 obtain ⟨p,fp,rfl,hT,ht,hnd⟩:=h
 have hs:=(St.nil w0).AG hT (by simp)
 refine AQ Tryz.func291 Tryz.ntmps291 (k:=?_)
 refine Jd ?_
 refine cl (h:=by exact GA t p _ [] [] _ (ht.shape.keep (hs.AB [] (by simp [hT]) (by simp [D0])) (fun b h=>by cases h)) (.inl ⟨rfl,rfl,rfl,rfl⟩) (by simpa using hlen)) (k:=?_)
 rintro v w' ⟨G,hO,_,ho⟩
 replace hs:=hs.AK ho
 rw [List.nil_append] at hO
 obtain ⟨ad,cap,rfl,hd⟩:=hO.dat
 obtain ⟨R,hs,hd⟩:=(show HC w' (.slice ad t.list.length cap) t.list from ⟨ad,cap,rfl,hd⟩).read hs rfl
 refine Jc ?_
 refine AF ?_
 exact ⟨(hd _ (fun e he=>hs.ro e (by simp [he]))),hs.AB [] (by simp [hT]) (by simp [D0])⟩
theorem Uu {A B:List Int} {i:Nat} (h:A.take i=B.take i) (hA:i < A.length) (hB:i < B.length) (he:A[i]=B[i]):A.take (i+1)=B.take (i+1):=by
 rw [List.take_add_one,List.take_add_one,h,List.getElem?_eq_getElem hA,List.getElem?_eq_getElem hB,he]
theorem s6 {i m:Nat} (h:i < m) (hm:m≤9223372036854775807):IntKind.i64.wrap ((i:Int)+1)=((i+1:Nat):Int):=by
 have e1:(i:Int)+1=((i+1:Nat):Int):=by omega
 rw [e1]
 exact KB om om
theorem dQ (va vb:Value) (A B:List Int) (hm:A.length≤9223372036854775807) (w0:World) (hA:HC w0 va A) (hB:HC w0 vb B) :
 AM Tryz.prog 23 #[va,vb] w0 fun v w'=>v = .bool (decide (A=B))∧AA [] w0 w':=by
 obtain ⟨SD,ca,rfl,hA⟩:=hA
 obtain ⟨SU,cb,rfl,hB⟩:=hB
 have hs:=St.nil w0
 refine AQ Tryz.func23 Tryz.ntmps23 (k:=?_)
 repeat' (first|refine Sa ?_|refine xc_cond rfl (fun hc=>?_) fun hc=>?_|fail)
 ·refine AF ?_
  refine ⟨congrArg Value.bool ?_,hs.AD rfl⟩
  have hne:A≠B:=fun e=>by subst e;simp at hc
  exact (decide_eq_false hne).symm
 ·have IX:A.length=B.length:=by
   have h:((A.length:Nat):Int)=B.length:=by simpa using hc
   omega
  refine BN (fun _:Unit=>[]) (fun _ w=>A=B∧AA [] w0 w) ?_ ?_
  ·refine BD (fun (i:Nat)=>[(0,.slice SD A.length ca),(1,.slice SU B.length cb),(12,.int .i64 (A.length:Nat)),(13,.int .i64 (i:Nat))])
    (fun i w=>i≤A.length∧A.take i=B.take i∧AA [] w0 w)
    (fun i=>A.length - i) 0 Ab ⟨Nat.zero_le _,by simp,hs.AD rfl⟩ fun i env w ⟨hi,ht,ho⟩=>?_
   clear hs
   have hs:=St.nil w
   repeat' (first|refine Sa ?_|refine Au rfl (fun hc=>?_) fun hc=>?_|fail)
   ·have hlt:i < A.length:=by omega
    have IA:i < B.length:=by omega
    obtain ⟨ba,oa,gJ,fa,rfl,a2,a3,a4⟩:=hA (fun h=>by subst h;simp at hlt)
    obtain ⟨bb,ob,fH,fb,rfl,b2,b3,b4⟩:=hB (fun h=>by subst h;simp at IA)
    have ga:=a4 i _ (List.getElem?_eq_getElem hlt)
    have gb:=b4 i _ (List.getElem?_eq_getElem IA)
    have a3:=ho.block a3 (by simp)
    have b3:=ho.block b3 (by simp)
    have key:A[i]=B[i]→A.take (i+1)=B.take (i+1):=Uu ht hlt IA
    have Ij:A[i]≠B[i]→A≠B:=fun h e=>h (by subst e;rfl)
    have ei:=s6 hlt hm
    have ga':gJ[oa+((i:Nat):Int).toNat*1]?=some (.int .i64 A[i]):=by simpa using ga
    have gb':fH[ob+((i:Nat):Int).toNat*1]?=some (.int .i64 B[i]):=by simpa using gb
    generalize A[i]=x at *
    generalize B[i]=y at *
    by_cases e:ba=bb
    ·subst e
     rw [a3] at b3
     cases b3
     replace hs:=hs.AG a3 (by simp)
     refine dr [] hs (k:=?_);intro hX w hs
     refine tks 0 2 ?_
     refine tk 2 hX (hr:=fun w' hH=>BG AI rfl rfl rfl om om) (k:=?_)
     refine tk 3 hX (v := .int .i64 x) (hr:=fun w' hH=>r_load AI rfl rfl (hH rfl) At.head ga') (k:=?_)
     refine tks 4 2 ?_
     refine tk 6 hX (hr:=fun w' hH=>BG AI rfl rfl rfl om om) (k:=?_)
     refine tk 7 hX (v := .int .i64 y) (hr:=fun w' hH=>r_load AI rfl rfl (hH rfl) At.head gb') (k:=?_)
     refine tk 8 hX (k:=?_)
     refine en (k:=?_)
     repeat' (first|refine Sa ?_|refine xc_cond rfl (fun hc=>?_) fun hc=>?_|fail)
     ·refine AF ?_
      exact ⟨congrArg Value.bool (decide_eq_false (Ij (by simpa using hc))).symm,ho.step (hs.AB [] (by simp [a3]) (by simp [D0])) (by simp)⟩
     ·exact A2 (i+1) om (by (repeat (first | exact Ac | (apply A5;first | exact rfl | exact congrArg (Value.int .i64) ei)))) ⟨by omega,key (by simpa using hc),ho.step (hs.AB [] (by simp [a3]) (by simp [D0])) (by simp)⟩
    ·replace hs:=(hs.AG a3 (by simp)).AG b3 (by simpa using Ne.symm e)
     refine dr [] hs (k:=?_);intro hX w hs
     refine tks 0 2 ?_
     refine tk 2 hX (hr:=fun w' hH=>BG AI rfl rfl rfl om om) (k:=?_)
     refine tk 3 hX (v := .int .i64 x) (hr:=fun w' hH=>r_load AI rfl rfl (hH rfl) (At.tail At.head) ga') (k:=?_)
     refine tks 4 2 ?_
     refine tk 6 hX (hr:=fun w' hH=>BG AI rfl rfl rfl om om) (k:=?_)
     refine tk 7 hX (v := .int .i64 y) (hr:=fun w' hH=>r_load AI rfl rfl (hH rfl) At.head gb') (k:=?_)
     refine tk 8 hX (k:=?_)
     refine en (k:=?_)
     repeat' (first|refine Sa ?_|refine xc_cond rfl (fun hc=>?_) fun hc=>?_|fail)
     ·refine AF ?_
      exact ⟨congrArg Value.bool (decide_eq_false (Ij (by simpa using hc))).symm,ho.step (hs.AB [] (by simp [a3,b3]) (by simp [D0])) (by simp)⟩
     ·exact A2 (i+1) om (by (repeat (first | exact Ac | (apply A5;first | exact rfl | exact congrArg (Value.int .i64) ei)))) ⟨by omega,key (by simpa using hc),ho.step (hs.AB [] (by simp [a3,b3]) (by simp [D0])) (by simp)⟩
   ·have e:i=A.length:=by omega
    have SP:A=B:=by
     have h1:A.take i=A:=List.take_of_length_le om
     have h2:B.take i=B:=List.take_of_length_le om
     rw [← h1,ht,h2]
    exact Ar () Ab ⟨SP,ho.step (hs.AD rfl) (by simp)⟩
  ·rintro _ env w ⟨rfl,ho⟩
   clear hs
   have hs:=St.nil w
   refine Ja ?_
   refine AF ?_
   exact ⟨congrArg Value.bool (decide_eq_true rfl).symm,ho.step (hs.AD rfl) (by simp)⟩
theorem C6.only {w w':World} {tb:Nat} {t:RB Int} {F:List Nat} (h:C6 w tb t F) (ho:AA [] w w'):C6 w' tb t F:=by
 obtain ⟨p,fp,h1,h2,h3,h4⟩:=h
 exact ⟨p,fp,h1,ho.block h2 (by simp),h3.keep ho (AL.nil w) (by simp),h4⟩
def K4 (w0:World) (F:List Nat):Prop:=∀ k∈F,w0.heap.size≤k
theorem K4.step {w0 w:World} {F F':List Nat} (h:K4 w0 F) (ho:AA [] w0 w) (hs:∀ k∈F',k∈F∨w.heap.size≤k):K4 w0 F':=fun k hk=>by
 have:=ho.size
 rcases hs k hk with h' | h'
 ·exact h k h'
 ·omega
theorem AA.news {w0 w w':World} {F:List Nat} (ho:AA [] w0 w) (h:K4 w0 F) (ho':AA F w w'):AA [] w0 w':=ho.step ho' fun k hk => .inr (h k hk)
theorem Zq (w0:World):AM Tryz.prog 283 #[] w0 fun v w'=>v = .bool true∧AA [] w0 w':=by
 have hs:=St.nil w0
 refine AQ Tryz.func283 Tryz.ntmps283 (k:=?_)
 refine Ja ?_
 refine cl (h:=by exact gR _) (k:=?_)
 rintro v w1 ⟨tb,F0,rfl,h0,hn,ho⟩
 have o0:AA [] w0 w1:=(hs.AD rfl).step ho (by simp)
 have n0:K4 w0 F0:=fun k hk=>Nat.le_trans (hs.AD rfl).size (hn k hk)
 clear hs
 have hs:=St.nil w1
 refine Jd ?_
 have oo:=hs.AD rfl
 refine cl (h:=by exact Fi tb .nil F0 3 _ (h0.only oo) (by decide)) (k:=?_)
 rintro v w2 ⟨rfl,F1,h1,s1,o1⟩
 have n1:=n0.step (o0.step oo (by simp)) s1
 have o2:=(o0.step oo (by simp)).news n0 o1
 rw [show RB.has HI 3 (RB.nil:RB Int)=false from rfl]
 clear hs oo
 have hs:=St.nil w2
 refine Jf ?_
 have oo:=hs.AD rfl
 refine cl (h:=by exact Fi tb _ F1 1 _ (h1.only oo) (by decide)) (k:=?_)
 rintro v w3 ⟨rfl,F2,h2,s2,o3⟩
 have n2:=n1.step (o2.step oo (by simp)) s2
 have o4:=(o2.step oo (by simp)).news n1 o3
 rw [show RB.has HI 1 (RB.insert RB.nil 3)=false by decide]
 clear hs oo
 have hs:=St.nil w3
 refine Jf ?_
 have oo:=hs.AD rfl
 refine cl (h:=by exact Fi tb _ F2 2 _ (h2.only oo) (by decide)) (k:=?_)
 rintro v w4 ⟨rfl,F3,h3,s3,o5⟩
 have n3:=n2.step (o4.step oo (by simp)) s3
 have o6:=(o4.step oo (by simp)).news n2 o5
 rw [show RB.has HI 2 (RB.insert (RB.insert RB.nil 3) 1)=false by decide]
 have el:(RB.insert (RB.insert (RB.insert RB.nil 3) 1) 2).list=[1,2,3]:=by decide
 have ed:(RB.insert (RB.insert (RB.insert RB.nil 3) 1) 2).depth=2:=by decide
 generalize RB.insert (RB.insert (RB.insert RB.nil 3) 1) 2=t at *
 clear hs oo
 have hs:=St.nil w4
 refine Ja ?_
 refine cl (h:=by exact O5 tb t F3 _ (h3.only (hs.AD rfl)) (by rw [el];decide)) (k:=?_)
 rintro v w' ⟨hd,ho⟩;replace hs:=hs.AK ho
 rw [el] at hd
 obtain ⟨ad,cp,rfl,_⟩:=id hd
 obtain ⟨R,hs,hd⟩:=hd.read hs rfl
 refine bs hs (k:=?_);intro b w hz hs
 skip
 have hb:=hs.get At.head
 refine AY hs (h:=by exact dQ _ _ [1,2,3] [1,2,3] (by decide) _ (hd _ (fun e he=>hs.ro e (by simp [he]))) ⟨some ⟨b,0,none⟩,3,rfl,fun _=>⟨b,0,_,_,rfl,Nat.le_refl _,hb,fun i d h=>by match i,h with | 0,h=>simpa using h | 1,h=>simpa using h | 2,h=>simpa using h | i+3,h=>simp at h⟩⟩) (k:=?_);intro w' ho hs
 rw [show decide (([1,2,3]:List Int)=[1,2,3])=true from rfl]
 refine Jf ?_
 refine AY hs (h:=by exact X6 tb t F3 _ (h3.only (hs.AD rfl)) (by rw [el];decide)) (k:=?_);intro w' ho hs
 rw [ed]
 refine Jc ?_
 refine AF ?_
 exact ⟨rfl,o6.step (hs.AD rfl) (by simp)⟩
end Go.Proofs.Q0
namespace Go.Proofs.Q0.IB
open Go Go.RowKit
attribute [local irreducible] XS XC XA AX AO A7 A0 AZ A8 Aa AV SE
abbrev IT:={a:It // a.In}
def Cq (x y:IT):Bool:=ahead x.1 y.1
def snr (x y:IT):IT:=bif due y.1 x.1 then y else x
def all? : RB IT→Option IT
 | .nil=>none
 | .node l x r _=>some (match all? r with | none=>(match all? l with | none=>x | some a=>snr a x) | some b=>snr (match all? l with | none=>x | some a=>snr a x) b)
def KY (l:RB IT) (x:IT) (r:RB IT):IT:=match all? r with | none=>(match all? l with | none=>x | some a=>snr a x) | some b=>snr (match all? l with | none=>x | some a=>snr a x) b
abbrev EO (x:IT) (a:It) (pl pr:Option Addr) (c:Bool):Obj := .cells #[.int .u64 x.1.p.t,.int .u32 x.1.p.r,.int .u32 x.1.p.w,.int .i64 x.1.id,.int .u64 x.1.d.t,.int .u32 x.1.d.r,.int .u32 x.1.d.w,.int .u64 a.p.t,.int .u32 a.p.r,.int .u32 a.p.w,.int .i64 a.id,.int .u64 a.d.t,.int .u32 a.d.r,.int .u32 a.d.w,.pointer pl,.pointer pr,.bool c] 276 (0,0)
abbrev C0 (p:Option Addr) (n:Int):Obj := .cells #[.pointer p,.int .i64 n,.func (.func 176) #[] #[],.func (.func 177) #[] #[],.func (.func 178) #[] #[]] 199 (0,0)
def Cz (_:World) (av:It) (l:RB IT) (x:IT) (r:RB IT):Prop:=av=(KY l x r).1
theorem M1 (x y:IT) (w0:World):AM Tryz.prog 176 #[iv x.1,iv y.1] w0 fun v w'=>v = .bool (Cq x y)∧AA [] w0 w':=Ti x.1 y.1 x.2 y.2 w0
theorem HU (a:It) (w0:World):AM Tryz.prog 177 #[iv a] w0 fun v w'=>v=iv a∧AA [] w0 w':=by
 have hs:=St.nil w0
 refine AQ Tryz.func177 Tryz.ntmps177 (k:=?_)
 repeat' (first|refine Sa ?_|(refine AU hs (k:=?_);intro w hs)|(refine al hs (k:=?_);intro b w hz hs)|(refine bx hs (k:=?_);intro b w hz hs)|fail)
 refine AF ?_
 exact ⟨rfl,hs.AD rfl⟩
theorem its_one {w:World} {b:Nat} {a:It} (hb:w.heap[b]?=some (.cells a.cells.toArray 64 (0,0))):Iw w (.slice (some ⟨b,0,none⟩) 1 1) [a] :=
 ⟨_,1,rfl,fun _=>⟨b,0,_,(0,0),rfl,Nat.le_refl _,hb,fun i x h=>by
  cases i with
  | zero =>
    simp only [List.map_cons,List.getElem?_cons_zero,Option.some.injEq] at h
    subst h
    exact pick_of rfl rfl
  | succ i=>simp at h⟩⟩
theorem Ih (x y:IT) (w0:World):AM Tryz.prog 178 #[iv x.1,iv y.1] w0 fun v w'=>v=iv (snr x y).1∧AA [] w0 w':=by
 have e:soonest x.1 [y.1]=(snr x y).1:=by unfold soonest snr;simp only [List.foldl_cons,List.foldl_nil];cases due y.1 x.1 <;> rfl
 have hs:=St.nil w0
 refine AQ Tryz.func178 Tryz.ntmps178 (k:=?_)
 repeat' (first|refine Sa ?_|(refine al hs (k:=?_);intro b w hz hs)|(refine bx hs (k:=?_);intro b w hz hs)|(refine bs hs (k:=?_);intro b w hz hs)|fail)
 refine cl (h:=by exact Xy x.1 [y.1] _ x.2 (by simp;exact y.2) (by simp) _ (its_one (hs.get At.head))) (k:=?_)
 rw [e]
 rintro v w' ⟨rfl,ho⟩;replace hs:=hs.AK ho;repeat' (first|refine Nx.h ?_|(refine AU hs (k:=?_);intro w hs)|fail)
 refine AF ?_
 exact ⟨rfl,hs.AD rfl⟩
end Go.Proofs.Q0.IB
namespace Go.Proofs.Q0.IB
open Go Go.RowKit
theorem Cz.keep {w w':World} {av:It} {l:RB IT} {x:IT} {r:RB IT} {F:List Nat} (h:Cz w av l x r) (_:AA F w w') {q:Prop} (_:q):Cz w' av l x r:=h
def Ad (w:World):RB IT→Option Addr→List Nat→Prop
 | .nil,p,fp=>p=none∧fp=[]
 | .node l x r c,p,fp=>∃ b av pl pr fl fr,p=some ⟨b,0,none⟩∧fp=b :: (fl ++ fr)∧w.heap[b]?=some (EO x av pl pr c)∧Cz w av l x r∧Ad w l pl fl∧Ad w r pr fr
def C8 (w:World) (l:RB IT) (x:IT) (r:RB IT) (c:Bool) (p:Option Addr) (fp:List Nat):Prop :=
 ∃ b av pl pr fl fr,p=some ⟨b,0,none⟩∧fp=b :: (fl ++ fr)∧w.heap[b]?=some (EO x av pl pr c)∧Ad w l pl fl∧Ad w r pr fr
theorem Ad.Ld {w:World} {l:RB IT} {x:IT} {r:RB IT} {c:Bool} {p:Option Addr} {fp:List Nat} (h:Ad w (.node l x r c) p fp):C8 w l x r c p fp:=by
 obtain ⟨b,av,pl,pr,fl,fr,h1,h2,h3,h4,h5,h6⟩:=h
 exact ⟨b,av,pl,pr,fl,fr,h1,h2,h3,h5,h6⟩
def AL (w:World) (F:List Nat):Prop:=∀ b∈F,∃ cs fz,w.heap[b]?=some (.cells cs 276 fz)
theorem AL.nil (w:World):AL w []:=fun b h=>by cases h
theorem AL.append {w:World} {F G:List Nat} (h:AL w F) (k:AL w G):AL w (F ++ G):=fun b hb=>by
 rcases List.mem_append.1 hb with hb | hb
 ·exact h b hb
 ·exact k b hb
theorem AL.cons {w:World} {F:List Nat} {b:Nat} {cs:Array Value} {fz:Nat × Nat} (h:w.heap[b]?=some (.cells cs 276 fz)) (k:AL w F):AL w (b :: F):=fun b' hb=>by
 rcases List.mem_cons.1 hb with rfl | hb
 ·exact ⟨_,_,h⟩
 ·exact k b' hb
theorem Ad.nodes {w:World}:∀ {t:RB IT} {p:Option Addr} {fp:List Nat},Ad w t p fp→AL w fp
 | .nil,p,fp,⟨_,h⟩=>by subst h;exact AL.nil w
 | .node l x r c,p,fp,⟨b,av,pl,pr,fl,fr,h1,h2,h3,h4,h5,h6⟩=>by
   subst h2
   exact .cons h3 (h5.nodes.append h6.nodes)
theorem C8.nodes {w:World} {l:RB IT} {x:IT} {r:RB IT} {c:Bool} {p:Option Addr} {fp:List Nat} (h:C8 w l x r c p fp):AL w fp:=by
 obtain ⟨b,av,pl,pr,fl,fr,h1,h2,h3,h5,h6⟩:=h
 subst h2
 exact .cons h3 (h5.nodes.append h6.nodes)
theorem Ad.keep {w w':World} {F:List Nat} (ho:AA F w w') (hF:AL w F):∀ {t:RB IT} {p:Option Addr} {fp:List Nat},Ad w t p fp→(∀ b∈fp,b∉F)→Ad w' t p fp
 | .nil,p,fp,h,_=>h
 | .node l x r c,p,fp,⟨b,av,pl,pr,fl,fr,h1,h2,h3,h4,h5,h6⟩,hd=>by
   subst h2
   exact ⟨b,av,pl,pr,fl,fr,h1,rfl,ho.block h3 (hd b List.mem_cons_self),h4.keep ho hF,Ad.keep ho hF h5 fun k hk=>hd k (List.mem_cons_of_mem _ (List.mem_append_left _ hk)),
    Ad.keep ho hF h6 fun k hk=>hd k (List.mem_cons_of_mem _ (List.mem_append_right _ hk))⟩
theorem head_keep {w w':World} {F:List Nat} {tb:Nat} {p:Option Addr} {n:Int} (h:w.heap[tb]?=some (C0 p n)) (ho:AA F w w') (hF:AL w F):w'.heap[tb]?=some (C0 p n) :=
 ho.block h fun hb=>by
  obtain ⟨cs',gV,h5⟩:=hF tb hb
  rw [h] at h5
  cases h5
end Go.Proofs.Q0.IB
namespace Go.Proofs.Q0.IB
open Go Go.RowKit
attribute [local irreducible] XS XC XA AX AO A7 A0 AZ A8 Aa AV SE
theorem Bd (t:RB IT) (p:Option Addr) (fp:List Nat) (w0:World) (h:Ad w0 t p fp):AM Tryz.prog 236 #[.pointer p] w0 fun v w'=>v = .bool t.red∧AA [] w0 w':=by
 have hs:=St.nil w0
 cases t with
 | nil =>
   obtain ⟨rfl,rfl⟩:=h
   refine AQ Tryz.func236 Tryz.ntmps236 (k:=?_)
   repeat' (first|refine vs (k:=?_)|refine ps (k:=?_)|refine Al ?_|refine Nx.h ?_|fail)
   refine AF ?_
   exact ⟨rfl,hs.AD rfl⟩
 | node l x r c =>
   obtain ⟨b,av,pl,pr,fl,fr,rfl,h2,h3,h4,h5,h6⟩:=h
   replace hs:=hs.AG h3 (by simp)
   refine AQ Tryz.func236 Tryz.ntmps236 (k:=?_)
   refine Ja ?_
   refine AF ?_
   exact ⟨rfl,hs.AB [] (by simp [h3]) (by simp [D0])⟩
theorem CZ {w:World} {tb b:Nat} {p:Option Addr} {n:Int} {cs:Array Value} {fz:Nat × Nat} (h:w.heap[tb]?=some (C0 p n)) (k:w.heap[b]?=some (.cells cs 276 fz)):b≠tb:=fun e=>by
 subst e
 rw [h] at k
 cases k
theorem EI (tb:Nat) (p0:Option Addr) (n0:Int) (l:RB IT) (x:IT) (r:RB IT) (c:Bool) (p:Option Addr) (fp:List Nat) (w0:World) (hT:w0.heap[tb]?=some (C0 p0 n0)) (h:C8 w0 l x r c p fp) (hnd:fp.Nodup) (hlen:(l.list ++ x :: r.list).length≤1000000) :
 AM Tryz.prog 242 #[.pointer (some ⟨tb,0,none⟩),.pointer p] w0 fun v w'=>Ad w' (.node l x r c) p fp∧AA fp w0 w':=by
 obtain ⟨b,av,pl,pr,fl,fr,rfl,rfl,hb,hl,hr⟩:=h
 have Dz:=CZ hT hb
 obtain ⟨hnb,kG⟩:=List.nodup_cons.1 hnd
 have hnl:∀ k∈fl,k∉[b]:=fun k hk hm=>by
  obtain rfl:=List.mem_singleton.1 hm
  exact hnb (List.mem_append_left _ hk)
 have Pk:∀ k∈fr,k∉[b]:=fun k hk hm=>by
  obtain rfl:=List.mem_singleton.1 hm
  exact hnb (List.mem_append_right _ hk)
 have hlr:∀ k∈fl,k∉fr:=fun k hk hm=>(List.nodup_append.1 kG).2.2 k hk k hm rfl
 have hNb:AL w0 [b]:=AL.cons hb (AL.nil w0)
 have fin:∀ (w':World) (LZ:It),w'.heap[b]?=some (EO x LZ pl pr c)→Cz w' LZ l x r→AA [b] w0 w'→Ad w' (.node l x r c) (some ⟨b,0,none⟩) (b :: (fl ++ fr))∧AA (b :: (fl ++ fr)) w0 w':=fun w' LZ h1 h2 ho =>
  ⟨⟨b,LZ,pl,pr,fl,fr,rfl,rfl,h1,h2,hl.keep ho hNb hnl,hr.keep ho hNb Pk⟩,ho.weaken fun k hk=>by obtain rfl:=List.mem_singleton.1 hk;exact List.mem_cons_self⟩
 clear hnd
 have hs:=St.nil w0
 replace hs:=hs.AG hT (by simp)
 replace hs:=hs.AG hb (by simpa using Dz)
 cases l with
 | nil =>
   cases r with
   | nil =>
     obtain ⟨rfl,rfl⟩:=hl
     obtain ⟨rfl,rfl⟩:=hr
     refine AQ Tryz.func242 Tryz.ntmps242 (k:=?_)
     refine Jb ?_
     refine dr [12] hs (k:=?_);intro hX w hs
     refine tks 0 9 ?_
     refine dt 9 hX (k:=?_)
     refine AY hs (h:=by exact HU x.1 _) (k:=?_);intro w' ho hs;refine Jb ?_
     refine dn (k:=?_)
     refine tks 10 2 ?_
     refine dt 12 hX (k:=?_)
     repeat' (first|refine Nx.h ?_|(refine AU hs (k:=?_);intro w hs)|fail)
     refine dn (k:=?_)
     refine en (k:=?_)
     refine Jd ?_
     refine JG ?_
     exact fin _ _ (hs.get At.head) rfl (hs.AB [b] (by simp [hT]) (by simp [D0]))
   | node rl rx rr rc =>
     obtain ⟨rfl,rfl⟩:=hl
     obtain ⟨rb,fY,wI,uG,rfl',tZ,rfl,rfl,hrb,hrav,hrl,lD⟩:=hr
     have Zu:fY=(KY rl rx rr).1:=hrav
     subst Zu
     have Vh:=CZ hT hrb
     have QL:rb≠b:=fun e=>by subst e;exact Pk _ List.mem_cons_self List.mem_cons_self
     replace hs:=hs.AG hrb (by simp [Vh,QL])
     refine AQ Tryz.func242 Tryz.ntmps242 (k:=?_)
     refine Jb ?_
     refine dr [12] hs (k:=?_);intro hX w hs
     refine tks 0 9 ?_
     refine dt 9 hX (k:=?_)
     refine AY hs (h:=by exact HU x.1 _) (k:=?_);intro w' ho hs;refine Jb ?_
     refine dn (k:=?_)
     refine tks 10 2 ?_
     refine dt 12 hX (k:=?_)
     repeat' (first|refine Nx.h ?_|(refine AU hs (k:=?_);intro w hs)|fail)
     refine dn (k:=?_)
     refine en (k:=?_)
     repeat' (first|refine vs (k:=?_)|refine Al ?_|refine Nx.h ?_|refine Ew ?_|refine ES ?_|fail)
     refine dr [19] hs (k:=?_);intro hX w hs
     refine tks 0 16 ?_
     refine dt 16 hX (k:=?_)
     refine AY hs (h:=by exact Ih x (KY rl rx rr) _) (k:=?_);intro w' ho hs;refine Jb ?_
     refine dn (k:=?_)
     refine tks 17 2 ?_
     refine dt 19 hX (k:=?_)
     repeat' (first|refine Nx.h ?_|(refine AU hs (k:=?_);intro w hs)|fail)
     refine dn (k:=?_)
     refine en (k:=?_)
     skip
     refine JG ?_
     exact fin _ _ (hs.get (At.tail At.head)) rfl (hs.AB [b] (by simp [hT,hrb]) (by simp [D0]))
 | node ll lx lr lc =>
   cases r with
   | nil =>
     obtain ⟨lb,VP,gB,pG,qD,pP,rfl,rfl,hlb,hlav,G9,lX⟩:=hl
     have Rk:VP=(KY ll lx lr).1:=hlav
     subst Rk
     have hlt:=CZ hT hlb
     have Qy:lb≠b:=fun e=>by subst e;exact hnl _ List.mem_cons_self List.mem_cons_self
     replace hs:=hs.AG hlb (by simp [hlt,Qy])
     obtain ⟨rfl,rfl⟩:=hr
     refine AQ Tryz.func242 Tryz.ntmps242 (k:=?_)
     refine Jb ?_
     refine dr [12] hs (k:=?_);intro hX w hs
     refine tks 0 9 ?_
     refine dt 9 hX (k:=?_)
     refine AY hs (h:=by exact HU x.1 _) (k:=?_);intro w' ho hs;refine Jb ?_
     refine dn (k:=?_)
     refine tks 10 2 ?_
     refine dt 12 hX (k:=?_)
     repeat' (first|refine Nx.h ?_|(refine AU hs (k:=?_);intro w hs)|fail)
     refine dn (k:=?_)
     refine en (k:=?_)
     refine Je ?_
     refine dr [19] hs (k:=?_);intro hX w hs
     refine tks 0 16 ?_
     refine dt 16 hX (k:=?_)
     refine AY hs (h:=by exact Ih (KY ll lx lr) x _) (k:=?_);intro w' ho hs;refine Jb ?_
     refine dn (k:=?_)
     refine tks 17 2 ?_
     refine dt 19 hX (k:=?_)
     repeat' (first|refine Nx.h ?_|(refine AU hs (k:=?_);intro w hs)|fail)
     refine dn (k:=?_)
     refine en (k:=?_)
     refine Jd ?_
     refine JG ?_
     exact fin _ _ (hs.get (At.tail At.head)) rfl (hs.AB [b] (by simp [hT,hlb]) (by simp [D0]))
   | node rl rx rr rc =>
     obtain ⟨lb,VP,gB,pG,qD,pP,rfl,rfl,hlb,hlav,G9,lX⟩:=hl
     have Rk:VP=(KY ll lx lr).1:=hlav
     subst Rk
     have hlt:=CZ hT hlb
     have Qy:lb≠b:=fun e=>by subst e;exact hnl _ List.mem_cons_self List.mem_cons_self
     replace hs:=hs.AG hlb (by simp [hlt,Qy])
     obtain ⟨rb,fY,wI,uG,rfl',tZ,rfl,rfl,hrb,hrav,hrl,lD⟩:=hr
     have Zu:fY=(KY rl rx rr).1:=hrav
     subst Zu
     have Vh:=CZ hT hrb
     have QL:rb≠b:=fun e=>by subst e;exact Pk _ List.mem_cons_self List.mem_cons_self
     have lN:rb≠lb:=fun e=>by subst e;exact hlr _ List.mem_cons_self List.mem_cons_self
     replace hs:=hs.AG hrb (by simp [Vh,QL,lN])
     refine AQ Tryz.func242 Tryz.ntmps242 (k:=?_)
     refine Jb ?_
     refine dr [12] hs (k:=?_);intro hX w hs
     refine tks 0 9 ?_
     refine dt 9 hX (k:=?_)
     refine AY hs (h:=by exact HU x.1 _) (k:=?_);intro w' ho hs;refine Jb ?_
     refine dn (k:=?_)
     refine tks 10 2 ?_
     refine dt 12 hX (k:=?_)
     repeat' (first|refine Nx.h ?_|(refine AU hs (k:=?_);intro w hs)|fail)
     refine dn (k:=?_)
     refine en (k:=?_)
     refine Je ?_
     refine dr [19] hs (k:=?_);intro hX w hs
     refine tks 0 16 ?_
     refine dt 16 hX (k:=?_)
     refine AY hs (h:=by exact Ih (KY ll lx lr) x _) (k:=?_);intro w' ho hs;refine Jb ?_
     refine dn (k:=?_)
     refine tks 17 2 ?_
     refine dt 19 hX (k:=?_)
     repeat' (first|refine Nx.h ?_|(refine AU hs (k:=?_);intro w hs)|fail)
     refine dn (k:=?_)
     refine en (k:=?_)
     refine Je ?_
     refine dr [19] hs (k:=?_);intro hX w hs
     refine tks 0 16 ?_
     refine dt 16 hX (k:=?_)
     refine AY hs (h:=by exact Ih (snr (KY ll lx lr) x) (KY rl rx rr) _) (k:=?_);intro w' ho hs;refine Jb ?_
     refine dn (k:=?_)
     refine tks 17 2 ?_
     refine dt 19 hX (k:=?_)
     repeat' (first|refine Nx.h ?_|(refine AU hs (k:=?_);intro w hs)|fail)
     refine dn (k:=?_)
     refine en (k:=?_)
     skip
     refine JG ?_
     exact fin _ _ (hs.get (At.tail (At.tail At.head))) rfl (hs.AB [b] (by simp [hT,hlb,hrb]) (by simp [D0]))
theorem AL.lt {w:World} {F:List Nat} (h:AL w F):∀ k∈F,k < w.heap.size:=fun k hk=>by
 obtain ⟨cs,fz,h⟩:=h k hk
 exact lt_of_block h
def Cb (w0:World) (fp:List Nat) (t':RB IT) (v:Value) (w':World):Prop :=
 ∃ p' Ca,v = .pointer p'∧Ad w' t' p' Ca∧Ca.Nodup∧(∀ k∈Ca,k∈fp∨w0.heap.size≤k)∧AA fp w0 w'
theorem Kc (tb:Nat) (p0:Option Addr) (n0:Int) (l:RB IT) (x:IT) (rl:RB IT) (y:IT) (rr:RB IT) (c c2:Bool) (p:Option Addr) (fp:List Nat) (w0:World) (hT:w0.heap[tb]?=some (C0 p0 n0)) (h:C8 w0 l x (.node rl y rr c2) c p fp) (hnd:fp.Nodup) (hlen:(l.list ++ x :: (rl.list ++ y :: rr.list)).length≤1000000) :
 AM Tryz.prog 243 #[.pointer (some ⟨tb,0,none⟩),.pointer p] w0 fun v w'=>Cb w0 fp (.node (.node l x rl true) y rr c) v w':=by
 obtain ⟨b,av,pl,pr,fl,fr,rfl,rfl,hb,hl,u,JM,fZ,uT,frl,KM,rfl,rfl,hu,_,hrl,Ux⟩:=h
 have hp:=perm_turn b u fl frl KM
 have QX:=hp.nodup_iff.2 hnd
 have hNb:AL w0 [u,b]:=AL.cons hu (AL.cons hb (AL.nil w0))
 simp only [List.length_append,List.length_cons] at hlen
 obtain ⟨d1,d2,d3,d4,d5,d6,d7,d8⟩:u≠b∧(∀ k∈fl,k∉[u,b])∧(∀ k∈frl,k∉[u,b])∧(∀ k∈KM,k∉[u,b])∧(b :: (fl ++ frl)).Nodup∧u∉b :: (fl ++ frl)∧(∀ k∈KM,k∉b :: (fl ++ frl))∧(u :: ((b :: (fl ++ frl)) ++ KM)).Nodup:=by
  simp only [List.cons_append,List.append_assoc,List.nodup_cons,List.nodup_append,List.mem_append,List.mem_cons,List.not_mem_nil,or_false] at QX ⊢
  grind
 have hs:=St.nil w0
 replace hs:=hs.AG hb (by simp)
 replace hs:=hs.AG hu (by simpa using d1)
 refine AQ Tryz.func243 Tryz.ntmps243 (k:=?_)
 repeat' (first|refine Sa ?_|(refine st hs (k:=?_);intro w hs)|fail)
 have AJ:AA [u,b] w0 _:=hs.AB [u,b] (by simp) (by simp [D0])
 have Bv:=hs.get (At.tail At.head)
 have VV:=hs.get At.head
 have Ec:=hl.keep AJ hNb d2
 have Us:=hrl.keep AJ hNb d3
 have nJ:=Ux.keep AJ hNb d4
 have CI:=head_keep hT AJ hNb
 clear hs
 refine cl (h:=by exact EI tb p0 n0 l x rl true _ _ _ CI ⟨b,av,pl,fZ,fl,frl,rfl,rfl,Bv,Ec,Us⟩ d5 (by simp only [List.length_append,List.length_cons];omega)) (k:=?_)
 rintro v w' ⟨Bj,AN⟩
 have MT:AL _ (b :: (fl ++ frl)):=C8.nodes ⟨b,av,pl,fZ,fl,frl,rfl,rfl,Bv,Ec,Us⟩
 have Gu:=AN.block VV d6
 have lH:=nJ.keep AN MT d7
 have L0:=head_keep CI AN MT
 have hs:=St.nil w'
 refine Ja ?_
 refine cl (h:=by exact EI tb p0 n0 (.node l x rl true) y rr c _ _ _ L0 ⟨u,JM,_,uT,_,KM,rfl,rfl,Gu,Bj,lH⟩ d8 (by simp only [RB.list,List.length_append,List.length_cons];omega)) (k:=?_)
 rintro v w'' ⟨Fj,AT⟩
 have hs:=St.nil w''
 refine Ja ?_
 refine AF ?_
 have e:∀ k,k∈u :: ((b :: (fl ++ frl)) ++ KM)→k∈b :: (fl ++ (u :: (frl ++ KM))):=fun k hk=>hp.mem_iff.1 hk
 have o1:AA (b :: (fl ++ (u :: (frl ++ KM)))) w0 _:=AJ.weaken (by simp)
 have o2:=o1.step AN (fun k hk => .inl (e k (List.mem_cons_of_mem _ (List.mem_append_left _ hk))))
 exact ⟨_,_,rfl,Fj,d8,fun k hk => .inl (e k hk),o2.step AT (fun k hk => .inl (e k hk))⟩
theorem GV (tb:Nat) (p0:Option Addr) (n0:Int) (ll:RB IT) (y:IT) (lr:RB IT) (x:IT) (r:RB IT) (c c2:Bool) (p:Option Addr) (fp:List Nat) (w0:World) (hT:w0.heap[tb]?=some (C0 p0 n0)) (h:C8 w0 (.node ll y lr c2) x r c p fp) (hnd:fp.Nodup) (hlen:(ll.list ++ y :: (lr.list ++ x :: r.list)).length≤1000000) :
 AM Tryz.prog 244 #[.pointer (some ⟨tb,0,none⟩),.pointer p] w0 fun v w'=>Cb w0 fp (.node ll y (.node lr x r true) c) v w':=by
 obtain ⟨b,av,pl,pr,fl,fr,rfl,rfl,hb,⟨u,JM,Ta,Po,fll,flr,rfl,rfl,hu,_,G9,hlr⟩,hr⟩:=h
 have hp:=(perm_turn u b fll flr fr).symm
 have QX:=hp.nodup_iff.2 hnd
 have hNb:AL w0 [u,b]:=AL.cons hu (AL.cons hb (AL.nil w0))
 simp only [List.length_append,List.length_cons] at hlen
 obtain ⟨d1,d2,d3,d4,d5,d6,d7,d8⟩:u≠b∧(∀ k∈fr,k∉[u,b])∧(∀ k∈flr,k∉[u,b])∧(∀ k∈fll,k∉[u,b])∧(b :: (flr ++ fr)).Nodup∧u∉b :: (flr ++ fr)∧(∀ k∈fll,k∉b :: (flr ++ fr))∧(u :: (fll ++ (b :: (flr ++ fr)))).Nodup:=by
  simp only [List.cons_append,List.append_assoc,List.nodup_cons,List.nodup_append,List.mem_append,List.mem_cons,List.not_mem_nil,or_false] at QX ⊢
  grind
 have hs:=St.nil w0
 replace hs:=hs.AG hb (by simp)
 replace hs:=hs.AG hu (by simpa using d1)
 refine AQ Tryz.func244 Tryz.ntmps244 (k:=?_)
 repeat' (first|refine Sa ?_|(refine st hs (k:=?_);intro w hs)|fail)
 have AJ:AA [u,b] w0 _:=hs.AB [u,b] (by simp) (by simp [D0])
 have Bv:=hs.get (At.tail At.head)
 have VV:=hs.get At.head
 have hrw:=hr.keep AJ hNb d2
 have W4:=hlr.keep AJ hNb d3
 have kT:=G9.keep AJ hNb d4
 have CI:=head_keep hT AJ hNb
 clear hs
 refine cl (h:=by exact EI tb p0 n0 lr x r true _ _ _ CI ⟨b,av,Po,pr,flr,fr,rfl,rfl,Bv,W4,hrw⟩ d5 (by simp only [List.length_append,List.length_cons];omega)) (k:=?_)
 rintro v w' ⟨Bj,AN⟩
 have MT:AL _ (b :: (flr ++ fr)):=C8.nodes ⟨b,av,Po,pr,flr,fr,rfl,rfl,Bv,W4,hrw⟩
 have Gu:=AN.block VV d6
 have mE:=kT.keep AN MT d7
 have L0:=head_keep CI AN MT
 have hs:=St.nil w'
 refine Ja ?_
 refine cl (h:=by exact EI tb p0 n0 ll y (.node lr x r true) c _ _ _ L0 ⟨u,JM,Ta,_,fll,_,rfl,rfl,Gu,mE,Bj⟩ d8 (by simp only [RB.list,List.length_append,List.length_cons];omega)) (k:=?_)
 rintro v w'' ⟨Fj,AT⟩
 have hs:=St.nil w''
 refine Ja ?_
 refine AF ?_
 have e:∀ k,k∈u :: (fll ++ (b :: (flr ++ fr)))→k∈b :: ((u :: (fll ++ flr)) ++ fr):=fun k hk=>hp.mem_iff.1 hk
 have o1:AA (b :: ((u :: (fll ++ flr)) ++ fr)) w0 _:=AJ.weaken (by simp)
 have o2:=o1.step AN (fun k hk => .inl (e k (List.mem_cons_of_mem _ (List.mem_append_right _ hk))))
 exact ⟨_,_,rfl,Fj,d8,fun k hk => .inl (e k hk),o2.step AT (fun k hk => .inl (e k hk))⟩
theorem GJ (a:RB IT) (x:IT) (b:RB IT) (c1:Bool) (y:IT) (d:RB IT) (z:IT) (e:RB IT) (c2 c:Bool) (p:Option Addr) (fp:List Nat) (w0:World) (h:Ad w0 (.node (.node a x b c1) y (.node d z e c2) c) p fp) (hnd:fp.Nodup) :
 AM Tryz.prog 245 #[.pointer p] w0 fun v w'=>Ad w' (.node (.node a x b !c1) y (.node d z e !c2) !c) p fp∧AA fp w0 w':=by
 obtain ⟨m,av,_,_,_,_,rfl,rfl,hm,Ci,⟨u,JM,pa,pb,fa,fb,rfl,rfl,hu,Mc,ha,hb⟩,⟨v,vT,pd,pe,fd,fe,rfl,rfl,hv,kW,hd,he⟩⟩:=h
 have hNb:AL w0 [v,u,m]:=AL.cons hv (AL.cons hu (AL.cons hm (AL.nil w0)))
 obtain ⟨d1,d2,d3,d4,d5,d6,d7⟩:u≠m∧v≠m∧v≠u∧(∀ k∈fa,k∉[v,u,m])∧(∀ k∈fb,k∉[v,u,m])∧(∀ k∈fd,k∉[v,u,m])∧(∀ k∈fe,k∉[v,u,m]):=by
  simp only [List.cons_append,List.append_assoc,List.nodup_cons,List.nodup_append,List.mem_append,List.mem_cons,List.not_mem_nil,or_false] at hnd ⊢
  grind
 have hs:=St.nil w0
 replace hs:=hs.AG hm (by simp)
 replace hs:=hs.AG hu (by simpa using d1)
 replace hs:=hs.AG hv (by simp [d2,d3])
 refine AQ Tryz.func245 Tryz.ntmps245 (k:=?_)
 repeat' (first|refine Sa ?_|(refine st hs (k:=?_);intro w hs)|fail)
 refine dr [14] hs (k:=?_);intro hX w hs
 refine tks 0 14 ?_
 refine dt 14 hX (k:=?_)
 repeat' (first|refine Nx.h ?_|(refine st hs (k:=?_);intro w hs)|fail)
 refine dn (k:=?_)
 refine en (k:=?_)
 refine Jb ?_
 refine dr [14] hs (k:=?_);intro hX w hs
 refine tks 0 14 ?_
 refine dt 14 hX (k:=?_)
 repeat' (first|refine Nx.h ?_|(refine st hs (k:=?_);intro w hs)|fail)
 refine dn (k:=?_)
 refine en (k:=?_)
 skip
 refine JG ?_
 have AJ:AA [v,u,m] w0 _:=hs.AB [v,u,m] (by simp) (by simp [D0])
 refine ⟨⟨m,av,_,_,_,_,rfl,rfl,hs.get (At.tail (At.tail At.head)),Ci.keep AJ hNb,⟨u,JM,pa,pb,fa,fb,rfl,rfl,hs.get (At.tail At.head),Mc.keep AJ hNb,ha.keep AJ hNb d4,hb.keep AJ hNb d5⟩,⟨v,vT,pd,pe,fd,fe,rfl,rfl,hs.get At.head,kW.keep AJ hNb,hd.keep AJ hNb d6,he.keep AJ hNb d7⟩⟩,AJ.weaken (by simp)⟩
structure Has (w0:World) (tb:Nat) (p0:Option Addr) (n0:Int) (fp:List Nat) (t:RB IT) (p:Option Addr) (w:World):Prop where
 tree:∃ Ca,Ad w t p Ca∧Ca.Nodup∧(∀ k∈Ca,k∈fp∨w0.heap.size≤k)∧AA fp w0 w
 head:w.heap[tb]?=some (C0 p0 n0)
theorem Has.only {w0 w w':World} {tb:Nat} {p0:Option Addr} {n0:Int} {fp:List Nat} {t:RB IT} {p:Option Addr} (h:Has w0 tb p0 n0 fp t p w) (ho:AA [] w w'):Has w0 tb p0 n0 fp t p w':=by
 obtain ⟨⟨Ca,h1,h2,h3,h4⟩,h5⟩:=h
 exact ⟨⟨Ca,h1.keep ho (AL.nil w) (fun k _=>by simp),h2,h3,h4.step ho (by simp)⟩,head_keep h5 ho (AL.nil w)⟩
theorem Has.next {w0 w w':World} {tb:Nat} {p0:Option Addr} {n0:Int} {fp DT:List Nat} {t t':RB IT} {p:Option Addr} {v:Value} (h1:Ad w t p DT) (h2:∀ k∈DT,k∈fp∨w0.heap.size≤k) (h3:AA fp w0 w) (h4:w.heap[tb]?=some (C0 p0 n0)) (k:Cb w DT t' v w') :
 ∃ p',v = .pointer p'∧Has w0 tb p0 n0 fp t' p' w':=by
 obtain ⟨p',Ca,rfl,k1,k2,k3,k4⟩:=k
 refine ⟨p',rfl,⟨Ca,k1,k2,fun i hi=>?_,h3.step k4 h2⟩,head_keep h4 k4 h1.nodes⟩
 have:=h3.size
 rcases k3 i hi with h | h
 ·exact h2 i h
 ·exact .inr om
theorem JJ (l:RB IT) (x:IT) (r:RB IT) (c:Bool):∃ l' x' r' c',RB.DU (.node l x r c) = .node l' x' r' c':=by
 unfold RB.DU
 cases r with
 | nil=>exact ⟨_,_,_,_,rfl⟩
 | node rl y rr d =>
   cases d <;> cases h:l.red <;> simp only [RB.Ay,RB.Ap,RB.BL,h,Bool.not_true,Bool.not_false,Bool.and_true,Bool.and_false,Bool.and_self,cond_true,cond_false,RB.GQ] <;> exact ⟨_,_,_,_,rfl⟩
theorem Iz (l:RB IT) (x:IT) (r:RB IT) (c:Bool):∃ l' x' r' c',RB.ED (.node l x r c) = .node l' x' r' c':=by
 unfold RB.ED
 cases l with
 | nil=>exact ⟨_,_,_,_,rfl⟩
 | node rl y rr d =>
   cases d <;> cases h:rl.red <;> simp only [RB.Ay,RB.Ap,RB.BL,h,Bool.not_true,Bool.not_false,Bool.and_true,Bool.and_false,Bool.and_self,cond_true,cond_false,RB.Cy] <;> exact ⟨_,_,_,_,rfl⟩
theorem GC (tb:Nat) (p0:Option Addr) (n0:Int) (l:RB IT) (x:IT) (r:RB IT) (c:Bool) (p:Option Addr) (fp:List Nat) (w0:World) (hT:w0.heap[tb]?=some (C0 p0 n0)) (h:C8 w0 l x r c p fp) (hnd:fp.Nodup) (hlen:(l.list ++ x :: r.list).length≤1000000) :
 AM Tryz.prog 234 #[.pointer (some ⟨tb,0,none⟩),.pointer p] w0 fun v w'=>Cb w0 fp (RB.mend (.node l x r c)) v w':=by
 have hs:=St.nil w0
 refine AQ Tryz.func234 Tryz.ntmps234 (k:=?_)
 refine Ja ?_
 clear hs
 refine cl (h:=by exact EI tb p0 n0 l x r c _ _ _ hT h hnd hlen) (k:=?_)
 rintro v w1 ⟨Bj,AJ⟩
 have hH:Has w0 tb p0 n0 fp (.node l x r c) p w1:=⟨⟨fp,Bj,hnd,fun k hk => .inl hk,AJ⟩,head_keep hT AJ h.nodes⟩
 clear Bj AJ
 refine XS.nil ?_
 refine Dw ?_
 refine Ag ?_
 refine Ag ?_
 refine B7 (fun _:Unit=>[(0,.pointer (some ⟨tb,0,none⟩)),(1,.pointer p),(4,.pointer none),(20,.bool (r.red && !l.red))]) (fun _ w=>Has w0 tb p0 n0 fp (.node l x r c) p w) ?_ ?_
 ·obtain ⟨⟨DT,⟨b,av,pl,pr,fl,fr,rfl,rfl,hb,Ci,hl,hr⟩,J2,hsub,ho⟩,hd⟩:=hH
  have hH:Has w0 tb p0 n0 fp (.node l x r c) (some ⟨b,0,none⟩) w1:=⟨⟨_,⟨b,av,pl,pr,fl,fr,rfl,rfl,hb,Ci,hl,hr⟩,J2,hsub,ho⟩,hd⟩
  have hs:=(St.nil w1).AG hb (by simp)
  refine Jk ?_
  have AN:AA [] w1 _:=hs.AB [] (by simp [hb]) (by simp [D0])
  refine AY hs (h:=by exact Bd r pr fr _ (hr.keep AN (AL.nil _) (by simp))) (k:=?_);intro w' ho hs
  generalize hq:r.red=q
  cases q
  ·refine Jj ?_
   exact AP () Ab (hH.only (hs.AB [] (by simp [hb]) (by simp [D0])))
  ·refine Jf ?_
   have AN:AA [] w1 _:=hs.AB [] (by simp [hb]) (by simp [D0])
   refine AY hs (h:=by exact Bd l pl fl _ (hl.keep AN (AL.nil _) (by simp))) (k:=?_);intro w' ho hs
   generalize Gj:l.red=q2
   refine Jc ?_
   exact AP () Ab (hH.only (hs.AB [] (by simp [hb]) (by simp [D0])))
 clear hH
 rintro _ env w hH
 refine B7 (fun s:Option Addr=>[(0,.pointer (some ⟨tb,0,none⟩)),(1,.pointer s),(4,.pointer none)]) (fun s w=>Has w0 tb p0 n0 fp (RB.DU (.node l x r c)) s w) ?_ ?_
 ·generalize hq:(r.red && !l.red)=q
  cases q
  ·refine Jg ?_
   refine AP p Ab ?_
   unfold RB.DU
   rw [RB.Ay,RB.Ap,hq]
   exact hH
  ·obtain ⟨⟨DT,h1,h2,h3,h4⟩,h5⟩:=hH
   simp only [Bool.and_eq_true,Bool.not_eq_true'] at hq
   obtain ⟨rl,y,rr,rfl⟩:=RB.Bo hq.1
   have hs:=St.nil w
   refine Ji ?_
   refine cl (h:=by exact Kc tb p0 n0 l x rl y rr c true _ _ _ h5 h1.Ld h2 hlen) (k:=?_)
   rintro v w' hv
   obtain ⟨p',rfl,hH⟩:=Has.next h1 h3 h4 h5 hv
   have hs:=St.nil w'
   refine Jc ?_
   refine AP p' Ab ?_
   unfold RB.DU
   rw [RB.Ay,RB.Ap,RB.BL,hq.2]
   exact hH
 obtain ⟨l1,x1,r1,c1,e1⟩:=JJ l x r c
 have Zw:(l1.list ++ x1 :: r1.list).length≤1000000:=by
  have h1:(RB.DU (.node l x r c)).list=l.list ++ x :: r.list:=by
   unfold RB.DU
   cases (RB.red _ && _) <;> simp only [cond_true,cond_false,RB.Jo,RB.list]
  rw [e1] at h1
  rw [← h1] at hlen
  exact hlen
 rintro p1 env w hH
 rw [e1] at hH
 refine Ag ?_
 refine Ag ?_
 refine B7 (fun _:Unit=>[(0,.pointer (some ⟨tb,0,none⟩)),(1,.pointer p1),(4,.pointer none),(38,.bool (l1.red && l1.left.red))]) (fun _ w=>Has w0 tb p0 n0 fp (.node l1 x1 r1 c1) p1 w) ?_ ?_
 ·obtain ⟨⟨DT,⟨b,av,pl,pr,fl,fr,rfl,rfl,hb,Ci,hl,hr⟩,J2,hsub,ho⟩,hd⟩:=hH
  have hH:Has w0 tb p0 n0 fp (.node l1 x1 r1 c1) (some ⟨b,0,none⟩) w:=⟨⟨_,⟨b,av,pl,pr,fl,fr,rfl,rfl,hb,Ci,hl,hr⟩,J2,hsub,ho⟩,hd⟩
  cases hq:l1.red
  ·have hs:=(St.nil w).AG hb (by simp)
   refine Jk ?_
   have AN:AA [] w _:=hs.AB [] (by simp [hb]) (by simp [D0])
   refine AY hs (h:=by exact Bd l1 pl fl _ (hl.keep AN (AL.nil _) (by simp))) (k:=?_);intro w' ho hs
   rw [hq]
   refine Jj ?_
   exact AP () Ab (hH.only (hs.AB [] (by simp [hb]) (by simp [D0])))
  ·obtain ⟨ll,y,lr,rfl⟩:=RB.Bo hq
   have hl0:=hl
   obtain ⟨u,JM,Ta,Po,fll,flr,rfl,rfl,hu,Mc,G9,hlr⟩:=hl
   have R5:u≠b:=fun e=>by
    subst e
    simp at J2
   have hs:=((St.nil w).AG hb (by simp)).AG hu (by simpa using R5)
   refine Jk ?_
   have AN:AA [] w _:=hs.AB [] (by simp [hb,hu]) (by simp [D0])
   refine AY hs (h:=by exact Bd _ _ _ _ (hl0.keep AN (AL.nil _) (by simp))) (k:=?_);intro w' ho hs
   rw [hq]
   refine Jf ?_
   have AN:AA [] w _:=hs.AB [] (by simp [hb,hu]) (by simp [D0])
   refine AY hs (h:=by exact Bd _ _ _ _ (G9.keep AN (AL.nil _) (by simp))) (k:=?_);intro w' ho hs
   rw [RB.Ap]
   generalize Gj:ll.red=q2
   refine Jc ?_
   exact AP () Ab (hH.only (hs.AB [] (by simp [hb,hu]) (by simp [D0])))
 clear hH
 rintro _ env w hH
 refine B7 (fun s:Option Addr=>[(0,.pointer (some ⟨tb,0,none⟩)),(1,.pointer s),(4,.pointer none)]) (fun s w=>Has w0 tb p0 n0 fp (RB.ED (.node l1 x1 r1 c1)) s w) ?_ ?_
 ·generalize hq:(l1.red && l1.left.red)=q
  cases q
  ·refine Jg ?_
   refine AP p1 Ab ?_
   unfold RB.ED
   rw [RB.Ap,hq]
   exact hH
  ·obtain ⟨⟨DT,h1,h2,h3,h4⟩,h5⟩:=hH
   simp only [Bool.and_eq_true] at hq
   obtain ⟨ll,y,lr,rfl⟩:=RB.Bo hq.1
   have hs:=St.nil w
   refine Ji ?_
   refine cl (h:=by exact GV tb p0 n0 ll y lr x1 r1 c1 true _ _ _ h5 h1.Ld h2 (by simpa [RB.list] using Zw)) (k:=?_)
   rintro v w' hv
   obtain ⟨p',rfl,hH⟩:=Has.next h1 h3 h4 h5 hv
   have hs:=St.nil w'
   refine Jc ?_
   refine AP p' Ab ?_
   unfold RB.ED
   rw [RB.Ap,RB.BL,hq.2]
   exact hH
 obtain ⟨l2,x2,r2,c2,e2⟩:=Iz l1 x1 r1 c1
 rintro p2 env w hH
 rw [e2] at hH
 refine Ag ?_
 refine Ag ?_
 refine B7 (fun _:Unit=>[(0,.pointer (some ⟨tb,0,none⟩)),(1,.pointer p2),(4,.pointer none),(53,.bool (l2.red && r2.red))]) (fun _ w=>Has w0 tb p0 n0 fp (.node l2 x2 r2 c2) p2 w) ?_ ?_
 ·obtain ⟨⟨DT,⟨b,av,pl,pr,fl,fr,rfl,rfl,hb,Ci,hl,hr⟩,J2,hsub,ho⟩,hd⟩:=hH
  have hH:Has w0 tb p0 n0 fp (.node l2 x2 r2 c2) (some ⟨b,0,none⟩) w:=⟨⟨_,⟨b,av,pl,pr,fl,fr,rfl,rfl,hb,Ci,hl,hr⟩,J2,hsub,ho⟩,hd⟩
  have hs:=(St.nil w).AG hb (by simp)
  refine Jk ?_
  have AN:AA [] w _:=hs.AB [] (by simp [hb]) (by simp [D0])
  refine AY hs (h:=by exact Bd l2 pl fl _ (hl.keep AN (AL.nil _) (by simp))) (k:=?_);intro w' ho hs
  generalize hq:l2.red=q
  cases q
  ·refine Jj ?_
   exact AP () Ab (hH.only (hs.AB [] (by simp [hb]) (by simp [D0])))
  ·refine Jf ?_
   have AN:AA [] w _:=hs.AB [] (by simp [hb]) (by simp [D0])
   refine AY hs (h:=by exact Bd r2 pr fr _ (hr.keep AN (AL.nil _) (by simp))) (k:=?_);intro w' ho hs
   generalize Gj:r2.red=q2
   refine Jc ?_
   exact AP () Ab (hH.only (hs.AB [] (by simp [hb]) (by simp [D0])))
 clear hH
 rintro _ env w hH
 refine B7 (fun _:Unit=>[(0,.pointer (some ⟨tb,0,none⟩)),(1,.pointer p2),(4,.pointer none)]) (fun _ w=>Has w0 tb p0 n0 fp (RB.EE (.node l2 x2 r2 c2)) p2 w) ?_ ?_
 ·generalize hq:(l2.red && r2.red)=q
  cases q
  ·refine Jg ?_
   refine AP () Ab ?_
   unfold RB.EE
   rw [RB.Ap,RB.Ay,hq]
   exact hH
  ·obtain ⟨⟨DT,h1,h2,h3,h4⟩,h5⟩:=hH
   simp only [Bool.and_eq_true] at hq
   obtain ⟨ll,y,lr,rfl⟩:=RB.Bo hq.1
   obtain ⟨rl,z,rr,rfl⟩:=RB.Bo hq.2
   have hs:=St.nil w
   refine Ji ?_
   refine cl (h:=by exact GJ ll y lr true x2 rl z rr true c2 p2 DT _ h1 h2) (k:=?_)
   rintro v w' ⟨k1,k2⟩
   have hs:=St.nil w'
   refine Jb ?_
   refine AP () Ab ⟨⟨DT,k1,h2,h3,h4.step k2 h3⟩,head_keep h5 k2 h1.nodes⟩
 rintro _ env w hH
 have e3:RB.EE (.node l2 x2 r2 c2)=RB.mend (.node l x r c):=by rw [← e2,← e1];rfl
 rw [e3] at hH
 have hs:=St.nil w
 obtain ⟨⟨DT,h1,h2,h3,h4⟩,h5⟩:=hH
 refine Ja ?_
 refine AF ?_
 exact ⟨_,DT,rfl,h1,h2,h3,h4.step (hs.AD rfl) (by simp)⟩
theorem Cb.up {w0 w2 w3:World} {fp EA:List Nat} {t:RB IT} {v:Value} (k:Cb w2 EA t v w3) (ho:AA fp w0 w2) (hs:∀ k∈EA,k∈fp∨w0.heap.size≤k):Cb w0 fp t v w3:=by
 obtain ⟨p',Ca,rfl,k1,k2,k3,k4⟩:=k
 refine ⟨p',Ca,rfl,k1,k2,fun i hi=>?_,ho.step k4 hs⟩
 have:=ho.size
 rcases k3 i hi with h | h
 ·exact hs i h
 ·exact .inr om
theorem Nl {w w' w2:World} {b:Nat} {y y2:IT} {av Oq:It} {pl pr p':Option Addr} {c c2:Bool} {fl fr:List Nat} {r l':RB IT} (hb:w.heap[b]?=some (EO y av pl pr c)) (hl:AL w fl) (hr:Ad w r pr fr) (hnd:(b :: (fl ++ fr)).Nodup)
 (k:Cb w fl l' (.pointer p') w') (ho:AA [b] w' w2) (Dv:w2.heap[b]?=some (EO y2 Oq p' pr c2)) :
 ∃ EA,C8 w2 l' y2 r c2 (some ⟨b,0,none⟩) EA∧EA.Nodup∧(∀ i∈EA,i∈b :: (fl ++ fr)∨w.heap.size≤i)∧AA (b :: (fl ++ fr)) w w2:=by
 obtain ⟨p,Ca,e,k1,k2,k3,k4⟩:=k
 obtain rfl:p'=p:=by injection e
 have x5:=lt_of_block hb
 have uR:=hr.nodes.lt
 simp only [List.nodup_cons,List.nodup_append,List.mem_append] at hnd
 obtain ⟨d1,d2,d3,d4⟩:=hnd
 have e1:b∉Ca:=fun hm=>by
  rcases k3 b hm with h | h
  ·exact d1 (.inl h)
  ·omega
 have e2:∀ i∈fr,i∉fl:=fun i hi hm=>d4 i hm i hi rfl
 have CD:=k4.block hb (fun h=>d1 (.inl h))
 have hN:AL w' [b]:=AL.cons CD (AL.nil w')
 refine ⟨b :: (Ca ++ fr),⟨b,Oq,p',pr,Ca,fr,rfl,rfl,Dv,k1.keep ho hN (fun i hi hm=>?_),(hr.keep k4 hl e2).keep ho hN (fun i hi hm=>?_)⟩,?_,?_,?_⟩
 ·obtain rfl:=List.mem_singleton.1 hm;exact e1 hi
 ·obtain rfl:=List.mem_singleton.1 hm;exact d1 (.inr hi)
 ·simp only [List.nodup_cons,List.nodup_append,List.mem_append]
  refine ⟨fun h=>?_,k2,d3,fun i hi j hj hij=>?_⟩
  ·rcases h with h | h
   ·exact e1 h
   ·exact d1 (.inr h)
  ·subst hij
   rcases k3 i hi with h | h
   ·exact d4 i h i hj rfl
   ·have:=uR i hj;omega
 ·intro i hi
  rcases List.mem_cons.1 hi with rfl | hi
  ·exact .inl List.mem_cons_self
  ·rcases List.mem_append.1 hi with hi | hi
   ·rcases k3 i hi with h | h
    ·exact .inl (List.mem_cons_of_mem _ (List.mem_append_left _ h))
    ·exact .inr h
   ·exact .inl (List.mem_cons_of_mem _ (List.mem_append_right _ hi))
 ·exact (k4.weaken (fun i hi=>List.mem_cons_of_mem _ (List.mem_append_left _ hi))).step ho (fun i hi => .inl (by obtain rfl:=List.mem_singleton.1 hi;exact List.mem_cons_self))
theorem Ma {w w' w2:World} {b:Nat} {y y2:IT} {av Oq:It} {pl pr p':Option Addr} {c c2:Bool} {fl fr:List Nat} {l r':RB IT} (hb:w.heap[b]?=some (EO y av pl pr c)) (hl:Ad w l pl fl) (hr:AL w fr) (hnd:(b :: (fl ++ fr)).Nodup)
 (k:Cb w fr r' (.pointer p') w') (ho:AA [b] w' w2) (Dv:w2.heap[b]?=some (EO y2 Oq pl p' c2)) :
 ∃ EA,C8 w2 l y2 r' c2 (some ⟨b,0,none⟩) EA∧EA.Nodup∧(∀ i∈EA,i∈b :: (fl ++ fr)∨w.heap.size≤i)∧AA (b :: (fl ++ fr)) w w2:=by
 obtain ⟨p,Ca,e,k1,k2,k3,k4⟩:=k
 obtain rfl:p'=p:=by injection e
 have x5:=lt_of_block hb
 have hls:=hl.nodes.lt
 simp only [List.nodup_cons,List.nodup_append,List.mem_append] at hnd
 obtain ⟨d1,d2,d3,d4⟩:=hnd
 have e1:b∉Ca:=fun hm=>by
  rcases k3 b hm with h | h
  ·exact d1 (.inr h)
  ·omega
 have e2:∀ i∈fl,i∉fr:=fun i hi hm=>d4 i hi i hm rfl
 have CD:=k4.block hb (fun h=>d1 (.inr h))
 have hN:AL w' [b]:=AL.cons CD (AL.nil w')
 refine ⟨b :: (fl ++ Ca),⟨b,Oq,pl,p',fl,Ca,rfl,rfl,Dv,(hl.keep k4 hr e2).keep ho hN (fun i hi hm=>?_),k1.keep ho hN (fun i hi hm=>?_)⟩,?_,?_,?_⟩
 ·obtain rfl:=List.mem_singleton.1 hm;exact d1 (.inl hi)
 ·obtain rfl:=List.mem_singleton.1 hm;exact e1 hi
 ·simp only [List.nodup_cons,List.nodup_append,List.mem_append]
  refine ⟨fun h=>?_,d2,k2,fun i hi j hj hij=>?_⟩
  ·rcases h with h | h
   ·exact d1 (.inl h)
   ·exact e1 h
  ·subst hij
   rcases k3 i hj with h | h
   ·exact d4 i hi i h rfl
   ·have:=hls i hi;omega
 ·intro i hi
  rcases List.mem_cons.1 hi with rfl | hi
  ·exact .inl List.mem_cons_self
  ·rcases List.mem_append.1 hi with hi | hi
   ·exact .inl (List.mem_cons_of_mem _ (List.mem_append_left _ hi))
   ·rcases k3 i hi with h | h
    ·exact .inl (List.mem_cons_of_mem _ (List.mem_append_right _ h))
    ·exact .inr h
 ·exact (k4.weaken (fun i hi=>List.mem_cons_of_mem _ (List.mem_append_right _ hi))).step ho (fun i hi => .inl (by obtain rfl:=List.mem_singleton.1 hi;exact List.mem_cons_self))
theorem FA (x:IT):∀ t:RB IT,(RB.ins Cq t x).list.length=t.list.length+1
 | .nil=>rfl
 | .node l y r c=>by
   simp only [RB.ins]
   cases Cq x y
   ·rw [cond_false,RB.DC];simp only [RB.list,List.length_append,List.length_cons,FA x r];omega
   ·rw [cond_true,RB.DC];simp only [RB.list,List.length_append,List.length_cons,FA x l];omega
theorem GG (tb:Nat) (p0:Option Addr) (n0:Int) (x:IT):∀ (t:RB IT) (p:Option Addr) (fp:List Nat) (w0:World) (hT:w0.heap[tb]?=some (C0 p0 n0)) (h:Ad w0 t p fp) (hnd:fp.Nodup) (hlen:t.list.length+1≤1000000),
 AM Tryz.prog 215 #[.pointer (some ⟨tb,0,none⟩),.pointer p,iv x.1] w0 fun v w'=>Cb w0 fp (RB.ins Cq t x) v w'
 | .nil,p,fp,w0,hT,⟨hp,hf⟩,hnd,hlen=>by
   subst hp hf
   have hs:=(St.nil w0).AG hT (by simp)
   refine AQ Tryz.func215 Tryz.ntmps215 (k:=?_);refine Ag ?_;refine Al ?_;refine bx hs (k:=?_);intro bq wq Lm hs;refine Je ?_
   refine dr [] hs (k:=?_);intro hX w hs
   refine tks 0 6 ?_
   refine dt 6 hX (k:=?_)
   refine AY hs (h:=by exact HU x.1 _) (k:=?_);intro w' ho hs;refine Jb ?_
   refine dn (k:=?_)
   refine tk 7 hX (k:=?_)
   refine dt 8 hX (k:=?_)
   refine bx hs (k:=?_);intro b w hz hs
   refine Jb ?_
   refine dn (k:=?_)
   refine tk 9 hX (k:=?_)
   refine en (k:=?_)
   refine Jb ?_
   refine AF ?_
   have ho:AA [] w0 _:=hs.AB [] (by simp [hT]) (by simp [D0])
   have hnew:=hs.new (b,true) (by simp) rfl
   exact ⟨_,[b],rfl,⟨b,_,none,none,[],[],rfl,rfl,hs.get At.head,rfl,⟨rfl,rfl⟩,⟨rfl,rfl⟩⟩,by simp,fun k hk => .inr (by obtain rfl:=List.mem_singleton.1 hk;exact hnew),ho⟩
 | .node l y r c,p,fp,w0,hT,⟨b,av,pl,pr,fl,fr,hp,hf,hb,Ci,hl,hr⟩,hnd,hlen=>by
   subst hp hf
   have Dz:=CZ hT hb
   have hs:=((St.nil w0).AG hT (by simp)).AG hb (by simpa using Dz)
   have Wd:=lt_of_block hT
   have oV:=lt_of_block hb
   have qM:=hl.nodes.lt
   have lt4:=hr.nodes.lt
   simp only [RB.list,List.length_append,List.length_cons] at hlen
   refine AQ Tryz.func215 Tryz.ntmps215 (k:=?_);refine Ag ?_;refine Al ?_;refine bx hs (k:=?_);intro bq wq Lm hs;refine Jd ?_
   have JB:=hs.new (bq,true) (by simp) rfl
   simp only at JB
   refine dr [] hs (k:=?_);intro hX w hs
   refine tks 0 9 ?_
   refine dt 9 hX (k:=?_)
   refine AY hs (h:=by exact M1 x y _) (k:=?_);intro w' ho hs
   refine Jb ?_
   refine dn (k:=?_)
   refine tk 10 hX (k:=?_)
   refine en (k:=?_)
   generalize hq:Cq x y=q
   cases q
   ·have e:RB.ins Cq (.node l y r c) x=RB.mend (.node l y (RB.ins Cq r x) c):=by simp [RB.ins,hq]
    rw [e]
    refine Jg ?_
    have AJ:AA [] w0 _:=hs.AB [] (by simp [hT,hb]) (by simp [D0])
    have CI:=head_keep hT AJ (AL.nil _)
    have Ec:=hl.keep AJ (AL.nil _) (by simp)
    have hrw:=hr.keep AJ (AL.nil _) (by simp)
    have Bv:=hs.get (At.tail At.head)
    have JL:=hs.get At.head
    refine dr [10] hs (k:=?_);intro hX w hs
    refine tks 0 7 ?_
    refine dt 7 hX (k:=?_)
    have AJ:AA [] w0 _:=hs.AB [] (by simp [hT,hb]) (by simp [D0])
    have CI:=head_keep hT AJ (AL.nil _)
    have Ec:=hl.keep AJ (AL.nil _) (by simp)
    have hrw:=hr.keep AJ (AL.nil _) (by simp)
    have Bv:=hs.get (At.tail At.head)
    have JL:=hs.get At.head
    refine cl (h:=by exact GG tb p0 n0 x r pr fr _ CI hrw (by simp only [List.nodup_cons,List.nodup_append] at hnd;exact hnd.2.2.1) om) (k:=?_)
    rintro v w' hk
    obtain ⟨p',hv⟩:∃ p',v = .pointer p':=by obtain ⟨p',_,hv,_⟩:=hk;exact ⟨p',hv⟩
    subst hv
    obtain ⟨_,_,_,_,_,_,k4⟩:=id hk
    have Bj:=head_keep CI k4 hrw.nodes
    have CD:=k4.block Bv (fun h=>by simp [h] at hnd)
    have hq1:=k4.block JL (fun h=>by have:=lt4 bq h;omega)
    clear hs
    have hs:=(((St.nil w').AG Bj (by simp)).AG CD (by simpa using Dz)).AG hq1 (by simp;omega)
    refine Jb ?_
    refine dn (k:=?_)
    refine tks 8 2 ?_
    refine dt 10 hX (k:=?_)
    repeat' (first|refine Nx.h ?_|(refine st hs (k:=?_);intro w hs)|fail)
    refine dn (k:=?_)
    refine en (k:=?_)
    refine Ja ?_
    have AT:AA [b] w' _:=hs.AB [b] (by simp [Bj,hq1]) (by simp [D0])
    obtain ⟨EA,s1,s2,s3,s4⟩:=Ma Bv Ec hrw.nodes hnd hk AT (hs.get (At.tail At.head))
    refine cl (h:=by exact GC tb p0 n0 _ y _ c _ _ _ (head_keep Bj AT (AL.cons CD (AL.nil _))) s1 s2 (by simp only [List.length_append,List.length_cons,FA];omega)) (k:=?_)
    rintro v w3 hm
    have hsz:=AJ.size
    have hm2:=hm.up ((AJ.weaken (G:=b :: (fl ++ fr)) (by simp)).step s4 (fun k hk => .inl hk)) (fun k hk=>by rcases s3 k hk with h | h;exact .inl h;exact .inr om)
    have hs:=St.nil w3
    refine Jc ?_
    refine AF ?_
    exact hm2
   ·have e:RB.ins Cq (.node l y r c) x=RB.mend (.node (RB.ins Cq l x) y r c):=by simp [RB.ins,hq]
    rw [e]
    repeat' (first|refine Nx.h ?_|refine Ew ?_|fail)
    have AJ:AA [] w0 _:=hs.AB [] (by simp [hT,hb]) (by simp [D0])
    have CI:=head_keep hT AJ (AL.nil _)
    have Ec:=hl.keep AJ (AL.nil _) (by simp)
    have hrw:=hr.keep AJ (AL.nil _) (by simp)
    have Bv:=hs.get (At.tail At.head)
    have JL:=hs.get At.head
    refine dr [10] hs (k:=?_);intro hX w hs
    refine tks 0 7 ?_
    refine dt 7 hX (k:=?_)
    have AJ:AA [] w0 _:=hs.AB [] (by simp [hT,hb]) (by simp [D0])
    have CI:=head_keep hT AJ (AL.nil _)
    have Ec:=hl.keep AJ (AL.nil _) (by simp)
    have hrw:=hr.keep AJ (AL.nil _) (by simp)
    have Bv:=hs.get (At.tail At.head)
    have JL:=hs.get At.head
    refine cl (h:=by exact GG tb p0 n0 x l pl fl _ CI Ec (by simp only [List.nodup_cons,List.nodup_append] at hnd;exact hnd.2.1) om) (k:=?_)
    rintro v w' hk
    obtain ⟨p',hv⟩:∃ p',v = .pointer p':=by obtain ⟨p',_,hv,_⟩:=hk;exact ⟨p',hv⟩
    subst hv
    obtain ⟨_,_,_,_,_,_,k4⟩:=id hk
    have Bj:=head_keep CI k4 Ec.nodes
    have CD:=k4.block Bv (fun h=>by simp [h] at hnd)
    have hq1:=k4.block JL (fun h=>by have:=qM bq h;omega)
    clear hs
    have hs:=(((St.nil w').AG Bj (by simp)).AG CD (by simpa using Dz)).AG hq1 (by simp;omega)
    refine Jb ?_
    refine dn (k:=?_)
    refine tks 8 2 ?_
    refine dt 10 hX (k:=?_)
    repeat' (first|refine Nx.h ?_|(refine st hs (k:=?_);intro w hs)|fail)
    refine dn (k:=?_)
    refine en (k:=?_)
    refine Ja ?_
    have AT:AA [b] w' _:=hs.AB [b] (by simp [Bj,hq1]) (by simp [D0])
    obtain ⟨EA,s1,s2,s3,s4⟩:=Nl Bv Ec.nodes hrw hnd hk AT (hs.get (At.tail At.head))
    refine cl (h:=by exact GC tb p0 n0 _ y _ c _ _ _ (head_keep Bj AT (AL.cons CD (AL.nil _))) s1 s2 (by simp only [List.length_append,List.length_cons,FA];omega)) (k:=?_)
    rintro v w3 hm
    have hsz:=AJ.size
    have hm2:=hm.up ((AJ.weaken (G:=b :: (fl ++ fr)) (by simp)).step s4 (fun k hk => .inl hk)) (fun k hk=>by rcases s3 k hk with h | h;exact .inl h;exact .inr om)
    have hs:=St.nil w3
    refine Jc ?_
    refine AF ?_
    exact hm2
theorem Ow (tb:Nat) (p:Option Addr) (n:Int) (t:RB IT) (fp:List Nat) (x:IT) (w0:World) (hT:w0.heap[tb]?=some (C0 p n)) (h:Ad w0 t p fp) :
 AM Tryz.prog 214 #[.pointer (some ⟨tb,0,none⟩),iv x.1] w0 fun v w'=>v = .bool (RB.has Cq x t)∧AA [] w0 w':=by
 have hs:=(St.nil w0).AG hT (by simp)
 have Wd:=lt_of_block hT
 refine AQ Tryz.func214 Tryz.ntmps214 (k:=?_);refine Ag ?_;refine Al ?_;refine bx hs (k:=?_);intro bq wq Lm hs;refine Jd ?_
 have JB:=hs.new (bq,true) (by simp) rfl
 simp only at JB
 have AJ:AA [] w0 _:=hs.AB [] (by simp [hT]) (by simp [D0])
 have JL:=hs.get At.head
 refine BN (fun _:Unit=>[]) (fun _ w=>RB.has Cq x t=false∧AA [] w0 w) ?_ ?_
 ·refine BD (fun (s:RB IT × Option Addr)=>[(0,.pointer (some ⟨tb,0,none⟩)),(3,.pointer (some ⟨bq,0,none⟩)),(5,.pointer s.2)])
   (fun s w=>RB.has Cq x s.1=RB.has Cq x t∧AA [] w0 w∧w.heap[bq]?=some (.cells x.1.cells.toArray 64 (0,0))∧∃ fp,Ad w0 s.1 s.2 fp)
   (fun s=>s.1.list.length) (t,p) Ab ⟨rfl,AJ,JL,fp,h⟩ fun s env w ⟨h1,h2,JL,EA,h3⟩=>?_
  clear hs
  obtain ⟨s,ps⟩:=s
  dsimp only at h1 h3 ⊢
  have CI:=h2.block hT (by simp)
  cases s with
  | nil =>
    obtain ⟨rfl,rfl⟩:=h3
    have hs:=St.nil w
    refine Jd ?_
    exact Ar () Ab ⟨h1.symm,h2.step (hs.AD rfl) (by simp)⟩
  | node l y r c =>
    obtain ⟨b,av,pl,pr,fl,fr,rfl,rfl,hb,Ci,hl,hr⟩:=h3
    have Bv:=h2.block hb (by simp)
    have Dz:=CZ hT hb
    have oV:=lt_of_block hb
    have hs:=(((St.nil w).AG CI (by simp)).AG Bv (by simpa using Dz)).AG JL (by simp;omega)
    refine Je ?_
    refine dr [] hs (k:=?_);intro hX w hs
    refine tks 0 9 ?_
    refine dt 9 hX (k:=?_)
    refine AY hs (h:=by exact M1 x y _) (k:=?_);intro w' ho hs
    refine Jb ?_
    refine dn (k:=?_)
    refine tk 10 hX (k:=?_)
    refine en (k:=?_)
    generalize hq:Cq x y=q
    simp only [RB.has,hq] at h1
    cases q
    ·refine Jg ?_
     refine dr [] hs (k:=?_);intro hX w hs
     refine tks 0 9 ?_
     refine dt 9 hX (k:=?_)
     refine AY hs (h:=by exact M1 y x _) (k:=?_);intro w' ho hs
     refine Jb ?_
     refine dn (k:=?_)
     refine tk 10 hX (k:=?_)
     refine en (k:=?_)
     generalize Gj:Cq y x=q2
     simp only [Gj,cond_false] at h1
     cases q2
     ·refine Jd ?_
      refine AF ?_
      exact ⟨by rw [← h1];rfl,h2.step (hs.AB [] (by simp [CI,Bv,JL]) (by simp [D0])) (by simp)⟩
     ·refine Je ?_
      exact A2 (r,pr) (by simp only [RB.list,List.length_append,List.length_cons];omega) Ab ⟨h1,h2.step (hs.AB [] (by simp [CI,Bv,JL]) (by simp [D0])) (by simp),hs.get At.head,_,hr⟩
    ·refine Je ?_
     exact A2 (l,pl) (by simp only [RB.list,List.length_append,List.length_cons];omega) Ab ⟨h1,h2.step (hs.AB [] (by simp [CI,Bv,JL]) (by simp [D0])) (by simp),hs.get At.head,_,hl⟩
 ·rintro _ env w ⟨h1,h2⟩
  clear hs
  have hs:=St.nil w
  refine Ja ?_
  refine AF ?_
  exact ⟨by rw [h1];rfl,h2.step (hs.AD rfl) (by simp)⟩
theorem NP (l:RB IT) (x:IT) (r:RB IT) (c:Bool):∃ l' x' r' c',RB.EE (.node l x r c) = .node l' x' r' c':=by
 unfold RB.EE
 cases l with
 | nil=>exact ⟨_,_,_,_,rfl⟩
 | node a y b d =>
   cases r with
   | nil=>cases d <;> exact ⟨_,_,_,_,rfl⟩
   | node u z v e=>cases d <;> cases e <;> exact ⟨_,_,_,_,rfl⟩
theorem KN (l:RB IT) (x:IT) (r:RB IT) (c:Bool):∃ l' x' r' c',RB.mend (.node l x r c) = .node l' x' r' c':=by
 unfold RB.mend
 obtain ⟨l1,x1,r1,c1,e1⟩:=JJ l x r c
 obtain ⟨l2,x2,r2,c2,e2⟩:=Iz l1 x1 r1 c1
 rw [e1,e2]
 exact NP l2 x2 r2 c2
theorem Qj (x:IT) (t:RB IT):∃ l' x' r' c',RB.ins Cq t x = .node l' x' r' c':=by
 cases t with
 | nil=>exact ⟨_,_,_,_,rfl⟩
 | node l y r c =>
   simp only [RB.ins]
   cases Cq x y
   ·exact KN _ _ _ _
   ·exact KN _ _ _ _
theorem Ad.Ae {w w':World} {F:List Nat} (ho:AA F w w'):∀ {t:RB IT} {p:Option Addr} {fp:List Nat},Ad w t p fp→(∀ b∈fp,b∉F)→Ad w' t p fp
 | .nil,p,fp,h,_=>h
 | .node l x r c,p,fp,⟨b,av,pl,pr,fl,fr,h1,h2,h3,h4,h5,h6⟩,hd=>by
   subst h2
   exact ⟨b,av,pl,pr,fl,fr,h1,rfl,ho.block h3 (hd b List.mem_cons_self),h4,Ad.Ae ho h5 fun k hk=>hd k (List.mem_cons_of_mem _ (List.mem_append_left _ hk)),
    Ad.Ae ho h6 fun k hk=>hd k (List.mem_cons_of_mem _ (List.mem_append_right _ hk))⟩
theorem GK {w w':World} {b tb:Nat} {t:RB IT} {p p0:Option Addr} {n0:Int} {fp:List Nat} {cs:Array Value} {fz:Nat × Nat} (h:Ad w t p fp) (ho:AA [b,tb] w w') (hb:w.heap[b]?=some (.cells cs 276 fz)) (hT:w.heap[tb]?=some (C0 p0 n0)) (h1:b∉fp) (h2:tb∉fp):Ad w' t p fp :=
 h.Ae ho fun k hk hm=>by
  simp only [List.mem_cons,List.not_mem_nil,or_false] at hm
  rcases hm with rfl | rfl
  ·exact h1 hk
  ·exact h2 hk
def C6 (w:World) (tb:Nat) (t:RB IT) (F:List Nat):Prop:=∃ p fp,F=tb :: fp∧w.heap[tb]?=some (C0 p t.list.length)∧Ad w t p fp∧fp.Nodup
def RB.insert (t:RB IT) (x:IT):RB IT:=bif RB.has Cq x t then t else RB.blacken (RB.ins Cq t x)
theorem Fi (tb:Nat) (t:RB IT) (F:List Nat) (x:IT) (w0:World) (h:C6 w0 tb t F) (hlen:t.list.length+1≤1000000) :
 AM Tryz.prog 179 #[.pointer (some ⟨tb,0,none⟩),iv x.1] w0 fun v w'=>v = .bool (!RB.has Cq x t)∧∃ F',C6 w' tb (RB.insert t x) F'∧(∀ k∈F',k∈F∨w0.heap.size≤k)∧AA F w0 w':=by
 obtain ⟨p,fp,rfl,hT,ht,hnd⟩:=h
 have hs:=(St.nil w0).AG hT (by simp)
 have Wd:=lt_of_block hT
 have qM:=ht.nodes.lt
 refine AQ Tryz.func179 Tryz.ntmps179 (k:=?_);refine Ag ?_;refine Al ?_;refine bx hs (k:=?_);intro bq wq Lm hs;refine Ja ?_
 have JB:=hs.new (bq,true) (by simp) rfl
 simp only at JB
 have AJ:AA [] w0 _:=hs.AB [] (by simp [hT]) (by simp [D0])
 refine AY hs (h:=by exact Ow tb p _ t fp x _ (hs.get (At.tail At.head)) (ht.keep AJ (AL.nil _) (by simp))) (k:=?_);intro w' ho hs
 unfold RB.insert
 generalize hq:RB.has Cq x t=q
 cases q
 ·obtain ⟨l',y,r',c,e⟩:=Qj x t
  have hl':=FA x t
  rw [e] at hl' ⊢
  refine Jl ?_
  refine dr [10] hs (k:=?_);intro hX w hs
  refine tks 0 7 ?_
  refine dt 7 hX (k:=?_)
  have AJ:AA [] w0 _:=hs.AB [] (by simp [hT]) (by simp [D0])
  have CI:=hs.get (At.tail At.head)
  have JL:=hs.get At.head
  have htw:=ht.keep AJ (AL.nil _) (by simp)
  refine cl (h:=by exact GG tb p _ x t p fp _ CI htw hnd hlen) (k:=?_)
  rintro v w1 ⟨p',Ca,rfl,k1,k2,k3,k4⟩
  have Bj:=head_keep CI k4 htw.nodes
  have hq1:=k4.block JL (fun h=>by have:=qM bq h;omega)
  rw [e] at k1
  obtain ⟨b,av,pl,pr,fl,fr,rfl,rfl,hb,Ci,hl,hr⟩:=k1
  have Dz:=CZ Bj hb
  have aA2:b≠bq:=AW hb hq1 (by decide)
  clear hs
  have hs:=((St.nil w1).AG Bj (by simp)).AG hq1 (by simp;omega)
  refine Jb ?_
  refine dn (k:=?_)
  replace hs:=hs.AG (b:=b) hb (by simp [Dz,aA2])
  refine tks 8 2 ?_
  refine dt 10 hX (k:=?_)
  repeat' (first|refine Nx.h ?_|(refine st hs (k:=?_);intro w hs)|fail)
  refine dn (k:=?_)
  refine en (k:=?_)
  repeat' (first|refine Sa ?_|(refine st hs (k:=?_);intro w hs)|fail)
  have en:IntKind.i64.wrap ((t.list.length:Nat)+1)=((l'.list ++ y :: r'.list).length:Nat):=by
   have h1:(l'.list ++ y :: r'.list).length=t.list.length+1:=hl'
   rw [h1]
   exact KB om om
  rw [en] at hs
  refine AF ?_
  have AT:AA [b,tb] w1 _:=hs.AB [b,tb] (by simp [hq1]) (by simp [D0])
  have hsz:=AJ.size
  have N6:b∉fl∧b∉fr:=by
   simp only [List.nodup_cons,List.mem_append,not_or] at k2
   exact k2.1
  have U5:tb∉fl∧tb∉fr:=⟨(fun h=>by obtain ⟨_,_,h⟩:=hl.nodes tb h;rw [Bj] at h;cases h),(fun h=>by obtain ⟨_,_,h⟩:=hr.nodes tb h;rw [Bj] at h;cases h)⟩
  have h2:=hs.get At.head
  have h3:=hs.get (At.tail (At.tail At.head))
  have o1:AA (tb :: fp) w0 w1:=(AJ.weaken (by simp)).step k4 (fun k hk => .inl (List.mem_cons_of_mem _ hk))
  refine ⟨rfl,tb :: (b :: (fl ++ fr)),⟨_,_,rfl,h3,⟨b,av,pl,pr,fl,fr,rfl,rfl,h2,Ci,?_,?_⟩,k2⟩,?_,?_⟩
  ·exact GK hl AT hb Bj N6.1 U5.1
  ·exact GK hr AT hb Bj N6.2 U5.2
  ·intro k hk
   rcases List.mem_cons.1 hk with rfl | hk
   ·exact .inl List.mem_cons_self
   ·rcases k3 k hk with h | h
    ·exact .inl (List.mem_cons_of_mem _ h)
    ·exact .inr om
  ·refine o1.step AT (fun k hk=>?_)
   simp only [List.mem_cons,List.not_mem_nil,or_false] at hk
   rcases hk with rfl | rfl
   ·rcases k3 k List.mem_cons_self with h | h
    ·exact .inl (List.mem_cons_of_mem _ h)
    ·exact .inr om
   ·exact .inl List.mem_cons_self
 ·refine Je ?_
  refine AF ?_
  have AJ:AA [] w0 _:=hs.AB [] (by simp [hT]) (by simp [D0])
  exact ⟨rfl,_,⟨p,fp,rfl,hs.get (At.tail At.head),ht.keep AJ (AL.nil _) (by simp),hnd⟩,fun k hk => .inl hk,AJ.weaken (by simp)⟩
def Bh (l:List IT):List Value:=(l.map fun a=>a.1.cells).flatten
theorem LX (a b:List IT):Bh (a ++ b)=Bh a ++ Bh b:=by simp [Bh]
theorem MZ {w:World} {e k n:Nat} {v:Value} {xs:List Value} {G:List Nat} (h:Ba w e k v n xs G) {t:Nat} (hne:t≠e) {cs:Array Value} {fz:Nat × Nat} {b:Nat} (hb:w.heap[b]?=some (.cells cs t fz)):b∉G:=fun hm=>by
 rcases h with ⟨_,_,_,rfl⟩ | ⟨g,cap,cur,_,rfl,_,_,_,_,hg⟩
 ·cases hm
 ·obtain rfl:=List.mem_singleton.1 hm
  exact AW hb hg hne rfl
theorem AL.not {w:World} {F:List Nat} (hF:AL w F) {e k n:Nat} {v:Value} {xs:List Value} {G:List Nat} (h:Ba w e k v n xs G) (hne:276≠e):∀ b∈F,b∉G:=fun b hb=>by
 obtain ⟨cs,fz,h1⟩:=hF b hb
 exact MZ h hne h1
theorem GA:∀ (t:RB IT) (p:Option Addr) (fp:List Nat) (v0:Value) (xs:List IT) (G:List Nat) (w0:World) (h:Ad w0 t p fp) (hO:Ba w0 64 7 v0 xs.length (Bh xs) G) (hlen:xs.length+t.list.length≤1000000),
 AM Tryz.prog 239 #[.pointer p,v0] w0 fun v w'=>(∃ G',Ba w' 64 7 v (xs ++ t.list).length (Bh (xs ++ t.list)) G'∧(∀ k∈G',k∈G∨w0.heap.size≤k))∧AA G w0 w'
 | .nil,p,fp,v0,xs,G,w0,h,hO,hlen=>by
   obtain ⟨rfl,rfl⟩:=h
   have hs:=St.nil w0
   refine AQ Tryz.func239 Tryz.ntmps239 (k:=?_)
   refine Je ?_
   refine AF ?_
   have ho:=hs.AD rfl
   rw [show xs ++ RB.nil.list=xs from List.append_nil xs]
   exact ⟨⟨G,hO.keep ho (by simp),fun k hk => .inl hk⟩,ho.weaken (by simp)⟩
 | .node l x r c,p,fp,v0,xs,G,w0,⟨b,av,pl,pr,fl,fr,hp',hf',hb,Ci,hl,hr⟩,hO,hlen=>by
   subst hp' hf'
   simp only [RB.list,List.length_append,List.length_cons] at hlen
   have hs:=(St.nil w0).AG hb (by simp)
   have hGl:=hO.lt
   have Yp:=MZ hO (by decide) hb
   have hnl:=hl.nodes.not hO (by decide)
   have Pk:=hr.nodes.not hO (by decide)
   have ltr:=hr.nodes.lt
   have ltb:=lt_of_block hb
   refine AQ Tryz.func239 Tryz.ntmps239 (k:=?_)
   refine Jd ?_
   refine dr [] hs (k:=?_);intro hX w hs
   refine tks 0 9 ?_
   refine tks 10 4 ?_
   refine kF 14 22 x.1.cells hs (k:=?_);intro f X w hp;have hs:=hp.st
   apply BH 9 14 (f:=f) (X:=X) hX hp;exact rfl;exact rfl;(first | (apply AR AI;exact rfl) | (apply EG AI;exact rfl;exact rfl;exact rfl;exact rfl;exact rfl;(intro X;((repeat (first | exact CU.nil | (apply CU.one;exact rfl;(conv=>lhs;whnf);exact rfl;(repeat (first | exact Ai.nil | apply Ai.skip | apply Ai.cons))) | (apply CU.agg;exact rfl;exact rfl;exact rfl;(repeat (first | exact Ai.nil | apply Ai.skip | apply Ai.cons)))))))));kernel_rfl;kernel_rfl;kernel_rfl;kernel_rfl;(intro X Y;(repeat (first | exact A4 | refine A3 ?_ (by exact rfl))));(intro w' hs;first|exact AH hs.hold|exact AH hs.hold.tail|exact A6 rfl);intro f X w hp;have hs:=hp.st
   have AJ:AA [] w0 _:=hs.AB [] (by simp [hb]) (by simp [D0])
   refine cl (h:=by exact GA l pl fl v0 xs G _ (hl.keep AJ (AL.nil _) (by simp)) (hO.keep AJ (by simp)) om) (k:=?_)
   rintro v1 w1 ⟨⟨G1,LW,MW⟩,AN⟩
   have JK:=AJ.size
   have hp:Er w0 ⟨G ++ [],[]⟩ _ _ _ (fun w=>Ba w 64 7 v1 (xs ++ l.list).length (Bh (xs ++ l.list)) G1) _ _ _:=⟨hp.core.call AN hGl (fun k hk hm=>by obtain rfl:=List.mem_singleton.1 hm;exact Yp hk) (by simp [D0]),LW,fun _ _ ho h=>h.keep ho (by simp)⟩
   replace hs:=hp.st
   have QJ:∀ k∈G1,k∈G∨w0.heap.size≤k:=fun k hk=>by rcases MW k hk with h | h;exact .inl h;exact .inr om
   clear MW AJ AN
   refine Jb ?_
   refine dn (k:=?_)
   apply B9 14 (f:=f) (X:=X) hX hp;exact rfl;(first | (apply AR AI;exact rfl) | (apply EG AI;exact rfl;exact rfl;exact rfl;exact rfl;exact rfl;(intro X;((repeat (first | exact CU.nil | (apply CU.one;exact rfl;(conv=>lhs;whnf);exact rfl;(repeat (first | exact Ai.nil | apply Ai.skip | apply Ai.cons))) | (apply CU.agg;exact rfl;exact rfl;exact rfl;(repeat (first | exact Ai.nil | apply Ai.skip | apply Ai.cons)))))))));kernel_rfl;kernel_rfl;(intro X Y;(repeat (first | exact A4 | refine A3 ?_ (by exact rfl))));(intro w' hs;first|exact AH hs.hold|exact AH hs.hold.tail|exact A6 rfl);intro b w hI hs
   refine dt 15 hX (k:=?_)
   have aBE:=hs.get At.head
   replace hs:=hs.Bt
   have Bv:=hs.get At.head
   refine CM AI rfl rfl rfl rfl rfl rfl rfl (by decide) (lit_cells (news:=x.1.cells) aBE) (by simp [Value.oneCell']) hI (by simp only [List.length_append];omega) (by simp only [List.length_append];omega) ?_
   intro v2 w3 ⟨G2,Jv,Ju⟩ AT
   have MK:=hs.size
   have aAL:=MZ hI (by decide) Bv
   replace hs:=hs.call AT (fun k hk hm=>by obtain rfl:=List.mem_singleton.1 hm;exact aAL hk) (by simp)
   have u9:Ba w3 64 7 v2 (xs ++ l.list ++ [x]).length (Bh (xs ++ l.list ++ [x])) G2:=by
    rw [LX (xs ++ l.list) [x],List.length_append (bs:=[x])]
    exact Jv
   have Qc:∀ k∈G2,k∈G∨w0.heap.size≤k:=fun k hk=>by
    rcases Ju k hk with h | h
    ·exact QJ k h
    ·exact .inr om
   have uC:AA (G1 ++ (G ++ [])) w0 w3:=hs.AB _ (by simp [hb]) (by simp)
   have Up:=hr.Ae uC (fun k hk hm=>by
    simp only [List.append_nil,List.mem_append] at hm
    rcases hm with hm | hm
    ·rcases QJ k hm with h | h
     ·exact Pk k hk h
     ·have:=ltr k hk;omega
    ·exact Pk k hk hm)
   refine Jb ?_
   refine dn (k:=?_)
   refine dt 16 hX (k:=?_)
   refine cl (h:=by exact GA r pr fr v2 (xs ++ l.list ++ [x]) G2 _ Up u9 (by simp only [List.length_append,List.length_cons,List.length_nil];omega)) (k:=?_)
   rintro v3 w4 ⟨⟨G3,HB,N4⟩,Ao⟩
   have N2:=hs.size
   have aAD:=hs.get At.head
   have aAK:=MZ u9 (by decide) aAD
   replace hs:=hs.call Ao (fun k hk hm=>by obtain rfl:=List.mem_singleton.1 hm;exact aAK hk) (by simp)
   refine Jb ?_
   refine dn (k:=?_)
   refine tk 17 hX (k:=?_)
   refine en (k:=?_)
   refine Jb ?_
   refine AF ?_
   rw [show xs ++ l.list ++ [x] ++ r.list=xs ++ (RB.node l x r c).list by simp [RB.list]] at HB
   have aAG:AA (G2 ++ (G1 ++ (G ++ []))) w0 w4:=hs.AB _ (by simp [hb]) (by simp)
   refine ⟨⟨G3,HB,fun k hk=>?_⟩,?_⟩
   ·rcases N4 k hk with h | h
    ·exact Qc k h
    ·exact .inr om
   ·refine aAG.mono fun k hk hm=>?_
    simp only [List.append_nil,List.mem_append] at hm
    rcases hm with hm | hm | hm
    ·rcases Qc k hm with h | h
     ·exact h
     ·omega
    ·rcases QJ k hm with h | h
     ·exact h
     ·omega
    ·exact hm
def DB (w:World) (v:Value) (l:List IT):Prop:=Iw w v (l.map (·.1))
theorem Nk {w:World} {v:Value} {l:List IT} {G:List Nat} (h:Ba w 64 7 v l.length (Bh l) G):DB w v l:=by
 unfold DB Iw
 refine h.ls ?_ (by simp) ?_
 ·simp [Bh,Function.comp_def]
 ·intro x hx
  obtain ⟨a,_,rfl⟩:=List.mem_map.1 hx
  rfl
theorem O5 (tb:Nat) (t:RB IT) (F:List Nat) (w0:World) (h:C6 w0 tb t F) (hlen:t.list.length≤1000000) :
 AM Tryz.prog 226 #[.pointer (some ⟨tb,0,none⟩)] w0 fun v w'=>(∃ G,Ba w' 64 7 v t.list.length (Bh t.list) G∧∀ k∈G,w0.heap.size≤k)∧AA [] w0 w':=by
 obtain ⟨p,fp,rfl,hT,ht,hnd⟩:=h
 have hs:=(St.nil w0).AG hT (by simp)
 refine AQ Tryz.func226 Tryz.ntmps226 (k:=?_)
 refine Jd ?_
 have AJ:AA [] w0 _:=hs.AB [] (by simp [hT]) (by simp [D0])
 refine cl (h:=by exact GA t p fp _ [] [] _ (ht.keep AJ (AL.nil _) (by simp)) (.inl ⟨rfl,rfl,rfl,rfl⟩) (by simpa using hlen)) (k:=?_)
 rintro v w' ⟨⟨G,hO,hG⟩,ho⟩
 replace hs:=hs.AK ho
 rw [List.nil_append] at hO
 have hz:=AJ.size
 refine Jc ?_
 refine AF ?_
 exact ⟨⟨G,hO,fun k hk=>by rcases hG k hk with h | h;cases h;omega⟩,hs.AB [] (by simp [hT]) (by simp [D0])⟩
theorem fS (tb:Nat) (t:RB IT) (F:List Nat) (w0:World) (h:C6 w0 tb t F) :
 AM Tryz.prog 84 #[.pointer (some ⟨tb,0,none⟩)] w0 fun v w'=>v = .int .i64 (t.list.length:Nat)∧AA [] w0 w':=by
 obtain ⟨p,fp,rfl,hT,ht,hnd⟩:=h
 have hs:=(St.nil w0).AG hT (by simp)
 refine AQ Tryz.func84 Tryz.ntmps84 (k:=?_)
 refine Jd ?_
 refine AF ?_
 exact ⟨rfl,hs.AB [] (by simp [hT]) (by simp [D0])⟩
theorem ME (w0:World):AM Tryz.prog 175 #[.func (.func 176) #[] #[],.func (.func 177) #[] #[],.func (.func 178) #[] #[]] w0 fun v w'=>(∃ tb F,v = .pointer (some ⟨tb,0,none⟩)∧C6 w' tb .nil F∧(∀ k∈F,w0.heap.size≤k))∧AA [] w0 w':=by
 have hs:=St.nil w0
 refine AQ Tryz.func175 Tryz.ntmps175 (k:=?_)
 refine Ag ?_
 refine Al ?_
 refine vs (k:=?_)
 refine XS.nil ?_
 refine Dw ?_
 refine Ag ?_
 refine Al ?_
 refine vs (k:=?_)
 refine vs (k:=?_)
 refine vs (k:=?_)
 refine vs (k:=?_)
 refine bx hs (k:=?_);intro b w hz hs
 refine Jc ?_
 refine AF ?_
 have hnew:=hs.new (b,true) (by simp) rfl
 exact ⟨⟨b,[b],rfl,⟨none,[],rfl,hs.get At.head,⟨rfl,rfl⟩,List.nodup_nil⟩,fun k hk=>by obtain rfl:=List.mem_singleton.1 hk;exact hnew⟩,hs.AD rfl⟩
theorem SV {t:RB IT} (h:RB.both t=true):∃ a x b c1 y d z e c2 c,t = .node (.node a x b c1) y (.node d z e c2) c:=by
 cases t with
 | nil=>cases h
 | node l y r c =>
   cases l with
   | nil=>cases h
   | node a x b c1 =>
     cases r with
     | nil=>cases h
     | node d z e c2=>exact ⟨_,_,_,_,_,_,_,_,_,_,rfl⟩
theorem sub_up {w0 w:World} {fp DT EA:List Nat} (h1:∀ k∈DT,k∈fp∨w0.heap.size≤k) (h2:∀ k∈EA,k∈DT∨w.heap.size≤k) (hz:w0.heap.size≤w.heap.size):∀ k∈EA,k∈fp∨w0.heap.size≤k:=fun k hk=>by
 rcases h2 k hk with h | h
 ·exact h1 k h
 ·exact .inr om
theorem PZ (tb:Nat) (p0:Option Addr) (n0:Int) (t:RB IT) (p:Option Addr) (fp:List Nat) (w0:World) (hT:w0.heap[tb]?=some (C0 p0 n0)) (h:Ad w0 t p fp) (hnd:fp.Nodup) (hlen:t.list.length≤1000000) (hb:RB.both t=true) :
 AM Tryz.prog 246 #[.pointer (some ⟨tb,0,none⟩),.pointer p] w0 fun v w'=>Cb w0 fp (RB.Ef t) v w':=by
 obtain ⟨a,x,b,c1,y,d,z,e,c2,c,rfl⟩:=SV hb
 clear hb
 have hs:=St.nil w0
 refine AQ Tryz.func246 Tryz.ntmps246 (k:=?_)
 refine Ja ?_
 refine cl (h:=by exact GJ a x b c1 y d z e c2 c p fp _ h hnd) (k:=?_)
 rintro v w1 ⟨k1,AJ⟩
 have Bj:=head_keep hT AJ h.nodes
 clear hs h
 obtain ⟨m,av,pl,pr,fl,fr,rfl,rfl,hm,Ci,hl,hr⟩:=k1
 have LK:=hr
 obtain ⟨u,JM,pd,pe,fd,fe,rfl,rfl,hu,Mc,hd,he⟩:=hr
 have xO:u≠m:=fun e=>by subst e;simp at hnd
 have hs:=((St.nil w1).AG hm (by simp)).AG hu (by simpa using xO)
 refine Ja ?_
 have AN:AA [] w1 _:=hs.AB [] (by simp [hm,hu]) (by simp [D0])
 refine AY hs (h:=by exact Bd d pd fd _ (hd.keep AN (AL.nil _) (by simp))) (k:=?_);intro w' ho hs
 cases hq:d.red
 ·refine Jd ?_
  refine AF ?_
  have AN:AA [] w1 _:=hs.AB [] (by simp [hm,hu]) (by simp [D0])
  have e1:RB.Ef (.node (.node a x b c1) y (.node d z e c2) c) = .node (.node a x b !c1) y (.node d z e !c2) !c:=by
   simp [RB.Ef,RB.flip,RB.Ay,RB.Ap,hq]
  rw [e1]
  exact ⟨_,_,rfl,Ad.keep AN (AL.nil _) ⟨m,av,pl,_,fl,_,rfl,rfl,hm,Ci,hl,LK⟩ (by simp),hnd,fun k hk => .inl hk,AJ.step AN (by simp)⟩
 ·obtain ⟨da,v,de,rfl⟩:=RB.Bo hq
  have e1:RB.Ef (.node (.node a x b c1) y (.node (.node da v de true) z e c2) c) = .node (.node (.node a x b !c1) y da (!true)) v (.node de z e (!true)) (!!c):=by
   simp [RB.Ef,RB.flip,RB.Ay,RB.Ap,RB.BL,RB.CK,RB.Cy,RB.GQ]
  rw [e1]
  refine Je ?_
  have AN:AA [] w1 _:=hs.AB [] (by simp [hm,hu]) (by simp [D0])
  have hl2:=hl.keep AN (AL.nil _) (by simp)
  have Ra:=LK.keep AN (AL.nil _) (by simp)
  have hm2:=hs.get (At.tail At.head)
  have L0:=head_keep Bj AN (AL.nil _)
  have Jv:AA (m :: (fl ++ (u :: (fd ++ fe)))) w0 _:=AJ.step AN (by simp)
  simp only [RB.list,List.length_append,List.length_cons,List.append_assoc,List.cons_append] at hlen
  refine cl (h:=by exact GV tb p0 n0 da v de z e (!c2) true _ _ _ L0 Ra.Ld (by simp only [List.nodup_cons,List.nodup_append] at hnd ⊢;exact hnd.2.2.1) (by simp only [List.length_append,List.length_cons];omega)) (k:=?_)
  rintro v' w2 hk
  obtain ⟨p',hv⟩:∃ p',v' = .pointer p':=by obtain ⟨p',_,hv,_⟩:=hk;exact ⟨p',hv⟩
  subst hv
  obtain ⟨_,_,_,_,_,_,k4⟩:=id hk
  have Fj:=head_keep L0 k4 Ra.nodes
  have hm3:=k4.block hm2 (fun h=>by simp only [List.nodup_cons,List.mem_append] at hnd;exact hnd.1 (.inr h))
  clear hs
  have hs:=(St.nil w2).AG hm3 (by simp)
  repeat' (first|refine Sa ?_|(refine st hs (k:=?_);intro w hs)|fail)
  have AT:AA [m] w2 _:=hs.AB [m] (by simp) (by simp [D0])
  obtain ⟨EA,s1,s2,s3,s4⟩:=Ma hm2 hl2 Ra.nodes hnd hk AT (hs.get At.head)
  have hsz:=Jv.size
  have s3':=sub_up (fp:=m :: (fl ++ (u :: (fd ++ fe)))) (fun k hk => .inl hk) s3 hsz
  have HB:AA (m :: (fl ++ (u :: (fd ++ fe)))) w0 _:=Jv.step s4 (fun k hk => .inl hk)
  have RX:=head_keep Fj AT (AL.cons hm3 (AL.nil _))
  clear hs
  have hs:=St.nil w2
  refine cl (h:=by exact Kc tb p0 n0 (.node a x b !c1) y da v (.node de z e true) (!c) (!c2) _ EA _ RX s1 s2 (by simp only [RB.list,List.length_append,List.length_cons];omega)) (k:=?_)
  rintro v' w4 ⟨p3,jI,rfl,k1,k2,k3,k5⟩
  have Ws:=head_keep RX k5 s1.nodes
  have Oj:=sub_up s3' k3 HB.size
  have yN:=HB.step k5 s3'
  clear hs
  have hs:=St.nil w4
  refine Ja ?_
  have Ak:=hs.AD rfl
  refine cl (h:=by exact GJ (.node a x b !c1) y da true v de z e true (!c) p3 jI _ (k1.keep Ak (AL.nil _) (by simp)) k2) (k:=?_)
  rintro v' w5 ⟨k6,C1⟩
  have hs:=St.nil w5
  refine Ja ?_
  refine AF ?_
  exact ⟨p3,jI,rfl,k6,k2,Oj,(yN.step Ak (by simp)).step C1 Oj⟩
theorem W8 (tb:Nat) (p0:Option Addr) (n0:Int) (t:RB IT) (p:Option Addr) (fp:List Nat) (w0:World) (hT:w0.heap[tb]?=some (C0 p0 n0)) (h:Ad w0 t p fp) (hnd:fp.Nodup) (hlen:t.list.length≤1000000) (hb:RB.both t=true) :
 AM Tryz.prog 247 #[.pointer (some ⟨tb,0,none⟩),.pointer p] w0 fun v w'=>Cb w0 fp (RB.Ei t) v w':=by
 obtain ⟨a,x,b,c1,y,d,z,e,c2,c,rfl⟩:=SV hb
 clear hb
 have hs:=St.nil w0
 refine AQ Tryz.func247 Tryz.ntmps247 (k:=?_)
 refine Ja ?_
 refine cl (h:=by exact GJ a x b c1 y d z e c2 c p fp _ h hnd) (k:=?_)
 rintro v w1 ⟨k1,AJ⟩
 have Bj:=head_keep hT AJ h.nodes
 clear hs h
 have k0:=k1
 obtain ⟨m,av,pl,pr,fl,fr,rfl,rfl,hm,Ci,hl,hr⟩:=k1
 obtain ⟨u,JM,pd,pe,fd,fe,rfl,rfl,hu,Mc,hd,he⟩:=hl
 have xO:u≠m:=fun e=>by subst e;simp at hnd
 have hs:=((St.nil w1).AG hm (by simp)).AG hu (by simpa using xO)
 refine Ja ?_
 have AN:AA [] w1 _:=hs.AB [] (by simp [hm,hu]) (by simp [D0])
 refine AY hs (h:=by exact Bd a pd fd _ (hd.keep AN (AL.nil _) (by simp))) (k:=?_);intro w' ho hs
 cases hq:a.red
 ·refine Jd ?_
  refine AF ?_
  have AN:AA [] w1 _:=hs.AB [] (by simp [hm,hu]) (by simp [D0])
  have e1:RB.Ei (.node (.node a x b c1) y (.node d z e c2) c) = .node (.node a x b !c1) y (.node d z e !c2) !c:=by
   simp [RB.Ei,RB.flip,RB.Ay,RB.Ap,hq]
  rw [e1]
  exact ⟨_,_,rfl,k0.keep AN (AL.nil _) (by simp),hnd,fun k hk => .inl hk,AJ.step AN (by simp)⟩
 ·obtain ⟨da,v,de,rfl⟩:=RB.Bo hq
  have e1:RB.Ei (.node (.node (.node da v de true) x b c1) y (.node d z e c2) c) = .node (.node da v de (!true)) x (.node b y (.node d z e !c2) (!true)) (!!c):=by
   simp [RB.Ei,RB.flip,RB.Ay,RB.Ap,RB.BL,RB.Cy]
  rw [e1]
  refine Je ?_
  have AN:AA [] w1 _:=hs.AB [] (by simp [hm,hu]) (by simp [D0])
  have L0:=head_keep Bj AN (AL.nil _)
  have Jv:AA (m :: ((u :: (fd ++ fe)) ++ fr)) w0 _:=AJ.step AN (by simp)
  simp only [RB.list,List.length_append,List.length_cons,List.append_assoc,List.cons_append] at hlen
  have k00:=k0.keep AN (AL.nil _) (by simp)
  refine cl (h:=by exact GV tb p0 n0 (.node da v de true) x b y (.node d z e !c2) (!c) (!c1) _ _ _ L0 k00.Ld hnd (by simp only [RB.list,List.length_append,List.length_cons];omega)) (k:=?_)
  rintro v' w4 ⟨p3,jI,rfl,k1,k2,k3,k5⟩
  have Oj:=sub_up (fun k hk => .inl hk) k3 Jv.size
  have yN:=Jv.step k5 (fun k hk => .inl hk)
  clear hs
  have hs:=St.nil w4
  refine Ja ?_
  have Ak:=hs.AD rfl
  refine cl (h:=by exact GJ da v de true x b y (.node d z e !c2) true (!c) p3 jI _ (k1.keep Ak (AL.nil _) (by simp)) k2) (k:=?_)
  rintro v' w5 ⟨k6,C1⟩
  have hs:=St.nil w5
  refine Ja ?_
  refine AF ?_
  exact ⟨p3,jI,rfl,k6,k2,Oj,(yN.step Ak (by simp)).step C1 Oj⟩
theorem K8 {t u:RB IT} (h:RB.ER t=some u):u.list=t.list:=by
 unfold RB.ER at h
 cases hq:(!t.left.red && !t.left.left.red)
 ·rw [hq,cond_false] at h;cases h;rfl
 ·rw [hq,cond_true] at h
  cases hb:RB.both t
  ·rw [hb] at h;cases h
  ·rw [hb,cond_true] at h;cases h
   exact RB.Wr t
theorem RC {t u:RB IT} (h:RB.Hx t=some u):u.list=t.list:=by
 unfold RB.Hx at h
 cases hq:(!t.right.red && !t.right.left.red)
 ·rw [hq,cond_false] at h;cases h;rfl
 ·rw [hq,cond_true] at h
  cases hb:RB.both t
  ·rw [hb] at h;cases h
  ·rw [hb,cond_true] at h;cases h
   exact RB.Uh t
theorem Kb:∀ (k:Nat) (t t':RB IT),RB.FE k t=some t'→t'.list.length≤t.list.length
 | 0,t,t',h=>by cases h
 | k+1,t,t',h=>by
   simp only [RB.FE] at h
   cases h1:t.isNil
   ·rw [h1,cond_false] at h
    cases h2:t.left.isNil
    ·rw [h2,cond_false] at h
     cases hd:RB.ER t with
     | none=>rw [hd] at h;cases h
     | some u =>
       rw [hd] at h
       cases u with
       | nil=>cases h
       | node l x r c =>
         obtain ⟨l',hl,rfl⟩:=Option.map_eq_some_iff.1 h
         have:=Kb k l l' hl
         rw [RB.DC,← K8 hd]
         simp only [RB.list,List.length_append,List.length_cons]
         omega
    ·rw [h2,cond_true] at h;cases h;simp [RB.list]
   ·rw [h1,cond_true] at h;cases h
theorem RQ (tb:Nat) (p0:Option Addr) (n0:Int):∀ (k:Nat) (t t':RB IT) (p:Option Addr) (fp:List Nat) (w0:World) (hT:w0.heap[tb]?=some (C0 p0 n0)) (h:Ad w0 t p fp) (hnd:fp.Nodup) (hlen:t.list.length≤1000000) (hc:RB.FE k t=some t'),
 AM Tryz.prog 248 #[.pointer (some ⟨tb,0,none⟩),.pointer p] w0 fun v w'=>Cb w0 fp t' v w'
 | 0,t,t',p,fp,w0,hT,h,hnd,hlen,hc=>by cases hc
 | k+1,.nil,t',p,fp,w0,hT,h,hnd,hlen,hc=>by cases hc
 | k+1,.node .nil x r c,t',p,fp,w0,hT,h,hnd,hlen,hc=>by
   simp only [RB.FE,RB.isNil,RB.Ap,cond_true,cond_false,Option.some.injEq] at hc
   subst hc
   obtain ⟨b,av,pl,pr,fl,fr,rfl,rfl,hb,Ci,⟨rfl,rfl⟩,hr⟩:=h
   have hs:=(St.nil w0).AG hb (by simp)
   refine AQ Tryz.func248 Tryz.ntmps248 (k:=?_)
   refine Je ?_
   refine AF ?_
   exact ⟨none,[],rfl,⟨rfl,rfl⟩,List.nodup_nil,(fun k hk=>by cases hk),(hs.AB [] (by simp [hb]) (by simp [D0])).weaken (by simp)⟩
 | k+1,.node (.node ll z lr lc) x r c,t',p,fp,w0,hT,h,hnd,hlen,hc=>by
   rw [RB.FE] at hc
   simp only [RB.isNil,RB.Ap,cond_false] at hc
   have hH:Has w0 tb p0 n0 fp (.node (.node ll z lr lc) x r c) p w0:=⟨⟨fp,h,hnd,fun k hk => .inl hk,AA.refl _ _⟩,hT⟩
   obtain ⟨b,av,pl,pr,fl,fr,rfl,hf,hb,Ci,hl,hr⟩:=h
   have hl0:=hl
   obtain ⟨u,JM,Ta,Po,fll,flr,rfl,rfl,hu,Mc,G9,hlr⟩:=hl
   have R5:u≠b:=fun e=>by subst e;rw [hf] at hnd;simp at hnd
   have hs:=((St.nil w0).AG hb (by simp)).AG hu (by simpa using R5)
   refine AQ Tryz.func248 Tryz.ntmps248 (k:=?_)
   refine Jb ?_
   refine Al ?_
   refine Jc ?_
   refine Al ?_
   refine Jl ?_
   refine B7 (fun _:Unit=>[(0,.pointer (some ⟨tb,0,none⟩)),(1,.pointer (some ⟨b,0,none⟩)),(4,.pointer none),(26,.bool (!lc && !ll.red))]) (fun _ w=>Has w0 tb p0 n0 fp (.node (.node ll z lr lc) x r c) (some ⟨b,0,none⟩) w) ?_ ?_
   ·refine Jk ?_
    have AN:AA [] w0 _:=hs.AB [] (by simp [hb,hu]) (by simp [D0])
    refine AY hs (h:=by exact Bd _ _ _ _ (hl0.keep AN (AL.nil _) (by simp))) (k:=?_);intro w' ho hs
    rw [RB.BL]
    cases lc
    ·refine Jf ?_
     have AN:AA [] w0 _:=hs.AB [] (by simp [hb,hu]) (by simp [D0])
     refine AY hs (h:=by exact Bd _ _ _ _ (G9.keep AN (AL.nil _) (by simp))) (k:=?_);intro w' ho hs
     generalize Gj:ll.red=q2
     refine Jc ?_
     exact AP () Ab (hH.only (hs.AB [] (by simp [hb,hu]) (by simp [D0])))
    ·refine Jj ?_
     exact AP () Ab (hH.only (hs.AB [] (by simp [hb,hu]) (by simp [D0])))
   clear hH hs hb Ci hl0 hu Mc G9 hlr hr
   rintro _ env w hH
   obtain ⟨d,hd⟩:∃ d,RB.ER (.node (.node ll z lr lc) x r c)=some d:=by
    cases hd:RB.ER (.node (.node ll z lr lc) x r c) with
    | none=>rw [hd] at hc;cases hc
    | some d=>exact ⟨d,rfl⟩
   rw [hd] at hc
   have hdl:=K8 hd
   refine B7 (fun s:Option Addr=>[(0,.pointer (some ⟨tb,0,none⟩)),(1,.pointer s),(4,.pointer none)]) (fun s w=>Has w0 tb p0 n0 fp d s w) ?_ ?_
   ·unfold RB.ER at hd
    rw [RB.Ap,RB.BL,RB.Ap] at hd
    generalize hq:(!lc && !ll.red)=q at *
    cases q
    ·refine Jg ?_
     cases hd
     exact AP _ Ab hH
    ·rw [cond_true] at hd
     cases hbo:RB.both (.node (.node ll z lr lc) x r c)
     ·rw [hbo] at hd;cases hd
     rw [hbo,cond_true] at hd
     cases hd
     obtain ⟨⟨DT,h1,h2,h3,h4⟩,h5⟩:=hH
     have hs:=St.nil w
     refine Ji ?_
     refine cl (h:=by exact PZ tb p0 n0 _ _ _ _ h5 h1 h2 hlen hbo) (k:=?_)
     rintro v w' hv
     obtain ⟨p',rfl,hH⟩:=Has.next h1 h3 h4 h5 hv
     have hs:=St.nil w'
     refine Jc ?_
     exact AP p' Ab hH
   clear hH
   rintro p1 env w hH
   cases d with
   | nil=>cases hc
   | node l1 x1 r1 c1 =>
   obtain ⟨l',hl',rfl⟩:=Option.map_eq_some_iff.1 hc
   obtain ⟨⟨DT,⟨b,av,pl,pr,fl,fr,rfl,rfl,hb,Ci,hl,hr⟩,h2,h3,h4⟩,h5⟩:=hH
   have Dz:=CZ h5 hb
   have hs:=(St.nil w).AG hb (by simp)
   rw [← hdl] at hlen
   simp only [RB.list,List.length_append,List.length_cons] at hlen
   refine Ja ?_
   have AJ:AA [] w _:=hs.AB [] (by simp [hb]) (by simp [D0])
   have Ec:=hl.keep AJ (AL.nil _) (by simp)
   have hrw:=hr.keep AJ (AL.nil _) (by simp)
   have Bv:=hs.get At.head
   have CI:=head_keep h5 AJ (AL.nil _)
   refine cl (h:=by exact RQ tb p0 n0 k l1 l' pl fl _ CI Ec (by simp only [List.nodup_cons,List.nodup_append] at h2;exact h2.2.1) om hl') (k:=?_)
   rintro v w' hk
   obtain ⟨p',hv⟩:∃ p',v = .pointer p':=by obtain ⟨p',_,hv,_⟩:=hk;exact ⟨p',hv⟩
   subst hv
   obtain ⟨_,_,_,_,_,_,k4⟩:=id hk
   have Bj:=head_keep CI k4 Ec.nodes
   have CD:=k4.block Bv (fun h=>by simp [h] at h2)
   clear hs
   have hs:=(St.nil w').AG CD (by simp)
   repeat' (first|refine Sa ?_|(refine st hs (k:=?_);intro w hs)|fail)
   have AT:AA [b] w' _:=hs.AB [b] (by simp) (by simp [D0])
   obtain ⟨EA,s1,s2,s3,s4⟩:=Nl Bv Ec.nodes hrw h2 hk AT (hs.get At.head)
   have IX:=Kb k l1 l' hl'
   refine cl (h:=by exact GC tb p0 n0 _ x1 _ c1 _ _ _ (head_keep Bj AT (AL.cons CD (AL.nil _))) s1 s2 (by simp only [List.length_append,List.length_cons];omega)) (k:=?_)
   rintro v w3 hm
   have hO:=(h4.step AJ (by simp)).step s4 h3
   have hm2:=hm.up hO (sub_up h3 s3 (h4.step AJ (by simp)).size)
   have hs:=St.nil w3
   refine Jc ?_
   refine AF ?_
   exact hm2
abbrev Zc (a:It):Obj := .cells #[.int .u64 a.p.t,.int .u32 a.p.r,.int .u32 a.p.w,.int .i64 a.id,.int .u64 a.d.t,.int .u32 a.d.r,.int .u32 a.d.w] 64 (0,0)
theorem nodes_q {w:World} {F:List Nat} (h:AL w F) {bq:Nat} {a:It} (hQ:w.heap[bq]?=some (Zc a)):bq∉F:=fun hm=>by
 obtain ⟨cs,fz,h1⟩:=h bq hm
 exact AW hQ h1 (by decide) rfl
structure H9 (bq:Nat) (a:It) (w0:World) (tb:Nat) (p0:Option Addr) (n0:Int) (fp:List Nat) (t:RB IT) (p:Option Addr) (w:World):Prop where
 base:Has w0 tb p0 n0 fp t p w
 q:w.heap[bq]?=some (Zc a)
theorem H9.only {bq:Nat} {a:It} {w0 w w':World} {tb:Nat} {p0:Option Addr} {n0:Int} {fp:List Nat} {t:RB IT} {p:Option Addr} (h:H9 bq a w0 tb p0 n0 fp t p w) (ho:AA [] w w'):H9 bq a w0 tb p0 n0 fp t p w':=⟨h.base.only ho,ho.block h.q (by simp)⟩
theorem H9.next {bq:Nat} {a:It} {w0 w w':World} {tb:Nat} {p0:Option Addr} {n0:Int} {fp DT:List Nat} {t t':RB IT} {p:Option Addr} {v:Value} (h1:Ad w t p DT) (h2:∀ k∈DT,k∈fp∨w0.heap.size≤k) (h3:AA fp w0 w) (h4:w.heap[tb]?=some (C0 p0 n0)) (hQ:w.heap[bq]?=some (Zc a)) (k:Cb w DT t' v w') :
 ∃ p',v = .pointer p'∧H9 bq a w0 tb p0 n0 fp t' p' w':=by
 obtain ⟨p',e,h⟩:=Has.next h1 h2 h3 h4 k
 obtain ⟨_,_,_,_,_,_,ko⟩:=k
 exact ⟨p',e,h,ko.block hQ (nodes_q h1.nodes hQ)⟩
theorem PB (x:IT):∀ (k:Nat) (t t':RB IT),RB.cut Cq x k t=some t'→t'.list.length≤t.list.length
 | 0,t,t',h=>by cases h
 | k+1,.nil,t',h=>by cases h
 | k+1,.node l y r c,t',h=>by
   rw [RB.cut] at h
   cases hxy:Cq x y
   ·rw [hxy,cond_false] at h
    have hu:(bif l.red then RB.Cy (.node l y r c) else .node l y r c:RB IT).list=(RB.node l y r c).list:=by
     cases l.red
     ·rfl
     ·exact RB.HM _
    generalize (bif l.red then RB.Cy (.node l y r c) else .node l y r c:RB IT)=u at h hu
    cases h2:u.right.isNil
    ·rw [h2,cond_false] at h
     cases hd:RB.Hx u with
     | none=>rw [hd] at h;cases h
     | some d =>
       rw [hd] at h
       have hdl:=RC hd
       cases d with
       | nil=>cases h
       | node l2 y2 r2 c2 =>
         simp only at h
         rw [← hu,← hdl]
         cases h3:Cq y2 x
         ·rw [h3,cond_false] at h
          cases hm:RB.least r2 with
          | none=>rw [hm] at h;cases h
          | some m =>
            rw [hm] at h
            obtain ⟨r',hr',rfl⟩:=Option.map_eq_some_iff.1 h
            have:=Kb k r2 r' hr'
            rw [RB.DC]
            simp only [RB.list,List.length_append,List.length_cons]
            omega
         ·rw [h3,cond_true] at h
          obtain ⟨r',hr',rfl⟩:=Option.map_eq_some_iff.1 h
          have:=PB x k r2 r' hr'
          rw [RB.DC]
          simp only [RB.list,List.length_append,List.length_cons]
          omega
    ·rw [h2,cond_true] at h;cases h;simp [RB.list]
   ·rw [hxy,cond_true] at h
    cases h2:l.isNil
    ·rw [h2,cond_false] at h
     cases hd:RB.ER (.node l y r c) with
     | none=>rw [hd] at h;cases h
     | some d =>
       rw [hd] at h
       have hdl:=K8 hd
       cases d with
       | nil=>cases h
       | node l2 y2 r2 c2 =>
         obtain ⟨l',hl',rfl⟩:=Option.map_eq_some_iff.1 h
         have:=PB x k l2 l' hl'
         rw [RB.DC,← hdl]
         simp only [RB.list,List.length_append,List.length_cons]
         omega
    ·rw [h2,cond_true] at h;cases h
theorem Si (tb:Nat) (p0:Option Addr) (n0:Int) (x:IT):∀ (k:Nat) (t t':RB IT) (p:Option Addr) (fp:List Nat) (w0:World) (hT:w0.heap[tb]?=some (C0 p0 n0)) (h:Ad w0 t p fp) (hnd:fp.Nodup) (hlen:t.list.length≤1000000) (hc:RB.cut Cq x k t=some t'),
 AM Tryz.prog 237 #[.pointer (some ⟨tb,0,none⟩),.pointer p,iv x.1] w0 fun v w'=>Cb w0 fp t' v w'
 | 0,t,t',p,fp,w0,hT,h,hnd,hlen,hc=>by cases hc
 | k+1,.nil,t',p,fp,w0,hT,h,hnd,hlen,hc=>by cases hc
 | k+1,.node l y r c,t',p,fp,w0,hT,h,hnd,hlen,hc=>by
   rw [RB.cut] at hc
   have Yt:Has w0 tb p0 n0 fp (.node l y r c) p w0:=⟨⟨fp,h,hnd,fun k hk => .inl hk,AA.refl _ _⟩,hT⟩
   obtain ⟨b,av,pl,pr,fl,fr,rfl,hf,hb,Ci,hl,hr⟩:=h
   have Dz:=CZ hT hb
   have hs:=((St.nil w0).AG hT (by simp)).AG hb (by simpa using Dz)
   refine AQ Tryz.func237 Tryz.ntmps237 (k:=?_);refine Ag ?_;refine Al ?_;refine bx hs (k:=?_);intro bq wq Lm hs;refine Jc ?_
   have JB:=hs.new (bq,true) (by simp) rfl
   simp only at JB
   refine dr [] hs (k:=?_);intro hX w hs
   refine tks 0 9 ?_
   refine dt 9 hX (k:=?_)
   refine cl (h:=by exact M1 x y _) (k:=?_)
   rintro v w1 ⟨rfl,ho⟩;replace hs:=hs.AK ho
   refine Jb ?_
   refine dn (k:=?_)
   refine en (k:=?_)
   have AJ:AA [] w0 w1:=hs.AB [] (by simp [hT,hb]) (by simp [D0])
   have hQ:=hs.get At.head
   have hH:H9 bq x.1 w0 tb p0 n0 fp (.node l y r c) (some ⟨b,0,none⟩) w1:=⟨Yt.only AJ,hQ⟩
   have Bj:=hs.get (At.tail (At.tail At.head))
   have CD:=hs.get (At.tail At.head)
   have LR:=hl.keep AJ (AL.nil _) (by simp)
   have MJ:=hr.keep AJ (AL.nil _) (by simp)
   generalize hq:Cq x y=q
   rw [show Cq x y=q from hq] at hc
   clear hs Yt hT hb hl hr ho Ci
   cases q
   ·rw [cond_false] at hc
    have hs:=(St.nil w1).AG CD (by simp)
    refine Jg ?_
    refine B7 (fun _:Unit=>[(0,.pointer (some ⟨tb,0,none⟩)),(1,.pointer (some ⟨b,0,none⟩)),(5,.pointer (some ⟨bq,0,none⟩)),(6,.pointer none),(55,.bool l.red)]) (fun _ w=>H9 bq x.1 w0 tb p0 n0 fp (.node l y r c) (some ⟨b,0,none⟩) w) ?_ ?_
    ·refine Jk ?_
     have AN:AA [] w1 _:=hs.AB [] (by simp [CD]) (by simp [D0])
     refine AY hs (h:=by exact Bd _ _ _ _ (LR.keep AN (AL.nil _) (by simp))) (k:=?_);intro w' ho hs
     generalize Gj:l.red=q2
     refine Jb ?_
     exact AP () Ab (hH.only (hs.AB [] (by simp [CD]) (by simp [D0])))
    clear hH hs CD LR MJ Bj
    rintro _ env w hH
    refine B7 (fun s:Option Addr=>[(0,.pointer (some ⟨tb,0,none⟩)),(1,.pointer s),(5,.pointer (some ⟨bq,0,none⟩)),(6,.pointer none)]) (fun s w=>H9 bq x.1 w0 tb p0 n0 fp (bif l.red then RB.Cy (.node l y r c) else .node l y r c) s w) ?_ ?_
    ·cases Gj:l.red
     ·refine Jg ?_
      exact AP _ Ab hH
     ·obtain ⟨ll,z,lr,rfl⟩:=RB.Bo Gj
      obtain ⟨⟨⟨DT,h1,h2,h3,h4⟩,h5⟩,hQ⟩:=hH
      have hs:=St.nil w
      refine Ji ?_
      refine cl (h:=by exact GV tb p0 n0 ll z lr y r c true _ _ _ h5 h1.Ld h2 (by simpa [RB.list] using hlen)) (k:=?_)
      rintro v w' hv
      obtain ⟨p',rfl,hH⟩:=H9.next h1 h3 h4 h5 hQ hv
      have hs:=St.nil w'
      refine Jc ?_
      exact AP p' Ab hH
    clear hH
    rintro p1 env w hH
    obtain ⟨l1,y1,r1,c1,hu,hul⟩:∃ l1 y1 r1 c1,(bif l.red then RB.Cy (.node l y r c) else .node l y r c:RB IT) = .node l1 y1 r1 c1∧(RB.node l1 y1 r1 c1).list=(RB.node l y r c).list:=by
     cases Gj:l.red
     ·exact ⟨_,_,_,_,rfl,rfl⟩
     ·obtain ⟨ll,z,lr,rfl⟩:=RB.Bo Gj
      exact ⟨_,_,_,_,rfl,RB.HM (.node (.node ll z lr true) y r c)⟩
    rw [hu] at hH hc
    rw [RB.Ay] at hc
    obtain ⟨⟨⟨DT,⟨b,av,pl,pr,fl,fr,rfl,dP,hb,Ci,hl,hr⟩,h2,h3,h4⟩,h5⟩,hQ⟩:=hH
    have hH:H9 bq x.1 w0 tb p0 n0 fp (.node l1 y1 r1 c1) (some ⟨b,0,none⟩) w:=⟨⟨⟨DT,⟨b,av,pl,pr,fl,fr,rfl,dP,hb,Ci,hl,hr⟩,h2,h3,h4⟩,h5⟩,hQ⟩
    cases r1 with
    | nil =>
      simp only [RB.isNil,cond_true,Option.some.injEq] at hc
      subst hc
      obtain ⟨rfl,rfl⟩:=hr
      have hs:=(St.nil w).AG hb (by simp)
      refine Je ?_
      refine AF ?_
      exact ⟨none,[],rfl,⟨rfl,rfl⟩,List.nodup_nil,(fun k hk=>by cases hk),h4.step (hs.AB [] (by simp [hb]) (by simp [D0])) (by simp)⟩
    | node rl z rr rc =>
    simp only [RB.isNil,cond_false] at hc
    have LK:=hr
    obtain ⟨u,JM,Ta,Po,fll,flr,rfl,o9,LH,Mc,G9,hlr⟩:=hr
    have R5:u≠b:=fun e=>by subst e;rw [dP,o9] at h2;simp at h2
    have hs:=((St.nil w).AG hb (by simp)).AG LH (by simpa using R5)
    refine Jb ?_
    refine Al ?_
    refine Jl ?_
    refine B7 (fun _:Unit=>[(0,.pointer (some ⟨tb,0,none⟩)),(1,.pointer (some ⟨b,0,none⟩)),(5,.pointer (some ⟨bq,0,none⟩)),(6,.pointer none),(80,.bool (!rc && !rl.red))]) (fun _ w=>H9 bq x.1 w0 tb p0 n0 fp (.node l1 y1 (.node rl z rr rc) c1) (some ⟨b,0,none⟩) w) ?_ ?_
    ·refine Jk ?_
     have AN:AA [] w _:=hs.AB [] (by simp [hb,LH]) (by simp [D0])
     refine AY hs (h:=by exact Bd _ _ _ _ (LK.keep AN (AL.nil _) (by simp))) (k:=?_);intro w' ho hs
     rw [RB.BL]
     cases rc
     ·refine Jf ?_
      have AN:AA [] w _:=hs.AB [] (by simp [hb,LH]) (by simp [D0])
      refine AY hs (h:=by exact Bd _ _ _ _ (G9.keep AN (AL.nil _) (by simp))) (k:=?_);intro w' ho hs
      generalize Gj:rl.red=q2
      refine Jc ?_
      exact AP () Ab (hH.only (hs.AB [] (by simp [hb,LH]) (by simp [D0])))
     ·refine Jj ?_
      exact AP () Ab (hH.only (hs.AB [] (by simp [hb,LH]) (by simp [D0])))
    clear hH hs hb hl LK LH Mc G9 hlr h2 h3 h4 h5 Ci dP o9
    rintro _ env w hH
    obtain ⟨d,hd⟩:∃ d,RB.Hx (.node l1 y1 (.node rl z rr rc) c1)=some d:=by
     cases hd:RB.Hx (.node l1 y1 (.node rl z rr rc) c1) with
     | none=>rw [hd] at hc;cases hc
     | some d=>exact ⟨d,rfl⟩
    rw [hd] at hc
    have hdl:=RC hd
    rw [hul] at hdl
    refine B7 (fun s:Option Addr=>[(0,.pointer (some ⟨tb,0,none⟩)),(1,.pointer s),(5,.pointer (some ⟨bq,0,none⟩)),(6,.pointer none)]) (fun s w=>H9 bq x.1 w0 tb p0 n0 fp d s w) ?_ ?_
    ·unfold RB.Hx at hd
     rw [RB.Ay,RB.BL,RB.Ap] at hd
     generalize hq:(!rc && !rl.red)=q at *
     cases q
     ·refine Jg ?_
      cases hd
      exact AP _ Ab hH
     ·rw [cond_true] at hd
      cases hbo:RB.both (.node l1 y1 (.node rl z rr rc) c1)
      ·rw [hbo] at hd;cases hd
      rw [hbo,cond_true] at hd
      cases hd
      obtain ⟨⟨⟨DT,h1,h2,h3,h4⟩,h5⟩,hQ⟩:=hH
      have hs:=St.nil w
      refine Ji ?_
      refine cl (h:=by exact W8 tb p0 n0 _ _ _ _ h5 h1 h2 (by rw [hul];exact hlen) hbo) (k:=?_)
      rintro v w' hv
      obtain ⟨p',rfl,hH⟩:=H9.next h1 h3 h4 h5 hQ hv
      have hs:=St.nil w'
      refine Jc ?_
      exact AP p' Ab hH
    clear hH
    rintro p2 env wB hH
    cases d with
    | nil=>cases hc
    | node l2 y2 r2 c2 =>
    simp only at hc
    obtain ⟨⟨⟨DT,⟨b,av,pl,pr,fl,fr,rfl,rfl,hb,Ci,hl,hr⟩,h2,h3,h4⟩,h5⟩,hQ⟩:=hH
    have Dz:=CZ h5 hb
    have n1:=AW hQ hb (by decide)
    have n2:=AW hQ h5 (by decide)
    have hs:=(((St.nil wB).AG h5 (by simp)).AG hb (by simpa using Dz)).AG hQ (by simp [n1,n2])
    rw [← hdl] at hlen
    simp only [RB.list,List.length_append,List.length_cons] at hlen
    refine Jb ?_
    refine dr [] hs (k:=?_);intro hX w hs
    refine tks 0 9 ?_
    refine dt 9 hX (k:=?_)
    refine AY hs (h:=by exact M1 y2 x _) (k:=?_);intro w' ho hs
    refine Jb ?_
    refine dn (k:=?_)
    refine en (k:=?_)
    generalize cF:Cq y2 x=q3
    rw [show Cq y2 x=q3 from cF] at hc
    have AJ:AA [] wB _:=hs.AB [] (by simp [h5,hb,hQ]) (by simp [D0])
    have Ec:=hl.keep AJ (AL.nil _) (by simp)
    have hrw:=hr.keep AJ (AL.nil _) (by simp)
    have Bv:=hs.get (At.tail At.head)
    have CI:=hs.get (At.tail (At.tail At.head))
    have SM:=hs.get At.head
    have LW:=h4.step AJ (by simp)
    have uK:fr.Nodup:=by simp only [List.nodup_cons,List.nodup_append] at h2;exact h2.2.2.1
    cases q3
    ·rw [cond_false] at hc
     obtain ⟨m,hm⟩:∃ m,RB.least r2=some m:=by
      cases hm:RB.least r2 with
      | none=>rw [hm] at hc;cases hc
      | some m=>exact ⟨m,rfl⟩
     rw [hm] at hc
     obtain ⟨r',hr',rfl⟩:=Option.map_eq_some_iff.1 hc
     clear hs
     have hs:=(St.nil w').AG Bv (by simp)
     refine Jd ?_
     refine BN (fun q:Nat=>[(0,.pointer (some ⟨tb,0,none⟩)),(1,.pointer (some ⟨b,0,none⟩)),(5,.pointer (some ⟨bq,0,none⟩)),(6,.pointer none),(7,.pointer (some ⟨q,0,none⟩))]) (fun q w2=>AA [] w' w2∧q∈fr∧∃ LZ VB Y6 c',w'.heap[q]?=some (EO m LZ VB Y6 c')) ?_ ?_
     ·refine BD (fun (s:RB IT × Option Addr)=>[(0,.pointer (some ⟨tb,0,none⟩)),(1,.pointer (some ⟨b,0,none⟩)),(5,.pointer (some ⟨bq,0,none⟩)),(6,.pointer none),(7,.pointer s.2)])
       (fun s w2=>AA [] w' w2∧RB.least s.1=some m∧∃ Yr,Ad w' s.1 s.2 Yr∧∀ k∈Yr,k∈fr)
       (fun s=>s.1.list.length) (r2,pr) Ab ⟨hs.AB [] (by simp [Bv]) (by simp [D0]),hm,fr,hrw,fun k hk=>hk⟩ fun s env w2 ⟨g1,g2,Yr,g3,g4⟩=>?_
      clear hs
      obtain ⟨s,ps⟩:=s
      dsimp only at g2 g3 ⊢
      cases s with
      | nil=>cases g2
      | node sl sz sr sc =>
      obtain ⟨q,avq,pql,pqr,fql,fqr,rfl,rfl,Y8,hqa,dH,hqr⟩:=g3
      have Gj:=g1.block Y8 (by simp)
      have hs:=(St.nil w2).AG Gj (by simp)
      cases sl with
      | nil =>
        obtain ⟨rfl,rfl⟩:=dH
        simp only [RB.least,Option.some.injEq] at g2
        subst g2
        refine Jd ?_
        exact Ar q Ab ⟨g1.step (hs.AB [] (by simp [Gj]) (by simp [D0])) (by simp),g4 q List.mem_cons_self,_,_,_,_,Y8⟩
      | node a1 a2 a3 a4 =>
        have aAF:=dH
        obtain ⟨_,_,_,_,_,_,rfl,_⟩:=dH
        refine Je ?_
        exact A2 (.node a1 a2 a3 a4,_) (by simp only [RB.list,List.length_append,List.length_cons];omega) Ab ⟨g1.step (hs.AB [] (by simp [Gj]) (by simp [D0])) (by simp),g2,fql,aAF,fun k hk=>g4 k (List.mem_cons_of_mem _ (List.mem_append_left _ hk))⟩
     ·clear hs
      rintro q env w2 ⟨g1,g2,avq,plq,prq,cq,g3⟩
      have Y8:q≠b:=fun e=>by subst e;simp [g2] at h2
      have Dv:=g1.block Bv (by simp)
      have Gj:=g1.block g3 (by simp)
      have hs:=((St.nil w2).AG Dv (by simp)).AG Gj (by simpa using Y8)
      repeat' (first|refine Sa ?_|(refine AU hs (k:=?_);intro w hs)|fail)
      have AN:AA [b] w2 _:=hs.AB [b] (by simp [Gj]) (by simp [D0])
      have hN:AL w2 [b]:=AL.cons Dv (AL.nil _)
      have N6:b∉fl∧b∉fr:=by simp only [List.nodup_cons,List.mem_append,not_or] at h2;exact h2.1
      have hl3:=(Ec.keep g1 (AL.nil _) (by simp)).keep AN hN (fun k hk hm=>by obtain rfl:=List.mem_singleton.1 hm;exact N6.1 hk)
      have Up:=(hrw.keep g1 (AL.nil _) (by simp)).keep AN hN (fun k hk hm=>by obtain rfl:=List.mem_singleton.1 hm;exact N6.2 hk)
      have GR:=hs.get (At.tail At.head)
      have Fj:=head_keep (head_keep CI g1 (AL.nil _)) AN hN
      have HB:=(LW.step g1 (by simp)).step AN (fun k hk=>by obtain rfl:=List.mem_singleton.1 hk;exact h3 k List.mem_cons_self)
      refine cl (h:=by exact RQ tb p0 n0 k r2 r' pr fr _ Fj Up uK om hr') (k:=?_)
      rintro v w4 hk
      obtain ⟨p',hv⟩:∃ p',v = .pointer p':=by obtain ⟨p',_,hv,_⟩:=hk;exact ⟨p',hv⟩
      subst hv
      obtain ⟨_,_,_,_,_,_,k4⟩:=id hk
      have RX:=head_keep Fj k4 Up.nodes
      have hb4:=k4.block GR N6.2
      clear hs
      have hs:=(St.nil w4).AG hb4 (by simp)
      repeat' (first|refine Sa ?_|(refine st hs (k:=?_);intro w hs)|fail)
      have BK:AA [b] w4 _:=hs.AB [b] (by simp) (by simp [D0])
      obtain ⟨EA,s1,s2,s3,s4⟩:=Ma GR hl3 Up.nodes h2 hk BK (hs.get At.head)
      have IX:=Kb k r2 r' hr'
      refine cl (h:=by exact GC tb p0 n0 _ m _ c2 _ _ _ (head_keep RX BK (AL.cons hb4 (AL.nil _))) s1 s2 (by simp only [List.length_append,List.length_cons];omega)) (k:=?_)
      rintro v w5 hm
      have hO:=HB.step s4 h3
      have hm2:=hm.up hO (sub_up h3 s3 HB.size)
      have hs:=St.nil w5
      refine Jc ?_
      refine AF ?_
      exact hm2
    ·rw [cond_true] at hc
     obtain ⟨r',hr',rfl⟩:=Option.map_eq_some_iff.1 hc
     repeat' (first|refine Nx.h ?_|refine Ew ?_|fail)
     refine dr [10] hs (k:=?_);intro hX w hs
     refine tks 0 7 ?_
     refine dt 7 hX (k:=?_)
     have AJ:AA [] wB _:=hs.AB [] (by simp [h5,hb,hQ]) (by simp [D0])
     have Ec:=hl.keep AJ (AL.nil _) (by simp)
     have hrw:=hr.keep AJ (AL.nil _) (by simp)
     have Bv:=hs.get (At.tail At.head)
     have CI:=hs.get (At.tail (At.tail At.head))
     have SM:=hs.get At.head
     have LW:=h4.step AJ (by simp)
     refine cl (h:=by exact Si tb p0 n0 x k r2 r' pr fr _ CI hrw uK om hr') (k:=?_)
     rintro v w4 hk
     obtain ⟨p',hv⟩:∃ p',v = .pointer p':=by obtain ⟨p',_,hv,_⟩:=hk;exact ⟨p',hv⟩
     subst hv
     obtain ⟨_,_,_,_,_,_,k4⟩:=id hk
     have Bj:=head_keep CI k4 hrw.nodes
     have CD:=k4.block Bv (fun h=>by simp [h] at h2)
     have hq1:=k4.block SM (nodes_q hrw.nodes SM)
     clear hs
     have hs:=(((St.nil w4).AG Bj (by simp)).AG CD (by simpa using Dz)).AG hq1 (by simp [n1,n2])
     refine Jb ?_
     refine dn (k:=?_)
     refine tks 8 2 ?_
     refine dt 10 hX (k:=?_)
     repeat' (first|refine Nx.h ?_|(refine st hs (k:=?_);intro w hs)|fail)
     refine dn (k:=?_)
     refine en (k:=?_)
     refine Ja ?_
     have AT:AA [b] w4 _:=hs.AB [b] (by simp [Bj,hq1]) (by simp [D0])
     obtain ⟨EA,s1,s2,s3,s4⟩:=Ma Bv Ec hrw.nodes h2 hk AT (hs.get (At.tail At.head))
     have IX:=PB x k r2 r' hr'
     refine cl (h:=by exact GC tb p0 n0 _ y2 _ c2 _ _ _ (head_keep Bj AT (AL.cons CD (AL.nil _))) s1 s2 (by simp only [List.length_append,List.length_cons];omega)) (k:=?_)
     rintro v w3 hm
     have hm2:=hm.up (LW.step s4 h3) (sub_up h3 s3 LW.size)
     have hs:=St.nil w3
     refine Jc ?_
     refine AF ?_
     exact hm2
   ·rw [cond_true] at hc
    cases l with
    | nil=>cases hc
    | node ll z lr lc =>
    simp only [RB.isNil,cond_false] at hc
    have hl0:=LR
    obtain ⟨u,JM,Ta,Po,fll,flr,rfl,rfl,hu,Mc,G9,hlr⟩:=LR
    have R5:u≠b:=fun e=>by subst e;rw [hf] at hnd;simp at hnd
    have hs:=((St.nil w1).AG CD (by simp)).AG hu (by simpa using R5)
    repeat' (first|refine Nx.h ?_|refine Ew ?_|fail)
    refine B7 (fun _:Unit=>[(0,.pointer (some ⟨tb,0,none⟩)),(1,.pointer (some ⟨b,0,none⟩)),(5,.pointer (some ⟨bq,0,none⟩)),(6,.pointer none),(34,.bool (!lc && !ll.red))]) (fun _ w=>H9 bq x.1 w0 tb p0 n0 fp (.node (.node ll z lr lc) y r c) (some ⟨b,0,none⟩) w) ?_ ?_
    ·refine Jk ?_
     have AN:AA [] w1 _:=hs.AB [] (by simp [CD,hu]) (by simp [D0])
     refine AY hs (h:=by exact Bd _ _ _ _ (hl0.keep AN (AL.nil _) (by simp))) (k:=?_);intro w' ho hs
     rw [RB.BL]
     cases lc
     ·refine Jf ?_
      have AN:AA [] w1 _:=hs.AB [] (by simp [CD,hu]) (by simp [D0])
      refine AY hs (h:=by exact Bd _ _ _ _ (G9.keep AN (AL.nil _) (by simp))) (k:=?_);intro w' ho hs
      generalize Gj:ll.red=q2
      refine Jc ?_
      exact AP () Ab (hH.only (hs.AB [] (by simp [CD,hu]) (by simp [D0])))
     ·refine Jj ?_
      exact AP () Ab (hH.only (hs.AB [] (by simp [CD,hu]) (by simp [D0])))
    clear hH hs CD hl0 hu Mc G9 hlr MJ Bj
    rintro _ env w hH
    obtain ⟨d,hd⟩:∃ d,RB.ER (.node (.node ll z lr lc) y r c)=some d:=by
     cases hd:RB.ER (.node (.node ll z lr lc) y r c) with
     | none=>rw [hd] at hc;cases hc
     | some d=>exact ⟨d,rfl⟩
    rw [hd] at hc
    have hdl:=K8 hd
    refine B7 (fun s:Option Addr=>[(0,.pointer (some ⟨tb,0,none⟩)),(1,.pointer s),(5,.pointer (some ⟨bq,0,none⟩)),(6,.pointer none)]) (fun s w=>H9 bq x.1 w0 tb p0 n0 fp d s w) ?_ ?_
    ·unfold RB.ER at hd
     rw [RB.Ap,RB.BL,RB.Ap] at hd
     generalize hq:(!lc && !ll.red)=q at *
     cases q
     ·refine Jg ?_
      cases hd
      exact AP _ Ab hH
     ·rw [cond_true] at hd
      cases hbo:RB.both (.node (.node ll z lr lc) y r c)
      ·rw [hbo] at hd;cases hd
      rw [hbo,cond_true] at hd
      cases hd
      obtain ⟨⟨⟨DT,h1,h2,h3,h4⟩,h5⟩,hQ⟩:=hH
      have hs:=St.nil w
      refine Ji ?_
      refine cl (h:=by exact PZ tb p0 n0 _ _ _ _ h5 h1 h2 hlen hbo) (k:=?_)
      rintro v w' hv
      obtain ⟨p',rfl,hH⟩:=H9.next h1 h3 h4 h5 hQ hv
      have hs:=St.nil w'
      refine Jc ?_
      exact AP p' Ab hH
    clear hH
    rintro p1 env w hH
    cases d with
    | nil=>cases hc
    | node l1 x1 r1 c1 =>
    obtain ⟨l',hl',rfl⟩:=Option.map_eq_some_iff.1 hc
    obtain ⟨⟨⟨DT,⟨b,av,pl,pr,fl,fr,rfl,rfl,hb,Ci,hl,hr⟩,h2,h3,h4⟩,h5⟩,hQ⟩:=hH
    have Dz:=CZ h5 hb
    have n1:=AW hQ hb (by decide)
    have n2:=AW hQ h5 (by decide)
    have hs:=(((St.nil w).AG h5 (by simp)).AG hb (by simpa using Dz)).AG hQ (by simp [n1,n2])
    rw [← hdl] at hlen
    simp only [RB.list,List.length_append,List.length_cons] at hlen
    refine Jb ?_
    refine dr [10] hs (k:=?_);intro hX wD hs
    refine tks 0 7 ?_
    refine dt 7 hX (k:=?_)
    have AJ:AA [] w _:=hs.AB [] (by simp [h5,hb,hQ]) (by simp [D0])
    have SM:=hs.get At.head
    have Ec:=hl.keep AJ (AL.nil _) (by simp)
    have hrw:=hr.keep AJ (AL.nil _) (by simp)
    have Bv:=hs.get (At.tail At.head)
    have CI:=head_keep h5 AJ (AL.nil _)
    refine cl (h:=by exact Si tb p0 n0 x k l1 l' pl fl _ CI Ec (by simp only [List.nodup_cons,List.nodup_append] at h2;exact h2.2.1) om hl') (k:=?_)
    rintro v w' hk
    obtain ⟨p',hv⟩:∃ p',v = .pointer p':=by obtain ⟨p',_,hv,_⟩:=hk;exact ⟨p',hv⟩
    subst hv
    obtain ⟨_,_,_,_,_,_,k4⟩:=id hk
    have Bj:=head_keep CI k4 Ec.nodes
    have CD:=k4.block Bv (fun h=>by simp [h] at h2)
    have hq1:=k4.block SM (nodes_q Ec.nodes SM)
    clear hs
    have hs:=(((St.nil w').AG Bj (by simp)).AG CD (by simpa using Dz)).AG hq1 (by simp [n1,n2])
    refine Jb ?_
    refine dn (k:=?_)
    refine tks 8 2 ?_
    refine dt 10 hX (k:=?_)
    repeat' (first|refine Nx.h ?_|(refine st hs (k:=?_);intro w hs)|fail)
    refine dn (k:=?_)
    refine en (k:=?_)
    refine Ja ?_
    have AT:AA [b] w' _:=hs.AB [b] (by simp [Bj,hq1]) (by simp [D0])
    obtain ⟨EA,s1,s2,s3,s4⟩:=Nl Bv Ec.nodes hrw h2 hk AT (hs.get (At.tail At.head))
    have IX:=PB x k l1 l' hl'
    refine cl (h:=by exact GC tb p0 n0 _ x1 _ c1 _ _ _ (head_keep Bj AT (AL.cons CD (AL.nil _))) s1 s2 (by simp only [List.length_append,List.length_cons];omega)) (k:=?_)
    rintro v w3 hm
    have hO:=(h4.step AJ (by simp)).step s4 h3
    have hm2:=hm.up hO (sub_up h3 s3 (h4.step AJ (by simp)).size)
    have hs:=St.nil w3
    refine Jc ?_
    refine AF ?_
    exact hm2
abbrev Ga (b:Bool):Obj := .cells #[.bool b] 4 (0,0)
abbrev xW (tb:Nat):Obj := .cells #[.pointer (some ⟨tb,0,none⟩)] 109 (0,0)
abbrev Tv (a:It):Obj := .cells #[.int .u64 a.p.t,.int .u32 a.p.r,.int .u32 a.p.w,.int .i64 a.id,.int .u64 a.d.t,.int .u32 a.d.r,.int .u32 a.d.w] 64 (0,0)
def MD (acc:Option IT) (m:IT):Option IT:=some (match acc with | none=>m | some a=>snr a m)
def JA (acc:Option IT):It:=match acc with | none => .zero | some a=>a.1
def Mw (acc:Option IT) (t:RB IT):Option IT:=match all? t with | none=>acc | some a=>MD acc a
def DK (q:IT→Bool):RB IT→Option IT→Option IT
 | .nil,acc=>acc
 | .node l x r _,acc=>bif q x then DK q r (MD (Mw acc l) x) else DK q l acc
theorem WE (b7 b2 b6 tb:Nat) (p:Option Addr) (n0:Int) (acc:Option IT) (m:IT) (w0:World) (h7:w0.heap[b7]?=some (Ga acc.isSome)) (h2:w0.heap[b2]?=some (xW tb)) (h6:w0.heap[b6]?=some (Tv (JA acc))) (hT:w0.heap[tb]?=some (C0 p n0)) :
 AM Tryz.prog 249 #[iv m.1,.pointer (some ⟨b7,0,none⟩),.pointer (some ⟨b2,0,none⟩),.pointer (some ⟨b6,0,none⟩)] w0 fun v w'=>w'.heap[b7]?=some (Ga true)∧w'.heap[b6]?=some (Tv (JA (MD acc m)))∧AA [b7,b6] w0 w':=by
 have n1:b2≠tb:=AW h2 hT (by decide)
 have n2:b6≠tb:=AW h6 hT (by decide)
 have n3:b7≠tb:=AW h7 hT (by decide)
 have n4:b6≠b2:=AW h6 h2 (by decide)
 have n5:b7≠b2:=AW h7 h2 (by decide)
 have n6:b7≠b6:=AW h7 h6 (by decide)
 have hs:=((((St.nil w0).AG hT (by simp)).AG h2 (by simpa using n1)).AG h6 (by simp [n2,n4])).AG h7 (by simp [n3,n5,n6])
 cases acc with
 | none =>
   refine AQ Tryz.func249 Tryz.ntmps249 (k:=?_);refine Ag ?_;refine Al ?_;refine bx hs (k:=?_);intro bq wq Lm hs;repeat' (first|refine Sd ?_|(refine st hs (k:=?_);intro w hs)|(refine AU hs (k:=?_);intro w hs)|fail)
   refine JG ?_
   have ho:AA [b7,b6] w0 _:=hs.AB [b7,b6] (by simp [h2,hT]) (by simp [D0])
   exact ⟨hs.get (At.tail At.head),hs.get (At.tail (At.tail At.head)),ho⟩
 | some a =>
   refine AQ Tryz.func249 Tryz.ntmps249 (k:=?_);refine Ag ?_;refine Al ?_;refine bx hs (k:=?_);intro bq wq Lm hs;refine Je ?_
   refine dr [7] hs (k:=?_);intro hX w hs
   refine tks 0 6 ?_
   refine dt 6 hX (k:=?_)
   refine AY hs (h:=by exact Ih a m _) (k:=?_);intro w' ho hs;refine Jb ?_
   refine dn (k:=?_)
   refine dt 7 hX (k:=?_)
   repeat' (first|refine Nx.h ?_|(refine AU hs (k:=?_);intro w hs)|fail)
   refine dn (k:=?_)
   refine en (k:=?_)
   repeat' (first|refine Sa ?_|(refine st hs (k:=?_);intro w hs)|(refine AU hs (k:=?_);intro w hs)|fail)
   refine JG ?_
   have ho:AA [b7,b6] w0 _:=hs.AB [b7,b6] (by simp [h2,hT]) (by simp [D0])
   exact ⟨hs.get (At.tail At.head),hs.get (At.tail (At.tail At.head)),ho⟩
structure GN (w0:World) (tb b2 b4 b6 b7:Nat) (acc:Option IT) (w:World):Prop where
 o:AA [] w0 w
 h2:w.heap[b2]?=some (xW tb)
 h7:w.heap[b7]?=some (Ga acc.isSome)
 h6:w.heap[b6]?=some (Tv (JA acc))
 h4:w.heap[b4]?=some (Tv .zero)
theorem GN.only {w0 w w':World} {tb b2 b4 b6 b7:Nat} {acc:Option IT} (h:GN w0 tb b2 b4 b6 b7 acc w) (ho:AA [] w w'):GN w0 tb b2 b4 b6 b7 acc w':=by
 obtain ⟨o,h2,h7,h6,h4⟩:=h
 exact ⟨o.step ho (by simp),ho.block h2 (by simp),ho.block h7 (by simp),ho.block h6 (by simp),ho.block h4 (by simp)⟩
theorem GN.add {w0 w w':World} {tb b2 b4 b6 b7:Nat} {acc:Option IT} {m:IT} (h:GN w0 tb b2 b4 b6 b7 acc w) (g6:w0.heap.size≤b6) (g7:w0.heap.size≤b7) (N5:b4≠b6)
 (k7:w'.heap[b7]?=some (Ga true)) (k6:w'.heap[b6]?=some (Tv (JA (MD acc m)))) (ho:AA [b7,b6] w w'):GN w0 tb b2 b4 b6 b7 (MD acc m) w':=by
 obtain ⟨o,h2,h7,h6,h4⟩:=h
 refine ⟨o.step ho (fun k hk=>?_),ho.block h2 (fun hm=>?_),k7,k6,ho.block h4 (fun hm=>?_)⟩
 ·simp only [List.mem_cons,List.not_mem_nil,or_false] at hk
  rcases hk with rfl | rfl
  ·exact .inr g7
  ·exact .inr g6
 ·simp only [List.mem_cons,List.not_mem_nil,or_false] at hm
  rcases hm with rfl | rfl
  ·exact AW h2 h7 (by decide) rfl
  ·exact AW h2 h6 (by decide) rfl
 ·simp only [List.mem_cons,List.not_mem_nil,or_false] at hm
  rcases hm with rfl | rfl
  ·exact AW h4 h7 (by decide) rfl
  ·exact N5 rfl
theorem sB {w:World} {x:IT} {c:Bool} {b:Nat} {av:It} {pr:Option Addr} {fl:List Nat} {a1:RB IT} (hlb:w.heap[b]?=some (EO x av (some ⟨b,0,none⟩) pr c)) (G9:Ad w a1 (some ⟨b,0,none⟩) fl):False:=by
 revert fl
 induction a1 with
 | nil=>rintro fl ⟨h,_⟩;cases h
 | node a y d e ih _ =>
   rintro fl ⟨b',LZ,VB,Y6,Pu,fr',h1,h2,h3,h4,h5,h6⟩
   cases h1
   rw [hlb] at h3
   have hp:(some ⟨b,0,none⟩:Option Addr)=VB:=by
    injection h3 with h3;injection h3 with h3;injection h3 with h3
    simp only [List.cons.injEq,Value.pointer.injEq] at h3
    exact h3.2.2.2.2.2.2.2.2.2.2.2.2.2.2.1
   rw [← hp] at h5
   exact ih h5
theorem lU (tb:Nat) (t:RB IT) (F:List Nat) (w0:World) (h:C6 w0 tb t F) (fid:Nat) (caps:List Value) (q:IT→Bool)
 (hq:∀ (y:IT) (w:World),y∈t.list→AA [] w0 w→AM Tryz.prog fid (iv y.1 :: caps).toArray w fun v w'=>v = .bool (q y)∧AA [] w w') :
 AM Tryz.prog 240 #[.pointer (some ⟨tb,0,none⟩),.func (.func fid) #[] caps.toArray] w0 fun v w'=>v = .tuple #[iv (JA (DK q t none)),.bool (DK q t none).isSome]∧AA [] w0 w':=by
 obtain ⟨p,fp,rfl,hT,ht,hnd⟩:=h
 have hs:=(St.nil w0).AG hT (by simp)
 refine AQ Tryz.func240 Tryz.ntmps240 (k:=?_)
 refine Jb ?_
 refine Al ?_
 refine bx hs (k:=?_);intro b2 w hz hs
 refine al hs (k:=?_);intro b4 w hz hs
 refine Jc ?_
 refine Al ?_
 refine al hs (k:=?_);intro b6 w hz hs
 refine Jb ?_
 refine Al ?_
 refine al hs (k:=?_);intro b7 w hz hs
 repeat' (first|refine Sd ?_|(refine st hs (k:=?_);intro w hs)|fail)
 have g2:=hs.new (b2,true) (by simp) rfl
 have g4:=hs.new (b4,true) (by simp) rfl
 have g6:=hs.new (b6,true) (by simp) rfl
 have g7:=hs.new (b7,true) (by simp) rfl
 have N5:b4≠b6:=by have:=hs.nd;simp only [List.map_cons,List.nodup_cons,List.mem_cons,not_or] at this;exact Ne.symm this.2.1.1
 have Dm:GN w0 tb b2 b4 b6 b7 none _:=⟨hs.AB [] (by simp [hT]) (by simp [D0]),hs.get (At.tail (At.tail (At.tail At.head))),hs.get At.head,hs.get (At.tail At.head),hs.get (At.tail (At.tail At.head))⟩
 refine BN (fun _:Unit=>[(4,.pointer (some ⟨b4,0,none⟩)),(6,.pointer (some ⟨b6,0,none⟩)),(7,.pointer (some ⟨b7,0,none⟩))]) (fun _ w=>GN w0 tb b2 b4 b6 b7 (DK q t none) w) ?_ ?_
 ·refine BD (fun (s:RB IT × Option Addr × Option IT)=>[(1,.func (.func fid) #[] caps.toArray),(2,.pointer (some ⟨b2,0,none⟩)),(4,.pointer (some ⟨b4,0,none⟩)),(6,.pointer (some ⟨b6,0,none⟩)),(7,.pointer (some ⟨b7,0,none⟩)),(8,.func (.func 249) #[] #[.pointer (some ⟨b7,0,none⟩),.pointer (some ⟨b2,0,none⟩),.pointer (some ⟨b6,0,none⟩)]),(9,.pointer s.2.1)])
   (fun s w=>GN w0 tb b2 b4 b6 b7 s.2.2 w∧DK q t none=DK q s.1 s.2.2∧(∀ y∈s.1.list,y∈t.list)∧∃ Yr,Ad w0 s.1 s.2.1 Yr)
   (fun s=>s.1.list.length) (t,p,none) Ab ⟨Dm,rfl,fun _ h=>h,fp,ht⟩ fun s env w2 ⟨k1,k2,k3,Yr,k4⟩=>?_
  clear hs Dm
  obtain ⟨s,ps,acc⟩:=s
  dsimp only at k1 k2 k3 k4 ⊢
  cases s with
  | nil =>
    obtain ⟨rfl,rfl⟩:=k4
    have hs:=St.nil w2
    refine Jd ?_
    exact Ar () Ab (by rw [k2];exact k1.only (hs.AD rfl))
  | node l y r c =>
    obtain ⟨b,av,pl,pr,fl,fr,rfl,rfl,hb,Ci,hl,hr⟩:=k4
    have Bv:=k1.o.block hb (by simp)
    have CI:=k1.o.block hT (by simp)
    have Dz:=CZ hT hb
    have d1:b≠b2:=AW Bv k1.h2 (by decide)
    have hs:=((St.nil w2).AG k1.h2 (by simp)).AG Bv (by simpa using d1)
    have k3l:∀ z∈l.list,z∈t.list:=fun z hz=>k3 z (by simp [RB.list,hz])
    have k3r:∀ z∈r.list,z∈t.list:=fun z hz=>k3 z (by simp [RB.list,hz])
    refine Je ?_
    have ho:=hs.AB [] (by simp [Bv,k1.h2]) (by simp [D0])
    refine AY hs (h:=by exact hq y _ (k3 y (by simp [RB.list])) (k1.o.step ho (by simp))) (k:=?_);intro w' ho hs
    cases hqy:q y
    ·have e1:DK q (.node l y r c) acc=DK q l acc:=by simp [DK,hqy]
     rw [e1] at k2
     refine Je ?_
     exact A2 (l,pl,acc) (by simp only [RB.list,List.length_append,List.length_cons];omega) Ab ⟨k1.only (hs.AB [] (by simp [Bv,k1.h2]) (by simp [D0])),k2,k3l,fl,hl⟩
    ·have e1:DK q (.node l y r c) acc=DK q r (MD (Mw acc l) y):=by simp [DK,hqy]
     rw [e1] at k2
     have Ck:=k1.only (hs.AB [] (by simp [Bv,k1.h2]) (by simp [D0]))
     clear k1 Bv CI hs ho
     have aAj:∀ (w:World) (acc:Option IT),GN w0 tb b2 b4 b6 b7 acc w→b∉[b7,b6]∧tb∉[b7,b6]:=fun w acc k=>by
      have Bv:=k.o.block hb (by simp)
      have CI:=k.o.block hT (by simp)
      obtain ⟨_,_,k7,k6,_⟩:=k
      have e1:=AW Bv k7 (by decide)
      have e2:=AW Bv k6 (by decide)
      have e3:=AW CI k7 (by decide)
      have e4:=AW CI k6 (by decide)
      simp [e1,e2,e3,e4]
     have hs:=St.nil w'
     refine Jl ?_
     refine B7 (fun _:Unit=>[(1,.func (.func fid) #[] caps.toArray),(2,.pointer (some ⟨b2,0,none⟩)),(4,.pointer (some ⟨b4,0,none⟩)),(6,.pointer (some ⟨b6,0,none⟩)),(7,.pointer (some ⟨b7,0,none⟩)),(8,.func (.func 249) #[] #[.pointer (some ⟨b7,0,none⟩),.pointer (some ⟨b2,0,none⟩),.pointer (some ⟨b6,0,none⟩)]),(9,.pointer (some ⟨b,0,none⟩)),(35,.bool (!RB.isNil l))]) (fun _ w=>GN w0 tb b2 b4 b6 b7 acc w) ?_ ?_
     ·have Bv:=Ck.o.block hb (by simp)
      clear hs
      have hs:=(St.nil w').AG Bv (by simp)
      cases l with
      | nil =>
        obtain ⟨rfl,rfl⟩:=hl
        refine Ja ?_
        exact AP () Ab (Ck.only (hs.AB [] (by simp [Bv]) (by simp [D0])))
      | node a1 a2 a3 a4 =>
        obtain ⟨_,_,_,_,_,_,rfl,_⟩:=hl
        refine Ja ?_
        exact AP () Ab (Ck.only (hs.AB [] (by simp [Bv]) (by simp [D0])))
     clear Ck hs
     rintro _ env w3 Ck
     refine B7 (fun _:Unit=>[(1,.func (.func fid) #[] caps.toArray),(2,.pointer (some ⟨b2,0,none⟩)),(4,.pointer (some ⟨b4,0,none⟩)),(6,.pointer (some ⟨b6,0,none⟩)),(7,.pointer (some ⟨b7,0,none⟩)),(8,.func (.func 249) #[] #[.pointer (some ⟨b7,0,none⟩),.pointer (some ⟨b2,0,none⟩),.pointer (some ⟨b6,0,none⟩)]),(9,.pointer (some ⟨b,0,none⟩))]) (fun _ w=>GN w0 tb b2 b4 b6 b7 (Mw acc l) w) ?_ ?_
     ·have Bv:=Ck.o.block hb (by simp)
      cases l with
      | nil =>
        have hs:=St.nil w3
        refine Jg ?_
        exact AP () Ab Ck
      | node a1 a2 a3 a4 =>
        obtain ⟨lb,VP,gB,pG,qD,pP,rfl,rfl,hlb,hlav,G9,hlr⟩:=hl
        have Rk:VP=(KY a1 a2 a3).1:=hlav
        subst Rk
        have uP:=Ck.o.block hlb (by simp)
        have aA9:lb≠b:=fun e=>by
         subst e
         rw [hlb] at hb
         have hp:(some ⟨lb,0,none⟩:Option Addr)=gB:=by
          injection hb with h3;injection h3 with h3;injection h3 with h3
          simp only [List.cons.injEq,Value.pointer.injEq] at h3
          exact h3.2.2.2.2.2.2.2.2.2.2.2.2.2.2.1.symm
         rw [← hp] at hlb G9
         exact sB hlb G9
        have hs:=((St.nil w3).AG Bv (by simp)).AG uP (by simpa using aA9)
        refine Ji ?_
        have ho:=hs.AB [] (by simp [Bv,uP]) (by simp [D0])
        have DQ:=Ck.only ho
        obtain ⟨o,q2,q7,q6,_⟩:=id DQ
        refine cl (h:=by exact WE b7 b2 b6 tb p _ acc (KY a1 a2 a3) _ q7 q2 q6 (o.block hT (by simp))) (k:=?_)
        rintro v w4 ⟨m7,m6,mo⟩
        have hs:=St.nil w4
        refine Jb ?_
        exact AP () Ab (DQ.add g6 g7 N5 m7 m6 mo)
     clear Ck
     rintro _ env w4 Ck
     have Bv:=Ck.o.block hb (by simp)
     have CI:=Ck.o.block hT (by simp)
     have d2:b2≠tb:=AW Ck.h2 CI (by decide)
     have hs:=(((St.nil w4).AG CI (by simp)).AG Ck.h2 (by simpa using d2)).AG Bv (by simp [d1,Dz])
     refine Jb ?_
     refine dr [] hs (k:=?_);intro hX w hs
     refine tks 0 9 ?_
     refine dt 9 hX (k:=?_)
     refine cl (h:=by exact HU y.1 _) (k:=?_)
     rintro v w5 ⟨rfl,ho⟩;replace hs:=hs.AK ho
     refine Jb ?_
     refine dn (k:=?_)
     refine dt 10 hX (k:=?_)
     have DQ:=Ck.only (hs.AB [] (by simp [Bv,CI,Ck.h2]) (by simp [D0]))
     obtain ⟨o,q2,q7,q6,_⟩:=id DQ
     refine cl (h:=by exact WE b7 b2 b6 tb p _ (Mw acc l) y _ q7 q2 q6 (o.block hT (by simp))) (k:=?_)
     rintro v6 w6 ⟨m7,m6,mo⟩
     have hn:=aAj _ _ DQ
     have MQ:=DQ.add g6 g7 N5 m7 m6 mo
     have GR:=MQ.o.block hb (by simp)
     have Fj:=MQ.o.block hT (by simp)
     clear hs
     have hs:=(((St.nil w6).AG Fj (by simp)).AG MQ.h2 (by simpa using d2)).AG GR (by simp [d1,Dz])
     refine Jb ?_
     refine dn (k:=?_)
     refine en (k:=?_)
     refine Ja ?_
     exact A2 (r,pr,MD (Mw acc l) y) (by simp only [RB.list,List.length_append,List.length_cons];omega) Ab ⟨MQ.only (hs.AB [] (by simp [GR,Fj,MQ.h2]) (by simp [D0])),k2,k3r,fr,hr⟩
 ·rintro _ env w ⟨o,k2,k7,k6,k4⟩
  clear hs Dm
  have d1:b7≠b6:=AW k7 k6 (by decide)
  have d2:b7≠b4:=AW k7 k4 (by decide)
  have hs:=(((St.nil w).AG k4 (by simp)).AG k6 (by simpa using Ne.symm N5)).AG k7 (by simp [d1,d2])
  refine Jb ?_
  have hR:∀ {w'':World} {o:Obj},St w D0 [(b7,Ga (DK q t none).isSome,false),(b6,Tv (JA (DK q t none)),false),(b4,o,false)] w''→True=True→Ex [(b7,Ga (DK q t none).isSome,false),(b6,Tv (JA (DK q t none)),false)] w'':=fun hs _ e he=>hs.at_ e (by
   simp only [List.mem_cons,List.not_mem_nil,or_false] at he ⊢
   rcases he with he | he
   ·exact .inl he
   ·exact .inr (.inl he))
  refine qI [] [(b7,Ga (DK q t none).isSome,false),(b6,Tv (JA (DK q t none)),false)] hs (k:=?_);intro hX w hs
  refine tks 0 2 ?_
  refine dt 2 hX (k:=?_)
  repeat' (first|refine Nx.h ?_|(refine AU hs (k:=?_);intro w hs)|fail)
  refine dn (k:=?_)
  refine tk 3 hX (k:=?_)
  refine en (k:=?_)
  refine Jb ?_
  refine AF ?_
  have ho:=hs.AB [b4] (by simp [k6,k7]) (by simp [D0])
  exact ⟨rfl,o.step ho (by simp [g4])⟩
end Go.Proofs.Q0.IB
namespace Go.Proofs.Q0
open Go Go.RowKit
attribute [local irreducible] XS XC XA AX AO A7 A0 AZ A8 Aa AV SE
theorem wK:TW (-7) 2 = .tuple #[wv (-4),.int .u64 1,.bool true]:=by kernel_rfl
theorem qU:EU (9223372036854775808*2) = .tuple #[wv 18446744073709551616,.bool true]:=by kernel_rfl
theorem ZQ (w0:World):AM Tryz.prog 321 #[] w0 fun v w'=>v = .bool true∧AA [] w0 w':=by
 have hs:=St.nil w0
 refine AQ Tryz.func321 Tryz.ntmps321 (k:=?_)
 refine Ja ?_
 refine AY hs (h:=by exact Fp (-7) (by decide) (by decide) _) (k:=?_);intro w' ho hs
 skip
 refine AY hs (h:=by exact YW (-7) 2 (by decide) (by decide) (by decide) _) (k:=?_);intro w' ho hs
 rw [wK]
 repeat' (first|refine Sa ?_|(refine AU hs (k:=?_);intro w hs)|(refine al hs (k:=?_);intro b w hz hs)|fail)
 refine AY hs (h:=by exact Oy 9223372036854775808 (by decide) (by decide) _) (k:=?_);intro w' ho hs
 skip
 refine AY hs (h:=by exact PA 9223372036854775808 2 (by decide) (by decide) (by decide) _) (k:=?_);intro w' ho hs
 rw [qU]
 repeat' (first|refine Sb ?_|(refine AU hs (k:=?_);intro w hs)|(refine al hs (k:=?_);intro b w hz hs)|fail)
 refine dr [] hs (k:=?_);intro hX w hs
 refine tks 0 6 ?_
 refine dt 6 hX (k:=?_)
 refine AY hs (h:=by exact Fp (-4) (by decide) (by decide) _) (k:=?_);intro w' ho hs
 refine Jb ?_
 refine dn (k:=?_)
 refine tks 7 12 ?_
 refine en (k:=?_)
 refine Jb ?_
 refine AF ?_
 exact ⟨rfl,hs.AD rfl⟩
theorem Xh (s:Int):(A9 s∧EU s = .tuple #[wv s,.bool true])∨(¬ A9 s∧EU s = .tuple #[wv 0,.bool false]):=by
 unfold EU
 by_cases h:A9 s
 ·rw [if_pos h];exact .inl ⟨h,rfl⟩
 ·rw [if_neg h];exact .inr ⟨h,rfl⟩
theorem sL {x y:Int}:0 < CX x y↔y < x:=by unfold CX;repeat' split <;> omega
theorem qY {x y:Int}:CX x y < 0↔x < y:=by unfold CX;repeat' split <;> omega
theorem step_ret (a n d r:Int) (ha:BV a) (hn:BV n) (hd:BV d) (hr:0≤r) (hrd:r < d) (hp:a*n+r < 18446744073709551616) (iU:0≤a*n) (w0:World) :
 AM Tryz.prog 318 #[.int .u64 a,.int .u64 n,.int .u64 d,.int .u64 r] w0 fun v w'=>v = .tuple #[.int .u64 ((a*n+r) / d),.int .u64 ((a*n+r) % d),.bool true]∧AA [] w0 w':=by
 have hs:=St.nil w0
 obtain ⟨ha0,ha1⟩:=ha
 obtain ⟨hn0,Le⟩:=hn
 obtain ⟨hd0,p9⟩:=hd
 have e1:a*n / 18446744073709551616=0:=by omega
 have e2:a*n % 18446744073709551616=a*n:=by omega
 have e3:(a*n+r+0) / 18446744073709551616=0:=by omega
 have e4:(a*n+r+0) % 18446744073709551616=a*n+r:=by omega
 refine AQ Tryz.func318 Tryz.ntmps318 (k:=?_)
 repeat' (first|refine Sa ?_|refine Au rfl (fun hc=>?_) fun hc=>?_|fail)
 ·omega
 ·refine cl (h:=by exact O4 a n ha0 ha1 hn0 Le _) (k:=?_)
  rw [e1,e2]
  rintro v w' ⟨rfl,ho⟩;replace hs:=hs.AK ho;refine Ja ?_
  refine cl (h:=by exact I7 (a*n) r 0 iU hr (by decide) (by decide) _) (k:=?_)
  rw [e3,e4]
  rintro v w' ⟨rfl,rfl⟩
  repeat' (first|refine Sa ?_|refine Au rfl (fun hc=>?_) fun hc=>?_|fail)
  ·simp only [wrap_u64] at hc
   omega
  ·refine AY hs (h:=by exact OR 0 (a*n+r) d (by decide) om p9 om hp _) (k:=?_);intro w' ho hs;refine Ja ?_
   refine AF ?_
   refine ⟨?_,hs.AD rfl⟩
   rw [Int.zero_mul,Int.zero_add]
   rfl
theorem gY (sl:Value) (w0:World) (hL:Cn w0 22 1 sl [[.int .u64 1],[.int .u64 1],[.int .u64 1]]) :
 AM Tryz.prog 319 #[.int .u64 1,.int .u64 3,.int .u64 0,sl] w0 fun v w'=>v = .tuple #[.int .u64 1,.int .u64 0,.bool true]∧AA [] w0 w':=by
 obtain ⟨ad,cap,rfl,hD⟩:=hL
 obtain ⟨b,off,cs,fz,rfl,_,hb,hcs⟩:=hD (by simp)
 have hs:=St.nil w0
 refine AQ Tryz.func319 Tryz.ntmps319 (k:=?_)
 refine Jd ?_
 refine BN (fun (_:Unit)=>[(8,.int .u64 1),(2,.int .u64 0)]) (fun _ w=>St w0 D0 [] w) ?_ ?_
 ·refine BD (fun (i:Nat)=>[(0,.int .u64 1),(1,.int .u64 3),(2,.int .u64 ((i % 3:Nat):Int)),(8,.int .u64 ((i / 3:Nat):Int)),(21,.slice (some ⟨b,off,none⟩) 3 cap),(22,.int .i64 (3:Nat)),(23,.int .i64 (i:Nat))])
   (fun i w=>i≤3∧St w0 D0 [] w) (fun i=>3 - i) 0 Ab ⟨Nat.zero_le _,hs⟩ fun i env w ⟨hi,hs⟩=>?_
  repeat' (first|refine Sa ?_|refine Au rfl (fun hc=>?_) fun hc=>?_|fail)
  ·have hlt:i < 3:=by omega
   have hpk:Dc cs (off+i*1) 1 [.int .u64 1]:=by
    have:i=0∨i=1∨i=2:=by omega
    rcases this with rfl | rfl | rfl <;> exact hcs _ _ rfl
   have ei:=D2 (m:=3) hlt om
   refine ix (h0:=(by omega)) (h1:=(by omega)) (k:=?_)
   refine lh ((hs.AD rfl).block hb (by simp)) (by cases hpk;assumption) (k:=?_)
   refine Ja ?_
   refine AY hs (h:=by exact step_ret 1 1 3 ((i % 3:Nat):Int) (by decide) (by decide) (by decide) om om om (by decide) _) (k:=?_);intro w' ho hs;refine Ja ?_
   refine cl (h:=by exact I7 ((i / 3:Nat):Int) ((1*1+((i % 3:Nat):Int)) / 3) 0 om om (by decide) (by decide) _) (k:=?_)
   rintro v w' ⟨rfl,rfl⟩
   repeat' (first|refine Sa ?_|refine xc_cond rfl (fun hc=>?_) fun hc=>?_|fail)
   ·simp only [bne_iff_ne,ne_eq] at hc
    omega
   ·have e5:(((i / 3:Nat):Int)+(1*1+((i % 3:Nat):Int)) / 3+0) % 18446744073709551616=(((i+1) / 3:Nat):Int):=by omega
    have e6:(1*1+((i % 3:Nat):Int)) % 3=(((i+1) % 3:Nat):Int):=by omega
    exact A2 (i+1) om (by (repeat (first | exact Ac | (apply A5;first | exact rfl | exact congrArg (Value.int .i64) ei | exact congrArg (Value.int .u64) e5 | exact congrArg (Value.int .u64) e6)))) ⟨by omega,hs⟩
  ·have e:i=3:=by omega
   subst e
   exact Ar () Ab hs
 ·rintro _ env w hs
  refine Ja ?_
  refine AF ?_
  exact ⟨rfl,hs.AD rfl⟩
theorem SR (w0:World):AM Tryz.prog 320 #[] w0 fun v w'=>v = .bool true∧AA [] w0 w':=by
 have hs:=St.nil w0
 refine AQ Tryz.func320 Tryz.ntmps320 (k:=?_)
 refine Ja ?_
 refine AY hs (h:=by exact ZQ _) (k:=?_);intro w' ho hs;refine Jc ?_
 refine AF ?_
 exact ⟨rfl,hs.AD rfl⟩
theorem ZS (w0:World):AM Tryz.prog 311 #[] w0 fun v w'=>v = .bool true∧AA [] w0 w':=by
 have hs:=St.nil w0
 refine AQ Tryz.func311 Tryz.ntmps311 (k:=?_)
 refine Ja ?_
 refine AY hs (h:=by exact step_ret 3 5 4 1 (by decide) (by decide) (by decide) (by decide) (by decide) (by decide) (by decide) _) (k:=?_);intro w' ho hs;repeat' (first|refine Sa ?_|(refine bs hs (k:=?_);intro b w hz hs)|fail)
 have hb:=hs.get At.head
 (with_reducible apply Kj);exact rfl;exact rfl;exact gY _ _ ⟨some ⟨_,0,none⟩,3,rfl,fun _=>⟨_,0,_,(0,0),rfl,by decide,hb,fun i x h=>(by
  have:i=0∨i=1∨i=2:=by
   rcases Nat.lt_or_ge i 3 with h' | h'
   ·omega
   ·rw [List.getElem?_eq_none (by simp;omega)] at h;cases h
  rcases this with rfl | rfl | rfl <;> (cases h;exact .cons rfl .nil))⟩⟩
 rintro v w' ⟨rfl,ho⟩;replace hs:=hs.AK ho;refine Ja ?_
 refine AY hs (h:=by exact SR _) (k:=?_);intro w' ho hs;refine Jc ?_
 refine AF ?_
 exact ⟨rfl,hs.AD rfl⟩
theorem aN (w0:World):AM Tryz.prog 308 #[] w0 fun v w'=>v = .bool true∧AA [] w0 w':=by
 have hs:=St.nil w0
 refine AQ Tryz.func308 Tryz.ntmps308 (k:=?_)
 refine Ja ?_
 refine AY hs (h:=by exact ZS _) (k:=?_);intro w' ho hs;refine Jc ?_
 refine AF ?_
 exact ⟨rfl,hs.AD rfl⟩
theorem ZM (w0:World):AM Tryz.prog 312 #[] w0 fun v w'=>v = .bool true∧AA [] w0 w':=by
 have hs:=St.nil w0
 refine AQ Tryz.func312 Tryz.ntmps312 (k:=?_)
 refine Ja ?_
 refine AY hs (h:=by exact SR _) (k:=?_);intro w' ho hs;refine Jf ?_
 refine cl (h:=by exact IU _ _ _) (k:=?_)
 rw [show sn 2 18446744073709551615=3 from by decide]
 rintro v w' ⟨rfl,ho⟩;replace hs:=hs.AK ho;refine Jc ?_
 refine AF ?_
 exact ⟨rfl,hs.AD rfl⟩
theorem Z2 (w0:World):AM Tryz.prog 309 #[] w0 fun v w'=>v = .bool true∧AA [] w0 w':=by
 have hs:=St.nil w0
 refine AQ Tryz.func309 Tryz.ntmps309 (k:=?_)
 refine Ja ?_
 refine AY hs (h:=by exact ZM _) (k:=?_);intro w' ho hs;refine Jc ?_
 refine AF ?_
 exact ⟨rfl,hs.AD rfl⟩
theorem aW (w0:World):AM Tryz.prog 297 #[] w0 fun v w'=>v = .bool true∧AA [] w0 w':=by
 have hs:=St.nil w0
 refine AQ Tryz.func297 Tryz.ntmps297 (k:=?_)
 refine Ja ?_
 refine cl (h:=by exact Qp ⟨5,0,3⟩ 7 (by decide) (by decide) _) (k:=?_)
 rw [show Lv ⟨5,0,3⟩ 7=some ⟨7,1,3⟩ from by decide]
 rintro v w' ⟨rfl,ho⟩;replace hs:=hs.AK ho;repeat' (first|refine Sa ?_|(refine AU hs (k:=?_);intro w hs)|(refine al hs (k:=?_);intro b w hz hs)|fail)
 refine AY hs (h:=by exact aN _) (k:=?_);intro w' ho hs;refine Jf ?_
 refine AY hs (h:=by exact Z2 _) (k:=?_);intro w' ho hs;refine Jc ?_
 refine AF ?_
 exact ⟨rfl,hs.AD rfl⟩
theorem Z0 (w0:World):AM Tryz.prog 288 #[] w0 fun v w'=>v = .bool true∧AA [] w0 w':=by
 have hs:=St.nil w0
 refine AQ Tryz.func288 Tryz.ntmps288 (k:=?_)
 refine Ja ?_
 refine AY hs (h:=by exact aW _) (k:=?_);intro w' ho hs;refine Jc ?_
 refine AF ?_
 exact ⟨rfl,hs.AD rfl⟩
theorem bF (w0:World):AM Tryz.prog 282 #[] w0 fun v w'=>v = .bool true∧AA [] w0 w':=by
 have hs:=St.nil w0
 refine AQ Tryz.func282 Tryz.ntmps282 (k:=?_)
 repeat' (first|refine Sa ?_|(refine st hs (k:=?_);intro w hs)|(refine AU hs (k:=?_);intro w hs)|(refine al hs (k:=?_);intro b w hz hs)|fail)
 refine AY hs (h:=by exact Z0 _) (k:=?_);intro w' ho hs;refine Jf ?_
 refine cl (h:=by exact S7 ⟨⟨1,0,1⟩,1,⟨2,0,1⟩⟩ ⟨⟨1,0,1⟩,2,⟨2,0,1⟩⟩ (by decide) (by decide) _) (k:=?_)
 rw [show due ⟨⟨1,0,1⟩,1,⟨2,0,1⟩⟩ ⟨⟨1,0,1⟩,2,⟨2,0,1⟩⟩=true from by decide]
 rintro v w' ⟨rfl,ho⟩;replace hs:=hs.AK ho;refine Jf ?_
 refine cl (h:=by exact S7 ⟨⟨1,0,1⟩,2,⟨2,0,1⟩⟩ ⟨⟨1,0,1⟩,1,⟨2,0,1⟩⟩ (by decide) (by decide) _) (k:=?_)
 rw [show due ⟨⟨1,0,1⟩,2,⟨2,0,1⟩⟩ ⟨⟨1,0,1⟩,1,⟨2,0,1⟩⟩=false from by decide]
 rintro v w' ⟨rfl,ho⟩;replace hs:=hs.AK ho;refine Jc ?_
 refine AF ?_
 exact ⟨rfl,hs.AD rfl⟩
theorem ZF (w0:World):AM Tryz.prog 279 #[] w0 fun v w'=>v = .bool true∧AA [] w0 w':=by
 have hs:=St.nil w0
 refine AQ Tryz.func279 Tryz.ntmps279 (k:=?_)
 refine Ja ?_
 refine AY hs (h:=by exact bF _) (k:=?_);intro w' ho hs;refine Jc ?_
 refine AF ?_
 exact ⟨rfl,hs.AD rfl⟩
end Go.Proofs.Q0
