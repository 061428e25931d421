/- A part of the proof: what its functions compute. -/
import Derived.Test.YtjiiakjheghcoaaGreatDoorGc7
set_option linter.unusedVariables false
set_option linter.unusedSimpArgs false
set_option maxRecDepth 100000
set_option maxHeartbeats 64000000
set_option linter.unusedSectionVars false
namespace Go.Proofs.Q0
open Go Go.RowKit
attribute [local irreducible] XS XC XA AZ AP Aa A1 A0 A8 Ad AW SE
def Ra:Cs:=Bh (Dw 0) (Bc (Dw 0) 1 1 2 0).1 (Bc (Dw 0) 1 1 2 0).2
def Oq:Cs:=Bh Ra (Bc Ra 2 1 2 0).1 (Bc Ra 2 1 2 0).2
theorem sJ:(Bc (Dw 0) 1 1 2 0).1=0:=by kernel_rfl
theorem rW:(Bc Ra 2 1 2 0).1=0:=by kernel_rfl
theorem aBZ:(AX Oq 4).1=0:=by kernel_rfl
theorem rX:(AX Oq 4).2.2.p=[⟨1,2,true⟩,⟨2,2,true⟩]:=by kernel_rfl
theorem aBa:(AX Oq 4).2.2.g.length=0:=by kernel_rfl
theorem WV (w0:World) (ht:D3 w0):AO Tryz.prog 231 #[] w0 fun v w'=>v = .bool true∧AA [] w0 w':=by
 have hs:=St.nil w0
 refine AR Tryz.func231 Tryz.ntmps231 (k:=?_)
 refine Ja ?_
 refine AY hs (h:=by exact YX _ (tab_only ht (hs.AD rfl))) (k:=?_);intro w' ho hs;refine Jc ?_
 refine AG ?_
 exact ⟨rfl,hs.AD rfl⟩
theorem lit_ls {w:World} {b e n k:Nat} {xs:List (List Value)} (hb:w.heap[b]?=some (.cells xs.flatten.toArray e (0,0))) (hn:xs.length=n) (hk:∀ x∈xs,x.length=k) (hl:xs.flatten.length=n*k):Cu w e k (.slice (some ⟨b,0,none⟩) n n) xs :=
 B7.ls (n:=n) (G:=[b]) (.inr ⟨b,n,xs.flatten,rfl,rfl,Nat.le_refl _,hl,hl,by rw [← hl];exact List.take_length,hb⟩) rfl hn.symm hk
theorem U7.ls {w:World} {v:Value} {l:List Pr} {G:List Nat} (h:U7 w v l G):Cu w 168 3 v (l.map Pr.cells):=B7.ls h rfl (by simp) (fun x hx=>by obtain ⟨p,_,rfl⟩:=List.mem_map.1 hx;rfl)
theorem YJ (w0:World) (ht:D3 w0):AO Tryz.prog 211 #[] w0 fun v w'=>v = .bool true∧AA [] w0 w':=by
 have hs:=St.nil w0
 refine AR Tryz.func211 Tryz.ntmps211 (k:=?_)
 refine Ja ?_
 refine cl (h:=by exact X3 0 (by decide) _) (k:=?_)
 rintro v w1 ⟨⟨cb,F0,rfl,hC,EM⟩,AK⟩
 have Jq:=AK.size
 have BB:=(hs.AD rfl).trans AK
 have rE:∀ k∈F0,w0.heap.size≤k:=fun k hk=>by have:=EM k hk;have:=(hs.AD rfl).size;omega
 have hcF:cb∈F0:=by obtain ⟨_,_,rfl,_⟩:=hC;simp
 have hcb:w0.heap.size≤cb:=rE cb hcF
 clear hs
 have hs:=St.nil w1
 refine Jd ?_
 refine cl (h:=by exact Rm cb (Dw 0) F0 1 1 2 0 _ (hC.only (hs.AD rfl)) (by decide) (by decide) (by decide) (by decide)) (k:=?_)
 rw [sJ]
 rintro v w2 ⟨rv,rfl,I4,⟨F1,NR,DE⟩,AM⟩
 have NR:Br w2 cb Ra F1:=by have e:=sJ;unfold Ra;rw [e];exact NR
 obtain ⟨vg,vp,Gg,Gp,rfl,p1,p2⟩:=I4
 obtain ⟨ag,cg,rfl⟩:=BZ p1
 obtain ⟨ap,cp,rfl⟩:=BZ p2
 have MF:=(hs.AD rfl).size
 have Bn:AA [] w0 w2:=(BB.trans (hs.AD rfl)).step AM (fun k hk => .inr (by obtain rfl:=List.mem_singleton.1 hk;exact hcb))
 clear hs
 have hs:=St.nil w2
 repeat' (first|refine Sa ?_|(refine AU hs (k:=?_);intro w hs)|(refine al hs (k:=?_);intro b w hz hs)|fail)
 refine cl (h:=by exact Rm cb Ra F1 2 1 2 0 _ (NR.only (hs.AD rfl)) (by decide) (by decide) (by decide) (by decide)) (k:=?_)
 rw [rW]
 rintro v w3 ⟨rv,rfl,I4,⟨F2,L0,D5⟩,AT⟩
 have L0:Br w3 cb Oq F2:=by have e:=rW;unfold Oq;rw [e];exact L0
 obtain ⟨vg,vp,Gg,Gp,rfl,p1,p2⟩:=I4
 obtain ⟨ag,cg,rfl⟩:=BZ p1
 obtain ⟨ap,cp,rfl⟩:=BZ p2
 have OF:=(hs.AD rfl).size
 have E8:AA [] w0 w3:=(Bn.trans (hs.AD rfl)).step AT (fun k hk => .inr (by obtain rfl:=List.mem_singleton.1 hk;exact hcb))
 clear hs
 have hs:=St.nil w3
 repeat' (first|refine Sa ?_|(refine AU hs (k:=?_);intro w hs)|(refine al hs (k:=?_);intro b w hz hs)|fail)
 have VS:(AX Oq 4).2.2.p.length < 2000000000000:=by rw [rX];decide
 have iV:(AX Oq 4).2.2.g.length≤1000000:=by rw [aBa];decide
 refine cl (h:=by exact Xm cb Oq F2 4 _ (L0.only (hs.AD rfl)) (by decide) VS iV) (k:=?_)
 rw [aBZ]
 rintro v w4 ⟨rv,rfl,I4,_,Aw⟩
 obtain ⟨vg,vp,Gg,Gp,rfl,p1,p2⟩:=I4
 obtain ⟨ag,cg,rfl⟩:=BZ p1
 have p3:U7 w4 vp [⟨1,2,true⟩,⟨2,2,true⟩] Gp:=by rw [← rX];exact p2
 obtain ⟨ap,cp,rfl⟩:=BZ p3
 have PN:=(hs.AD rfl).size
 have CP:AA [] w0 w4:=(E8.trans (hs.AD rfl)).step Aw (fun k hk => .inr (by obtain rfl:=List.mem_singleton.1 hk;exact hcb))
 clear hs
 have hs:=St.nil w4
 repeat' (first|refine Sa ?_|(refine AU hs (k:=?_);intro w hs)|(refine al hs (k:=?_);intro b w hz hs)|fail)
 have FA:=CP.trans (hs.AD rfl)
 refine AY hs (h:=by exact WV _ (tab_only ht FA)) (k:=?_);intro w' ho hs;repeat' (first|refine vs (k:=?_)|(refine bs hs (k:=?_);intro b w hz hs)|fail)
 have q8:=lit_ls (xs:=[Pr.cells ⟨1,2,true⟩,Pr.cells ⟨2,2,true⟩]) (k:=3) (hs.get At.head) rfl (by decide) rfl
 refine cl (h:=by exact vG _ _ [⟨1,2,true⟩,⟨2,2,true⟩] [⟨1,2,true⟩,⟨2,2,true⟩] (by decide) _ ((U7.ls p3).only (hs.AD rfl)) q8) (k:=?_)
 rw [show decide ([(⟨1,2,true⟩:Pr),⟨2,2,true⟩]=[⟨1,2,true⟩,⟨2,2,true⟩])=true by decide]
 rintro v w' ⟨rfl,ho⟩;replace hs:=hs.AN ho;refine Jc ?_
 refine AG ?_
 exact ⟨rfl,CP.trans (hs.AD rfl)⟩
theorem Yj (w0:World) (ht:D3 w0):AO Tryz.prog 174 #[] w0 fun v w'=>v = .bool true∧AA [] w0 w':=by
 have hs:=St.nil w0
 refine AR Tryz.func174 Tryz.ntmps174 (k:=?_)
 refine Ja ?_
 refine AY hs (h:=by exact YJ _ (tab_only ht (hs.AD rfl))) (k:=?_);intro w' ho hs;refine Jc ?_
 refine AG ?_
 exact ⟨rfl,hs.AD rfl⟩
def PK (x u:Int):Int:=if x > max u 0 then max u 0 else if x < -(max u 0) then -(max u 0) else x
theorem mX {x u:Int} (hw:In64 u):In64 (PK x u):=by
 unfold PK In64 at *
 split
 ·omega
 ·split <;> omega
theorem mW (x u:Int) (hx:A7 x) (hw:In64 u) (w0:World):AO Tryz.prog 108 #[wv x,.int .i64 u] w0 fun v w'=>v = .int .i64 (PK x u)∧AA [] w0 w':=by
 have hs:=St.nil w0
 refine AR Tryz.func108 Tryz.ntmps108 (k:=?_)
 repeat' (first|refine Sa ?_|(refine bx hs (k:=?_);intro b w hz hs)|fail)
 have eC:PK x u=if x > max u 0 then max u 0 else if x < -(max u 0) then -(max u 0) else x:=rfl
 have hm:0≤max u 0∧max u 0 < 9223372036854775808:=by unfold In64 at hw;omega
 rw [show (if 0 > u then 0 else u)=max u 0 by split <;> omega]
 generalize max u 0=m at *
 have m1:A7 m:=by unfold A7;omega
 have m2:A7 (-m):=by unfold A7;omega
 have c1:C6 x m > 0↔m < x:=vY
 have c2:C6 x (-m) < 0↔x < -m:=wF
 refine dr [] hs (k:=?_);intro hX w hs
 refine tks 0 2 ?_
 refine dt 2 hX (k:=?_)
 refine AY hs (h:=by exact Fj m om om _) (k:=?_);intro w' ho hs;refine Jb ?_
 refine dn (k:=?_)
 refine dt 3 hX (k:=?_)
 refine AY hs (h:=by exact Tx x m hx m1 _) (k:=?_);intro w' ho hs;refine Jb ?_
 refine dn (k:=?_)
 refine tks 4 2 ?_
 refine en (k:=?_)
 by_cases h:m < x
 ·rw [if_pos h] at eC
  rw [decide_eq_true (c1.2 h),eC]
  refine Je ?_
  refine AG ?_
  exact ⟨rfl,hs.AD rfl⟩
 rw [if_neg h] at eC
 rw [decide_eq_false (fun k=>h (c1.1 k))]
 refine Jg ?_
 have em:IntKind.i64.wrap (0 - m)=-m:=by rw [wrap_i64];omega
 refine dr [] hs (k:=?_);intro hX w hs
 refine tks 0 3 ?_
 refine dt 3 hX (k:=?_)
 refine cl (h:=by exact Fj (IntKind.i64.wrap (0 - m)) (by rw [em];omega) (by rw [em];omega) _) (k:=?_)
 rw [em]
 rintro v w' ⟨rfl,ho⟩;replace hs:=hs.AN ho;refine Jb ?_
 refine dn (k:=?_)
 refine dt 4 hX (k:=?_)
 refine AY hs (h:=by exact Tx x (-m) hx m2 _) (k:=?_);intro w' ho hs;refine Jb ?_
 refine dn (k:=?_)
 refine tks 5 2 ?_
 refine en (k:=?_)
 by_cases h2:x < -m
 ·rw [if_pos h2] at eC
  rw [decide_eq_true (c2.2 h2),eC]
  refine Je ?_
  refine AG ?_
  exact ⟨OC em,hs.AD rfl⟩
 rw [if_neg h2] at eC
 rw [decide_eq_false (fun k=>h2 (c2.1 k)),eC]
 refine Jd ?_
 refine AY hs (h:=by exact XW x hx (by unfold In64;omega) _) (k:=?_);intro w' ho hs;refine Ja ?_
 refine AG ?_
 exact ⟨rfl,hs.AD rfl⟩
structure Cf where
 cores:Int
 tasks:Int
 tick:Int
 slice:Int
 origin:Int
def QX (c:Cf):Value := .agg #[.int .i64 c.cores,.int .i64 c.tasks,.int .u64 c.tick,.int .u64 c.slice,.int .u64 c.origin]
def Cf.In (c:Cf):Prop:=In64 c.cores∧In64 c.tasks∧BL c.tick∧BL c.slice∧BL c.origin
def Ar (n e:Int):Int:=if n < 1∨n > e then 3 else 0
theorem Fy (n e:Int) (w0:World):AO Tryz.prog 62 #[.int .u64 n,.int .u64 e] w0 fun v w'=>v = .int .i64 (Ar n e)∧AA [] w0 w':=by
 have hs:=St.nil w0
 refine AR Tryz.func62 Tryz.ntmps62 (k:=?_)
 refine Jb ?_
 refine Ao ?_
 refine vs (k:=?_)
 refine Jb ?_
 refine Ao ?_
 refine vs (k:=?_)
 refine vs (k:=?_)
 unfold Ar
 by_cases c1:n < 1
 ·rw [decide_eq_true c1,if_pos (.inl c1)]
  refine Jh ?_
  refine AG ?_
  exact ⟨rfl,hs.AD rfl⟩
 rw [decide_eq_false c1]
 refine vs (k:=?_)
 refine vs (k:=?_)
 refine vs (k:=?_)
 refine vs (k:=?_)
 by_cases c2:n > e
 ·rw [decide_eq_true c2,if_pos (.inr c2)]
  refine Je ?_
  refine AG ?_
  exact ⟨rfl,hs.AD rfl⟩
 rw [decide_eq_false c2,if_neg om]
 refine Jd ?_
 refine AG ?_
 exact ⟨rfl,hs.AD rfl⟩
def aAx (e:Int):List Value:=[.int .i64 e]
def GR:List Int→Int
 | []=>0
 | e :: l=>if e≠0 then e else GR l
theorem jC {l:List Int} {i:Nat} (h:i < l.length):GR (l.drop i)=if l[i]≠0 then l[i] else GR (l.drop (i+1)):=by rw [List.drop_eq_getElem_cons h];rfl
theorem ZZ (l:List Int) (sl:Value) (hm:l.length≤9223372036854775807) (w0:World) (hL:TF w0 1 sl (l.map aAx)):AO Tryz.prog 52 #[sl] w0 fun v w'=>v = .int .i64 (GR l)∧AA [] w0 w':=by
 obtain ⟨ad,cap,rfl,hD⟩:=hL
 rw [List.length_map] at *
 have hs:=St.nil w0
 refine AR Tryz.func52 Tryz.ntmps52 (k:=?_)
 refine Ja ?_
 refine BS (fun (_:Unit)=>[]) (fun _ w=>GR l=0∧AA [] w0 w) ?_ ?_
 ·refine BG (fun (i:Nat)=>[(5,.slice ad l.length cap),(6,.int .i64 (l.length:Nat)),(7,.int .i64 (i:Nat))]) (fun i w=>i≤l.length∧GR (l.drop i)=GR l∧AA [] w0 w) (fun i=>l.length - i) 0 Ae ⟨Nat.zero_le _,by rw [List.drop_zero],hs.AD rfl⟩ fun i env wl ⟨hi,he,BP⟩=>?_
  clear hs
  have hs:=St.nil wl
  repeat' (first|refine Sa ?_|refine Ax rfl (fun hc=>?_) fun hc=>?_|fail)
  ·have hlt:i < l.length:=by omega
   obtain ⟨b,off,cs,E,fz,rfl,hb,hcs⟩:=hD (fun h=>by have:=congrArg List.length h;rw [List.length_map,List.length_nil] at this;omega)
   have hpk:=hcs i (aAx l[i]) (by rw [List.getElem?_map,List.getElem?_eq_getElem hlt];rfl)
   have ei:=Dl (m:=l.length) hlt hm
   rw [jC hlt] at he
   generalize l[i]=q at *
   refine ix (h0:=(by omega)) (h1:=(by omega)) (k:=?_)
   refine lh (BP.block hb (by simp)) (by cases hpk;assumption) (k:=?_)
   by_cases hq:q=0
   ·subst hq
    rw [if_neg (by simp)] at he
    refine Jd ?_
    exact A4 (i+1) (by show l.length - (i+1) < l.length - i;omega) (by (repeat (first | exact Ak | (apply Ac;first | exact rfl | exact congrArg (Value.int .i64) ei)))) ⟨by show i+1≤_;omega,he,BP.trans (hs.AD rfl)⟩
   ·rw [if_pos hq] at he
    repeat' (first|refine Sa ?_|refine xc_cond rfl (fun hc=>?_) fun hc=>?_|fail)
    ·refine AG ?_
     exact ⟨by rw [← he];rfl,BP.trans (hs.AD rfl)⟩
    ·exact absurd (by simpa using hc) hq
  ·have e:i=l.length:=by omega
   subst e
   rw [List.drop_length] at he
   exact Au () Ae ⟨he.symm,BP⟩
 ·rintro _ env w ⟨he,BP⟩
  clear hs
  have hs:=St.nil w
  refine Ja ?_
  refine AG ?_
  exact ⟨by rw [he];rfl,BP.trans (hs.AD rfl)⟩
def Ci (c:Cf) (k:Int):Int:=if k < 0∨k≥c.cores then 5 else 0
theorem MT (c:Cf) (k:Int) (w0:World):AO Tryz.prog 41 #[QX c,.int .i64 k] w0 fun v w'=>v = .int .i64 (Ci c k)∧AA [] w0 w':=by
 have hs:=St.nil w0
 refine AR Tryz.func41 Tryz.ntmps41 (k:=?_)
 refine Jb ?_
 refine Ao ?_
 refine bx hs (k:=?_);intro b w hz hs
 refine vs (k:=?_)
 refine Jb ?_
 refine Ao ?_
 refine vs (k:=?_)
 refine vs (k:=?_)
 unfold Ci
 by_cases c1:k < 0
 ·rw [decide_eq_true c1,if_pos (.inl c1)]
  refine Jh ?_
  refine AG ?_
  exact ⟨rfl,hs.AD rfl⟩
 rw [decide_eq_false c1]
 refine vs (k:=?_)
 refine vs (k:=?_)
 refine vs (k:=?_)
 refine vs (k:=?_)
 refine vs (k:=?_)
 by_cases c2:c.cores≤k
 ·rw [decide_eq_true c2,if_pos (.inr c2)]
  refine Je ?_
  refine AG ?_
  exact ⟨rfl,hs.AD rfl⟩
 rw [decide_eq_false c2,if_neg om]
 refine Jd ?_
 refine AG ?_
 exact ⟨rfl,hs.AD rfl⟩
def DO (n:Int):Int:=if 1099511627776 < n then 1099511627776 else n
theorem PR (c:Cf) (n:Int) (w0:World):AO Tryz.prog 54 #[QX c,.int .u64 n] w0 fun v w'=>v = .int .i64 (Ar n (DO c.slice))∧AA [] w0 w':=by
 have hs:=St.nil w0
 refine AR Tryz.func54 Tryz.ntmps54 (k:=?_)
 repeat' (first|refine Sa ?_|(refine bx hs (k:=?_);intro b w hz hs)|fail)
 refine AY hs (h:=by exact Fy n (DO c.slice) _) (k:=?_);intro w' ho hs;refine Jc ?_
 refine AG ?_
 exact ⟨rfl,hs.AD rfl⟩
theorem kR (c:Cf) (n:Int) (w0:World):AO Tryz.prog 58 #[QX c,.int .u64 n] w0 fun v w'=>v = .int .i64 (Ar n (DO c.tick))∧AA [] w0 w':=by
 have hs:=St.nil w0
 refine AR Tryz.func58 Tryz.ntmps58 (k:=?_)
 repeat' (first|refine Sa ?_|(refine bx hs (k:=?_);intro b w hz hs)|fail)
 refine AY hs (h:=by exact Fy n (DO c.tick) _) (k:=?_);intro w' ho hs;refine Jc ?_
 refine AG ?_
 exact ⟨rfl,hs.AD rfl⟩
theorem Om (c:Cf) (n:Int) (w0:World):AO Tryz.prog 53 #[QX c,.int .u64 n] w0 fun v w'=>v = .int .i64 (Ar n 1048576)∧AA [] w0 w':=by
 have hs:=St.nil w0
 refine AR Tryz.func53 Tryz.ntmps53 (k:=?_)
 repeat' (first|refine Sa ?_|(refine bx hs (k:=?_);intro b w hz hs)|fail)
 refine AY hs (h:=by exact Fy n 1048576 _) (k:=?_);intro w' ho hs;refine Jc ?_
 refine AG ?_
 exact ⟨rfl,hs.AD rfl⟩
def Fa (c:Cf) (x s:Int):Int:=PK x ((Kj s c.tick).getD 0)
theorem aJ (s t:Int):In64 ((Kj s t).getD 0):=by
 unfold Kj
 split
 ·show In64 ((2*s+t)*1048576)
  unfold In64;omega
 ·decide
theorem R9 (c:Cf) (x s:Int) (hc:c.In) (hx:A7 x) (hs0:BL s) (w0:World):AO Tryz.prog 70 #[QX c,wv x,.int .u64 s] w0 fun v w'=>v = .int .i64 (Fa c x s)∧AA [] w0 w':=by
 have hs:=St.nil w0
 refine AR Tryz.func70 Tryz.ntmps70 (k:=?_)
 repeat' (first|refine Sa ?_|(refine bx hs (k:=?_);intro b w hz hs)|fail)
 refine AY hs (h:=by exact S6 s c.tick hs0 hc.2.2.1 _) (k:=?_);intro w' ho hs;refine Ja ?_
 refine AY hs (h:=by exact mW x ((Kj s c.tick).getD 0) hx (aJ _ _) _) (k:=?_);intro w' ho hs;refine Jc ?_
 refine AG ?_
 exact ⟨rfl,hs.AD rfl⟩
def Ep (c:Cf):Int:=if c.cores < 1∨c.tasks < 1 then 3 else GR [Ar c.cores 8,Ar c.tasks 32,Ar c.tick 1099511627776,Ar c.slice 1099511627776]
theorem VB (c:Cf) (hc0:c.In) (w0:World):AO Tryz.prog 29 #[QX c] w0 fun v w'=>v = .int .i64 (Ep c)∧AA [] w0 w':=by
 obtain ⟨i1,i2,i3,i4,i5⟩:=hc0
 unfold In64 at i1 i2
 have hs:=St.nil w0
 refine AR Tryz.func29 Tryz.ntmps29 (k:=?_)
 refine Jb ?_
 refine Ao ?_
 refine bx hs (k:=?_);intro b w hz hs
 refine vs (k:=?_)
 refine Jb ?_
 refine Ao ?_
 refine vs (k:=?_)
 refine vs (k:=?_)
 refine vs (k:=?_)
 unfold Ep
 by_cases c1:c.cores < 1
 ·rw [decide_eq_true c1,if_pos (.inl c1)]
  refine Jh ?_
  refine AG ?_
  exact ⟨rfl,hs.AD rfl⟩
 rw [decide_eq_false c1]
 refine vs (k:=?_)
 refine vs (k:=?_)
 refine vs (k:=?_)
 refine vs (k:=?_)
 by_cases c2:c.tasks < 1
 ·rw [decide_eq_true c2,if_pos (.inr c2)]
  refine Je ?_
  refine AG ?_
  exact ⟨rfl,hs.AD rfl⟩
 rw [decide_eq_false c2,if_neg om]
 refine Jl ?_
 have e1:IntKind.u64.wrap c.cores=c.cores:=by rw [wrap_u64];omega
 have e2:IntKind.u64.wrap c.tasks=c.tasks:=by rw [wrap_u64];omega
 refine dr [] hs (k:=?_);intro hX w hs
 refine tks 0 3 ?_
 refine tks 4 3 ?_
 refine tks 8 2 ?_
 refine tks 11 2 ?_
 refine dt 3 hX (k:=?_)
 refine cl (h:=by exact Fy (IntKind.u64.wrap c.cores) 8 _) (k:=?_)
 rw [e1]
 rintro v w' ⟨rfl,ho⟩;replace hs:=hs.AN ho;refine Jb ?_
 refine dn (k:=?_)
 refine dt 7 hX (k:=?_)
 refine cl (h:=by exact Fy (IntKind.u64.wrap c.tasks) 32 _) (k:=?_)
 rw [e2]
 rintro v w' ⟨rfl,ho⟩;replace hs:=hs.AN ho;refine Jb ?_
 refine dn (k:=?_)
 refine dt 10 hX (k:=?_)
 refine AY hs (h:=by exact Fy c.tick 1099511627776 _) (k:=?_);intro w' ho hs;refine Jb ?_
 refine dn (k:=?_)
 refine dt 13 hX (k:=?_)
 refine AY hs (h:=by exact Fy c.slice 1099511627776 _) (k:=?_);intro w' ho hs;refine Jb ?_
 refine dn (k:=?_)
 refine dt 14 hX (k:=?_)
 repeat' (first|refine Nx.h ?_|(refine bs hs (k:=?_);intro b w hz hs)|fail)
 refine dn (k:=?_)
 refine dt 15 hX (k:=?_)
 refine AY hs (h:=by exact ZZ [Ar c.cores 8,Ar c.tasks 32,Ar c.tick 1099511627776,Ar c.slice 1099511627776] _ (by simp) _ (lit_ls (n:=4) (hs.get At.head) rfl (fun x hx=>by obtain ⟨e,_,rfl⟩:=List.mem_map.1 hx;rfl) rfl).x) (k:=?_);intro w' ho hs;refine Jb ?_
 refine dn (k:=?_)
 refine tk 16 hX (k:=?_)
 refine en (k:=?_)
 refine Jb ?_
 refine AG ?_
 exact ⟨rfl,hs.AD rfl⟩
theorem ZA (w0:World) (ht:D3 w0):AO Tryz.prog 135 #[] w0 fun v w'=>v = .bool true∧AA [] w0 w':=by
 have hs:=St.nil w0
 refine AR Tryz.func135 Tryz.ntmps135 (k:=?_)
 repeat' (first|refine Sa ?_|(refine AU hs (k:=?_);intro w hs)|(refine al hs (k:=?_);intro b w hz hs)|fail)
 refine AY hs (h:=by exact Yj _ (tab_only ht (hs.AD rfl))) (k:=?_);intro w' ho hs;refine Jf ?_
 refine cl (h:=by exact VB ⟨2,3,4,5,0⟩ (by unfold Cf.In;decide) _) (k:=?_)
 rw [show Ep ⟨2,3,4,5,0⟩=0 by decide]
 rintro v w' ⟨rfl,ho⟩;replace hs:=hs.AN ho;refine Jf ?_
 refine cl (h:=by exact MT ⟨2,3,4,5,0⟩ 2 _) (k:=?_)
 rw [show Ci ⟨2,3,4,5,0⟩ 2=5 by decide]
 rintro v w' ⟨rfl,ho⟩;replace hs:=hs.AN ho;refine Jf ?_
 refine cl (h:=by exact MT ⟨2,3,4,5,0⟩ 1 _) (k:=?_)
 rw [show Ci ⟨2,3,4,5,0⟩ 1=0 by decide]
 rintro v w' ⟨rfl,ho⟩;replace hs:=hs.AN ho;refine Jc ?_
 refine AG ?_
 exact ⟨rfl,hs.AD rfl⟩
theorem ZD (w0:World) (ht:D3 w0):AO Tryz.prog 97 #[] w0 fun v w'=>v = .bool true∧AA [] w0 w':=by
 have hs:=St.nil w0
 refine AR Tryz.func97 Tryz.ntmps97 (k:=?_)
 refine Ja ?_
 refine AY hs (h:=by exact ZA _ (tab_only ht (hs.AD rfl))) (k:=?_);intro w' ho hs;refine Jc ?_
 refine AG ?_
 exact ⟨rfl,hs.AD rfl⟩
theorem lF (zs:List Value) (k:Nat) (hk:zs.length=k) (h0:0 < k):∀ m:Nat,madeCells zs.toArray (m*k)=((List.replicate m zs).flatten).toArray:=by
 have H:∀ m:Nat,(List.range (m*k)).map (fun i=>zs.toArray[i % zs.toArray.size]!)=(List.replicate m zs).flatten:=fun m=>by
  induction m with
  | zero=>simp
  | succ m ih =>
    rw [Nat.add_mul,Nat.one_mul,List.range_add,List.map_append,ih,List.replicate_succ',List.flatten_append,List.flatten_singleton,List.map_map]
    congr 1
    apply List.ext_getElem
    ·simp [hk]
    ·intro i h1 h2
     simp only [List.length_map,List.length_range] at h1
     simp only [List.getElem_map,List.getElem_range,Function.comp,List.size_toArray,hk]
     rw [show (m*k+i) % k=i by rw [Nat.mul_comm,Nat.mul_add_mod,Nat.mod_eq_of_lt h1]]
     simp [h2]
 intro m
 apply Array.toList_inj.1
 rw [← H m]
 simp [madeCells]
section
variable {P : Program} {ops : Array Oper} {QE : Exit → Env → World → Prop} {n : Nat} {rest : List Oper} {env : Env} {w wb : World} {D : Ctx} {H : List CB} {T : M6}
 {d:Option Nat} {ty:Nat} {pos:String} {Ap:Array Edge} {g:Option (Nat × Bool)}
theorem pK (hT:Bq P T) {t e size bytes m:Nat} {zs:List Value} {x y:Operand} {kl kc:IntKind} (hw:BD ops env g=true) (DR:look t T.sls=some (e,size,bytes)) (hz:look e T.zs=some zs) (hzl:Nat.beq zs.length size=true) (h0:Nat.ble 1 size=true)
 (hx:ev env x = .int kl (m:Nat)) (hy:ev env y = .int kc (m:Nat)) (hb:bytes*m≤281474976710656) (hm:m≤9223372036854775807) (hs:St wb D H w)
 (k:∀ b w',w'.heap.size=w.heap.size+1→St wb D ((b,.cells ((List.replicate m zs).flatten).toArray e,true) :: H) w'→XS P ops QE n rest (CD env d (.slice (some ⟨b,0,none⟩) m m)) w') :
 XS P ops QE n (⟨d,.makeSlice t x y,ty,pos,Ap,g⟩ :: rest) env w:=by
 obtain ⟨hu,i,hi,hs1,hs2⟩:=H9 (hT.sl DR)
 obtain ⟨i',z,hi',TQ,K2⟩:=UH (hT.z hz)
 rw [hi] at hi';cases hi'
 have hr:=run_make (P:=P) w t e i z hu hi TQ kl kc (m:Nat) (m:Nat) om (Int.le_refl _) (by rw [hs2,← Int.natCast_mul];omega) om
 rw [hs1,K2,Int.toNat_natCast,lF zs size (Nat.eq_of_beq_eq_true hzl) (Nat.le_of_ble_eq_true h0)] at hr
 refine XS.value hw (v := .slice (some ⟨w.heap.size,0,none⟩) m m) (w':=w.alloc (.cells ((List.replicate m zs).flatten).toArray e)) ?_ (k w.heap.size _ (by simp) (hs.alloc _))
 simp [execOp,hx,hy,Sem.run_bind,hr]
end
structure Tk where
 id:Int
 st:Int
 core:Int
 w:Int
 slice:Int
 lag:Int
deriving DecidableEq
abbrev Tk.cells (x:Tk):List Value:=[.int .i64 x.id,.int .u8 x.st,.int .i64 x.core,.int .u32 x.w,.int .u64 x.slice,.int .i64 x.lag]
def Jr (x:Tk):Value := .agg #[.int .i64 x.id,.int .u8 x.st,.int .i64 x.core,.int .u32 x.w,.int .u64 x.slice,.int .i64 x.lag]
def Tk.zero:Tk:=⟨0,0,0,0,0,0⟩
def CX (l:List Tk):List Value:=(l.map Tk.cells).flatten
abbrev aBp (rb n cap:Nat):Obj := .cells #[.slice (some ⟨rb,0,none⟩) n cap] 97 (0,0)
abbrev MV (l:List Tk) (rest:List Value):Obj := .cells (CX l ++ rest).toArray 51 (0,0)
def De (w:World) (tb rb:Nat) (l:List Tk):Prop:=∃ cap rest,w.heap[tb]?=some (aBp rb l.length cap)∧w.heap[rb]?=some (MV l rest)∧l.length≤32∧l.length≤cap∧rest.length+l.length*6=cap*6
theorem De.keep {w w':World} {tb rb:Nat} {l:List Tk} {F:List Nat} (h:De w tb rb l) (ho:AA F w w') (h1:tb∉F) (h2:rb∉F):De w' tb rb l:=by
 obtain ⟨cap,rest,a,b,c⟩:=h
 exact ⟨cap,rest,ho.block a h1,ho.block b h2,c⟩
theorem De.only {w w':World} {tb rb:Nat} {l:List Tk} (h:De w tb rb l) (ho:AA [] w w'):De w' tb rb l:=h.keep ho (by simp) (by simp)
theorem pZ {cs more vs:List Value} {off n:Nat} (h:EA cs off n vs):EA (cs ++ more) off n vs:=by
 induction h with
 | nil=>exact .nil
 | cons h1 _ ih=>exact .cons (by rw [List.getElem?_append_left (by
  rcases Nat.lt_or_ge _ cs.length with h | h
  ·exact h
  ·rw [List.getElem?_eq_none h] at h1;cases h1)];exact h1) ih
theorem LA {l:List Tk} {rest:List Value} {i:Nat} (h:i < l.length):EA (CX l ++ rest) (i*6) 6 l[i].cells:=by
 refine pZ (pick_of rfl ?_)
 unfold CX
 exact RU (fun y hy=>by obtain ⟨x,_,rfl⟩:=List.mem_map.1 hy;rfl) (by rw [List.getElem?_map,List.getElem?_eq_getElem h];rfl)
def FU (n:Int):Nat:=(max 0 (min n 32)).toNat
theorem Vi (n:Int) (w0:World):AO Tryz.prog 30 #[.int .i64 n] w0 fun v w'=>(∃ tb rb,v = .pointer (some ⟨tb,0,none⟩)∧De w' tb rb (List.replicate (FU n) .zero)∧w0.heap.size≤tb∧w0.heap.size≤rb∧tb≠rb)∧AA [] w0 w':=by
 have hs:=St.nil w0
 refine AR Tryz.func30 Tryz.ntmps30 (k:=?_)
 refine Ja ?_
 have hle:FU n≤32:=by unfold FU;omega
 rw [show (if (if (32:Int) < n then 32 else n) > 0 then (if (32:Int) < n then 32 else n) else 0)=((FU n:Nat):Int) by unfold FU;split <;> split <;> omega]
 generalize FU n=m at *
 refine pK AJ (m:=m) rfl rfl rfl rfl rfl rfl rfl om om hs (k:=?_)
 intro rb w1 Jq hs
 have g1:=hs.new _ List.mem_cons_self rfl
 simp only at g1
 refine vs (k:=?_)
 refine bx hs (k:=?_);intro tb w2 MF hs
 have g2:=hs.new _ List.mem_cons_self rfl
 simp only at g2
 have hnd:=hs.nd
 simp only [List.map_cons,List.nodup_cons,List.mem_cons,List.map_nil,List.not_mem_nil,or_false] at hnd
 refine Jc ?_
 refine AG ?_
 refine ⟨⟨tb,rb,rfl,⟨m,[],?_,?_,by rw [List.length_replicate];exact hle,by rw [List.length_replicate];exact ⟨Nat.le_refl _,by simp⟩⟩,g2,g1,hnd.1⟩,hs.AD rfl⟩
 ·rw [List.length_replicate];exact hs.get At.head
 ·have:=hs.get (At.tail At.head)
  rw [this]
  unfold MV CX
  rw [List.map_replicate,List.append_nil];rfl
theorem SP (x:Tk) (w0:World):AO Tryz.prog 90 #[Jr x] w0 fun v w'=>v = .bool (decide (1≤x.st) && decide (x.st≤3))∧AA [] w0 w':=by
 have hs:=St.nil w0
 refine AR Tryz.func90 Tryz.ntmps90 (k:=?_)
 repeat' (first|refine Sf ?_|(refine bx hs (k:=?_);intro b w hz hs)|((with_reducible apply B6);exact rfl;exact rfl;intro c hc;(fail_if_success have:true=c:=hc);(fail_if_success have:false=c:=hc);cases c)|fail)
 all_goals (refine AG ?_)
 all_goals refine ⟨?_,hs.AD rfl⟩
 all_goals clear hs
 ·have h1:decide (1≤x.st)=false:=hc
  rw [h1];rfl
 ·have h1:decide (1≤x.st)=true:=hc
  rw [h1];rfl
def BI (l:List Tk) (id:Int):Option Nat:=if 1≤id∧id≤l.length∧(l.getD (id - 1).toNat .zero).st≠0 then some (id - 1).toNat else none
theorem Ik {l:List Tk} {id:Int} {i:Nat} (h:BI l id=some i):i < l.length∧id=(i:Int)+1:=by
 unfold BI at h
 split at h
 ·cases h;omega
 ·cases h
def cB (o:Option Nat):Int:=match o with | some i=>(i:Int) | none=>0
def DG (o:Option Nat):Int:=match o with | some _=>0 | none=>4
theorem Pb (tb rb:Nat) (l:List Tk) (id:Int) (w0:World) (h:De w0 tb rb l) (hid:In64 id):AO Tryz.prog 38 #[.pointer (some ⟨tb,0,none⟩),.int .i64 id] w0 fun v w'=>v = .tuple #[.int .i64 (cB (BI l id)),.int .i64 (DG (BI l id))]∧AA [] w0 w':=by
 obtain ⟨cap,rest,h1,h2,h3,h4⟩:=h
 have hs:=((St.nil w0).AE h1).AE h2
 refine AR Tryz.func38 Tryz.ntmps38 (k:=?_)
 refine Jb ?_
 refine Ao ?_
 refine vs (k:=?_)
 refine vs (k:=?_)
 refine Jb ?_
 refine Ao ?_
 refine vs (k:=?_)
 refine vs (k:=?_)
 refine vs (k:=?_)
 refine Jg ?_
 refine Ao ?_
 refine vs (k:=?_)
 refine vs (k:=?_)
 by_cases c1:id < 1
 ·have e:BI l id=none:=if_neg om
  rw [decide_eq_true c1,e]
  refine Jh ?_
  refine AG ?_
  exact ⟨rfl,hs.AB [] (by simp [h1,h2]) (by simp [D0])⟩
 rw [decide_eq_false c1]
 iterate 8 refine vs (k:=?_)
 by_cases c2:id > (l.length:Nat)
 ·have e:BI l id=none:=if_neg om
  rw [decide_eq_true c2,e]
  refine Jh ?_
  refine AG ?_
  exact ⟨rfl,hs.AB [] (by simp [h1,h2]) (by simp [D0])⟩
 rw [decide_eq_false c2]
 obtain ⟨i,rfl⟩:∃ i:Nat,id=(i:Int)+1:=⟨(id - 1).toNat,by omega⟩
 have hi:i < l.length:=by omega
 have ew:IntKind.i64.wrap ((i:Int)+1 - 1)=(i:Int):=by rw [wrap_i64];omega
 have ei:((i:Int)+1 - 1).toNat=i:=by omega
 have hpk:=LA (rest:=rest) hi
 have eF:BI l ((i:Int)+1)=if l[i].st≠0 then some i else none:=by
  unfold BI
  rw [ei,List.getD_eq_getElem?_getD,List.getElem?_eq_getElem hi]
  by_cases hq:l[i].st=0
  ·rw [if_neg (by simp [hq]),if_neg (by simp [hq])]
  ·rw [if_pos ⟨by omega,by omega,by simpa using hq⟩,if_pos hq]
 generalize l[i]=q at *
 iterate 8 refine vs (k:=?_)
 rw [ew]
 refine ix (h0:=(by omega)) (h1:=(by omega)) (k:=?_)
 refine vs (k:=?_)
 refine lh (v := .int .u8 q.st) (hs.get At.head) ?_ (k:=?_)
 ·cases hpk with | cons a t=>cases t with | cons a2 _=>simpa using a2
 refine vs (k:=?_)
 by_cases hq:q.st=0
 ·rw [if_neg (by simp [hq])] at eF
  rw [eF,hq]
  refine Je ?_
  refine AG ?_
  exact ⟨rfl,hs.AB [] (by simp [h1,h2]) (by simp [D0])⟩
 ·rw [if_pos hq] at eF
  rw [eF,show (q.st == 0)=false by simpa using hq]
  refine Jd ?_
  refine AG ?_
  refine ⟨?_,hs.AB [] (by simp [h1,h2]) (by simp [D0])⟩
  show Value.tuple _=Value.tuple _
  rw [ew];rfl
def AV (l:List Tk) (id:Int):Tk:=match BI l id with | some i=>l.getD i .zero | none => .zero
theorem Oi (tb rb:Nat) (l:List Tk) (id:Int) (w0:World) (h:De w0 tb rb l) (hid:In64 id):AO Tryz.prog 13 #[.pointer (some ⟨tb,0,none⟩),.int .i64 id] w0 fun v w'=>v = .tuple #[Jr (AV l id),.int .i64 (DG (BI l id))]∧AA [] w0 w':=by
 have hT:=h
 obtain ⟨cap,rest,h1,h2,h3,h4⟩:=h
 have hs:=((St.nil w0).AE h1).AE h2
 refine AR Tryz.func13 Tryz.ntmps13 (k:=?_)
 refine Ai ?_
 refine Ao ?_
 refine al hs (k:=?_);intro b4 w hz hs
 refine Ja ?_
 refine cl (h:=by exact Pb tb rb l id _ (hT.only (hs.AB [] (by simp [h1,h2]) (by simp [D0]))) hid) (k:=?_)
 unfold AV
 cases e:BI l id with
 | none =>
   rintro v w' ⟨rfl,ho⟩;replace hs:=hs.AN ho;repeat' (first|refine Sc ?_|(refine AU hs (k:=?_);intro w hs)|fail)
   refine AG ?_
   exact ⟨rfl,hs.AB [] (by simp [h1,h2]) (by simp [D0])⟩
 | some i =>
   obtain ⟨hi,_⟩:=Ik e
   have hpk:=LA (rest:=rest) hi
   have eG:l.getD i .zero=l[i]:=by rw [List.getD_eq_getElem?_getD,List.getElem?_eq_getElem hi];rfl
   simp only
   rw [eG]
   generalize l[i]=q at *
   rintro v w' ⟨rfl,ho⟩;replace hs:=hs.AN ho;refine Jd ?_
   refine ix (h0:=(by show (0:Int)≤(i:Int);omega)) (h1:=(by show (i:Int) < _;omega)) (k:=?_)
   refine JQ (vs:=q.cells) (hs.get (b:=rb) (o:=MV l rest) (by repeat (first | exact At.head | (with_reducible apply At.tail)))) ?_ (k:=?_)
   ·simpa [cB] using hpk
   repeat' (first|refine Sb ?_|(refine AU hs (k:=?_);intro w hs)|fail)
   refine AG ?_
   exact ⟨rfl,hs.AB [] (by simp [h1,h2]) (by simp [D0])⟩
theorem I3 (x:Tk) (l:List Tk):CX (x :: l)=x.cells ++ CX l:=by simp [CX]
theorem Pw (y:Tk) {rest:List Value}:∀ {l:List Tk} {i:Nat},i < l.length→Al (CX l ++ rest) (i*6) y.cells (CX (l.set i y) ++ rest)
 | [],i,h=>absurd h (Nat.not_lt_zero _)
 | x :: l,0,_=>by
   rw [I3,List.set_cons_zero,I3,List.append_assoc,List.append_assoc]
   exact .cons (.cons (.cons (.cons (.cons (.cons .nil)))))
 | x :: l,i+1,h=>by
   have ih:=Pw y (rest:=rest) (l:=l) (i:=i) (Nat.lt_of_succ_lt_succ h)
   rw [I3,List.set_cons_succ,I3,List.append_assoc,List.append_assoc,show (i+1)*6=i*6+1+1+1+1+1+1 by omega]
   exact .skip (.skip (.skip (.skip (.skip (.skip ih)))))
def Fl (l:List Tk) (id:Int):List Tk:=match BI l id with | some i=>l.set i .zero | none=>l
theorem Ub (tb rb:Nat) (l:List Tk) (id:Int) (w0:World) (h:De w0 tb rb l) (hid:In64 id):AO Tryz.prog 67 #[.pointer (some ⟨tb,0,none⟩),.int .i64 id] w0 fun v w'=>v = .int .i64 (DG (BI l id))∧De w' tb rb (Fl l id)∧AA [rb] w0 w':=by
 have hT:=h
 obtain ⟨cap,rest,h1,h2,h3,h4⟩:=h
 have hs:=((St.nil w0).AE h1).AE h2
 refine AR Tryz.func67 Tryz.ntmps67 (k:=?_)
 refine Ja ?_
 refine cl (h:=by exact Pb tb rb l id _ (hT.only (hs.AB [] (by simp [h1,h2]) (by simp [D0]))) hid) (k:=?_)
 unfold Fl
 cases e:BI l id with
 | none =>
   rintro v w' ⟨rfl,ho⟩;replace hs:=hs.AN ho;refine Jd ?_
   refine AG ?_
   have ho:=hs.AB [] (by simp [h1,h2]) (by simp [D0])
   exact ⟨rfl,hT.only ho,ho.weaken (by simp)⟩
 | some i =>
   obtain ⟨hi,_⟩:=Ik e
   have hpt:=Pw .zero (rest:=rest) hi
   rintro v w' ⟨rfl,ho⟩;replace hs:=hs.AN ho;refine Je ?_
   refine ix (h0:=(by show (0:Int)≤(i:Int);omega)) (h1:=(by show (i:Int) < _;omega)) (k:=?_)
   refine AU hs (cs:=CX l ++ rest) (vs:=Tk.zero.cells) (cs':=CX (l.set i .zero) ++ rest) (hc:=?_) (k:=?_)
   ·simpa [cB] using hpt
   intro w hs
   refine Ja ?_
   refine AG ?_
   have ho:=hs.AB [rb] (by simp [h1]) (by simp [D0])
   refine ⟨rfl,⟨cap,rest,?_,hs.get At.head,by rw [List.length_set];exact h3,by rw [List.length_set];exact h4⟩,ho⟩
   rw [List.length_set];exact hs.get (At.tail At.head)
def Bd (x:Tk):Bool:=decide (1≤x.st) && decide (x.st≤3)
def aAi (l:List Tk) (x:Tk):Int:=bif Bd x then DG (BI l x.id) else 2
def Et (l:List Tk) (x:Tk):List Tk:=bif Bd x then (match BI l x.id with | some i=>l.set i x | none=>l) else l
theorem Fv (tb rb:Nat) (l:List Tk) (x:Tk) (w0:World) (h:De w0 tb rb l) (hid:In64 x.id):AO Tryz.prog 71 #[.pointer (some ⟨tb,0,none⟩),Jr x] w0 fun v w'=>v = .int .i64 (aAi l x)∧De w' tb rb (Et l x)∧AA [rb] w0 w':=by
 have hT:=h
 obtain ⟨cap,rest,h1,h2,h3,h4⟩:=h
 have hs:=((St.nil w0).AE h1).AE h2
 have lb1:=lt_of_block h1
 have lb2:=lt_of_block h2
 refine AR Tryz.func71 Tryz.ntmps71 (k:=?_)
 repeat' (first|refine Sd ?_|(refine bx hs (k:=?_);intro b w hz hs)|fail)
 refine cl (h:=by exact SP x _) (k:=?_)
 rw [show (decide (1≤x.st) && decide (x.st≤3))=Bd x from rfl]
 unfold aAi Et
 cases hr:Bd x with
 | false =>
   rintro v w' ⟨rfl,ho⟩;replace hs:=hs.AN ho;refine Je ?_
   refine AG ?_
   have ho:=hs.AB [] (by simp [h1,h2]) (by simp [D0])
   exact ⟨rfl,hT.only ho,ho.weaken (by simp)⟩
 | true =>
   rintro v w' ⟨rfl,ho⟩;replace hs:=hs.AN ho;refine Jd ?_
   refine cl (h:=by exact Pb tb rb l x.id _ (hT.only (hs.AB [] (by simp [h1,h2]) (by simp [D0]))) hid) (k:=?_)
   simp only [cond_true]
   cases e:BI l x.id with
   | none =>
     rintro v w' ⟨rfl,ho⟩;replace hs:=hs.AN ho;refine Jd ?_
     refine AG ?_
     have ho:=hs.AB [] (by simp [h1,h2]) (by simp [D0])
     exact ⟨rfl,hT.only ho,ho.weaken (by simp)⟩
   | some i =>
     obtain ⟨hi,_⟩:=Ik e
     have hpt:=Pw x (rest:=rest) hi
     rintro v w' ⟨rfl,ho⟩;replace hs:=hs.AN ho;refine Je ?_
     refine dr [7] hs (k:=?_);intro hX w hs
     refine tks 0 6 ?_
     refine tk 6 hX (hr:=fun w' hH=>BJ AJ rfl rfl rfl (by show (0:Int)≤(i:Int);omega) (by show (i:Int) < _;omega)) (k:=?_)
     refine dt 7 hX (k:=?_)
     refine AU hs (cs:=CX l ++ rest) (vs:=x.cells) (cs':=CX (l.set i x) ++ rest) (hc:=?_) (k:=?_)
     ·simpa [cB] using hpt
     intro w hs
     refine XS.nil ?_
     refine dn (k:=?_)
     refine en (k:=?_)
     refine Ja ?_
     refine AG ?_
     have ho:=hs.AB [rb] (by simp [h1]) (by simp [D0])
     refine ⟨rfl,⟨cap,rest,?_,hs.get (b:=rb) (by repeat (first | exact At.head | (with_reducible apply At.tail))),by rw [List.length_set];exact h3,by rw [List.length_set];exact h4⟩,ho⟩
     rw [List.length_set];exact hs.get (b:=tb) (by repeat (first | exact At.head | (with_reducible apply At.tail)))
def Ds:List Tk→Option Nat
 | []=>none
 | x :: l=>if x.st=0 then some 0 else (Ds l).map (·+1)
theorem bB {l:List Tk} {i:Nat} (h:i < l.length):Ds (l.drop i)=if l[i].st=0 then some 0 else (Ds (l.drop (i+1))).map (·+1):=by rw [List.drop_eq_getElem_cons h];rfl
theorem LZ:∀ {l:List Tk} {i:Nat},Ds l=some i→i < l.length
 | [],i,h=>by cases h
 | x :: l,i,h=>by
   unfold Ds at h
   split at h
   ·cases h;simp
   ·cases e:Ds l with
    | none=>rw [e] at h;cases h
    | some j=>rw [e] at h;cases h;have:=LZ e;simp;omega
theorem oX (x:Tk) (w0:World):AO Tryz.prog 92 #[Jr x] w0 fun v w'=>v = .bool (x.st == 0)∧AA [] w0 w':=by
 have hs:=St.nil w0
 refine AR Tryz.func92 Tryz.ntmps92 (k:=?_)
 repeat' (first|refine Sa ?_|(refine bx hs (k:=?_);intro b w hz hs)|fail)
 refine AG ?_
 exact ⟨rfl,hs.AD rfl⟩
def nU (o:Option Nat):Int:=match o with | some i=>(i:Int) | none=>-1
theorem dA (rb cap:Nat) (l:List Tk) (rest:List Value) (w0:World) (hm:l.length≤32) (h:w0.heap[rb]?=some (MV l rest)):AO Tryz.prog 91 #[.slice (some ⟨rb,0,none⟩) l.length cap,.func (.func 92) #[] #[]] w0 fun v w'=>v = .int .i64 (nU (Ds l))∧AA [] w0 w':=by
 have hs:=St.nil w0
 refine AR Tryz.func91 Tryz.ntmps91 (k:=?_)
 refine Ja ?_
 refine BS (fun (_:Unit)=>[]) (fun _ w=>Ds l=none∧AA [] w0 w) ?_ ?_
 ·refine BG (fun (i:Nat)=>[(0,.slice (some ⟨rb,0,none⟩) l.length cap),(1,.func (.func 92) #[] #[]),(7,.int .i64 (l.length:Nat)),(8,.int .i64 (i:Nat))]) (fun i w=>i≤l.length∧(Ds (l.drop i)).map (·+i)=Ds l∧AA [] w0 w) (fun i=>l.length - i) 0 Ae ⟨Nat.zero_le _,by rw [List.drop_zero];cases Ds l <;> rfl,hs.AD rfl⟩ fun i env wl ⟨hi,he,BP⟩=>?_
  clear hs
  have hs:=St.nil wl
  repeat' (first|refine Sa ?_|refine Ax rfl (fun hc=>?_) fun hc=>?_|fail)
  ·have hlt:i < l.length:=by omega
   have hpk:=LA (rest:=rest) hlt
   have ei:=Dl (m:=l.length) hlt om
   rw [bB hlt] at he
   generalize l[i]=q at *
   refine ix (h0:=(by omega)) (h1:=(by omega)) (k:=?_)
   refine JQ (vs:=q.cells) (BP.block h (by simp)) ?_ (k:=?_)
   ·simpa using hpk
   refine cl (h:=by exact oX q _) (k:=?_)
   by_cases hq:q.st=0
   ·rw [if_pos hq] at he
    rw [hq]
    rintro v w' ⟨rfl,ho⟩;replace hs:=hs.AN ho;refine Je ?_
    refine AG ?_
    exact ⟨by rw [← he];simp [nU,packed],BP.trans (hs.AD rfl)⟩
   ·rw [if_neg hq] at he
    rw [show (q.st == 0)=false by simpa using hq]
    rintro v w' ⟨rfl,ho⟩;replace hs:=hs.AN ho;refine Jd ?_
    refine A4 (i+1) (by show l.length - (i+1) < l.length - i;omega) (by (repeat (first | exact Ak | (apply Ac;first | exact rfl | exact congrArg (Value.int .i64) ei)))) ⟨by show i+1≤_;omega,?_,BP.trans (hs.AD rfl)⟩
    rw [← he]
    cases Ds (l.drop (i+1)) with
    | none=>rfl
    | some j=>simp;omega
  ·have e:i=l.length:=by omega
   subst e
   rw [List.drop_length] at he
   exact Au () Ae ⟨he.symm,BP⟩
 ·rintro _ env w ⟨he,BP⟩
  clear hs
  have hs:=St.nil w
  refine Ja ?_
  refine AG ?_
  exact ⟨by rw [he];rfl,BP.trans (hs.AD rfl)⟩
def E5 (l:List Tk) (x:Tk):Int:=bif Bd x then (match Ds l with | some i=>(i:Int)+1 | none=>0) else 0
def E9 (l:List Tk) (x:Tk):Int:=bif Bd x then (match Ds l with | some _=>0 | none=>7) else 2
def Dp (l:List Tk) (x:Tk):List Tk:=bif Bd x then (match Ds l with | some i=>l.set i { x with id:=(i:Int)+1 } | none=>l) else l
theorem Lr (tb rb:Nat) (l:List Tk) (x:Tk) (w0:World) (h:De w0 tb rb l):AO Tryz.prog 55 #[.pointer (some ⟨tb,0,none⟩),Jr x] w0 fun v w'=>v = .tuple #[.int .i64 (E5 l x),.int .i64 (E9 l x)]∧De w' tb rb (Dp l x)∧AA [rb] w0 w':=by
 have hT:=h
 obtain ⟨cap,rest,h1,h2,h3,h4⟩:=h
 have hs:=((St.nil w0).AE h1).AE h2
 have lb1:=lt_of_block h1
 have lb2:=lt_of_block h2
 refine AR Tryz.func55 Tryz.ntmps55 (k:=?_)
 repeat' (first|refine Sd ?_|(refine bx hs (k:=?_);intro b w hz hs)|fail)
 refine cl (h:=by exact SP x _) (k:=?_)
 rw [show (decide (1≤x.st) && decide (x.st≤3))=Bd x from rfl]
 unfold E5 E9 Dp
 cases hr:Bd x with
 | false =>
   rintro v w' ⟨rfl,ho⟩;replace hs:=hs.AN ho;refine Je ?_
   refine AG ?_
   have ho:=hs.AB [] (by simp [h1,h2]) (by simp [D0])
   exact ⟨rfl,hT.only ho,ho.weaken (by simp)⟩
 | true =>
   rintro v w' ⟨rfl,ho⟩;replace hs:=hs.AN ho;refine Jd ?_
   refine cl (h:=by exact dA rb cap l rest _ h3 (hs.get (b:=rb) (o:=MV l rest) (by repeat (first | exact At.head | (with_reducible apply At.tail))))) (k:=?_)
   simp only [cond_true]
   cases e:Ds l with
   | none =>
     rintro v w' ⟨rfl,ho⟩;replace hs:=hs.AN ho;refine Je ?_
     refine AG ?_
     have ho:=hs.AB [] (by simp [h1,h2]) (by simp [D0])
     exact ⟨rfl,hT.only ho,ho.weaken (by simp)⟩
   | some i =>
     have hi:=LZ e
     have hpt:=Pw { x with id:=(i:Int)+1 } (rest:=rest) hi
     have ew:IntKind.i64.wrap ((i:Int)+1)=(i:Int)+1:=by rw [wrap_i64];omega
     rw [show nU (some i)=(i:Int) from rfl]
     rintro v w' ⟨rfl,ho⟩;replace hs:=hs.AN ho
     refine vs (k:=?_)
     refine Jb ?_
     refine Ao ?_
     refine vs (k:=?_)
     refine vs (k:=?_)
     rw [decide_eq_false (show ¬ ((i:Int) < 0) by omega)]
     refine Jg ?_
     refine Ao ?_
     refine vs (k:=?_)
     refine vs (k:=?_)
     rw [ew]
     repeat' (first|refine Sb ?_|(refine st hs (k:=?_);intro w hs)|fail)
     refine dr [7] hs (k:=?_);intro hX w hs
     refine tks 0 6 ?_
     refine tk 6 hX (hr:=fun w' hH=>BJ AJ rfl rfl rfl (by show (0:Int)≤(i:Int);omega) (by show (i:Int) < _;omega)) (k:=?_)
     refine dt 7 hX (k:=?_)
     refine AU hs (cs:=CX l ++ rest) (vs:=Tk.cells { x with id:=(i:Int)+1 }) (cs':=CX (l.set i { x with id:=(i:Int)+1 }) ++ rest) (hc:=?_) (k:=?_)
     ·simpa using hpt
     intro w hs
     refine XS.nil ?_
     refine dn (k:=?_)
     refine en (k:=?_)
     refine Ja ?_
     refine AG ?_
     have ho:=hs.AB [rb] (by simp [h1]) (by simp [D0])
     refine ⟨rfl,⟨cap,rest,?_,hs.get (b:=rb) (by repeat (first | exact At.head | (with_reducible apply At.tail))),by rw [List.length_set];exact h3,by rw [List.length_set];exact h4⟩,ho⟩
     rw [List.length_set];exact hs.get (b:=tb) (by repeat (first | exact At.head | (with_reducible apply At.tail)))
def Aj (l:List Tk):List Tk:=l.filter fun x=>decide (x.st≠0)
theorem dX (l:List Tk) (x:Tk):Aj (l ++ [x])=if x.st=0 then Aj l else Aj l ++ [x]:=by
 unfold Aj
 rw [List.filter_append]
 by_cases h:x.st=0
 ·rw [if_pos h];simp [h]
 ·rw [if_neg h];simp [h]
theorem aW (a b:List Tk):CX (a ++ b)=CX a ++ CX b:=by simp [CX]
theorem Pc (tb rb:Nat) (l:List Tk) (w0:World) (h:De w0 tb rb l):AO Tryz.prog 12 #[.pointer (some ⟨tb,0,none⟩)] w0 fun v w'=>(∃ G,B7 w' 51 6 v (Aj l).length (CX (Aj l)) G∧∀ k∈G,w0.heap.size≤k)∧AA [] w0 w':=by
 obtain ⟨cap,rest,h1,h2,h3,h4⟩:=h
 have hs:=(St.nil w0).AE h1
 refine AR Tryz.func12 Tryz.ntmps12 (k:=?_)
 refine Jd ?_
 have BB:=hs.AB [] (by simp [h1]) (by simp [D0])
 refine BS (fun (v3:Value)=>[(3,v3)]) (fun v3 w=>AA [] w0 w∧∃ G,B7 w 51 6 v3 (Aj l).length (CX (Aj l)) G∧∀ k∈G,w0.heap.size≤k) ?_ ?_
 ·refine BG (fun (x:Nat × Value)=>[(3,x.2),(11,.slice (some ⟨rb,0,none⟩) l.length cap),(12,.int .i64 (l.length:Nat)),(13,.int .i64 (x.1:Nat))])
   (fun x w=>x.1≤l.length∧AA [] w0 w∧∃ G,B7 w 51 6 x.2 (Aj (l.take x.1)).length (CX (Aj (l.take x.1))) G∧∀ k∈G,w0.heap.size≤k) (fun x=>l.length - x.1) (0,.slice none 0 0) Ae ⟨Nat.zero_le _,BB,[],.inl ⟨rfl,rfl,rfl,rfl⟩,by simp⟩ fun x env wl ⟨hi,BP,hT⟩=>?_
  obtain ⟨i,v5⟩:=x
  simp only at hi hT
  obtain ⟨G,hG,Dc⟩:=hT
  clear hs
  have hs:=St.nil wl
  repeat' (first|refine Sa ?_|refine Ax rfl (fun hc=>?_) fun hc=>?_|fail)
  ·have hlt:i < l.length:=by omega
   have hpk:=LA (rest:=rest) hlt
   have ei:=Dl (m:=l.length) hlt om
   have et:Aj (l.take (i+1))=if l[i].st=0 then Aj (l.take i) else Aj (l.take i) ++ [l[i]]:=by rw [C4 hlt,dX]
   have xU:=hG.lt
   have hle:(Aj (l.take i)).length≤32:=by have:=List.length_filter_le (fun x:Tk=>decide (x.st≠0)) (l.take i);rw [List.length_take] at this;unfold Aj;omega
   generalize l[i]=q at *
   generalize Aj (l.take i)=A at *
   refine ix (h0:=(by omega)) (h1:=(by omega)) (k:=?_)
   refine JQ (vs:=q.cells) (BP.block h2 (by simp)) ?_ (k:=?_)
   ·simpa using hpk
   by_cases hq:q.st=0
   ·rw [if_pos hq] at et
    repeat' (first|refine Sa ?_|(refine AU hs (k:=?_);intro w hs)|(refine al hs (k:=?_);intro b w hz hs)|(refine bs hs (k:=?_);intro b w hz hs)|refine xc_cond rfl (fun hc=>?_) fun hc=>?_|fail)
    ·exact absurd hq (by simpa using hc)
    ·refine A4 (i+1,v5) (by show l.length - (i+1) < l.length - i;omega) (by (repeat (first | exact Ak | (apply Ac;first | exact rfl | exact congrArg (Value.int .i64) ei)))) ⟨by show i+1≤_;omega,BP.trans (hs.AD rfl),G,?_,Dc⟩
     simp only [et]
     exact hG.keep (hs.AD rfl) (by simp)
   ·rw [if_neg hq] at et
    repeat' (first|refine Sa ?_|(refine AU hs (k:=?_);intro w hs)|(refine al hs (k:=?_);intro b w hz hs)|(refine bs hs (k:=?_);intro b w hz hs)|refine xc_cond rfl (fun hc=>?_) fun hc=>?_|fail)
    ·have ED:=hs.get At.head
     have AM:=hs.AD rfl
     refine CO AJ rfl rfl rfl rfl rfl rfl rfl (by decide) (lit_cells (news:=q.cells) ED) (by simp [Value.oneCell']) (hG.keep AM (by simp)) om om ?_
     intro NF w4 ⟨G',IK,Ic⟩ Aw
     have PN:=AM.size
     have OZ:=BP.size
     clear hs
     have hs:=St.nil w4
     refine Ja ?_
     refine A4 (i+1,NF) (by show l.length - (i+1) < l.length - i;omega) (by (repeat (first | exact Ak | (apply Ac;first | exact rfl | exact congrArg (Value.int .i64) ei)))) ⟨by show i+1≤_;omega,((BP.trans AM).news Dc Aw).trans (hs.AD rfl),G',?_,?_⟩
     ·simp only [et]
      rw [List.length_append,aW,show CX [q]=q.cells by simp [CX]]
      exact IK.keep (hs.AD rfl) (by simp)
     ·intro k hk
      rcases Ic k hk with h | h
      ·exact Dc k h
      ·omega
    ·exact absurd (by simpa using hc) hq
  ·have e:i=l.length:=by omega
   subst e
   rw [List.take_length] at hG
   exact Au v5 Ae ⟨BP,G,hG,Dc⟩
 ·rintro v5 env w ⟨BP,G,hG,Dc⟩
  clear hs
  have hs:=St.nil w
  refine Ja ?_
  refine AG ?_
  have AT:=hs.AD rfl
  exact ⟨⟨G,hG.keep AT (by simp),Dc⟩,BP.trans AT⟩
end Go.Proofs.Q0
namespace Go.Proofs.Q0
open Go Go.RowKit
def Bb:Nat→List Tk→Prop
 | _,[]=>True
 | k,x :: l=>(x.st≠0→x.id=(k:Int)+1∧Bd x=true)∧Bb (k+1) l
theorem Bb.rep:∀ (m k:Nat),Bb k (List.replicate m .zero)
 | 0,_=>trivial
 | m+1,k=>⟨fun h=>absurd rfl h,Bb.rep m (k+1)⟩
theorem Bb.set {y:Tk}:∀ {l:List Tk} {k i:Nat},Bb k l→(y.st≠0→y.id=(k:Int)+i+1∧Bd y=true)→Bb k (l.set i y)
 | [],k,i,_,_=>by rw [List.set_nil];trivial
 | x :: l,k,0,h,hy=>⟨fun hn=>by obtain ⟨a,b⟩:=hy hn;exact ⟨by omega,b⟩,h.2⟩
 | x :: l,k,i+1,h,hy=>⟨h.1,Bb.set h.2 (fun hn=>by obtain ⟨a,b⟩:=hy hn;exact ⟨by omega,b⟩)⟩
theorem Bb.get:∀ {l:List Tk} {k i:Nat} {x:Tk},Bb k l→l[i]?=some x→x.st≠0→x.id=(k:Int)+i+1∧Bd x=true
 | [],_,_,_,_,h,_=>by simp at h
 | y :: l,k,0,x,hI,h,hn=>by
   rw [List.getElem?_cons_zero] at h
   cases h
   obtain ⟨a,b⟩:=hI.1 hn
   exact ⟨by omega,b⟩
 | y :: l,k,i+1,x,hI,h,hn=>by
   rw [List.getElem?_cons_succ] at h
   obtain ⟨a,b⟩:=Bb.get hI.2 h hn
   exact ⟨by omega,b⟩
theorem Gq {l:List Tk} {x:Tk} (h:x∈Aj l):x.st≠0∧∃ i:Nat,l[i]?=some x:=by
 unfold Aj at h
 obtain ⟨a,b⟩:=List.mem_filter.1 h
 exact ⟨by simpa using b,List.mem_iff_getElem?.1 a⟩
theorem PF {l:List Tk} {i:Nat} {x:Tk} (h:l[i]?=some x):BI l ((i:Int)+1)=if x.st≠0 then some i else none:=by
 have hi:i < l.length:=by
  rcases Nat.lt_or_ge i l.length with h1 | h1
  ·exact h1
  ·rw [List.getElem?_eq_none h1] at h;cases h
 unfold BI
 rw [show ((i:Int)+1 - 1).toNat=i by omega,List.getD_eq_getElem?_getD,h]
 by_cases hq:x.st=0
 ·rw [if_neg (by simp [hq]),if_neg (by simp [hq])]
 ·rw [if_pos ⟨by omega,by omega,by simpa using hq⟩,if_pos hq]
theorem Nj {l:List Tk} {id:Int} {i:Nat} (h:BI l id=some i):∃ x,l[i]?=some x∧x.st≠0∧id=(i:Int)+1:=by
 obtain ⟨hi,rfl⟩:=Ik h
 have e:=PF (List.getElem?_eq_getElem hi)
 rw [h] at e
 refine ⟨l[i],List.getElem?_eq_getElem hi,fun hq=>?_,rfl⟩
 rw [if_neg (by simp [hq])] at e
 cases e
theorem lR {l:List Tk} {i:Nat} {x:Tk} (h:l[i]?=some x) (hx:x.st≠0):AV l ((i:Int)+1)=x:=by
 unfold AV
 rw [PF h,if_pos hx]
 show l.getD i .zero=x
 rw [List.getD_eq_getElem?_getD,h];rfl
theorem Hl {l:List Tk} (hI:Bb 0 l) {x:Tk} (h:x∈Aj l):∃ i,BI l x.id=some i∧l[i]?=some x∧AV l x.id=x:=by
 obtain ⟨hn,i,hi⟩:=Gq h
 have e:=(hI.get hi hn).1
 have e2:x.id=(i:Int)+1:=by omega
 refine ⟨i,?_,hi,?_⟩
 ·rw [e2,PF hi,if_pos hn]
 ·rw [e2];exact lR hi hn
theorem lE {l:List Tk} (hI:Bb 0 l) {id:Int} {i:Nat} (h:BI l id=some i):∃ x,x∈Aj l∧x.id=id∧l[i]?=some x:=by
 obtain ⟨x,a,b,c⟩:=Nj h
 refine ⟨x,?_,by have:=(hI.get a b).1;omega,a⟩
 unfold Aj
 exact List.mem_filter.2 ⟨List.mem_iff_getElem?.2 ⟨i,a⟩,by simpa using b⟩
theorem Xb (l:List Tk) (x:Tk):(Dp l x).length=l.length:=by
 unfold Dp
 cases Bd x with
 | false=>rfl
 | true=>cases Ds l with
   | none=>rfl
   | some i=>exact List.length_set
theorem VW (l:List Tk) (id:Int):(Fl l id).length=l.length:=by
 unfold Fl
 cases BI l id with
 | none=>rfl
 | some i=>exact List.length_set
theorem p9 (l:List Tk) (x:Tk):(Et l x).length=l.length:=by
 unfold Et
 cases Bd x with
 | false=>rfl
 | true=>cases BI l x.id with
   | none=>rfl
   | some i=>exact List.length_set
theorem Bb.add {l:List Tk} (h:Bb 0 l) (x:Tk):Bb 0 (Dp l x):=by
 unfold Dp
 cases hr:Bd x with
 | false=>exact h
 | true=>cases e:Ds l with
   | none=>exact h
   | some i=>exact h.set fun _=>⟨by show (i:Int)+1=_;omega,hr⟩
theorem Bb.drop {l:List Tk} (h:Bb 0 l) (id:Int):Bb 0 (Fl l id):=by
 unfold Fl
 cases BI l id with
 | none=>exact h
 | some i=>exact h.set fun hn=>absurd rfl hn
theorem Bb.sets {l:List Tk} (h:Bb 0 l) (x:Tk):Bb 0 (Et l x):=by
 unfold Et
 cases hr:Bd x with
 | false=>exact h
 | true=>cases e:BI l x.id with
   | none=>exact h
   | some i =>
     obtain ⟨_,_,_,e2⟩:=Nj e
     exact h.set fun _=>⟨by omega,hr⟩
theorem XI {x:Tk} (h:Bd x=true):x.st≠0:=fun e=>by unfold Bd at h;rw [e] at h;exact absurd h (by decide)
end Go.Proofs.Q0
namespace Go.Proofs.Q0
open IB (IT)
def er (r:RT):RT:=Gl r false
def Dn (t:Int) (p:Pt):Pt:=⟨lat p.t t,p.r,p.w⟩
def Cr (t:Int) (x:It):It:=⟨Dn t x.p,x.id,Dn t x.d⟩
theorem mM {p:Pt} (h:p.In) (t:Int):(Dn t p).In:=⟨SW _ _,h.2.1,h.2.2⟩
theorem nJ {x:It} (h:x.In) (t:Int):(Cr t x).In:=⟨mM h.1 t,h.2.1,mM h.2.2 t⟩
def DP (t:Int) (r:RT):RT:=⟨⟨Cr t r.1.i,r.1.left,r.1.slice,r.1.asleep⟩,nJ r.2.1 t,r.2.2⟩
theorem Ml (t:Int) (r:RT):Az (DP t r)=Az r:=rfl
theorem UO (t b:Int) (p:Pt):dist (Dn t p) (lat b t)=dist p b:=by
 unfold dist Dn
 simp only [Nh]
theorem lZ (t:Int) (p q:Pt):Hv (Dn t p) (Dn t q)=Hv p q:=by
 unfold Hv Dn
 simp only [Nh]
theorem rO (t:Int) (x y:It):ahead (Cr t x) (Cr t y)=ahead x y:=by
 unfold ahead Cr
 simp only [lZ]
theorem aAc (t:Int) (x y:It):due (Cr t x) (Cr t y)=due x y:=by
 have h:=rO t x y
 unfold due
 rw [h]
 unfold Cr
 simp only [lZ]
theorem Qt (t:Int) (x:It):(Cr t x).right=x.right:=by
 show ((Dn t x.p).right && (Dn t x.d).right && decide (x.p.w=x.d.w) && decide (0 < x.id) && decide (0≤sn (lat x.d.t t) (lat x.p.t t)) && decide (sn (lat x.d.t t) (lat x.p.t t)≤1152921504606846976))=x.right
 rw [Nh];rfl
theorem Sq (t:Int) (p:Pt) (g:Int):HG (Dn t p) g=(HG p g).map (Dn t):=by
 unfold HG Kf
 show (if EN p.w=true∧In64 ((g+p.r) / p.w) then some (⟨lat (lat p.t t) ((g+p.r) / p.w),(g+p.r) % p.w,p.w⟩:Pt) else none)=_
 split
 ·rw [RI];rfl
 ·rfl
theorem ON (t:Int) (r:RT):(DP t r).1.right=r.1.right:=by
 show ((Cr t r.1.i).right && Cz r.1.left && Cz r.1.slice && decide (HI (Dn t r.1.i.p) r.1.left=Dn t r.1.i.d))=(r.1.i.right && Cz r.1.left && Cz r.1.slice && decide (HI r.1.i.p r.1.left=r.1.i.d))
 rw [Qt]
 cases hi:r.1.i.right with
 | false=>rfl
 | true =>
   congr 1
   have hd:=iright_all r.2.1 hi
   unfold HI
   rw [Sq]
   cases e:HG r.1.i.p (r.1.left*1048576) with
   | none =>
     show decide (Pt.zero=Dn t r.1.i.d)=decide (Pt.zero=r.1.i.d)
     have hw:r.1.i.d.w≠0:=by have:=hd.2.2.1;have:=hd.2.2.2.2.2.2.1;omega
     rw [decide_eq_false (fun h=>hw (congrArg Pt.w h).symm),decide_eq_false (fun h=>hw (congrArg Pt.w h).symm)]
   | some q =>
     show decide (Dn t q=Dn t r.1.i.d)=decide (q=r.1.i.d)
     have hq:BL q.t:=(at_some e).1.1
     have hdt:BL r.1.i.d.t:=r.2.1.2.2.1
     have key:Dn t q=Dn t r.1.i.d↔q=r.1.i.d:=by
      constructor
      ·intro h
       have h1:lat q.t t=lat r.1.i.d.t t:=by have:=congrArg Pt.t h;exact this
       have h2:q.r=r.1.i.d.r:=by have:=congrArg Pt.r h;exact this
       have h3:q.w=r.1.i.d.w:=by have:=congrArg Pt.w h;exact this
       have h4:q.t=r.1.i.d.t:=by unfold lat at h1;unfold BL at hq hdt;omega
       generalize r.1.i.d=d at *
       obtain ⟨a,b,c⟩:=q
       obtain ⟨a',b',c'⟩:=d
       simp only at h2 h3 h4
       rw [h2,h3,h4]
      ·intro h;rw [h]
     exact decide_eq_decide.2 key
def HK (t:Int) (l:List RT):List RT:=l.map (DP t)
theorem NP (t:Int) (l:List RT):its (HK t l)=(its l).map (Cr t):=by unfold its HK;rw [List.map_map,List.map_map];rfl
theorem ZR (t b:Int):∀ l:List It,CM (lat b t) (l.map (Cr t))=CM b l
 | []=>rfl
 | x :: l=>by
   show dist (Dn t x.p) (lat b t)+CM (lat b t) (l.map (Cr t))=dist x.p b+CM b l
   rw [UO,ZR t b l]
theorem Zu (t:Int):∀ l:List It,Bw (l.map (Cr t))=Bw l
 | []=>rfl
 | x :: l=>by
   show x.p.w+Bw (l.map (Cr t))=x.p.w+Bw l
   rw [Zu t l]
def zT (t:Int) (m:Mn):Mn:=⟨lat m.b t,m.a,m.w,m.n⟩
theorem L6 (t:Int):∀ {l:List It},l≠[]→EY (l.map (Cr t))=zT t (EY l)
 | [],h=>absurd rfl h
 | x :: l,_=>by
   have e1:CM (lat x.p.t t) (Cr t x :: l.map (Cr t))=CM x.p.t (x :: l):=ZR t x.p.t (x :: l)
   have e2:Bw (Cr t x :: l.map (Cr t))=Bw (x :: l):=Zu t (x :: l)
   show (⟨lat (lat x.p.t t) (CM (lat x.p.t t) (Cr t x :: l.map (Cr t)) / Bw (Cr t x :: l.map (Cr t))),CM (lat x.p.t t) (Cr t x :: l.map (Cr t)) % Bw (Cr t x :: l.map (Cr t)),Bw (Cr t x :: l.map (Cr t)),(Cr t x :: l.map (Cr t)).length⟩:Mn)=_
   rw [e1,e2,RI]
   simp only [List.length_cons,List.length_map]
   rfl
theorem VC (t b:Int) (ps:List Pt):sinces (lat b t) (ps.map (Dn t))=sinces b ps:=by
 unfold sinces
 rw [List.map_map]
 exact List.map_congr_left fun p _=>Nh p.t b t
theorem iB (t:Int) (l:List It):places (l.map (Cr t))=(places l).map (Dn t):=by unfold places;rw [List.map_map,List.map_map];rfl
theorem pV (t:Int) (l:List It):DY (l.map (Cr t))=(DY l).map (Dn t):=by
 unfold DY
 induction l with
 | nil=>rfl
 | cons x l ih =>
   rw [List.map_cons,List.flatMap_cons,List.flatMap_cons,ih,List.map_append];rfl
theorem VU (t b:Int) (l:List It):within (lat b t) (l.map (Cr t))=within b l:=by
 unfold within spr
 rw [pV,iB,VC,VC]
section
variable (f : RT → RT) (hf : ∀ r, Az (f r) = Az r)
include hf
theorem Uz (i:Int):∀ l:List RT,A2 (l.map f) i=(A2 l i).map f
 | []=>rfl
 | a :: l=>by
   rw [List.map_cons,Cg,Cg,hf]
   by_cases h:Az a=i
   ·rw [if_pos h,if_pos h];rfl
   ·rw [if_neg h,if_neg h,Uz i l]
theorem Nv (r:RT):∀ l:List RT,Bx (f r) (l.map f)=(Bx r l).map f
 | []=>rfl
 | a :: l=>by
   rw [List.map_cons]
   unfold Bx
   rw [hf,hf]
   split
   ·rfl
   ·split
    ·rfl
    ·rw [Nv r l];rfl
theorem Qm (i:Int):∀ l:List RT,DZ i (l.map f)=(DZ i l).map f
 | []=>rfl
 | a :: l=>by
   have ih:=Qm i l
   unfold DZ at *
   rw [List.map_cons,List.filter_cons,List.filter_cons,hf]
   by_cases h:Az a=i
   ·rw [if_neg (by simpa using h),if_neg (by simpa using h),ih]
   ·rw [if_pos (by simpa using h),if_pos (by simpa using h),ih];rfl
end
def BQ (t:Int) (A:As):As:=⟨HK t A.l,lat A.c t⟩
theorem Td {t:Int} {l:List RT}:HK t l=[]↔l=[]:=by unfold HK;exact List.map_eq_nil_iff
theorem NV {t:Int} {A:As}:(BQ t A).l=[]↔A.l=[]:=Td
theorem WZ (t:Int) (A:As):GF (BQ t A)=lat (GF A) t:=by
 unfold GF
 by_cases e:A.l=[]
 ·rw [if_pos e,if_pos (NV.2 e)];rfl
 ·rw [if_neg e,if_neg (fun h=>e (NV.1 h))]
  show (EY (its (HK t A.l))).b=_
  rw [NP,L6 t (its_ne e)];rfl
theorem FE (t:Int) (A:As) (i:Int):A2 (BQ t A).l i=(A2 A.l i).map (DP t):=Uz (DP t) (Ml t) i A.l
theorem Vf (t:Int) (A:As):(BQ t A).l.length=A.l.length:=List.length_map _
theorem uU (t:Int) (A:As) (x:It):Gr (BQ t A) (Cr t x)=lat (Gr A x) t:=by
 unfold Gr
 by_cases e:A.l=[]
 ·rw [if_pos e,if_pos (NV.2 e)];rfl
 ·rw [if_neg e,if_neg (fun h=>e (NV.1 h)),WZ]
theorem vV (t:Int) (A:As) (x:It):Ku (BQ t A) (Cr t x)=Ku A x:=by
 unfold Ku
 rw [Qt,FE,Option.isSome_map,Vf,uU]
 show (bif !x.right then 2 else bif (A2 A.l x.id).isSome then 13 else bif decide (A.l.length=32) then 7 else bif !within (lat (Gr A x) t) (its (HK t A.l) ++ [Cr t x]) then 8 else 0)=_
 rw [NP,show (its A.l).map (Cr t) ++ [Cr t x]=(its A.l ++ [x]).map (Cr t) by rw [List.map_append];rfl,VU]
theorem ZU (t:Int) (A:As) (r:RT):Da (BQ t A) (DP t r)=Da A r:=by
 unfold Da Fz
 rw [ON]
 show (bif r.1.right then Ku (BQ t A) (Cr t r.1.i) else 2)=_
 rw [vV]
theorem vH (t:Int) (A:As) (r:RT):EF (BQ t A) (DP t r)=BQ t (EF A r):=by
 unfold EF
 rw [ZU]
 by_cases h:Da A r=0
 ·rw [if_pos h,if_pos h]
  show (⟨Bx (DP t r) (HK t A.l),lat A.c t⟩:As)=⟨HK t (Bx r A.l),lat A.c t⟩
  unfold HK
  rw [Nv (DP t) (Ml t)]
 ·rw [if_neg h,if_neg h]
theorem Z9 (t:Int) (A:As) (id:Int):EV (BQ t A) id=BQ t (EV A id):=by
 unfold EV
 rw [FE,Option.isSome_map,WZ]
 by_cases h:(A2 A.l id).isSome=true
 ·rw [if_pos h,if_pos h]
  show (⟨DZ id (HK t A.l),lat (GF A) t⟩:As)=⟨HK t (DZ id A.l),lat (GF A) t⟩
  unfold HK
  rw [Qm (DP t) (Ml t)]
 ·rw [if_neg h,if_neg h]
theorem ZH (t:Int) (A:As) (id:Int) (b:Bool):EB (BQ t A) id b=BQ t (EB A id b):=by
 unfold EB
 rw [FE]
 cases A2 A.l id with
 | none=>rfl
 | some a =>
   show (⟨Bx (Gl (DP t a) b) (HK t A.l),lat A.c t⟩:As)=⟨HK t (Bx (Gl a b) A.l),lat A.c t⟩
   unfold HK
   rw [← Nv (DP t) (Ml t)];rfl
theorem gZ (t:Int) (A:As) (id:Int):IQ (BQ t A) id=(IQ A id).map (Cr t):=by
 unfold IQ
 show its (DZ id (HK t A.l))=_
 unfold HK
 rw [Qm (DP t) (Ml t)]
 exact NP t _
theorem fU (t:Int) (A:As) (x:It):Jz (BQ t A) (Cr t x)=lat (Jz A x) t:=by
 unfold Jz
 show (if IQ (BQ t A) x.id=[] then lat x.p.t t else (EY (IQ (BQ t A) x.id)).b)=_
 rw [gZ]
 by_cases e:IQ A x.id=[]
 ·rw [e,if_pos rfl];rfl
 ·rw [if_neg (fun h=>e (List.map_eq_nil_iff.1 h)),if_neg e,L6 t e];rfl
theorem lU (t:Int) (A:As) (x:It):HB (BQ t A) (Cr t x)=HB A x:=by
 unfold HB
 rw [Qt,FE,Option.isSome_map,fU]
 show (bif !x.right then 2 else bif !(A2 A.l x.id).isSome then 14 else bif !within (lat (Jz A x) t) (IQ (BQ t A) x.id ++ [Cr t x]) then 8 else 0)=_
 rw [gZ,show (IQ A x.id).map (Cr t) ++ [Cr t x]=(IQ A x.id ++ [x]).map (Cr t) by rw [List.map_append];rfl,VU]
theorem Pn (t:Int) (A:As) (r:RT):CZ (BQ t A) (DP t r)=CZ A r:=by
 unfold CZ Fz
 rw [ON]
 show (bif r.1.right then HB (BQ t A) (Cr t r.1.i) else 2)=_
 rw [lU]
theorem Th (t:Int) (A:As) (r:RT):D7 (BQ t A) (DP t r)=BQ t (D7 A r):=by
 unfold D7
 rw [Pn]
 by_cases h:CZ A r=0
 ·rw [if_pos h,if_pos h]
  show (⟨Bx (DP t r) (HK t A.l),lat A.c t⟩:As)=⟨HK t (Bx r A.l),lat A.c t⟩
  unfold HK
  rw [Nv (DP t) (Ml t)]
 ·rw [if_neg h,if_neg h]
theorem V6 (t:Int) {A:As} (hn:A.l≠[]) (a:RT):J8 (BQ t A) (DP t a)=J8 A a:=by
 unfold J8 mA
 show HM (EY (its (HK t A.l))) (Dn t a.1.i.p)=_
 rw [NP,L6 t (its_ne hn)]
 unfold HM zT
 show (EY (its A.l)).a*a.1.i.p.w - dist (Dn t a.1.i.p) (lat (EY (its A.l)).b t)*(EY (its A.l)).w=_
 rw [UO]
theorem aL (t:Int) {A:As} (hn:A.l≠[]) (a:RT):Oh (BQ t A) (DP t a)=Oh A a:=by
 unfold Oh
 rw [V6 t hn]
 unfold mA
 show _ / (EY (its (HK t A.l))).w=_
 rw [NP,L6 t (its_ne hn)];rfl
theorem ne_of_mem {l:List RT} {a:RT} (h:a∈l):l≠[]:=fun e=>by rw [e] at h;cases h
theorem NQ (t:Int) (A:As) (id:Int):Bj (BQ t A) id=Bj A id:=by
 unfold Bj
 rw [FE]
 cases e:A2 A.l id with
 | none=>rfl
 | some a=>exact aL t (ne_of_mem (Bp e).1) a
theorem aM (t:Int) (A:As) (id:Int):Cq (BQ t A) id=Cq A id:=by
 unfold Cq
 rw [FE]
 cases e:A2 A.l id with
 | none=>rfl
 | some a =>
   show C6 (J8 (BQ t A) (DP t a)) 0=_
   rw [V6 t (ne_of_mem (Bp e).1) a]
theorem vJ (t:Int) {A:As} (hn:A.l≠[]) (a:RT):EP (BQ t A) (DP t a)=EP A a:=by
 unfold EP
 rw [V6 t hn];rfl
def MO (t:Int) (g:Gn):Gn:=⟨g.id,g.lag,⟨Cr t g.r.i,g.r.left,g.r.slice,g.r.asleep⟩⟩
theorem aF (t:Int) {A:As}:∀ {l:List RT},A.l≠[]→(l.map (DP t)).find? (EP (BQ t A))=(l.find? (EP A)).map (DP t)
 | [],_=>rfl
 | a :: l,hn=>by
   rw [List.map_cons,List.find?_cons,List.find?_cons,vJ t hn]
   cases EP A a with
   | true=>rfl
   | false=>exact aF t hn
theorem VP (t:Int):∀ (n:Nat) (A:As),CQ n (BQ t A)=((CQ n A).1.map (MO t),BQ t (CQ n A).2)
 | 0,A=>rfl
 | n+1,A=>by
   by_cases e:A.l=[]
   ·have e1:(BQ t A).l=[]:=Td.2 e
    unfold CQ
    rw [e,e1];rfl
   ·unfold CQ
    rw [show (BQ t A).l=A.l.map (DP t) from rfl,aF t e]
    cases h:A.l.find? (EP A) with
    | none=>rfl
    | some a =>
      have ih:=VP t n (EV A (Az a))
      have hg:Up (BQ t A) (DP t a)=MO t (Up A a):=by
       unfold Up
       rw [aL t e];rfl
      show (Up (BQ t A) (DP t a) :: (CQ n (EV (BQ t A) (Az a))).1,(CQ n (EV (BQ t A) (Az a))).2)=_
      rw [Z9,ih,hg];rfl
theorem RO (t:Int) (A:As):Co (BQ t A)=((Co A).1.map (MO t),BQ t (Co A).2):=by
 unfold Co
 rw [Vf]
 exact VP t _ A
theorem oM (t:Int):∀ l:List RT,Jx (l.map (DP t))=(Jx l).map (DP t)
 | []=>rfl
 | a :: l=>by
   suffices H:∀ (l:List RT) (a:RT),(l.map (DP t)).foldl (fun a b=>bif due b.1.i a.1.i then b else a) (DP t a)=DP t (l.foldl (fun a b=>bif due b.1.i a.1.i then b else a) a) from congrArg some (H l a)
   intro l
   induction l with
   | nil=>intro a;rfl
   | cons b l ih =>
     intro a
     rw [List.map_cons,List.foldl_cons,List.foldl_cons]
     show (l.map (DP t)).foldl _ (bif due (Cr t b.1.i) (Cr t a.1.i) then DP t b else DP t a)=_
     rw [aAc]
     cases due b.1.i a.1.i with
     | true=>exact ih b
     | false=>exact ih a
theorem Zr (t:Int) {A:As} (hn:A.l≠[]):∀ l:List RT,(l.map (DP t)).filter (fun a=>decide (0≤J8 (BQ t A) a))=(l.filter fun a=>decide (0≤J8 A a)).map (DP t)
 | []=>rfl
 | a :: l=>by
   rw [List.map_cons,List.filter_cons,List.filter_cons,V6 t hn,Zr t hn l]
   split <;> rfl
theorem uQ (t:Int) (A:As):Eg (BQ t A)=(Eg A).map (DP t):=by
 by_cases e:A.l=[]
 ·have e1:(BQ t A).l=[]:=Td.2 e
  unfold Eg KQ
  rw [e,e1];rfl
 ·unfold Eg KQ
  show Jx ((A.l.map (DP t)).filter fun a=>decide (0≤J8 (BQ t A) a))=_
  rw [Zr t e,oM]
theorem iX (t:Int) (A:As):Mo (Eg (BQ t A))=Mo (Eg A):=by
 rw [uQ]
 cases Eg A with
 | none=>rfl
 | some a=>rfl
end Go.Proofs.Q0
namespace Go.Proofs.Q0
open Go Go.RowKit
structure aCe where
 d:Int
 r:RT
theorem oD:Rq.zero.In:=by decide
instance:Inhabited aCe:=⟨⟨0,⟨.zero,oD⟩⟩⟩
theorem xD (t:Int) (A:As):IN (BQ t A)=IN A:=by
 unfold IN
 rw [RO]
 exact iX t _
theorem Xg (t:Int) (A:As) (id:Int):(A2 (BQ t A).l id).isSome=(A2 A.l id).isSome:=by rw [FE,Option.isSome_map]
end Go.Proofs.Q0
namespace Go.Proofs.Q0
open IB (IT)
def E7 (t:Int) (r:Rq):Rq:=⟨Cr t r.i,r.left,r.slice,r.asleep⟩
theorem aAV {r:Rq} (h:r.In) (t:Int):(E7 t r).In:=⟨nJ h.1 t,h.2⟩
theorem K7 {r:Rq} (h:r.In) (t:Int):(E7 t r).right=r.right:=ON t ⟨r,h⟩
theorem NO {r:Rq} (h:r.In) (t:Int):B0 (E7 t r)=DP t (B0 r):=by
 unfold B0
 rw [dif_pos h,dif_pos (aAV h t)];rfl
theorem tA (t b d w:Int):Kf (lat b t) d w=(Kf b d w).map (Dn t):=by
 unfold Kf
 split
 ·rw [RI];rfl
 ·rfl
theorem aA2 (p:Pt) (id l s:Int) (a:Bool) (d d':Pt):Bu ⟨⟨p,id,d⟩,l,s,a⟩=Bu ⟨⟨p,id,d'⟩,l,s,a⟩:=by
 unfold Bu DC
 cases h:Cz l with
 | false =>
   have e:∀ d:Pt,Rq.right ⟨⟨p,id,d⟩,l,s,a⟩=false:=fun d=>by
    unfold Rq.right
    show (It.right ⟨p,id,d⟩ && Cz l && Cz s && _)=false
    rw [h,Bool.and_false,Bool.false_and,Bool.false_and]
   show (bif Rq.right ⟨⟨p,id,d⟩,l,s,a⟩ then _ else none)=(bif Rq.right ⟨⟨p,id,d'⟩,l,s,a⟩ then _ else none)
   rw [e,e];rfl
 | true=>rfl
theorem uN {p d:Pt} {id l s:Int} {a:Bool} (h:d.w=0):Rq.right ⟨⟨p,id,d⟩,l,s,a⟩=false:=by
 unfold Rq.right It.right
 have:d.right=false:=by unfold Pt.right EN;rw [h];rfl
 show (p.right && d.right && _ && _ && _ && _ && Cz l && Cz s && _)=false
 rw [this];simp
theorem Pk {r:Rq} (h:r.In) (t:Int):Bu (E7 t r)=(Bu r).map (E7 t):=by
 cases hm:Cz r.left with
 | false =>
   have e1:DC (E7 t r)=E7 t r:=by unfold DC;show (bif Cz r.left then _ else _)=_;rw [hm];rfl
   have e2:DC r=r:=by unfold DC;rw [hm];rfl
   unfold Bu
   rw [e1,e2,K7 h]
   cases r.right <;> rfl
 | true =>
   have e1:DC (E7 t r)=⟨⟨Dn t r.i.p,r.i.id,HI (Dn t r.i.p) r.left⟩,r.left,r.slice,r.asleep⟩:=by unfold DC;show (bif Cz r.left then _ else _)=_;rw [hm];rfl
   have e2:DC r=⟨⟨r.i.p,r.i.id,HI r.i.p r.left⟩,r.left,r.slice,r.asleep⟩:=by unfold DC;rw [hm];rfl
   cases k:HG r.i.p (r.left*1048576) with
   | none =>
     have d1:HI (Dn t r.i.p) r.left = .zero:=by unfold HI;rw [Sq,k];rfl
     have d2:HI r.i.p r.left = .zero:=by unfold HI;rw [k];rfl
     unfold Bu
     rw [e1,e2,d1,d2,uN rfl,uN rfl];rfl
   | some q =>
     have d1:HI (Dn t r.i.p) r.left=Dn t q:=by unfold HI;rw [Sq,k];rfl
     have d2:HI r.i.p r.left=q:=by unfold HI;rw [k];rfl
     have e3:DC (E7 t r)=E7 t (DC r):=by rw [e1,e2,d1,d2];rfl
     unfold Bu
     rw [e3,K7 (Ta h)]
     cases (DC r).right <;> rfl
theorem vT {p:Pt} (hp:p.In) {id n:Int} (hi:In64 id) (hn:BL n) (t:Int):newR (Dn t p) id n=(newR p id n).map (E7 t):=by
 have h:Rq.In ⟨⟨p,id,.zero⟩,n,n,false⟩:=⟨⟨hp,hi,(by decide:Pt.zero.In)⟩,hn,hn⟩
 have e:=Pk h t
 unfold newR
 rw [← e]
 exact aA2 _ _ _ _ _ _ _
theorem nN {r:Rq} (h:r.In) (n t:Int) (hl:∀ p,(HG r.i.p (n*1048576))=some p→r.right=true→n≤r.left→(C3 r p n).In):C1 (E7 t r) n=(C1 r n).map fun u=>(E7 t u.1,u.2):=by
 unfold C1
 rw [K7 h]
 show (if r.right=true∧n≠0∧n≤r.left then (match HG (Dn t r.i.p) (n*1048576) with | none=>none | some p=>(Bu (C3 (E7 t r) p n)).map fun u=>(u,decide (r.left - n=0))) else none)=_
 by_cases hc:r.right=true∧n≠0∧n≤r.left
 ·rw [if_pos hc,if_pos hc,Sq]
  cases k:HG r.i.p (n*1048576) with
  | none=>rfl
  | some p =>
    have e:C3 (E7 t r) (Dn t p) n=E7 t (C3 r p n):=rfl
    show (Bu (C3 (E7 t r) (Dn t p) n)).map _=((Bu (C3 r p n)).map _).map _
    rw [e,Pk (hl p k hc.1 hc.2.2),Option.map_map,Option.map_map];rfl
 ·rw [if_neg hc,if_neg hc];rfl
theorem tN (t:Int) {A:As} (hn:A.l≠[]):mA (BQ t A)=zT t (mA A):=by
 unfold mA
 show EY (its (HK t A.l))=_
 rw [NP,L6 t (its_ne hn)]
theorem nF {A:As} (hn:A.l=[]):mA A = .zero:=by unfold mA;rw [hn];rfl
theorem oC (t:Int) (A:As) (q lag:Int):GX (BQ t A) q lag=(GX A q lag).map (Dn t):=by
 unfold GX
 rw [WZ]
 by_cases e:A.l=[]
 ·rw [nF e,nF (NV.2 e)]
  unfold Gz
  split
  ·rw [if_pos (show Mn.zero.n=0 from rfl),if_pos (show Mn.zero.n=0 from rfl)];rfl
  ·rfl
 ·rw [tN t e]
  unfold Gz
  show (if (mA A).right=true∧EN q=true then (if (mA A).n=0 then some (⟨lat (GF A) t,0,q⟩:Pt) else if A7 ((mA A).a*q)∧A7 (OK (mA A) q lag) then Kf (lat (mA A).b t) (OK (mA A) q lag / (mA A).w) q else none) else none)=_
  rw [tA]
  split
  ·split
   ·rfl
   ·split <;> rfl
  ·rfl
theorem rH (t:Int) {A:As} (hn:A.l≠[]) (p:Pt) (q:Int):FM (mA (BQ t A)) (Dn t p) q=(FM (mA A) p q).map (Dn t):=by
 rw [tN t hn]
 unfold FM Sv Ov
 show (if (mA A).right=true∧(mA A).n≠0∧p.right=true∧EN q=true∧A7 ((mA A).a*(q - p.w))∧A7 (dist (Dn t p) (lat (mA A).b t)+(mA A).a*(q - p.w) / (mA A).w) then Kf (lat (mA A).b t) (dist (Dn t p) (lat (mA A).b t)+(mA A).a*(q - p.w) / (mA A).w) q else none)=_
 rw [UO,tA]
 split <;> rfl
def BN (t:Int) (c:Cs):Cs:=⟨BQ t c.A,c.run,c.carr⟩
theorem T7 (t:Int) (c:Cs):Cd (BN t c)=(Cd c).map (MO t):=by
 unfold Cd
 show (Co (BQ t c.A)).1=_
 rw [RO]
theorem VR (t:Int):∀ (l:List Gn) (x:Int),F9 x (l.map (MO t))=F9 x l
 | [],x=>rfl
 | g :: l,x=>VR t l (DM x g.lag)
theorem ZI (t:Int) (c:Cs):D6 (BN t c)=BN t (D6 c):=by
 unfold D6
 rw [T7]
 show (⟨(Co (BQ t c.A)).2,IN (BQ t c.A),F9 c.carr ((Cd c).map (MO t))⟩:Cs)=_
 rw [RO,xD,VR];rfl
theorem qZ (t:Int) (c:Cs) (id q ns lag:Int) (hi:In64 id) (hn:BL ns) (hp:∀ p,GX c.A q lag=some p→p.In):Bc (BN t c) id q ns lag=((Bc c id q ns lag).1,BN t (Bc c id q ns lag).2):=by
 have hJ:Fb (BN t c) id q ns lag=(Fb c id q ns lag).map (DP t):=by
  unfold Fb
  show (GX (BQ t c.A) q lag).bind _=_
  rw [oC]
  cases e:GX c.A q lag with
  | none=>rfl
  | some p =>
    show (newR (Dn t p) id ns).map B0=((newR p id ns).map B0).map (DP t)
    rw [vT (hp p e) hi hn]
    cases k:newR p id ns with
    | none=>rfl
    | some r=>exact congrArg some (NO (ZY (hp p e) hi hn k).1 t)
 unfold Bc
 rw [hJ]
 show (if id < 1∨EN q=false∨Cz ns=false then (2,BN t c) else if (A2 (BQ t c.A).l id).isSome then (13,BN t c) else if (BQ t c.A).l.length=32 then (7,BN t c) else _)=_
 rw [Xg,Vf]
 split
 ·rfl
 ·split
  ·rfl
  ·split
   ·rfl
   ·cases Fb c id q ns lag with
    | none=>rfl
    | some r =>
      show (if Da (BQ t c.A) (DP t r)=0 then (0,(⟨EF (BQ t c.A) (DP t r),c.run,DM c.carr (Bj (EF (BQ t c.A) (DP t r)) id)⟩:Cs)) else (Da (BQ t c.A) (DP t r),BN t c))=_
      rw [ZU,vH,NQ]
      show (if Da c.A r=0 then (0,(⟨BQ t (EF c.A r),c.run,DM c.carr (Bj (EF c.A r) id)⟩:Cs)) else (Da c.A r,BN t c))=((if Da c.A r=0 then (0,(⟨EF c.A r,c.run,DM c.carr (Bj (EF c.A r) id)⟩:Cs)) else (Da c.A r,c)).1,BN t (if Da c.A r=0 then (0,(⟨EF c.A r,c.run,DM c.carr (Bj (EF c.A r) id)⟩:Cs)) else (Da c.A r,c)).2)
      split <;> rfl
theorem Zy (t:Int) (A:As) (i:Int):(∃ a,A2 A.l i=some a∧C8 A.l i=a.1∧C8 (BQ t A).l i=E7 t a.1)∨(A2 A.l i=none∧C8 A.l i = .zero∧C8 (BQ t A).l i = .zero):=by
 have h:=FE t A i
 cases e:A2 A.l i with
 | none=>rw [e] at h;exact .inr ⟨rfl,by unfold C8;rw [e],by unfold C8;rw [h];rfl⟩
 | some a=>rw [e] at h;exact .inl ⟨a,rfl,by unfold C8;rw [e],by unfold C8;rw [h];rfl⟩
theorem T8 (t:Int) (c:Cs) (most:Int):BW (BN t c) most=BW c most:=by
 unfold BW
 show EG most (C8 (BQ t c.A).l c.run).left=_
 rcases Zy t c.A c.run with ⟨a,_,h1,h2⟩ | ⟨_,h1,h2⟩
 ·rw [h1,h2];rfl
 ·rw [h1,h2]
theorem aN {r:Rq} (h:r.In) {p:Pt} {n:Int} (hp:p.In) (h0:0≤n) (h1:n≤r.left):(C3 r p n).In:=by
 refine ⟨⟨hp,h.1.2.1,h.1.2.2⟩,?_,h.2.2⟩
 show BL (bif decide (r.left - n=0) then r.slice else r.left - n)
 cases decide (r.left - n=0) with
 | true=>exact h.2.2
 | false =>
   have:=h.2.1
   show BL (r.left - n)
   unfold BL at *
   omega
theorem aR (n:Int):C1 .zero n=none:=by
 unfold C1
 rw [if_neg (fun h=>by have:=h.1;exact absurd this (by decide))]
theorem xH (t:Int) (c:Cs) {most:Int} (hm:0≤most):FT (BN t c) most=(FT c most).map fun u=>(E7 t u.1,u.2):=by
 unfold FT
 rw [T8]
 show C1 (C8 (BQ t c.A).l c.run) (BW c most)=_
 rcases Zy t c.A c.run with ⟨a,_,h1,h2⟩ | ⟨_,h1,h2⟩
 ·rw [h1,h2]
  refine nN a.2 _ t fun p hp hr hl=>aN a.2 (at_some hp).1 ?_ hl
  unfold BW EG
  rw [h1]
  have:=a.2.2.1
  unfold BL at this
  split <;> omega
 ·rw [h1,h2,aR];rfl
theorem Pq {c:Cs} {most:Int} (hm:0≤most) {u:Rq × Bool} (h:FT c most=some u):u.1.In:=by
 unfold FT C1 at h
 split at h
 ·rename_i hc
  have hin:=LL c.A.l c.run
  split at h
  ·cases h
  ·rename_i p hp
   have aBE:(C3 (C8 c.A.l c.run) p (BW c most)).In:=aN hin (at_some hp).1 (by
    unfold BW EG
    have:=hin.2.1
    unfold BL at this
    split <;> omega) hc.2.2
   cases e:Bu (C3 (C8 c.A.l c.run) p (BW c most)) with
   | none=>rw [e] at h;cases h
   | some q =>
     rw [e] at h
     cases h
     exact (Mj aBE e).1
 ·cases h
theorem Ru:(B0 Rq.zero).1.right=false:=by decide
theorem put_zero (A:As):CZ A (B0 .zero)=2∧D7 A (B0 .zero)=A:=by
 have e:CZ A (B0 .zero)=2:=by unfold CZ Fz;rw [Ru];rfl
 exact ⟨e,by unfold D7;rw [e];rfl⟩
theorem iY (t:Int) (c:Cs) {most:Int} (hm:0≤most):ER (BN t c) most=ER c most∧D2 (BN t c) most=BN t (D2 c most)∧Ib (BN t c) most=Ib c most:=by
 have hO:=xH t c hm
 unfold ER D2 Ib Dj
 rw [hO,T8]
 cases e:FT c most with
 | none =>
   refine ⟨?_,?_,rfl⟩
   ·show CZ (BQ t c.A) (B0 .zero)=CZ c.A (B0 .zero)
    rw [(put_zero _).1,(put_zero _).1]
   ·show (⟨D7 (BQ t c.A) (B0 .zero),c.run,c.carr⟩:Cs)=⟨BQ t (D7 c.A (B0 .zero)),c.run,c.carr⟩
    rw [(put_zero _).2,(put_zero _).2]
 | some u =>
   have hu:=Pq hm e
   refine ⟨?_,?_,rfl⟩
   ·show CZ (BQ t c.A) (B0 (E7 t u.1))=CZ c.A (B0 u.1)
    rw [NO hu,Pn]
   ·show (⟨D7 (BQ t c.A) (B0 (E7 t u.1)),c.run,c.carr⟩:Cs)=⟨BQ t (D7 c.A (B0 u.1)),c.run,c.carr⟩
    rw [NO hu,Th]
def GP (t:Int) (r:Rp):Rp:=⟨r.g.map (MO t),r.p⟩
theorem vS (t:Int) (c:Cs) {most:Int} (hm:0≤most) (r:Rp):Gk (BN t c) most (GP t r)=GP t (Gk c most r):=by
 obtain ⟨_,h2,h3⟩:=iY t c hm
 unfold Gk
 rw [h2,h3,T7]
 show (⟨r.g.map (MO t) ++ (Cd (D2 c most)).map (MO t),r.p ++ [Ib c most]⟩:Rp)=⟨(r.g ++ Cd (D2 c most)).map (MO t),r.p ++ [Ib c most]⟩
 rw [List.map_append]
theorem WG (t:Int):∀ (k:Nat) (left:Int) (c:Cs) (r:Rp),left≤1099511627776→Cy k left (BN t c) (GP t r)=((Cy k left c r).1,BN t (Cy k left c r).2.1,GP t (Cy k left c r).2.2)
 | 0,_,c,r,_=>rfl
 | k+1,left,c,r,hl=>by
   unfold Cy
   show (if 0 < left∧c.run≠0 then (if ER (BN t c) left=0 then Cy k (left - BW (BN t c) left) (D6 (D2 (BN t c) left)) (Gk (BN t c) left (GP t r)) else (ER (BN t c) left,BN t c,GP t r)) else (0,BN t c,GP t r))=_
   by_cases hc:0 < left∧c.run≠0
   ·have hm:0≤left:=by omega
    obtain ⟨h1,h2,_⟩:=iY t c hm
    rw [if_pos hc,if_pos hc,h1,h2,T8,ZI,vS t c hm]
    by_cases hs:ER c left=0
    ·rw [if_pos hs,if_pos hs]
     have:=(srv_step (c:=c) (most:=left) ⟨hm,by omega⟩ hs).1
     exact WG t k _ _ _ om
    ·rw [if_neg hs,if_neg hs]
   ·rw [if_neg hc,if_neg hc]
theorem aB (t:Int) (c:Cs) (ns:Int):AX (BN t c) ns=((AX c ns).1,BN t (AX c ns).2.1,GP t (AX c ns).2.2):=by
 unfold AX
 split
 ·rename_i h
  exact WG t _ ns c .none om
 ·rfl
def Ab (c:Cs) (id:Int):Int × Cs:=if (A2 c.A.l id).isSome then (0,⟨EV c.A id,c.run,DM c.carr (Bj c.A id)⟩) else (14,c)
def B9 (c:Cs) (id:Int):Int × Cs:=match A2 c.A.l id with
 | none=>(14,c)
 | some a=>if a.1.asleep=true then (6,c) else if Cq c.A id < 0 then (0,⟨EB c.A id true,c.run,c.carr⟩) else Ab c id
def CE (c:Cs) (id:Int):Int × Cs:=match A2 c.A.l id with
 | none=>(14,c)
 | some a=>if a.1.asleep=true then (0,⟨EB c.A id false,c.run,c.carr⟩) else (6,c)
def Ed (A:As) (r:Rq) (q:Int):Option Rq:=(FM (mA A) r.i.p q).bind fun p=>HS r p
def HA (c:Cs) (id:Int):Option Rq→Int × Cs
 | none=>(8,c)
 | some y=>(CZ c.A (B0 y),⟨D7 c.A (B0 y),c.run,DM c.carr (Bj c.A id)⟩)
def Be (c:Cs) (id q:Int):Int × Cs :=
 if EN q=false then (2,c) else match A2 c.A.l id with
 | none=>(14,c)
 | some a=>HA c id (Ed c.A a.1 q)
def Bf (c:Cs) (id ns:Int):Int × Cs :=
 if Cz ns=false then (2,c) else match A2 c.A.l id with
 | none=>(14,c)
 | some a=>(CZ c.A (B0 ((CW a.1 ns).getD .zero)),⟨D7 c.A (B0 ((CW a.1 ns).getD .zero)),c.run,c.carr⟩)
theorem Uc (t:Int) (c:Cs) (id:Int):Ab (BN t c) id=((Ab c id).1,BN t (Ab c id).2):=by
 unfold Ab
 show (if (A2 (BQ t c.A).l id).isSome then (0,(⟨EV (BQ t c.A) id,c.run,DM c.carr (Bj (BQ t c.A) id)⟩:Cs)) else (14,BN t c))=_
 rw [Xg,Z9,NQ]
 split <;> rfl
theorem mV (t:Int) (c:Cs) (id:Int):B9 (BN t c) id=((B9 c id).1,BN t (B9 c id).2):=by
 have hf:=FE t c.A id
 unfold B9
 show (match A2 (BQ t c.A).l id with
  | none=>(14,BN t c)
  | some a=>if a.1.asleep=true then (6,BN t c) else if Cq (BQ t c.A) id < 0 then (0,(⟨EB (BQ t c.A) id true,c.run,c.carr⟩:Cs)) else Ab (BN t c) id)=_
 rw [hf,aM,ZH,Uc]
 cases A2 c.A.l id with
 | none=>rfl
 | some a =>
   show (if a.1.asleep=true then (6,BN t c) else if Cq c.A id < 0 then (0,(⟨BQ t (EB c.A id true),c.run,c.carr⟩:Cs)) else ((Ab c id).1,BN t (Ab c id).2))=((if a.1.asleep=true then (6,c) else if Cq c.A id < 0 then (0,(⟨EB c.A id true,c.run,c.carr⟩:Cs)) else Ab c id).1,BN t (if a.1.asleep=true then (6,c) else if Cq c.A id < 0 then (0,(⟨EB c.A id true,c.run,c.carr⟩:Cs)) else Ab c id).2)
   split
   ·rfl
   ·split <;> rfl
theorem qG (t:Int) (c:Cs) (id:Int):CE (BN t c) id=((CE c id).1,BN t (CE c id).2):=by
 have hf:A2 (BN t c).A.l id=(A2 c.A.l id).map (DP t):=FE t c.A id
 have hr:EB (BN t c).A id false=BQ t (EB c.A id false):=ZH t c.A id false
 unfold CE
 rw [hf,hr]
 cases A2 c.A.l id with
 | none=>rfl
 | some a =>
   show (if a.1.asleep=true then (0,(⟨BQ t (EB c.A id false),c.run,c.carr⟩:Cs)) else (6,BN t c))=((if a.1.asleep=true then (0,(⟨EB c.A id false,c.run,c.carr⟩:Cs)) else (6,c)).1,BN t (if a.1.asleep=true then (0,(⟨EB c.A id false,c.run,c.carr⟩:Cs)) else (6,c)).2)
   split <;> rfl
theorem vZ {r:Rq} (h:r.In) {p:Pt} (hp:p.In) (t:Int):HS (E7 t r) (Dn t p)=(HS r p).map (E7 t):=by
 unfold HS
 rw [K7 h]
 cases r.right with
 | false=>rfl
 | true=>exact Pk (⟨⟨hp,h.1.2⟩,h.2⟩:Rq.In ⟨⟨p,r.i.id,r.i.d⟩,r.left,r.slice,r.asleep⟩) t
theorem qE {r:Rq} (h:r.In) {n:Int} (hn:BL n) (t:Int):CW (E7 t r) n=(CW r n).map (E7 t):=by
 unfold CW
 rw [K7 h]
 cases r.right with
 | false=>rfl
 | true=>exact Pk (⟨h.1,h.2.1,hn⟩:Rq.In ⟨r.i,r.left,n,r.asleep⟩) t
theorem Zt {r:Rq} (h:r.In) {p:Pt} (hp:p.In) {y:Rq} (e:HS r p=some y):y.In:=by
 unfold HS at e
 cases k:r.right with
 | false=>rw [k] at e;cases e
 | true=>rw [k] at e;exact (Mj (⟨⟨hp,h.1.2⟩,h.2⟩:Rq.In ⟨⟨p,r.i.id,r.i.d⟩,r.left,r.slice,r.asleep⟩) e).1
theorem slice_in {r:Rq} (h:r.In) {n:Int} (hn:BL n) {y:Rq} (e:CW r n=some y):y.In:=by
 unfold CW at e
 cases k:r.right with
 | false=>rw [k] at e;cases e
 | true=>rw [k] at e;exact (Mj (⟨h.1,h.2.1,hn⟩:Rq.In ⟨r.i,r.left,n,r.asleep⟩) e).1
theorem Vq {m:Mn} {p:Pt} {q:Int} {y:Pt} (e:FM m p q=some y):y.In:=by
 unfold FM at e
 split at e
 ·exact (at_some e).1
 ·cases e
theorem mB (t:Int) (c:Cs) (id:Int):∀ (o:Option Rq),(∀ y,o=some y→y.In)→HA (BN t c) id (o.map (E7 t))=((HA c id o).1,BN t (HA c id o).2)
 | none,_=>rfl
 | some y,h=>by
   show (CZ (BQ t c.A) (B0 (E7 t y)),(⟨D7 (BQ t c.A) (B0 (E7 t y)),c.run,DM c.carr (Bj (BQ t c.A) id)⟩:Cs))=(CZ c.A (B0 y),(⟨BQ t (D7 c.A (B0 y)),c.run,DM c.carr (Bj c.A id)⟩:Cs))
   rw [NO (h y rfl),Pn,Th,NQ]
theorem mY (t:Int) (c:Cs) (id q:Int):Be (BN t c) id q=((Be c id q).1,BN t (Be c id q).2):=by
 have hf:A2 (BN t c).A.l id=(A2 c.A.l id).map (DP t):=FE t c.A id
 unfold Be
 rw [hf]
 split
 ·rfl
 ·cases e:A2 c.A.l id with
  | none=>rfl
  | some a =>
    have hne:=ne_of_mem (Bp e).1
    have hw:Ed (BQ t c.A) (E7 t a.1) q=(Ed c.A a.1 q).map (E7 t):=by
     unfold Ed
     show (FM (mA (BQ t c.A)) (Dn t a.1.i.p) q).bind _=_
     rw [rH t hne]
     cases k:FM (mA c.A) a.1.i.p q with
     | none=>rfl
     | some p=>exact vZ a.2 (Vq k) t
    show HA (BN t c) id (Ed (BQ t c.A) (E7 t a.1) q)=((HA c id (Ed c.A a.1 q)).1,BN t (HA c id (Ed c.A a.1 q)).2)
    rw [hw]
    refine mB t c id _ fun y k=>?_
    unfold Ed at k
    cases k2:FM (mA c.A) a.1.i.p q with
    | none=>rw [k2] at k;cases k
    | some p=>rw [k2] at k;exact Zt a.2 (Vq k2) k
theorem lG (t:Int) (c:Cs) (id:Int) {ns:Int} (hn:BL ns):Bf (BN t c) id ns=((Bf c id ns).1,BN t (Bf c id ns).2):=by
 have hf:=FE t c.A id
 unfold Bf
 show (if Cz ns=false then (2,BN t c) else match A2 (BQ t c.A).l id with
  | none=>(14,BN t c)
  | some a=>(CZ (BQ t c.A) (B0 ((CW a.1 ns).getD .zero)),(⟨D7 (BQ t c.A) (B0 ((CW a.1 ns).getD .zero)),c.run,c.carr⟩:Cs)))=_
 rw [hf]
 split
 ·rfl
 ·cases e:A2 c.A.l id with
  | none=>rfl
  | some a =>
    show (CZ (BQ t c.A) (B0 ((CW (E7 t a.1) ns).getD .zero)),(⟨D7 (BQ t c.A) (B0 ((CW (E7 t a.1) ns).getD .zero)),c.run,c.carr⟩:Cs))=(CZ c.A (B0 ((CW a.1 ns).getD .zero)),(⟨BQ t (D7 c.A (B0 ((CW a.1 ns).getD .zero))),c.run,c.carr⟩:Cs))
    rw [qE a.2 hn]
    cases k:CW a.1 ns with
    | none =>
      show (CZ (BQ t c.A) (B0 .zero),(⟨D7 (BQ t c.A) (B0 .zero),c.run,c.carr⟩:Cs))=(CZ c.A (B0 .zero),(⟨BQ t (D7 c.A (B0 .zero)),c.run,c.carr⟩:Cs))
      rw [(put_zero _).1,(put_zero _).1,(put_zero _).2,(put_zero _).2]
    | some y =>
      show (CZ (BQ t c.A) (B0 (E7 t y)),(⟨D7 (BQ t c.A) (B0 (E7 t y)),c.run,c.carr⟩:Cs))=(CZ c.A (B0 y),(⟨BQ t (D7 c.A (B0 y)),c.run,c.carr⟩:Cs))
      rw [NO (slice_in a.2 hn k),Pn,Th]
structure aBg where
 d:Int
 id:Int
 w:Int
 ns:Int
 lag:Int
instance:Inhabited aBg:=⟨⟨0,0,0,0,0⟩⟩
end Go.Proofs.Q0
namespace Go.Proofs.Q0
open Go Go.RowKit
attribute [local irreducible] XS XC XA AZ AP Aa A1 A0 A8 Ad AW SE
theorem Hs {w0 w':World} {G:List Nat} {J:Int × Cs} {c:Cs} {n:Int} {P Q:Prop} (e:J=(n,c)) (hn:n≠0) (hq:Q) (ho:AA [] w0 w'):Value.int .i64 n = .int .i64 J.1∧Q∧(J.1=0→P)∧AA G w0 w':=by
 subst e;exact ⟨rfl,hq,fun h=>absurd h hn,ho.weaken (by simp)⟩
theorem SM (l:List RT) (id:Int):∃ x bs,C8 l id=x∧(A2 l id).isSome=bs∧x.In∧((bs=false∧A2 l id=none)∨∃ a,bs=true∧A2 l id=some a∧x=a.1):=by
 cases e:A2 l id with
 | none=>exact ⟨_,_,rfl,rfl,LL _ _,.inl ⟨rfl,rfl⟩⟩
 | some a=>exact ⟨_,_,rfl,rfl,LL _ _,.inr ⟨a,rfl,rfl,by unfold C8;rw [e]⟩⟩
theorem jM (b2:Nat) (c:Cs) (id:Int) (wb w0:World) (hid:In64 id) (B2:w0.heap[b2]?=some (.cells #[.int .i64 id] 3 (0,0))) :
 Ob wb w0 109 [.pointer (some ⟨b2,0,none⟩)] [] (fun _=>True) c (CE c id).1 (CE c id).2 .none:=by
 intro cb rb F hC hR Zg hrb
 have FX:=hC
 have NM:=hR
 obtain ⟨sb,Fs,rfl,h1,hS,h3,h4⟩:=hC
 obtain ⟨x,bs,ex,eb,N6,hcs⟩:=SM c.A.l id
 generalize hJ:CE c id=J
 have hs:=((St.nil w0).AE h1).AE B2
 refine AR Tryz.func109 Tryz.ntmps109 (k:=?_)
 refine Ja ?_
 refine dr [] hs (k:=?_);intro hX w hs
 refine tks 0 5 ?_
 refine HO 9 6 hs (k:=?_);intro f X w hp;have hs:=hp.st
 apply BM 5 9 (f:=f) (X:=X) hX hp;exact rfl;exact rfl;(apply AS AJ;exact rfl);kernel_rfl;kernel_rfl;kernel_rfl;kernel_rfl;(intro X Y;(repeat (first | exact A6 | refine A5 ?_ (by exact rfl))));(intro w' hs;first|exact AI hs.hold|exact AI hs.hold.tail|exact A9 rfl);intro f X w hp;have hs:=hp.st
 have ho:=hs.AB [] (by simp [h1,B2]) (by simp [D0])
 refine cl (h:=by exact KD sb c.A Fs id _ (hS.only ho) hid) (k:=?_)
 rw [ex,eb]
 rintro v w' ⟨rfl,ho⟩;replace hp:=hp.only ho;replace hs:=hp.st;refine Jb ?_
 refine dn (k:=?_)
 refine tk 6 hX (hc:=by cases f <;> kernel_rfl) (k:=?_)
 refine tk 7 hX (hc:=by cases f <;> kernel_rfl) (k:=?_)
 refine tk 8 hX (hc:=by cases f <;> kernel_rfl) (k:=?_)
 apply Bi 9 (f:=f) (X:=X) hX hp;exact rfl;(apply AS AJ;exact rfl);kernel_rfl;kernel_rfl;(intro X Y;(repeat (first | exact A6 | refine A5 ?_ (by exact rfl))));(intro w' hs;first|exact AI hs.hold|exact AI hs.hold.tail|exact A9 rfl);intro b w hI hs
 refine dt 10 hX (k:=?_)
 repeat' (first|refine Nx.h ?_|(refine AU hs (k:=?_);intro w hs)|fail)
 refine dn (k:=?_)
 refine tk 11 hX (k:=?_)
 refine en (k:=?_)
 rcases hcs with ⟨hb,e⟩ | ⟨a,hb,e,hx⟩
 ·subst hb
  refine Je ?_
  refine AG ?_
  exact Hs (n:=14) (by rw [← hJ];unfold CE;rw [e]) (by decide) trivial (hs.AB [] (by simp [h1,B2]) (by simp [D0]))
 ·subst hb
  repeat' (first|refine Sd ?_|refine xc_cond rfl (fun hc=>?_) fun hc=>?_|fail)
  ·refine AG ?_
   have k:x.asleep=false:=by simpa using hc
   exact Hs (n:=6) (by rw [← hJ];unfold CE;rw [e];show (if a.1.asleep=true then _ else _)=_;rw [← hx,k];rfl) (by decide) trivial (hs.AB [] (by simp [h1,B2]) (by simp [D0]))
  ·have k:x.asleep=true:=by simpa using hc
   have eJ:J=(0,⟨EB c.A id false,c.run,c.carr⟩):=by rw [← hJ];unfold CE;rw [e];show (if a.1.asleep=true then _ else _)=_;rw [← hx,k];rfl
   have ho:=hs.AB [] (by simp [h1,B2]) (by simp [D0])
   have x1:=ho.block h1 (by simp)
   have x3:=ho.block B2 (by simp)
   clear hs
   have hs:=((St.nil _).AE x1).AE x3
   refine dr [] hs (k:=?_);intro hX w hs
   refine tks 0 5 ?_
   refine dt 5 hX (k:=?_)
   have AK:=ho.trans (hs.AB [] (by simp [x1,x3]) (by simp [D0]))
   have HV:=hS.only AK
   refine cl (h:=by exact SU sb c.A Fs id false _ HV hid) (k:=?_)
   rw [eb]
   rintro v w2 ⟨rfl,F2,EI,D5,AM⟩
   have n1:cb∉Fs:=Br.OD h1 hS
   have n3:b2∉Fs:=hS.not B2 rfl
   have y1:=AM.block (AK.block h1 (by simp)) n1
   have y3:=AM.block (AK.block B2 (by simp)) n3
   have OZ:=AK.size
   have KZ:D9 w2 rb .none [rb]:=(hR.only AK).Ah AM (fun k hk hm=>by
    obtain rfl:=List.mem_singleton.1 hk
    exact NM.apart FX k (by simp) (by simp [hm]))
   clear hs
   have hs:=((St.nil w2).AE y1).AE y3
   refine Jb ?_
   refine dn (k:=?_)
   refine tk 6 hX (k:=?_)
   refine en (k:=?_)
   refine Jb ?_
   refine AG ?_
   have AT:=hs.AB [] (by simp [y1,y3]) (by simp [D0])
   subst eJ
   refine ⟨rfl,trivial,fun _=>⟨cb :: F2,[rb],⟨sb,F2,rfl,AT.block y1 (by simp),EI.only AT,h3,h4⟩,KZ.only AT,fun k hk=>?_,fun k hk => .inl (by simpa using hk)⟩,((AK.weaken (by simp)).step AM (fun k hk => .inl (by simp [hk]))).step AT (by simp)⟩
   rcases List.mem_cons.1 hk with rfl | hk
   ·simp
   ·rcases D5 k hk with h | h
    ·simp [h]
    ·exact .inr om
theorem LX {w w':World} {vg vp:Value} {r:Rp} {Gg Gp:List Nat} (p1:Z4 w vg r.g Gg) (p2:U7 w vp r.p Gp) {G:List Nat} (ho:AA G w w') (h:∀ b∈G,∃ cs ty fz,w.heap[b]?=some (.cells cs ty fz)∧ty≠170∧ty≠168):M7 w' (.agg #[vg,vp]) r :=
 ⟨_,_,Gg,Gp,rfl,p1.keep ho (fun k hk hm=>by obtain ⟨cs,ty,fz,a,b,c⟩:=h k hm;exact BX p1 a b hk),p2.keep ho (fun k hk hm=>by obtain ⟨cs,ty,fz,a,b,c⟩:=h k hm;exact BX p2 a c hk)⟩
theorem Wj (cb:Nat) (c:Cs) (F:List Nat) (id:Int) (w0:World) (h:Br w0 cb c F) (hid:In64 id) :
 AO Tryz.prog 73 #[.pointer (some ⟨cb,0,none⟩),.int .i64 id] w0 fun v w'=>∃ rv,v = .tuple #[rv,.int .i64 (CE c id).1]∧HY w0 cb F rv (CE c id).1 c (CE c id).2 .none w':=by
 have hs:=St.nil w0
 refine AR Tryz.func73 Tryz.ntmps73 (k:=?_)
 refine Ai ?_
 refine Ao ?_
 refine bx hs (k:=?_);intro b6 w _ hs
 refine al hs (k:=?_);intro FO w hz hs
 refine Ja ?_
 have ho:=hs.AD rfl
 have hz:=ho.size
 have x6:=hs.get (b:=b6) (by repeat (first | exact At.head | (with_reducible apply At.tail)))
 have IX:=hs.get (b:=FO) (by repeat (first | exact At.head | (with_reducible apply At.tail)))
 have FC:=h.only ho
 have hb:=hs.new _ List.mem_cons_self rfl
 simp only at hb
 refine cl (h:=by exact KF cb c F _ FC 109 [.pointer (some ⟨b6,0,none⟩)] [] (fun _=>True) (CE c id).1 (CE c id).2 .none (fun _ _ _ _ _ _=>trivial) (by simp) (by simp [Rp.none]) (fun w1 AK=>jM b6 c id _ w1 hid (AK.block x6 (by simp)))) (k:=?_)
 rintro v w2 ⟨rv,rfl,_,I4,⟨F',hC',Cc⟩,AM⟩
 obtain ⟨vg,vp,Gg,Gp,rfl,p1,p2⟩:=I4
 obtain ⟨ag,cg,rfl⟩:=BZ p1
 obtain ⟨ap,cp,rfl⟩:=BZ p2
 have x2:=AM.block IX (fun hm=>by obtain rfl:=List.mem_singleton.1 hm;exact FC.not IX rfl (by obtain ⟨_,_,rfl,_⟩:=FC;simp))
 clear hs
 have hs:=(St.nil w2).AE x2
 repeat' (first|refine Sb ?_|(refine AU hs (k:=?_);intro w hs)|fail)
 refine AG ?_
 have AT:AA [FO] w2 _:=hs.AB [FO] (by simp) (by simp [D0])
 exact ⟨_,rfl,LX p1 p2 AT (fun b hm=>by obtain rfl:=List.mem_singleton.1 hm;exact ⟨_,_,_,x2,by decide,by decide⟩),⟨F',hC'.Ah AT (fun k hk hm=>by obtain rfl:=List.mem_singleton.1 hm;exact hC'.not x2 rfl hk),fun k hk=>by
  rcases Cc k hk with h | h
  ·exact .inl h
  ·exact .inr om⟩,((ho.weaken (by simp)).step AM (fun k hk => .inl hk)).step AT (fun k hk => .inr (by obtain rfl:=List.mem_singleton.1 hk;exact hb))⟩
theorem fL (b2 b3:Nat) (c:Cs) (id ns:Int) (wb w0:World) (hid:In64 id) (Du:BL ns) (B2:w0.heap[b2]?=some (.cells #[.int .i64 id] 3 (0,0))) (B3:w0.heap[b3]?=some (.cells #[.int .u64 ns] 22 (0,0))) :
 Ob wb w0 116 [.pointer (some ⟨b2,0,none⟩),.pointer (some ⟨b3,0,none⟩)] [] (fun _=>True) c (Bf c id ns).1 (Bf c id ns).2 .none:=by
 intro cb rb F hC hR Zg hrb
 have FX:=hC
 have NM:=hR
 obtain ⟨sb,Fs,rfl,h1,hS,h3,h4⟩:=hC
 obtain ⟨x,bs,ex,eb,N6,hcs⟩:=SM c.A.l id
 generalize hJ:Bf c id ns=J
 have hs:=(((St.nil w0).AE h1).AE B2).AE B3
 refine AR Tryz.func116 Tryz.ntmps116 (k:=?_)
 refine Ja ?_
 refine dr [] hs (k:=?_);intro hX w hs
 refine tks 0 5 ?_
 refine HO 9 7 hs (k:=?_);intro f X w hp;have hs:=hp.st
 apply BM 5 9 (f:=f) (X:=X) hX hp;exact rfl;exact rfl;(apply AS AJ;exact rfl);kernel_rfl;kernel_rfl;kernel_rfl;kernel_rfl;(intro X Y;(repeat (first | exact A6 | refine A5 ?_ (by exact rfl))));(intro w' hs;first|exact AI hs.hold|exact AI hs.hold.tail|exact A9 rfl);intro f X w hp;have hs:=hp.st
 have ho:=hs.AB [] (by simp [h1,B2,B3]) (by simp [D0])
 refine cl (h:=by exact KD sb c.A Fs id _ (hS.only ho) hid) (k:=?_)
 rw [ex,eb]
 rintro v w' ⟨rfl,ho⟩;replace hp:=hp.only ho;replace hs:=hp.st;refine Jb ?_
 refine dn (k:=?_)
 refine tk 6 hX (hc:=by cases f <;> kernel_rfl) (k:=?_)
 refine tk 7 hX (hc:=by cases f <;> kernel_rfl) (k:=?_)
 refine tk 8 hX (hc:=by cases f <;> kernel_rfl) (k:=?_)
 apply Bi 9 (f:=f) (X:=X) hX hp;exact rfl;(apply AS AJ;exact rfl);kernel_rfl;kernel_rfl;(intro X Y;(repeat (first | exact A6 | refine A5 ?_ (by exact rfl))));(intro w' hs;first|exact AI hs.hold|exact AI hs.hold.tail|exact A9 rfl);intro b w hI hs
 refine dt 10 hX (k:=?_)
 repeat' (first|refine Nx.h ?_|(refine AU hs (k:=?_);intro w hs)|fail)
 refine dn (k:=?_)
 refine tk 11 hX (k:=?_)
 refine en (k:=?_)
 refine Ja ?_
 refine cl (h:=by exact S7 ns _) (k:=?_)
 cases c3:Cz ns
 ·rintro v w' ⟨rfl,ho⟩;replace hs:=hs.AN ho;refine Je ?_
  refine AG ?_
  exact Hs (n:=2) (by rw [← hJ];unfold Bf;rw [if_pos c3]) (by decide) trivial (hs.AB [] (by simp [h1,B2,B3]) (by simp [D0]))
 rcases hcs with ⟨hb,e⟩ | ⟨a,hb,e,hx⟩
 ·subst hb
  rintro v w' ⟨rfl,ho⟩;replace hs:=hs.AN ho;repeat' (first|refine vs (k:=?_)|refine Ao ?_|refine Nx.h ?_|refine FY ?_|refine FD ?_|fail)
  refine AG ?_
  exact Hs (n:=14) (by rw [← hJ];unfold Bf;rw [if_neg (by rw [c3];decide),e]) (by decide) trivial (hs.AB [] (by simp [h1,B2,B3]) (by simp [D0]))
 ·subst hb
  have eJ:J=(CZ c.A (B0 ((CW x ns).getD .zero)),⟨D7 c.A (B0 ((CW x ns).getD .zero)),c.run,c.carr⟩):=by rw [← hJ];unfold Bf;rw [if_neg (by rw [c3];decide),e,hx]
  rintro v w' ⟨rfl,ho⟩;replace hs:=hs.AN ho;refine Jd ?_
  refine cl (h:=by exact Y5 x ns N6 Du _) (k:=?_)
  have hy:(B0 ((CW x ns).getD .zero)).1=(CW x ns).getD .zero:=by
   refine KJ ?_
   cases q:CW x ns with
   | none=>decide
   | some y=>exact slice_in N6 Du q
  have er:lS (CW x ns) = .tuple #[rv (B0 ((CW x ns).getD .zero)).1,.bool (CW x ns).isSome]:=by rw [hy];rfl
  rw [er]
  generalize B0 ((CW x ns).getD .zero)=r at *
  generalize (CW x ns).isSome=z at *
  rintro v w' ⟨rfl,ho⟩;replace hs:=hs.AN ho;repeat' (first|refine Sb ?_|(refine AU hs (k:=?_);intro w hs)|(refine al hs (k:=?_);intro b w hz hs)|fail)
  have ho:=hs.AB [] (by simp [h1,B2,B3]) (by simp [D0])
  have x1:=ho.block h1 (by simp)
  have x3:=hs.get (b:=b) (by repeat (first | exact At.head | (with_reducible apply At.tail)))
  clear hs
  have hs:=((St.nil _).AE x1).AE x3
  refine dr [] hs (k:=?_);intro hX w hs
  refine tks 0 5 ?_
  refine dt 5 hX (k:=?_)
  have ho':=hs.AB [] (by simp [x1,x3]) (by simp [D0])
  have AK:=ho.trans ho'
  have HV:=hS.only AK
  refine cl (h:=by exact Qq sb c.A Fs r _ HV) (k:=?_)
  rintro v w2 ⟨rfl,F2,EI,D5,AM⟩
  have n1:cb∉Fs:=Br.OD h1 hS
  have n3:b∉Fs:=HV.not (ho'.block x3 (by simp)) rfl
  have y1:=AM.block (AK.block h1 (by simp)) n1
  have y3:=AM.block (ho'.block x3 (by simp)) n3
  have OZ:=AK.size
  have KZ:D9 w2 rb .none [rb]:=(hR.only AK).Ah AM (fun k hk hm=>by
   obtain rfl:=List.mem_singleton.1 hk
   exact NM.apart FX k (by simp) (by simp [hm]))
  clear hs
  have hs:=((St.nil w2).AE y1).AE y3
  refine Jb ?_
  refine dn (k:=?_)
  refine tk 6 hX (k:=?_)
  refine en (k:=?_)
  refine Jb ?_
  refine AG ?_
  have AT:=hs.AB [] (by simp [y1,y3]) (by simp [D0])
  subst eJ
  refine ⟨rfl,trivial,fun _=>⟨cb :: F2,[rb],⟨sb,F2,rfl,AT.block y1 (by simp),EI.only AT,h3,h4⟩,KZ.only AT,fun k hk=>?_,fun k hk => .inl (by simpa using hk)⟩,((AK.weaken (by simp)).step AM (fun k hk => .inl (by simp [hk]))).step AT (by simp)⟩
  rcases List.mem_cons.1 hk with rfl | hk
  ·simp
  ·rcases D5 k hk with h | h
   ·simp [h]
   ·exact .inr om
theorem U8 (cb:Nat) (c:Cs) (F:List Nat) (id ns:Int) (w0:World) (h:Br w0 cb c F) (hid:In64 id) (Du:BL ns) :
 AO Tryz.prog 77 #[.pointer (some ⟨cb,0,none⟩),.int .i64 id,.int .u64 ns] w0 fun v w'=>∃ rv,v = .tuple #[rv,.int .i64 (Bf c id ns).1]∧HY w0 cb F rv (Bf c id ns).1 c (Bf c id ns).2 .none w':=by
 have hs:=St.nil w0
 refine AR Tryz.func77 Tryz.ntmps77 (k:=?_)
 refine Ai ?_
 refine Ao ?_
 refine bx hs (k:=?_);intro b6 w _ hs
 refine bx hs (k:=?_);intro b7 w _ hs
 refine al hs (k:=?_);intro FO w hz hs
 refine Ja ?_
 have ho:=hs.AD rfl
 have hz:=ho.size
 have x6:=hs.get (b:=b6) (by repeat (first | exact At.head | (with_reducible apply At.tail)))
 have x7:=hs.get (b:=b7) (by repeat (first | exact At.head | (with_reducible apply At.tail)))
 have IX:=hs.get (b:=FO) (by repeat (first | exact At.head | (with_reducible apply At.tail)))
 have FC:=h.only ho
 have hb:=hs.new _ List.mem_cons_self rfl
 simp only at hb
 refine cl (h:=by exact KF cb c F _ FC 116 [.pointer (some ⟨b6,0,none⟩),.pointer (some ⟨b7,0,none⟩)] [] (fun _=>True) (Bf c id ns).1 (Bf c id ns).2 .none (fun _ _ _ _ _ _=>trivial) (by simp) (by simp [Rp.none]) (fun w1 AK=>fL b6 b7 c id ns _ w1 hid Du (AK.block x6 (by simp)) (AK.block x7 (by simp)))) (k:=?_)
 rintro v w2 ⟨rv,rfl,_,I4,⟨F',hC',Cc⟩,AM⟩
 obtain ⟨vg,vp,Gg,Gp,rfl,p1,p2⟩:=I4
 obtain ⟨ag,cg,rfl⟩:=BZ p1
 obtain ⟨ap,cp,rfl⟩:=BZ p2
 have x2:=AM.block IX (fun hm=>by obtain rfl:=List.mem_singleton.1 hm;exact FC.not IX rfl (by obtain ⟨_,_,rfl,_⟩:=FC;simp))
 clear hs
 have hs:=(St.nil w2).AE x2
 repeat' (first|refine Sb ?_|(refine AU hs (k:=?_);intro w hs)|fail)
 refine AG ?_
 have AT:AA [FO] w2 _:=hs.AB [FO] (by simp) (by simp [D0])
 exact ⟨_,rfl,LX p1 p2 AT (fun b hm=>by obtain rfl:=List.mem_singleton.1 hm;exact ⟨_,_,_,x2,by decide,by decide⟩),⟨F',hC'.Ah AT (fun k hk hm=>by obtain rfl:=List.mem_singleton.1 hm;exact hC'.not x2 rfl hk),fun k hk=>by
  rcases Cc k hk with h | h
  ·exact .inl h
  ·exact .inr om⟩,((ho.weaken (by simp)).step AM (fun k hk => .inl hk)).step AT (fun k hk => .inr (by obtain rfl:=List.mem_singleton.1 hk;exact hb))⟩
theorem cC (b2 b3:Nat) (c:Cs) (id q:Int) (wb w0:World) (hid:In64 id) (hq:Fk q) (B2:w0.heap[b2]?=some (.cells #[.int .i64 id] 3 (0,0))) (B3:w0.heap[b3]?=some (.cells #[.int .u32 q] 49 (0,0))) :
 Ob wb w0 110 [.pointer (some ⟨b2,0,none⟩),.pointer (some ⟨b3,0,none⟩)] [] (fun _=>True) c (Be c id q).1 (Be c id q).2 .none:=by
 intro cb rb F hC hR Zg hrb
 have FX:=hC
 have NM:=hR
 obtain ⟨sb,Fs,rfl,h1,hS,h3,h4⟩:=hC
 obtain ⟨qb,mb,m,tb,QW,cq,g1,g2,gin,gQ,gpl,gm,_,_⟩:=hS.HF
 obtain ⟨x,bs,ex,eb,N6,hcs⟩:=SM c.A.l id
 generalize hJ:Be c id q=J
 have hs:=(((((St.nil w0).AE h1).AE g1).AE g2).AE B2).AE B3
 refine AR Tryz.func110 Tryz.ntmps110 (k:=?_)
 refine Ja ?_
 refine dr [] hs (k:=?_);intro hX w hs
 refine tks 0 5 ?_
 refine HO 9 7 hs (k:=?_);intro f X w hp;have hs:=hp.st
 apply BM 5 9 (f:=f) (X:=X) hX hp;exact rfl;exact rfl;(apply AS AJ;exact rfl);kernel_rfl;kernel_rfl;kernel_rfl;kernel_rfl;(intro X Y;(repeat (first | exact A6 | refine A5 ?_ (by exact rfl))));(intro w' hs;first|exact AI hs.hold|exact AI hs.hold.tail|exact A9 rfl);intro f X w hp;have hs:=hp.st
 have ho:=hs.AB [] (by simp [h1,g1,g2,B2,B3]) (by simp [D0])
 refine cl (h:=by exact KD sb c.A Fs id _ (hS.only ho) hid) (k:=?_)
 rw [ex,eb]
 rintro v w' ⟨rfl,ho⟩;replace hp:=hp.only ho;replace hs:=hp.st;refine Jb ?_
 refine dn (k:=?_)
 refine tk 6 hX (hc:=by cases f <;> kernel_rfl) (k:=?_)
 refine tk 7 hX (hc:=by cases f <;> kernel_rfl) (k:=?_)
 refine tk 8 hX (hc:=by cases f <;> kernel_rfl) (k:=?_)
 apply Bi 9 (f:=f) (X:=X) hX hp;exact rfl;(apply AS AJ;exact rfl);kernel_rfl;kernel_rfl;(intro X Y;(repeat (first | exact A6 | refine A5 ?_ (by exact rfl))));(intro w' hs;first|exact AI hs.hold|exact AI hs.hold.tail|exact A9 rfl);intro b w hI hs
 refine dt 10 hX (k:=?_)
 repeat' (first|refine Nx.h ?_|(refine AU hs (k:=?_);intro w hs)|fail)
 refine dn (k:=?_)
 refine tk 11 hX (k:=?_)
 refine en (k:=?_)
 refine Ja ?_
 refine cl (h:=by exact Qj q _) (k:=?_)
 cases c2:EN q
 ·rintro v w' ⟨rfl,ho⟩;replace hs:=hs.AN ho;refine Je ?_
  refine AG ?_
  exact Hs (n:=2) (by rw [← hJ];unfold Be;rw [if_pos c2]) (by decide) trivial (hs.AB [] (by simp [h1,g1,g2,B2,B3]) (by simp [D0]))
 rcases hcs with ⟨hb,e⟩ | ⟨a,hb,e,hx⟩
 ·subst hb
  rintro v w' ⟨rfl,ho⟩;replace hs:=hs.AN ho;repeat' (first|refine vs (k:=?_)|refine Ao ?_|refine Nx.h ?_|refine FY ?_|refine FD ?_|fail)
  refine AG ?_
  exact Hs (n:=14) (by rw [← hJ];unfold Be;rw [if_neg (by rw [c2];decide),e]) (by decide) trivial (hs.AB [] (by simp [h1,g1,g2,B2,B3]) (by simp [D0]))
 subst hb
 have eJ:J=HA c id ((FM m x.i.p q).bind fun p=>HS x p):=by
  rw [← hJ];unfold Be;rw [if_neg (by rw [c2];decide),e,hx,gm (List.ne_nil_of_mem (Bp e).1)];rfl
 rintro v w' ⟨rfl,ho⟩;replace hs:=hs.AN ho;refine Jd ?_
 refine dr [] hs (k:=?_);intro hX w hs
 refine tks 0 14 ?_
 refine HO 18 9 hs (k:=?_);intro f X w hp;have hs:=hp.st
 apply BM 14 18 (f:=f) (X:=X) hX hp;exact rfl;exact rfl;(apply AS AJ;exact rfl);kernel_rfl;kernel_rfl;kernel_rfl;kernel_rfl;(intro X Y;(repeat (first | exact A6 | refine A5 ?_ (by exact rfl))));(intro w' hs;first|exact AI hs.hold|exact AI hs.hold.tail|exact A9 rfl);intro f X w hp;have hs:=hp.st
 refine cl (h:=by exact Uo m x.i.p q gin N6.1.1 hq _) (k:=?_)
 have oW:∀ p,FM m x.i.p q=some p→p.In:=fun p h=>Vq h
 generalize FM m x.i.p q=op at *
 cases op with
 | none =>
   rintro v w' ⟨rfl,ho⟩;replace hp:=hp.only ho;replace hs:=hp.st;refine Jb ?_
   refine dn (k:=?_)
   refine tk 15 hX (hc:=by cases f <;> kernel_rfl) (k:=?_)
   refine tk 16 hX (hc:=by cases f <;> kernel_rfl) (k:=?_)
   refine tk 17 hX (hc:=by cases f <;> kernel_rfl) (k:=?_)
   apply Bi 18 (f:=f) (X:=X) hX hp;exact rfl;(apply AS AJ;exact rfl);kernel_rfl;kernel_rfl;(intro X Y;(repeat (first | exact A6 | refine A5 ?_ (by exact rfl))));(intro w' hs;first|exact AI hs.hold|exact AI hs.hold.tail|exact A9 rfl);intro b w hI hs
   refine dt 19 hX (k:=?_)
   repeat' (first|refine Nx.h ?_|(refine AU hs (k:=?_);intro w hs)|fail)
   refine dn (k:=?_)
   refine tk 20 hX (k:=?_)
   refine en (k:=?_)
   refine Ja ?_
   refine cl (h:=by exact TT x .zero N6 (by decide) _) (k:=?_)
   generalize HS x .zero=o
   cases o
   ·rintro v w' ⟨rfl,ho⟩;replace hs:=hs.AN ho;repeat' (first|refine Se ?_|(refine AU hs (k:=?_);intro w hs)|(refine al hs (k:=?_);intro b w hz hs)|fail)
    refine AG ?_
    exact Hs (n:=8) eJ (by decide) trivial (hs.AB [] (by simp [h1,g1,g2,B2,B3]) (by simp [D0]))
   ·rintro v w' ⟨rfl,ho⟩;replace hs:=hs.AN ho;repeat' (first|refine Se ?_|(refine AU hs (k:=?_);intro w hs)|(refine al hs (k:=?_);intro b w hz hs)|fail)
    refine AG ?_
    exact Hs (n:=8) eJ (by decide) trivial (hs.AB [] (by simp [h1,g1,g2,B2,B3]) (by simp [D0]))
 | some p =>
   have N1:=oW p rfl
   rintro v w' ⟨rfl,ho⟩;replace hp:=hp.only ho;replace hs:=hp.st;refine Jb ?_
   refine dn (k:=?_)
   refine tk 15 hX (hc:=by cases f <;> kernel_rfl) (k:=?_)
   refine tk 16 hX (hc:=by cases f <;> kernel_rfl) (k:=?_)
   refine tk 17 hX (hc:=by cases f <;> kernel_rfl) (k:=?_)
   apply Bi 18 (f:=f) (X:=X) hX hp;exact rfl;(apply AS AJ;exact rfl);kernel_rfl;kernel_rfl;(intro X Y;(repeat (first | exact A6 | refine A5 ?_ (by exact rfl))));(intro w' hs;first|exact AI hs.hold|exact AI hs.hold.tail|exact A9 rfl);intro b w hI hs
   refine dt 19 hX (k:=?_)
   repeat' (first|refine Nx.h ?_|(refine AU hs (k:=?_);intro w hs)|fail)
   refine dn (k:=?_)
   refine tk 20 hX (k:=?_)
   refine en (k:=?_)
   refine Ja ?_
   refine cl (h:=by exact TT x p N6 N1 _) (k:=?_)
   have eJ:J=HA c id (HS x p):=eJ
   cases hr:HS x p with
   | none =>
     rw [hr] at eJ
     rintro v w' ⟨rfl,ho⟩;replace hs:=hs.AN ho;repeat' (first|refine Sc ?_|(refine AU hs (k:=?_);intro w hs)|(refine al hs (k:=?_);intro b w hz hs)|fail)
     refine AG ?_
     exact Hs (n:=8) eJ (by decide) trivial (hs.AB [] (by simp [h1,g1,g2,B2,B3]) (by simp [D0]))
   | some y =>
     have yU:=Zt N6 N1 hr
     rw [hr] at eJ
     have eJ:J=(CZ c.A (B0 y),⟨D7 c.A (B0 y),c.run,DM c.carr (Bj c.A id)⟩):=eJ
     rw [show B0 y=⟨y,yU⟩ from dif_pos yU] at eJ
     rintro v w' ⟨rfl,ho⟩;replace hs:=hs.AN ho;repeat' (first|refine Sd ?_|(refine AU hs (k:=?_);intro w hs)|(refine al hs (k:=?_);intro b w hz hs)|fail)
     have ho:=hs.AB [] (by simp [h1,g1,g2,B2,B3]) (by simp [D0])
     obtain ⟨s0,P6⟩:=hS.rep
     refine AY hs (h:=by exact ML cb c _ id _ (FX.only ho) hid) (k:=?_);intro w' ho hs;skip
     have Aw:=hs.AB [] (by simp [h1,g1,g2,B2,B3]) (by simp [D0])
     have xb:=hs.get (b:=b) (by repeat (first | exact At.head | (with_reducible apply At.tail)))
     have hb:=hs.new _ List.mem_cons_self rfl
     simp only at hb
     have Zz:=hS.only Aw
     have x1:=Aw.block h1 (by simp)
     refine cl (h:=by exact MC cb sb c.run c.carr _ _ x1 h3 (NC P6 id)) (k:=?_)
     rintro v w5 ⟨mE,BY⟩
     have n5:cb∉Fs:=Br.OD h1 hS
     have nb:b≠cb:=by have:=lt_of_block h1;omega
     have uK:=BY.block xb (by simp [nb])
     have s9:=Zz.Ah BY (fun k hk hm=>by obtain rfl:=List.mem_singleton.1 hm;exact n5 hk)
     have tR:D9 w5 rb .none [rb]:=(hR.only Aw).Ah BY (fun k hk hm=>by
      obtain rfl:=List.mem_singleton.1 hk
      obtain rfl:=List.mem_singleton.1 hm
      exact NM.apart FX k (by simp) (by simp))
     have Bn:AA (rb :: (cb :: Fs) ++ []) w0 w5:=(Aw.weaken (by simp)).step BY (fun k hk => .inl (by obtain rfl:=List.mem_singleton.1 hk;simp))
     have uD:=Bn.size
     clear hs
     have hs:=((St.nil w5).AE mE).AE uK
     refine Jb ?_
     refine dr [] hs (k:=?_);intro hX w hs
     refine tks 0 5 ?_
     refine dt 5 hX (k:=?_)
     have AK:=hs.AB [] (by simp [mE,uK]) (by simp [D0])
     refine cl (h:=by exact Qq sb c.A Fs ⟨y,yU⟩ _ (s9.only AK)) (k:=?_)
     rintro v w2 ⟨rfl,F2,EI,D5,AM⟩
     have OZ:=AK.size
     have y1:=AM.block (AK.block mE (by simp)) n5
     have nbF:b∉Fs:=s9.not uK rfl
     have yb:=AM.block (AK.block uK (by simp)) nbF
     have KZ:D9 w2 rb .none [rb]:=(tR.only AK).Ah AM (fun k hk hm=>by
      obtain rfl:=List.mem_singleton.1 hk
      exact NM.apart FX k (by simp) (by simp [hm]))
     clear hs
     have hs:=((St.nil w2).AE y1).AE yb
     refine Jb ?_
     refine dn (k:=?_)
     refine tk 6 hX (k:=?_)
     refine en (k:=?_)
     refine Jb ?_
     refine AG ?_
     have AT:=hs.AB [] (by simp [y1,yb]) (by simp [D0])
     subst eJ
     refine ⟨rfl,trivial,fun _=>⟨cb :: F2,[rb],⟨sb,F2,rfl,AT.block y1 (by simp),EI.only AT,M3 _ _,h4⟩,KZ.only AT,fun k hk=>?_,fun k hk => .inl (by simpa using hk)⟩,((Bn.step AK (by simp)).step AM (fun k hk => .inl (by simp [hk]))).step AT (by simp)⟩
     rcases List.mem_cons.1 hk with rfl | hk
     ·simp
     ·rcases D5 k hk with h | h
      ·simp [h]
      ·exact .inr om
theorem SN (cb:Nat) (c:Cs) (F:List Nat) (id q:Int) (w0:World) (h:Br w0 cb c F) (hid:In64 id) (hq:Fk q) :
 AO Tryz.prog 75 #[.pointer (some ⟨cb,0,none⟩),.int .i64 id,.int .u32 q] w0 fun v w'=>∃ rv,v = .tuple #[rv,.int .i64 (Be c id q).1]∧HY w0 cb F rv (Be c id q).1 c (Be c id q).2 .none w':=by
 have hs:=St.nil w0
 refine AR Tryz.func75 Tryz.ntmps75 (k:=?_)
 refine Ai ?_
 refine Ao ?_
 refine bx hs (k:=?_);intro b6 w _ hs
 refine bx hs (k:=?_);intro b7 w _ hs
 refine al hs (k:=?_);intro FO w hz hs
 refine Ja ?_
 have ho:=hs.AD rfl
 have hz:=ho.size
 have x6:=hs.get (b:=b6) (by repeat (first | exact At.head | (with_reducible apply At.tail)))
 have x7:=hs.get (b:=b7) (by repeat (first | exact At.head | (with_reducible apply At.tail)))
 have IX:=hs.get (b:=FO) (by repeat (first | exact At.head | (with_reducible apply At.tail)))
 have FC:=h.only ho
 have hb:=hs.new _ List.mem_cons_self rfl
 simp only at hb
 refine cl (h:=by exact KF cb c F _ FC 110 [.pointer (some ⟨b6,0,none⟩),.pointer (some ⟨b7,0,none⟩)] [] (fun _=>True) (Be c id q).1 (Be c id q).2 .none (fun _ _ _ _ _ _=>trivial) (by simp) (by simp [Rp.none]) (fun w1 AK=>cC b6 b7 c id q _ w1 hid hq (AK.block x6 (by simp)) (AK.block x7 (by simp)))) (k:=?_)
 rintro v w2 ⟨rv,rfl,_,I4,⟨F',hC',Cc⟩,AM⟩
 obtain ⟨vg,vp,Gg,Gp,rfl,p1,p2⟩:=I4
 obtain ⟨ag,cg,rfl⟩:=BZ p1
 obtain ⟨ap,cp,rfl⟩:=BZ p2
 have x2:=AM.block IX (fun hm=>by obtain rfl:=List.mem_singleton.1 hm;exact FC.not IX rfl (by obtain ⟨_,_,rfl,_⟩:=FC;simp))
 clear hs
 have hs:=(St.nil w2).AE x2
 repeat' (first|refine Sb ?_|(refine AU hs (k:=?_);intro w hs)|fail)
 refine AG ?_
 have AT:AA [FO] w2 _:=hs.AB [FO] (by simp) (by simp [D0])
 exact ⟨_,rfl,LX p1 p2 AT (fun b hm=>by obtain rfl:=List.mem_singleton.1 hm;exact ⟨_,_,_,x2,by decide,by decide⟩),⟨F',hC'.Ah AT (fun k hk hm=>by obtain rfl:=List.mem_singleton.1 hm;exact hC'.not x2 rfl hk),fun k hk=>by
  rcases Cc k hk with h | h
  ·exact .inl h
  ·exact .inr om⟩,((ho.weaken (by simp)).step AM (fun k hk => .inl hk)).step AT (fun k hk => .inr (by obtain rfl:=List.mem_singleton.1 hk;exact hb))⟩
abbrev HT (x:Int):Obj := .cells #[.int .i64 (x / 18446744073709551616),.int .u64 (x % 18446744073709551616)] 70 (0,0)
theorem nT {A:As} {id:Int} (e:A2 A.l id=none):Bj A id=0:=by unfold Bj;rw [e]
theorem SQ (cb:Nat) (c:Cs) (F:List Nat) (id:Int) (w0:World) (h:Br w0 cb c F) (hid:In64 id) :
 AO Tryz.prog 106 #[.pointer (some ⟨cb,0,none⟩),.int .i64 id] w0 fun v w'=>v = .tuple #[wv (Bj c.A id),.int .i64 (Ab c id).1]∧∃ F',Br w' cb (Ab c id).2 F'∧(∀ k∈F',k∈F∨w0.heap.size≤k)∧AA F w0 w':=by
 have hC:=h
 obtain ⟨sb,Fs,rfl,h1,hS,h3,h4⟩:=h
 have hs:=(St.nil w0).AE h1
 refine AR Tryz.func106 Tryz.ntmps106 (k:=?_)
 refine Ai ?_
 refine Ao ?_
 refine al hs (k:=?_);intro b4 w1 Jq hs
 have g4:=hs.new (b4,true) (by simp) rfl
 simp only at g4
 refine Ja ?_
 have ho:=hs.AB [] (by simp [h1]) (by simp [D0])
 refine cl (h:=by exact ML cb c _ id _ (hC.only ho) hid) (k:=?_)
 generalize IU:Bj c.A id=lag
 rintro v w' ⟨rfl,ho⟩;replace hs:=hs.AN ho;repeat' (first|refine Sa ?_|(refine AU hs (k:=?_);intro w hs)|(refine al hs (k:=?_);intro b w hz hs)|fail)
 have AT:=hs.AB [] (by simp [h1]) (by simp [D0])
 have gb:=hs.new _ List.mem_cons_self rfl
 simp only at gb
 have x1:=hs.get (b:=cb) (o:=FV sb c.run c.carr) (by repeat (first | exact At.head | (with_reducible apply At.tail)))
 have x4:=hs.get (b:=b4) (by repeat (first | exact At.head | (with_reducible apply At.tail)))
 have xb:=hs.get (b:=b) (by repeat (first | exact At.head | (with_reducible apply At.tail)))
 have nb:b≠b4:=by
  have nd:=hs.nd
  simp only [List.map_cons,List.map_nil,List.nodup_cons,List.mem_cons,List.not_mem_nil,or_false,not_or] at nd
  exact nd.1.1
 have HV:=hS.only AT
 obtain ⟨s0,P6⟩:=hS.rep
 have hin:A7 lag:=by rw [← IU];exact NC P6 id
 have n1:cb∉Fs:=Br.OD h1 hS
 have n4:b4∉Fs:=HV.not x4 rfl
 have nB:b∉Fs:=HV.not xb rfl
 have OF:=AT.size
 refine cl (h:=by exact lI sb c.A Fs id _ HV hid) (k:=?_)
 rintro v w4 ⟨rfl,F2,EI,D5,Aw⟩
 have y1:=Aw.block x1 n1
 have y4:=Aw.block x4 n4
 have yb:=Aw.block xb nB
 have BB:AA (cb :: Fs) w0 w4:=(AT.weaken (by simp)).step Aw (fun k hk => .inl (by simp [hk]))
 have Kg:∀ k∈F2,k∈Fs∨w0.heap.size≤k:=fun k hk=>by
  rcases D5 k hk with h | h
  ·exact .inl h
  ·exact .inr om
 have lcb:=lt_of_block h1
 clear hs
 have hs:=(((St.nil w4).AE y1).AE y4).AH yb (by simp [nb];omega)
 cases e:A2 c.A.l id with
 | none =>
   have eA:EV c.A id=c.A:=by unfold EV;rw [e];rfl
   have eL:Ab c id=(14,c):=by unfold Ab;rw [e];rfl
   rw [eA] at EI
   rw [eL]
   have l0:lag=0:=by rw [← IU];exact nT e
   repeat' (first|refine Sc ?_|(refine AU hs (k:=?_);intro w hs)|(refine al hs (k:=?_);intro b w hz hs)|fail)
   refine AG ?_
   have BY:=hs.AB [b4] (by simp [y1,yb]) (by simp [D0])
   subst l0
   refine ⟨rfl,cb :: F2,⟨sb,F2,rfl,BY.block y1 (by simp;omega),EI.Ah BY (fun k hk hm=>by obtain rfl:=List.mem_singleton.1 hm;exact EI.not y4 rfl hk),h3,h4⟩,fun k hk=>?_,BB.step BY (fun k hk => .inr (by obtain rfl:=List.mem_singleton.1 hk;exact g4))⟩
   rcases List.mem_cons.1 hk with rfl | hk
   ·simp
   ·rcases Kg k hk with h | h
    ·simp [h]
    ·exact .inr h
 | some a =>
   have eL:Ab c id=(0,⟨EV c.A id,c.run,DM c.carr lag⟩):=by unfold Ab;rw [e,IU];rfl
   rw [eL]
   repeat' (first|refine Sd ?_|(refine AU hs (k:=?_);intro w hs)|(refine al hs (k:=?_);intro b w hz hs)|fail)
   have BY:=hs.AB [] (by simp [y1,y4,yb]) (by simp [D0])
   refine cl (h:=by exact MC cb sb c.run c.carr lag _ (BY.block y1 (by simp)) h3 hin) (k:=?_)
   rintro v w6 ⟨hc6,Aq⟩
   have z4:=Aq.block (BY.block y4 (by simp)) (by simp;omega)
   have zb:=Aq.block (BY.block yb (by simp)) (by simp;omega)
   have n6:cb∉F2:=Br.OD y1 EI
   have UT:=(EI.only BY).Ah Aq (fun k hk hm=>by obtain rfl:=List.mem_singleton.1 hm;exact n6 hk)
   have Bn:AA (cb :: Fs) w0 w6:=(BB.step BY (by simp)).step Aq (fun k hk => .inl (by obtain rfl:=List.mem_singleton.1 hk;simp))
   clear hs
   have hs:=(((St.nil w6).AE hc6).AE z4).AH zb (by simp [nb];omega)
   repeat' (first|refine Sa ?_|(refine AU hs (k:=?_);intro w hs)|fail)
   refine AG ?_
   have Cb:=hs.AB [b4] (by simp [hc6,zb]) (by simp [D0])
   refine ⟨rfl,cb :: F2,⟨sb,F2,rfl,Cb.block hc6 (by simp;omega),UT.Ah Cb (fun k hk hm=>by obtain rfl:=List.mem_singleton.1 hm;exact UT.not z4 rfl hk),M3 _ _,h4⟩,fun k hk=>?_,Bn.step Cb (fun k hk => .inr (by obtain rfl:=List.mem_singleton.1 hk;exact g4))⟩
   rcases List.mem_cons.1 hk with rfl | hk
   ·simp
   ·rcases Kg k hk with h | h
    ·simp [h]
    ·exact .inr h
theorem D9.ne {w:World} {rb:Nat} {r:Rp} {F:List Nat} (h:D9 w rb r F) {b:Nat} {cs:Array Value} {ty:Nat} {fz:Nat × Nat} (hb:w.heap[b]?=some (.cells cs ty fz)) (hne:ty≠131):rb≠b:=by
 obtain ⟨vg,vp,Gg,Gp,_,p1,_⟩:=h
 exact A3 p1 hb (fun e=>hne e.symm)
theorem bQ (b2 b3:Nat) (c:Cs) (id:Int) (wb w0:World) (hid:In64 id) (B2:w0.heap[b2]?=some (.cells #[.int .i64 id] 3 (0,0))) (B3:w0.heap[b3]?=some (HT 0)) :
 Ob wb w0 137 [.pointer (some ⟨b2,0,none⟩),.pointer (some ⟨b3,0,none⟩)] [b3] (fun w=>w.heap[b3]?=some (HT (Bj c.A id))) c (Ab c id).1 (Ab c id).2 .none:=by
 intro cb rb F hC hR Zg hrb
 have hs:=((St.nil w0).AE B2).AE B3
 refine AR Tryz.func137 Tryz.ntmps137 (k:=?_)
 refine Ja ?_
 have ho:=hs.AB [] (by simp [B2,B3]) (by simp [D0])
 refine cl (h:=by exact SQ cb c F id _ (hC.only ho) hid) (k:=?_)
 rintro v w2 ⟨rfl,F2,L0,D5,AM⟩
 have hz:=ho.size
 have y3:=AM.block (ho.block B3 (by simp)) (hC.not B3 rfl)
 have KZ:D9 w2 rb .none [rb]:=(hR.only ho).Ah AM (fun k hk hm=>hR.apart hC k hk hm)
 have BB:AA (rb :: F ++ [b3]) w0 w2:=(ho.weaken (by simp)).step AM (fun k hk => .inl (by simp [hk]))
 have XY:rb≠b3:=hR.ne B3 (by decide)
 generalize Ab c id=J at *
 generalize Bj c.A id=lag at *
 clear hs
 have hs:=(St.nil w2).AE y3
 repeat' (first|refine Sa ?_|(refine AU hs (k:=?_);intro w hs)|(refine al hs (k:=?_);intro b w hz hs)|fail)
 refine AG ?_
 have AT:=hs.AB [b3] (by simp) (by simp [D0])
 refine ⟨rfl,hs.get (b:=b3) (by repeat (first | exact At.head | (with_reducible apply At.tail))),fun _=>⟨F2,[rb],L0.Ah AT (fun k hk hm=>by obtain rfl:=List.mem_singleton.1 hm;exact L0.not y3 rfl hk),KZ.Ah AT (fun k hk hm=>by obtain rfl:=List.mem_singleton.1 hk;exact XY (List.mem_singleton.1 hm)),fun k hk=>?_,fun k hk => .inl (by simpa using hk)⟩,BB.step AT (fun k hk => .inl (by simp [List.mem_singleton.1 hk]))⟩
 rcases D5 k hk with h | h
 ·exact .inl h
 ·exact .inr om
theorem J6 (cb:Nat) (c:Cs) (F:List Nat) (id:Int) (w0:World) (h:Br w0 cb c F) (hid:In64 id) :
 AO Tryz.prog 100 #[.pointer (some ⟨cb,0,none⟩),.int .i64 id] w0 fun v w'=>∃ rv,v = .tuple #[wv (Bj c.A id),rv,.int .i64 (Ab c id).1]∧HY w0 cb F rv (Ab c id).1 c (Ab c id).2 .none w':=by
 have hs:=St.nil w0
 refine AR Tryz.func100 Tryz.ntmps100 (k:=?_)
 refine Ai ?_
 refine Ao ?_
 refine bx hs (k:=?_);intro b6 w _ hs
 refine al hs (k:=?_);intro FO w aCj hs
 refine al hs (k:=?_);intro Ir w aCp hs
 refine Jc ?_
 refine Ao ?_
 refine al hs (k:=?_);intro b7 w Ze hs
 refine Ja ?_
 have ho:=hs.AD rfl
 have hz:=ho.size
 have x6:=hs.get (b:=b6) (by repeat (first | exact At.head | (with_reducible apply At.tail)))
 have x7:=hs.get (b:=b7) (by repeat (first | exact At.head | (with_reducible apply At.tail)))
 have IX:=hs.get (b:=FO) (by repeat (first | exact At.head | (with_reducible apply At.tail)))
 have Ux:=hs.get (b:=Ir) (by repeat (first | exact At.head | (with_reducible apply At.tail)))
 have FC:=h.only ho
 have Wo:b7≠FO:=by
  have nd:=hs.nd
  simp only [List.map_cons,List.map_nil,List.nodup_cons,List.mem_cons,List.not_mem_nil,or_false,not_or] at nd
  exact nd.1.2.1
 have g7:=hs.new (b7,true) (by simp) rfl
 have g10:=hs.new (FO,true) (by simp) rfl
 have g11:=hs.new (Ir,true) (by simp) rfl
 simp only at g7 g10 g11
 have ncb:∀ {b:Nat} {cs:Array Value} {ty:Nat} {fz:Nat × Nat},w0.heap.size≤b→b≠cb:=fun hb he=>by
  have:=h.lt cb (by obtain ⟨_,_,rfl,_⟩:=h;simp)
  omega
 refine cl (h:=by exact KF cb c F _ FC 137 [.pointer (some ⟨b6,0,none⟩),.pointer (some ⟨b7,0,none⟩)] [b7] (fun w=>w.heap[b7]?=some (HT (Bj c.A id))) (Ab c id).1 (Ab c id).2 .none (fun _ _ _ hx sP hn=>sP.block hx (hn b7 (by simp))) (fun k hk=>by obtain rfl:=List.mem_singleton.1 hk;exact ⟨FC.not x7 rfl,lt_of_block x7⟩) (by simp [Rp.none]) (fun w1 AK=>bQ b6 b7 c id _ w1 hid (AK.block x6 (by simp)) (AK.block x7 (by simp)))) (k:=?_)
 rintro v w2 ⟨rv,rfl,nK,I4,⟨F',hC',Cc⟩,AM⟩
 obtain ⟨vg,vp,Gg,Gp,rfl,p1,p2⟩:=I4
 obtain ⟨ag,cg,rfl⟩:=BZ p1
 obtain ⟨ap,cp,rfl⟩:=BZ p2
 have mO:cb∈F:=by obtain ⟨_,_,rfl,_⟩:=h;simp
 have Wt:=AM.block IX (fun hm=>by
  simp only [List.mem_cons,List.not_mem_nil,or_false] at hm
  rcases hm with rfl | rfl
  ·exact FC.not IX rfl mO
  ·exact Wo rfl)
 have n117:Ir≠b7:=A3 Ux x7 (by decide)
 have XJ:=AM.block Ux (fun hm=>by
  simp only [List.mem_cons,List.not_mem_nil,or_false] at hm
  rcases hm with rfl | rfl
  ·exact FC.not Ux rfl mO
  ·exact n117 rfl)
 generalize Ab c id=J at *
 generalize Bj c.A id=lag at *
 clear hs
 have hs:=(((St.nil w2).AE XJ).AE Wt).AH nK (by simp [Wo,n117.symm])
 repeat' (first|refine Sb ?_|(refine AU hs (k:=?_);intro w hs)|(refine al hs (k:=?_);intro b w hz hs)|fail)
 have hR:∀ {w'':World} {o o':Obj},St w2 D0 [(b,.cells #[.slice ag (BH J.1 J.2 .none).g.length cg,.slice ap (BH J.1 J.2 .none).p.length cp] 131 (0,0),true),(b7,HT lag,false),(FO,o,false),(Ir,o',false)] w''→True=True→FZ [(b,.cells #[.slice ag (BH J.1 J.2 .none).g.length cg,.slice ap (BH J.1 J.2 .none).p.length cp] 131 (0,0),true),(b7,HT lag,false)] w'':=fun hs _ e he=>hs.at_ e (by
  simp only [List.mem_cons,List.not_mem_nil,or_false] at he ⊢
  rcases he with he | he
  ·exact .inl he
  ·exact .inr (.inl he))
 refine uH [4] [(b,.cells #[.slice ag (BH J.1 J.2 .none).g.length cg,.slice ap (BH J.1 J.2 .none).p.length cp] 131 (0,0),true),(b7,HT lag,false)] hs (k:=?_);intro hX w hs
 refine tks 0 3 ?_
 refine dt 3 hX (k:=?_)
 repeat' (first|refine Nx.h ?_|(refine AU hs (k:=?_);intro w hs)|fail)
 refine dn (k:=?_)
 refine dt 4 hX (k:=?_)
 repeat' (first|refine Nx.h ?_|(refine AU hs (k:=?_);intro w hs)|fail)
 refine dn (k:=?_)
 refine tk 5 hX (k:=?_)
 refine en (k:=?_)
 refine Jb ?_
 refine AG ?_
 have AT:=hs.AB [FO,Ir] (by simp [nK]) (by simp [D0])
 exact ⟨_,rfl,LX p1 p2 AT (fun b hm=>by
  simp only [List.mem_cons,List.not_mem_nil,or_false] at hm
  rcases hm with rfl | rfl
  ·exact ⟨_,_,_,Wt,by decide,by decide⟩
  ·exact ⟨_,_,_,XJ,by decide,by decide⟩),⟨F',hC'.Ah AT (fun k hk hm=>by
  simp only [List.mem_cons,List.not_mem_nil,or_false] at hm
  rcases hm with rfl | rfl
  ·exact hC'.not Wt rfl hk
  ·exact hC'.not XJ rfl hk),fun k hk=>by
  rcases Cc k hk with h | h
  ·exact .inl h
  ·exact .inr om⟩,((ho.weaken (by simp)).step AM (fun k hk=>by
   simp only [List.mem_cons,List.not_mem_nil,or_false] at hk
   rcases hk with rfl | rfl
   ·exact .inl (by simp)
   ·exact .inr g7)).step AT (fun k hk=>by
   simp only [List.mem_cons,List.not_mem_nil,or_false] at hk
   rcases hk with rfl | rfl
   ·exact .inr g10
   ·exact .inr g11)⟩
def CA (c:Cs) (id:Int):Bool × Int:=match A2 c.A.l id with
 | none=>(false,0)
 | some a=>if a.1.asleep=true then (false,0) else if Cq c.A id < 0 then (false,Bj c.A id) else (true,Bj c.A id)
abbrev HR (x:Bool):Obj := .cells #[.bool x] 4 (0,0)
theorem dM (b2 b3 b4:Nat) (c:Cs) (id:Int) (wb w0:World) (hid:In64 id) (B2:w0.heap[b2]?=some (.cells #[.int .i64 id] 3 (0,0))) (B3:w0.heap[b3]?=some (HT 0)) (B4:w0.heap[b4]?=some (HR false)) :
 Ob wb w0 101 [.pointer (some ⟨b2,0,none⟩),.pointer (some ⟨b3,0,none⟩),.pointer (some ⟨b4,0,none⟩)] [b3,b4] (fun w=>w.heap[b3]?=some (HT (CA c id).2)∧w.heap[b4]?=some (HR (CA c id).1)) c (B9 c id).1 (B9 c id).2 .none:=by
 intro cb rb F hC hR Zg hrb
 have FX:=hC
 have NM:=hR
 obtain ⟨sb,Fs,rfl,h1,hS,h3,h4⟩:=hC
 obtain ⟨qb,mb,g1,gQ⟩:=hS.FB
 obtain ⟨x,bs,ex,eb,N6,hcs⟩:=SM c.A.l id
 have n1:cb∉Fs:=Br.OD h1 hS
 have n2:b2∉Fs:=hS.not B2 rfl
 have n3:b3∉Fs:=hS.not B3 rfl
 have n4:b4∉Fs:=hS.not B4 rfl
 have c3:b3∉cb :: Fs:=FX.not B3 rfl
 have c4:b4∉cb :: Fs:=FX.not B4 rfl
 have r3:rb≠b3:=hR.ne B3 (by decide)
 have r4:rb≠b4:=hR.ne B4 (by decide)
 have d34:b3≠b4:=A3 B3 B4 (by decide)
 have d23:b2≠b3:=A3 B2 B3 (by decide)
 have hs0:sb∈Fs:=by
  obtain ⟨_,_,_,_,_,_,_,_,_,_,_,_,m1,_⟩:=hS.HF
  exact m1
 have ds3:sb≠b3:=fun e=>n3 (e ▸ hs0)
 have dc3:cb≠b3:=fun e=>c3 (by simp [e])
 generalize hJ:B9 c id=J
 generalize hK:CA c id=K
 have hs:=(((((St.nil w0).AE h1).AE g1).AE B2).AE B3).AE B4
 refine AR Tryz.func101 Tryz.ntmps101 (k:=?_)
 refine Ja ?_
 refine dr [] hs (k:=?_);intro hX w hs
 refine tks 0 5 ?_
 refine HO 9 8 hs (k:=?_);intro f X w hp;have hs:=hp.st
 apply BM 5 9 (f:=f) (X:=X) hX hp;exact rfl;exact rfl;(apply AS AJ;exact rfl);kernel_rfl;kernel_rfl;kernel_rfl;kernel_rfl;(intro X Y;(repeat (first | exact A6 | refine A5 ?_ (by exact rfl))));(intro w' hs;first|exact AI hs.hold|exact AI hs.hold.tail|exact A9 rfl);intro f X w hp;have hs:=hp.st
 have ho:=hs.AB [] (by simp [h1,g1,B2,B3,B4]) (by simp [D0])
 refine cl (h:=by exact KD sb c.A Fs id _ (hS.only ho) hid) (k:=?_)
 rw [ex,eb]
 rintro v w' ⟨rfl,ho⟩;replace hp:=hp.only ho;replace hs:=hp.st;refine Jb ?_
 refine dn (k:=?_)
 refine tk 6 hX (hc:=by cases f <;> kernel_rfl) (k:=?_)
 refine tk 7 hX (hc:=by cases f <;> kernel_rfl) (k:=?_)
 refine tk 8 hX (hc:=by cases f <;> kernel_rfl) (k:=?_)
 apply Bi 9 (f:=f) (X:=X) hX hp;exact rfl;(apply AS AJ;exact rfl);kernel_rfl;kernel_rfl;(intro X Y;(repeat (first | exact A6 | refine A5 ?_ (by exact rfl))));(intro w' hs;first|exact AI hs.hold|exact AI hs.hold.tail|exact A9 rfl);intro b w hI hs
 refine dt 10 hX (k:=?_)
 repeat' (first|refine Nx.h ?_|(refine AU hs (k:=?_);intro w hs)|fail)
 refine dn (k:=?_)
 refine tk 11 hX (k:=?_)
 refine en (k:=?_)
 rcases hcs with ⟨hb,e⟩ | ⟨a,hb,e,hx⟩
 ·subst hb
  have eK:K=(false,0):=by rw [← hK];unfold CA;rw [e]
  refine Je ?_
  refine AG ?_
  exact Hs (n:=14) (by rw [← hJ];unfold B9;rw [e]) (by decide) ⟨by rw [eK];exact hs.get (b:=b3) (by repeat (first | exact At.head | (with_reducible apply At.tail))),by rw [eK];exact hs.get (b:=b4) (by repeat (first | exact At.head | (with_reducible apply At.tail)))⟩ (hs.AB [] (by simp [h1,g1,B2,B3,B4]) (by simp [D0]))
 subst hb
 repeat' (first|refine Sd ?_|refine xc_cond rfl (fun hc=>?_) fun hc=>?_|fail)
 ·refine AG ?_
  have k:x.asleep=true:=by simpa using hc
  have eK:K=(false,0):=by rw [← hK];unfold CA;rw [e];show (if a.1.asleep=true then _ else _)=_;rw [← hx,k];rfl
  exact Hs (n:=6) (by rw [← hJ];unfold B9;rw [e];show (if a.1.asleep=true then _ else _)=_;rw [← hx,k];rfl) (by decide) ⟨by rw [eK];exact hs.get (b:=b3) (by repeat (first | exact At.head | (with_reducible apply At.tail))),by rw [eK];exact hs.get (b:=b4) (by repeat (first | exact At.head | (with_reducible apply At.tail)))⟩ (hs.AB [] (by simp [h1,g1,B2,B3,B4]) (by simp [D0]))
 have k:x.asleep=false:=by simpa using hc
 have eJ:J=if Cq c.A id < 0 then (0,(⟨EB c.A id true,c.run,c.carr⟩:Cs)) else Ab c id:=by
  rw [← hJ];unfold B9;rw [e];show (if a.1.asleep=true then _ else _)=_;rw [← hx,k];rfl
 have eK:K=if Cq c.A id < 0 then (false,Bj c.A id) else (true,Bj c.A id):=by
  rw [← hK];unfold CA;rw [e];show (if a.1.asleep=true then _ else _)=_;rw [← hx,k];rfl
 have ho:=hs.AB [] (by simp [h1,g1,B2,B3,B4]) (by simp [D0])
 refine cl (h:=by exact ML cb c _ id _ (FX.only ho) hid) (k:=?_)
 generalize Bj c.A id=lag at *
 rintro v w' ⟨rfl,ho⟩;replace hs:=hs.AN ho;repeat' (first|refine Nx.h ?_|(refine AU hs (k:=?_);intro w hs)|fail)
 refine dr [] hs (k:=?_);intro hX w hs
 refine tks 0 8 ?_
 refine dt 8 hX (k:=?_)
 have AK:=hs.AB [b3] (by simp [h1,g1,B2,B4]) (by simp [D0])
 have FW:=hS.Ah AK (fun k hk hm=>by obtain rfl:=List.mem_singleton.1 hm;exact n3 hk)
 obtain ⟨qb',QW,ZG,gQ'⟩:=FW.FB
 have eqb:qb'=qb:=by
  have:=AK.block g1 (by simpa using ds3)
  rw [this] at ZG
  injection ZG with ZG
  unfold Vp at ZG
  simp at ZG
  exact ZG.1.symm
 subst eqb
 refine AY hs (h:=by exact gJ qb' c.A id _ gQ' hid) (k:=?_);intro w' ho hs;refine Jb ?_
 refine dn (k:=?_)
 refine tks 9 5 ?_
 refine en (k:=?_)
 repeat' (first|refine Sa ?_|(refine st hs (k:=?_);intro w hs)|refine Ax rfl (fun hc=>?_) fun hc=>?_|fail)
 ·have kk:Cq c.A id < 0:=by simpa using hc
  rw [if_pos kk] at eJ eK
  have ho:=hs.AB [b3] (by simp [h1,g1,B2,B4]) (by simp [D0])
  have x1:=hs.get (b:=cb) (by repeat (first | exact At.head | (with_reducible apply At.tail)))
  have x2:=hs.get (b:=b2) (by repeat (first | exact At.head | (with_reducible apply At.tail)))
  have x3:=hs.get (b:=b3) (by repeat (first | exact At.head | (with_reducible apply At.tail)))
  have x4:=hs.get (b:=b4) (by repeat (first | exact At.head | (with_reducible apply At.tail)))
  clear hs
  have hs:=((((St.nil _).AE x1).AE x2).AE x3).AE x4
  refine dr [] hs (k:=?_);intro hX w hs
  refine tks 0 5 ?_
  refine dt 5 hX (k:=?_)
  have ho':=hs.AB [] (by simp [x1,x2,x3,x4]) (by simp [D0])
  have AK:=ho.step ho' (by simp)
  have HV:=hS.Ah AK (fun k hk hm=>by obtain rfl:=List.mem_singleton.1 hm;exact n3 hk)
  refine cl (h:=by exact SU sb c.A Fs id true _ HV hid) (k:=?_)
  rw [eb]
  rintro v w2 ⟨rfl,F2,EI,D5,AM⟩
  have y1:=AM.block (ho'.block x1 (by simp)) n1
  have y2:=AM.block (ho'.block x2 (by simp)) n2
  have y3:=AM.block (ho'.block x3 (by simp)) n3
  have y4:=AM.block (ho'.block x4 (by simp)) n4
  have OZ:=AK.size
  have KZ:D9 w2 rb .none [rb]:=(hR.Ah AK (fun k hk hm=>by obtain rfl:=List.mem_singleton.1 hk;exact r3 (List.mem_singleton.1 hm))).Ah AM (fun k hk hm=>by
   obtain rfl:=List.mem_singleton.1 hk
   exact NM.apart FX k (by simp) (by simp [hm]))
  clear hs
  have hs:=((((St.nil w2).AE y1).AE y2).AE y3).AE y4
  refine Jb ?_
  refine dn (k:=?_)
  refine tk 6 hX (k:=?_)
  refine en (k:=?_)
  refine Jb ?_
  refine AG ?_
  have AT:=hs.AB [] (by simp [y1,y2,y3,y4]) (by simp [D0])
  subst eJ
  subst eK
  refine ⟨rfl,⟨AT.block y3 (by simp),AT.block y4 (by simp)⟩,fun _=>⟨cb :: F2,[rb],⟨sb,F2,rfl,AT.block y1 (by simp),EI.only AT,h3,h4⟩,KZ.only AT,fun k hk=>?_,fun k hk => .inl (by simpa using hk)⟩,((AK.weaken (G:=rb :: (cb :: Fs) ++ [b3,b4]) (by simp)).step AM (fun k hk => .inl (by simp [hk]))).step AT (by simp)⟩
  rcases List.mem_cons.1 hk with rfl | hk
  ·simp
  ·rcases D5 k hk with h | h
   ·simp [h]
   ·exact .inr om
 ·have kk:¬ Cq c.A id < 0:=by simpa using hc
  rw [if_neg kk] at eJ eK
  have ho:=hs.AB [b3,b4] (by simp [h1,g1,B2]) (by simp [D0])
  have x1:=hs.get (b:=cb) (o:=FV sb c.run c.carr) (by repeat (first | exact At.head | (with_reducible apply At.tail)))
  have x2:=hs.get (b:=b2) (by repeat (first | exact At.head | (with_reducible apply At.tail)))
  have x3:=hs.get (b:=b3) (by repeat (first | exact At.head | (with_reducible apply At.tail)))
  have x4:=hs.get (b:=b4) (by repeat (first | exact At.head | (with_reducible apply At.tail)))
  have HV:=hS.Ah ho (fun k hk hm=>by
   simp only [List.mem_cons,List.not_mem_nil,or_false] at hm
   rcases hm with rfl | rfl
   ·exact n3 hk
   ·exact n4 hk)
  have FC:Br _ cb c (cb :: Fs):=⟨sb,Fs,rfl,x1,HV,h3,h4⟩
  refine cl (h:=by exact SQ cb c _ id _ FC hid) (k:=?_)
  rintro v w2 ⟨rfl,F2,L0,D5,AM⟩
  have hz:=ho.size
  have y3:=AM.block x3 c3
  have y4:=AM.block x4 c4
  have KZ:D9 w2 rb .none [rb]:=(hR.Ah ho (fun k hk hm=>by
   obtain rfl:=List.mem_singleton.1 hk
   simp only [List.mem_cons,List.not_mem_nil,or_false] at hm
   rcases hm with h | h
   ·exact r3 h
   ·exact r4 h)).Ah AM (fun k hk hm=>hR.apart FX k hk hm)
  have BB:AA (rb :: (cb :: Fs) ++ [b3,b4]) w0 w2:=(ho.weaken (by simp)).step AM (fun k hk => .inl (List.mem_append.2 (.inl (List.mem_cons_of_mem _ hk))))
  clear hs
  have hs:=((St.nil w2).AE y3).AE y4
  repeat' (first|refine Sa ?_|(refine AU hs (k:=?_);intro w hs)|(refine al hs (k:=?_);intro b w hz hs)|fail)
  refine AG ?_
  have AT:=hs.AB [] (by simp [y3,y4]) (by simp [D0])
  subst eJ
  subst eK
  refine ⟨rfl,⟨AT.block y3 (by simp),AT.block y4 (by simp)⟩,fun _=>⟨F2,[rb],L0.only AT,KZ.only AT,fun k hk=>?_,fun k hk => .inl (by simpa using hk)⟩,BB.step AT (by simp)⟩
  rcases D5 k hk with h | h
  ·exact .inl h
  ·exact .inr om
theorem J1 (cb:Nat) (c:Cs) (F:List Nat) (id:Int) (w0:World) (h:Br w0 cb c F) (hid:In64 id) :
 AO Tryz.prog 69 #[.pointer (some ⟨cb,0,none⟩),.int .i64 id] w0 fun v w'=>∃ rv,v = .tuple #[.bool (CA c id).1,wv (CA c id).2,rv,.int .i64 (B9 c id).1]∧HY w0 cb F rv (B9 c id).1 c (B9 c id).2 .none w':=by
 have hs:=St.nil w0
 refine AR Tryz.func69 Tryz.ntmps69 (k:=?_)
 refine Ai ?_
 refine Ao ?_
 refine bx hs (k:=?_);intro b6 w _ hs
 refine vs (k:=?_)
 refine al hs (k:=?_);intro FO w aCj hs
 refine al hs (k:=?_);intro Ir w aCp hs
 refine Jc ?_
 refine Ao ?_
 refine al hs (k:=?_);intro b7 w Ze hs
 refine Jb ?_
 refine Ao ?_
 refine al hs (k:=?_);intro b9 w yB hs
 repeat' (first|refine Sa ?_|(refine st hs (k:=?_);intro w hs)|fail)
 have ho:=hs.AD rfl
 have hz:=ho.size
 have x6:=hs.get (b:=b6) (by repeat (first | exact At.head | (with_reducible apply At.tail)))
 have x7:=hs.get (b:=b7) (by repeat (first | exact At.head | (with_reducible apply At.tail)))
 have x9:=hs.get (b:=b9) (by repeat (first | exact At.head | (with_reducible apply At.tail)))
 have IX:=hs.get (b:=FO) (by repeat (first | exact At.head | (with_reducible apply At.tail)))
 have Ux:=hs.get (b:=Ir) (by repeat (first | exact At.head | (with_reducible apply At.tail)))
 have FC:=h.only ho
 have Wo:b7≠FO:=by
  have nd:=hs.nd
  simp only [List.map_cons,List.map_nil,List.nodup_cons,List.mem_cons,List.not_mem_nil,or_false,not_or] at nd
  exact nd.2.1.2.1
 have g7:=hs.new (b7,true) (by simp) rfl
 have g9:=hs.new (b9,true) (by simp) rfl
 have g10:=hs.new (FO,true) (by simp) rfl
 have g11:=hs.new (Ir,true) (by simp) rfl
 simp only at g7 g9 g10 g11
 (with_reducible apply LM);exact rfl;exact rfl;exact KF cb c F _ FC 101 [.pointer (some ⟨b6,0,none⟩),.pointer (some ⟨b7,0,none⟩),.pointer (some ⟨b9,0,none⟩)] [b7,b9] (fun w=>w.heap[b7]?=some (HT (CA c id).2)∧w.heap[b9]?=some (HR (CA c id).1)) (B9 c id).1 (B9 c id).2 .none (fun _ _ _ hx sP hn=>⟨sP.block hx.1 (hn b7 (by simp)),sP.block hx.2 (hn b9 (by simp))⟩) (fun k hk=>by
  simp only [List.mem_cons,List.not_mem_nil,or_false] at hk
  rcases hk with rfl | rfl
  ·exact ⟨FC.not x7 rfl,lt_of_block x7⟩
  ·exact ⟨FC.not x9 rfl,lt_of_block x9⟩) (by simp [Rp.none]) (fun w1 AK=>dM b6 b7 b9 c id _ w1 hid (AK.block x6 (by simp)) (AK.block x7 (by simp)) (AK.block x9 (by simp)))
 rintro v w2 ⟨rv,rfl,⟨nK,hXc⟩,I4,⟨F',hC',Cc⟩,AM⟩
 obtain ⟨vg,vp,Gg,Gp,rfl,p1,p2⟩:=I4
 obtain ⟨ag,cg,rfl⟩:=BZ p1
 obtain ⟨ap,cp,rfl⟩:=BZ p2
 have mO:cb∈F:=by obtain ⟨_,_,rfl,_⟩:=h;simp
 have Wt:=AM.block IX (fun hm=>by
  simp only [List.mem_cons,List.not_mem_nil,or_false] at hm
  rcases hm with rfl | rfl | rfl
  ·exact FC.not IX rfl mO
  ·exact Wo rfl
  ·exact A3 IX x9 (by decide) rfl)
 have n117:Ir≠b7:=A3 Ux x7 (by decide)
 have n119:Ir≠b9:=A3 Ux x9 (by decide)
 have n79:b7≠b9:=A3 x7 x9 (by decide)
 have XJ:=AM.block Ux (fun hm=>by
  simp only [List.mem_cons,List.not_mem_nil,or_false] at hm
  rcases hm with rfl | rfl | rfl
  ·exact FC.not Ux rfl mO
  ·exact n117 rfl
  ·exact n119 rfl)
 generalize B9 c id=J at *
 generalize CA c id=K at *
 clear hs
 have hs:=((((St.nil w2).AE XJ).AE Wt).AH nK (by simp [Wo,n117.symm])).AE hXc
 repeat' (first|refine Sb ?_|(refine AU hs (k:=?_);intro w hs)|(refine al hs (k:=?_);intro b w hz hs)|fail)
 have hR:∀ {w'':World} {o o':Obj},St w2 D0 [(b,.cells #[.slice ag (BH J.1 J.2 .none).g.length cg,.slice ap (BH J.1 J.2 .none).p.length cp] 131 (0,0),true),(b9,HR K.1,false),(b7,HT K.2,false),(FO,o,false),(Ir,o',false)] w''→True=True→FZ [(b,.cells #[.slice ag (BH J.1 J.2 .none).g.length cg,.slice ap (BH J.1 J.2 .none).p.length cp] 131 (0,0),true),(b9,HR K.1,false),(b7,HT K.2,false)] w'':=fun hs _ e he=>hs.at_ e (by
  simp only [List.mem_cons,List.not_mem_nil,or_false] at he ⊢
  rcases he with he | he | he
  ·exact .inl he
  ·exact .inr (.inl he)
  ·exact .inr (.inr (.inl he)))
 refine uH [6] [(b,.cells #[.slice ag (BH J.1 J.2 .none).g.length cg,.slice ap (BH J.1 J.2 .none).p.length cp] 131 (0,0),true),(b9,HR K.1,false),(b7,HT K.2,false)] hs (k:=?_);intro hX w hs
 refine tks 0 5 ?_
 refine dt 5 hX (k:=?_)
 repeat' (first|refine Nx.h ?_|(refine AU hs (k:=?_);intro w hs)|fail)
 refine dn (k:=?_)
 refine dt 6 hX (k:=?_)
 repeat' (first|refine Nx.h ?_|(refine AU hs (k:=?_);intro w hs)|fail)
 refine dn (k:=?_)
 refine tk 7 hX (k:=?_)
 refine en (k:=?_)
 refine Jb ?_
 refine AG ?_
 have AT:=hs.AB [FO,Ir] (by simp [nK,hXc]) (by simp [D0])
 exact ⟨_,rfl,LX p1 p2 AT (fun b hm=>by
  simp only [List.mem_cons,List.not_mem_nil,or_false] at hm
  rcases hm with rfl | rfl
  ·exact ⟨_,_,_,Wt,by decide,by decide⟩
  ·exact ⟨_,_,_,XJ,by decide,by decide⟩),⟨F',hC'.Ah AT (fun k hk hm=>by
  simp only [List.mem_cons,List.not_mem_nil,or_false] at hm
  rcases hm with rfl | rfl
  ·exact hC'.not Wt rfl hk
  ·exact hC'.not XJ rfl hk),fun k hk=>by
  rcases Cc k hk with h | h
  ·exact .inl h
  ·exact .inr om⟩,((ho.weaken (by simp)).step AM (fun k hk=>by
   simp only [List.mem_cons,List.not_mem_nil,or_false] at hk
   rcases hk with rfl | rfl | rfl
   ·exact .inl (by simp)
   ·exact .inr g7
   ·exact .inr g9)).step AT (fun k hk=>by
   simp only [List.mem_cons,List.not_mem_nil,or_false] at hk
   rcases hk with rfl | rfl
   ·exact .inr g10
   ·exact .inr g11)⟩
end Go.Proofs.Q0
namespace Go.Proofs.Q0
open IB (IT)
def Rv (m:Mn):List It→Int
 | []=>0
 | x :: l=>HM m x.p+Rv m l
theorem WY (m:Mn):∀ l:List It,Rv m l=m.a*Bw l - m.w*CM m.b l
 | []=>by show (0:Int)=m.a*0 - m.w*0;simp
 | x :: l=>by
   show HM m x.p+Rv m l=m.a*(x.p.w+Bw l) - m.w*(dist x.p m.b+CM m.b l)
   rw [WY m l]
   unfold HM
   rw [Int.mul_add,Int.mul_add,Int.mul_comm (dist x.p m.b) m.w]
   omega
theorem Uk (m:Mn):∀ {l:List It},l≠[]→(∀ x∈l,HM m x.p < 0)→Rv m l < 0
 | [],h,_=>absurd rfl h
 | x :: l,_,h=>by
   show HM m x.p+Rv m l < 0
   have h1:=h x List.mem_cons_self
   by_cases e:l=[]
   ·subst e;show HM m x.p+0 < 0;omega
   ·have:=Uk m e fun y hy=>h y (List.mem_cons_of_mem _ hy)
    omega
theorem BR.aBK {s:Ss} {A:As} (h:BR s A) (e:A.l≠[]):∃ a∈A.l,0≤J8 A a:=by
 have hc:=h.cen e
 rw [h.HF e] at hc
 refine Classical.byContradiction fun hn=>?_
 have hneg:=Uk (EY (its A.l)) (its_ne e) fun x hx=>by
  obtain ⟨a,ha,rfl⟩:=List.mem_map.1 hx
  rcases Int.lt_or_le (HM (EY (its A.l)) a.1.i.p) 0 with k | k
  ·exact k
  ·exact absurd ⟨a,ha,k⟩ hn
 rw [WY,← hc.is.a,← hc.is.w,Int.mul_comm] at hneg
 omega
theorem dP:∀ {l:List RT},l≠[]→∃ a∈l,Jx l=some a
 | [],h=>absurd rfl h
 | a :: l,_=>by
   suffices H:∀ (l:List RT) (a:RT) (L:List RT),a∈L→(∀ x∈l,x∈L)→l.foldl (fun a b=>bif due b.1.i a.1.i then b else a) a∈L from
    ⟨_,H l a (a :: l) List.mem_cons_self (fun x hx=>List.mem_cons_of_mem _ hx),rfl⟩
   intro l
   induction l with
   | nil=>intro a L ha _;exact ha
   | cons b l ih =>
     intro a L ha hl
     rw [List.foldl_cons]
     refine ih _ L ?_ fun x hx=>hl x (List.mem_cons_of_mem _ hx)
     cases due b.1.i a.1.i with
     | true=>exact hl b List.mem_cons_self
     | false=>exact ha
theorem BR.pP {s:Ss} {A:As} (h:BR s A) (e:A.l≠[]):∃ a∈A.l,Eg A=some a∧0≤J8 A a:=by
 obtain ⟨b,hb,hb0⟩:=h.aBK e
 have hne:KQ A≠[]:=fun k=>by
  have:b∈KQ A:=List.mem_filter.2 ⟨hb,by simpa using hb0⟩
  rw [k] at this;cases this
 obtain ⟨a,ha,hf⟩:=dP hne
 obtain ⟨h1,h2⟩:=List.mem_filter.1 ha
 exact ⟨a,h1,hf,by simpa using h2⟩
theorem qN {A:As} (e:A.l=[]):Eg A=none:=by unfold Eg KQ;rw [e];rfl
theorem BR.aBU {s:Ss} {A:As} (h:BR s A) (e:A.l≠[]):0 < (mA A).w:=by
 have hc:=h.cen e
 rw [h.HF e] at hc
 have:=hc.a0
 have:=hc.a1
 unfold mA
 omega
theorem uF {A:As} {a:RT} (hf:A2 A.l (Az a)=some a):(EV A (Az a)).l=DZ (Az a) A.l:=by
 unfold EV
 rw [hf];rfl
theorem del_sub {i:Int} {l:List RT}:∀ x∈DZ i l,x∈l∧Az x≠i:=fun x hx=>by
 obtain ⟨h1,h2⟩:=List.mem_filter.1 hx
 exact ⟨h1,by simpa using h2⟩
structure QH (A:As) (G:List Gn) (B:As):Prop where
 none:B.l.find? (EP B)=none
 sub:∀ x∈B.l,x∈A.l
 gone:∀ g∈G,g.r.asleep=true∧0≤g.lag∧g.id∈A.l.map Az∧∀ x∈B.l,Az x≠g.id
 len:B.l.length+G.length=A.l.length
 awake:∀ x∈A.l,x.1.asleep=false→x∈B.l
theorem BR.ZX:∀ {n:Nat} {s:Ss} {A:As},BR s A→A.l.length≤n→QH A (Go.Proofs.Q0.CQ n A).1 (Go.Proofs.Q0.CQ n A).2
 | 0,s,A,h,hn=>by
   have e:A.l=[]:=List.eq_nil_of_length_eq_zero (Nat.le_zero.1 hn)
   exact ⟨(by show A.l.find? _=_;rw [e];rfl),fun x hx=>hx,fun g hg=>(by cases hg),(by show A.l.length+0=_;omega),fun x hx _=>hx⟩
 | n+1,s,A,h,hn=>by
   unfold Go.Proofs.Q0.CQ
   cases e:A.l.find? (EP A) with
   | none=>exact ⟨e,fun x hx=>hx,fun g hg=>(by cases hg),(by show A.l.length+0=_;omega),fun x hx _=>hx⟩
   | some a =>
     have ha:=List.mem_of_find?_eq_some e
     have hgo:=List.find?_some e
     have hf:=DL h.o ha
     obtain ⟨_,_,e3⟩:=h.exit hf
     have hl:=(del_perm h.o hf).length_eq
     have hx:=uF hf
     simp only [List.length_cons] at hl
     have ih:=e3.ZX (n:=n) (by rw [hx];omega)
     unfold EP at hgo
     rw [Bool.and_eq_true,decide_eq_true_iff] at hgo
     have hw:=h.aBU (fun k=>by rw [k] at ha;cases ha)
     refine ⟨ih.none,fun x hx'=>?_,fun g hg=>?_,?_,fun x hx' hs=>ih.awake x ?_ hs⟩
     ·have:=ih.sub x hx'
      rw [hx] at this
      exact (del_sub x this).1
     ·rcases List.mem_cons.1 hg with rfl | hg
      ·refine ⟨hgo.1,Int.ediv_nonneg hgo.2 om,List.mem_map_of_mem ha,fun x hx'=>?_⟩
       have:=ih.sub x hx'
       rw [hx] at this
       exact (del_sub x this).2
      ·obtain ⟨k1,k2,k3,k4⟩:=ih.gone g hg
       refine ⟨k1,k2,?_,k4⟩
       obtain ⟨y,hy,Za⟩:=List.mem_map.1 k3
       rw [hx] at hy
       exact List.mem_map.2 ⟨y,(del_sub y hy).1,Za⟩
     ·have:=ih.len
      rw [hx] at this
      simp only [List.length_cons]
      omega
     ·rw [hx]
      refine List.mem_filter.2 ⟨hx',?_⟩
      simp only [decide_eq_true_eq]
      intro k
      have:x=a:=h.o.inj x hx' a ha k
      subst this
      rw [hs] at hgo
      cases hgo.1
theorem BR.Mu {s:Ss} {A:As} (h:BR s A):QH A (Co A).1 (Co A).2:=h.ZX (Nat.le_refl _)
theorem QH.low {A B:As} {G:List Gn} (h:QH A G B):∀ x∈B.l,x.1.asleep=true→J8 B x < 0:=fun x hx hs=>by
 have:=List.find?_eq_none.1 h.none x hx
 unfold EP at this
 rw [hs] at this
 simpa using this
theorem fK {s:Ss} {A:As} (h:BR s A):∀ a∈A.l,0 < Az a:=fun a ha=>(iright_all a.2.1 (rright_i (h.r a ha))).2.2.2.1
theorem BR.runs {s:Ss} {A:As} (h:BR s A):(IN A=0∧(Co A).2.l=[])∨∃ a∈(Co A).2.l,IN A=Az a∧0 < Az a∧a.1.asleep=false∧0≤J8 (Co A).2 a∧Eg (Co A).2=some a:=by
 have hF:=h.Mu
 obtain ⟨s',_,h'⟩:=h.flush
 unfold IN
 by_cases e:(Co A).2.l=[]
 ·exact .inl ⟨by rw [qN e];rfl,e⟩
 ·obtain ⟨a,ha,hs,h0⟩:=h'.pP e
  refine .inr ⟨a,ha,by rw [hs];rfl,fK h' a ha,?_,h0,hs⟩
  cases k:a.1.asleep with
  | false=>rfl
  | true=>have:=hF.low a ha k;omega
def Km (c:Cs):Prop:=(c.run=0∧c.A.l=[])∨∃ a∈c.A.l,c.run=Az a∧0 < Az a∧a.1.asleep=false∧0≤J8 c.A a
theorem Km.new (k:Int):Km (Dw k) := .inl ⟨rfl,rfl⟩
theorem inv_set {s:Ss} {c:Cs} (h:BR s c.A):Km (D6 c):=by
 rcases h.runs with ⟨h1,h2⟩ | ⟨a,h1,h2,h3,h4,h5,_⟩
 ·exact .inl ⟨h1,h2⟩
 ·exact .inr ⟨a,h1,h2,h3,h4,h5⟩
theorem SO:∀ (k:Nat) (left:Int) (c:Cs) (r:Rp),0≤left→left≤1099511627776→(((Cy k left c r).2.2.p.length:Nat):Int)≤r.p.length+left
 | 0,left,c,r,h0,_=>by show ((r.p.length:Nat):Int)≤_;omega
 | k+1,left,c,r,h0,hl=>by
   unfold Cy
   split
   ·split
    ·rename_i hs
     have h1:=srv_step (c:=c) (most:=left) ⟨h0,by omega⟩ hs
     have ih:=SO k (left - BW c left) (D6 (D2 c left)) (Gk c left r) om om
     have e:(Gk c left r).p.length=r.p.length+1:=by show (r.p ++ [Ib c left]).length=_;simp
     rw [e] at ih
     omega
    ·show ((r.p.length:Nat):Int)≤_;omega
   ·show ((r.p.length:Nat):Int)≤_;omega
theorem dI {A:As} {r:RT} (h:CZ A r=0):r.1.right=true∧∃ a,A2 A.l (Az r)=some a:=by
 unfold CZ Fz at h
 cases hr:r.1.right with
 | false=>rw [hr] at h;cases h
 | true =>
   rw [hr] at h
   have h:HB A r.1.i=0:=h
   unfold HB at h
   rw [rright_i hr] at h
   refine ⟨rfl,?_⟩
   cases e:A2 A.l (Az r) with
   | some a=>exact ⟨a,rfl⟩
   | none =>
     rw [show r.1.i.id=Az r from rfl,e] at h
     cases h
theorem V9 {A:As} {r:RT} (h:CZ A r=0):(D7 A r).l=Bx r A.l:=by unfold D7;rw [if_pos h]
theorem uZ {s:Ss} {A:As} (h:BR s A) (r:RT):(D7 A r).l.length=A.l.length:=by
 by_cases e:CZ A r=0
 ·obtain ⟨_,a,ha⟩:=dI e
  rw [V9 e,(Ka h.o).length_eq,(del_perm h.o ha).length_eq];rfl
 ·unfold D7;rw [if_neg e]
theorem Pz {s:Ss} {c:Cs} (h:BR s c.A) (m:Int):∃ s',BR s' (D2 c m).A:=⟨_,(h.put (Dj c m)).2.1⟩
theorem tick_gone:∀ (k:Nat) (left:Int) (c:Cs) (r:Rp),(∃ s,BR s c.A)→(Cy k left c r).2.2.g.length+(Cy k left c r).2.1.A.l.length=r.g.length+c.A.l.length∧∃ s,BR s (Cy k left c r).2.1.A
 | 0,left,c,r,h=>⟨rfl,h⟩
 | k+1,left,c,r,h=>by
   unfold Cy
   split
   ·split
    ·obtain ⟨s,hs⟩:=h
     obtain ⟨s1,h1⟩:=Pz hs left
     obtain ⟨s2,_,h2⟩:=h1.flush
     have hF:=h1.Mu.len
     have hp:(D2 c left).A.l.length=c.A.l.length:=uZ hs _
     obtain ⟨i1,i2⟩:=tick_gone k (left - BW c left) (D6 (D2 c left)) (Gk c left r) ⟨s2,h2⟩
     refine ⟨?_,i2⟩
     rw [i1]
     show (r.g ++ Cd (D2 c left)).length+(Co (D2 c left).A).2.l.length=_
     rw [List.length_append]
     show r.g.length+(Co (D2 c left).A).1.length+(Co (D2 c left).A).2.l.length=_
     omega
    ·exact ⟨rfl,h⟩
   ·exact ⟨rfl,h⟩
theorem bA {r u:Rq} (h:Bu r=some u):u.i.id=r.i.id∧u.asleep=r.asleep:=by
 unfold Bu at h
 cases k:(DC r).right with
 | false=>rw [k] at h;cases h
 | true =>
   rw [k] at h
   cases h
   unfold DC
   cases Cz r.left <;> exact ⟨rfl,rfl⟩
theorem TL {c:Cs} {m:Int} {u:Rq × Bool} (h:FT c m=some u):u.1.i.id=(C8 c.A.l c.run).i.id∧u.1.asleep=(C8 c.A.l c.run).asleep:=by
 unfold FT C1 at h
 split at h
 ·split at h
  ·cases h
  ·rename_i p hp
   cases e:Bu (C3 (C8 c.A.l c.run) p (BW c m)) with
   | none=>rw [e] at h;cases h
   | some q =>
     rw [e] at h
     cases h
     obtain ⟨a1,a2⟩:=bA e
     exact ⟨a1,a2⟩
 ·cases h
end Go.Proofs.Q0
namespace Go.Proofs.Q0
open Go Go.RowKit
theorem u5 {c o:Int} (hc:BL c) (ho:BL o):Dw o=BN (IntKind.u64.wrap (o - c)) (Dw c):=by
 have e:lat c (IntKind.u64.wrap (o - c))=o:=by
  rw [wrap_u64]
  unfold lat
  unfold BL at hc ho
  omega
 show (⟨⟨[],o⟩,0,0⟩:Cs)=⟨⟨[],lat c (IntKind.u64.wrap (o - c))⟩,0,0⟩
 rw [e]
def CI (c:Cs):Prop:=∃ s,BR s c.A
theorem L7 {c:Cs} (h:CI c):CI (D6 c):=by
 obtain ⟨s,hs⟩:=h
 obtain ⟨s',_,h'⟩:=hs.flush
 exact ⟨s',h'⟩
theorem Fi {c:Cs} (h:CI c) (id:Int):CI (Ab c id).2:=by
 obtain ⟨s,hs⟩:=h
 unfold Ab
 split
 ·rename_i k
  cases e:A2 c.A.l id with
  | none=>rw [e] at k;cases k
  | some a =>
    obtain ⟨_,_,h3⟩:=hs.exit e
    exact ⟨_,h3⟩
 ·exact ⟨s,hs⟩
theorem Kz {c:Cs} (h:CI c) (id:Int):CI (B9 c id).2:=by
 have hl:=Fi h id
 obtain ⟨s,hs⟩:=h
 unfold B9
 cases A2 c.A.l id with
 | none=>exact ⟨s,hs⟩
 | some a =>
   show CI (if a.1.asleep=true then (6,c) else if Cq c.A id < 0 then (0,(⟨EB c.A id true,c.run,c.carr⟩:Cs)) else Ab c id).2
   split
   ·exact ⟨s,hs⟩
   ·split
    ·exact ⟨_,hs.aX id true⟩
    ·exact hl
theorem MD {c:Cs} (h:CI c) (id:Int):CI (CE c id).2:=by
 obtain ⟨s,hs⟩:=h
 unfold CE
 cases A2 c.A.l id with
 | none=>exact ⟨s,hs⟩
 | some a =>
   show CI (if a.1.asleep=true then (0,(⟨EB c.A id false,c.run,c.carr⟩:Cs)) else (6,c)).2
   split
   ·exact ⟨_,hs.aX id false⟩
   ·exact ⟨s,hs⟩
theorem Kw {c:Cs} (h:CI c) (id q:Int):CI (Be c id q).2:=by
 obtain ⟨s,hs⟩:=h
 unfold Be
 split
 ·exact ⟨s,hs⟩
 ·cases A2 c.A.l id with
  | none=>exact ⟨s,hs⟩
  | some a =>
    show CI (HA c id (Ed c.A a.1 q)).2
    cases Ed c.A a.1 q with
    | none=>exact ⟨s,hs⟩
    | some y=>exact ⟨_,(hs.put (B0 y)).2.1⟩
theorem LH {c:Cs} (h:CI c) (id ns:Int):CI (Bf c id ns).2:=by
 obtain ⟨s,hs⟩:=h
 unfold Bf
 split
 ·exact ⟨s,hs⟩
 ·cases A2 c.A.l id with
  | none=>exact ⟨s,hs⟩
  | some a=>exact ⟨_,(hs.put _).2.1⟩
theorem Iu {c:Cs} (h:CI c) (id q ns lag:Int):CI (Bc c id q ns lag).2:=by
 obtain ⟨s,hs⟩:=h
 unfold Bc
 split
 ·exact ⟨s,hs⟩
 ·split
  ·exact ⟨s,hs⟩
  ·split
   ·exact ⟨s,hs⟩
   ·cases Fb c id q ns lag with
    | none=>exact ⟨s,hs⟩
    | some r =>
      show CI (if Da c.A r=0 then (0,(⟨EF c.A r,c.run,DM c.carr (Bj (EF c.A r) id)⟩:Cs)) else (Da c.A r,c)).2
      split
      ·exact ⟨_,(hs.enter r).2⟩
      ·exact ⟨s,hs⟩
theorem Ot {c:Cs} (h:CI c) (ns:Int):CI (AX c ns).2.1:=by
 unfold AX
 split
 ·exact (tick_gone _ ns c .none h).2
 ·exact h
end Go.Proofs.Q0
