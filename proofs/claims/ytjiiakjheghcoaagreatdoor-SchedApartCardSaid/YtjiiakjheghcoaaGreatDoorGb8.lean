/- A part of the proof: what its functions compute. -/
import Derived.Test.YtjiiakjheghcoaaGreatDoorGb7
set_option linter.unusedVariables false
set_option linter.unusedSimpArgs false
set_option maxRecDepth 100000
set_option maxHeartbeats 64000000
set_option linter.unusedSectionVars false
namespace Go.Proofs.Q0
open Go Go.RowKit
attribute [local irreducible] XS XC XA AX AO A7 A0 AZ A8 Aa AV SE
def QY:Cs:=Cr (EV 0) (Bi (EV 0) 1 1 2 0).1 (Bi (EV 0) 1 1 2 0).2
def O9:Cs:=Cr QY (Bi QY 2 1 2 0).1 (Bi QY 2 1 2 0).2
theorem pF:(Bi (EV 0) 1 1 2 0).1=0:=by kernel_rfl
theorem oX:(Bi QY 2 1 2 0).1=0:=by kernel_rfl
theorem yZ:(Aq O9 4).1=0:=by kernel_rfl
theorem pI:(Aq O9 4).2.2.p=[⟨1,2,true⟩,⟨2,2,true⟩]:=by kernel_rfl
theorem zL:(Aq O9 4).2.2.g.length=0:=by kernel_rfl
theorem WR (w0:World) (ht:DF w0):AM Tryz.prog 231 #[] w0 fun v w'=>v = .bool true∧AA [] w0 w':=by
 have hs:=St.nil w0
 refine AQ Tryz.func231 Tryz.ntmps231 (k:=?_)
 refine Ja ?_
 refine AY hs (h:=by exact Xl _ (tab_only ht (hs.AD rfl))) (k:=?_);intro w' ho hs;refine Jc ?_
 refine AF ?_
 exact ⟨rfl,hs.AD rfl⟩
theorem lit_ls {w:World} {b e n k:Nat} {xs:List (List Value)} (hb:w.heap[b]?=some (.cells xs.flatten.toArray e (0,0))) (hn:xs.length=n) (hk:∀ x∈xs,x.length=k) (hl:xs.flatten.length=n*k):Cn w e k (.slice (some ⟨b,0,none⟩) n n) xs :=
 Ba.ls (n:=n) (G:=[b]) (.inr ⟨b,n,xs.flatten,rfl,rfl,Nat.le_refl _,hl,hl,by rw [← hl];exact List.take_length,hb⟩) rfl hn.symm hk
theorem UP.ls {w:World} {v:Value} {l:List Pr} {G:List Nat} (h:UP w v l G):Cn w 168 3 v (l.map Pr.cells):=Ba.ls h rfl (by simp) (fun x hx=>by obtain ⟨p,_,rfl⟩:=List.mem_map.1 hx;rfl)
theorem YC (w0:World) (ht:DF w0):AM Tryz.prog 211 #[] w0 fun v w'=>v = .bool true∧AA [] w0 w':=by
 have hs:=St.nil w0
 refine AQ Tryz.func211 Tryz.ntmps211 (k:=?_)
 refine Ja ?_
 refine cl (h:=by exact Vc 0 (by decide) _) (k:=?_)
 rintro v w1 ⟨⟨cb,F0,rfl,hC,Dm⟩,AJ⟩
 have JK:=AJ.size
 have Aw:=(hs.AD rfl).trans AJ
 have mK:∀ k∈F0,w0.heap.size≤k:=fun k hk=>by have:=Dm k hk;have:=(hs.AD rfl).size;omega
 have hcF:cb∈F0:=by obtain ⟨_,_,rfl,_⟩:=hC;simp
 have hcb:w0.heap.size≤cb:=mK cb hcF
 clear hs
 have hs:=St.nil w1
 refine Jd ?_
 refine cl (h:=by exact Qg cb (EV 0) F0 1 1 2 0 _ (hC.only (hs.AD rfl)) (by decide) (by decide) (by decide) (by decide)) (k:=?_)
 rw [pF]
 rintro v w2 ⟨rv,rfl,Hu,⟨F1,Dr,Ck⟩,AN⟩
 have Dr:Bc w2 cb QY F1:=by have e:=pF;unfold QY;rw [e];exact Dr
 obtain ⟨vg,vp,Gg,Gp,rfl,p1,p2⟩:=Hu
 obtain ⟨ag,cg,rfl⟩:=BO p1
 obtain ⟨ap,cp,rfl⟩:=BO p2
 have MK:=(hs.AD rfl).size
 have B8:AA [] w0 w2:=(Aw.trans (hs.AD rfl)).step AN (fun k hk => .inr (by obtain rfl:=List.mem_singleton.1 hk;exact hcb))
 clear hs
 have hs:=St.nil w2
 repeat' (first|refine Sa ?_|(refine AU hs (k:=?_);intro w hs)|(refine al hs (k:=?_);intro b w hz hs)|fail)
 refine cl (h:=by exact Qg cb QY F1 2 1 2 0 _ (Dr.only (hs.AD rfl)) (by decide) (by decide) (by decide) (by decide)) (k:=?_)
 rw [oX]
 rintro v w3 ⟨rv,rfl,Hu,⟨F2,E5,DQ⟩,AT⟩
 have E5:Bc w3 cb O9 F2:=by have e:=oX;unfold O9;rw [e];exact E5
 obtain ⟨vg,vp,Gg,Gp,rfl,p1,p2⟩:=Hu
 obtain ⟨ag,cg,rfl⟩:=BO p1
 obtain ⟨ap,cp,rfl⟩:=BO p2
 have N2:=(hs.AD rfl).size
 have EH:AA [] w0 w3:=(B8.trans (hs.AD rfl)).step AT (fun k hk => .inr (by obtain rfl:=List.mem_singleton.1 hk;exact hcb))
 clear hs
 have hs:=St.nil w3
 repeat' (first|refine Sa ?_|(refine AU hs (k:=?_);intro w hs)|(refine al hs (k:=?_);intro b w hz hs)|fail)
 have UY:(Aq O9 4).2.2.p.length < 2000000000000:=by rw [pI];decide
 have gT:(Aq O9 4).2.2.g.length≤1000000:=by rw [zL];decide
 refine cl (h:=by exact Vz cb O9 F2 4 _ (E5.only (hs.AD rfl)) (by decide) UY gT) (k:=?_)
 rw [yZ]
 rintro v w4 ⟨rv,rfl,Hu,_,Ao⟩
 obtain ⟨vg,vp,Gg,Gp,rfl,p1,p2⟩:=Hu
 obtain ⟨ag,cg,rfl⟩:=BO p1
 have p3:UP w4 vp [⟨1,2,true⟩,⟨2,2,true⟩] Gp:=by rw [← pI];exact p2
 obtain ⟨ap,cp,rfl⟩:=BO p3
 have PT:=(hs.AD rfl).size
 have CE:AA [] w0 w4:=(EH.trans (hs.AD rfl)).step Ao (fun k hk => .inr (by obtain rfl:=List.mem_singleton.1 hk;exact hcb))
 clear hs
 have hs:=St.nil w4
 repeat' (first|refine Sa ?_|(refine AU hs (k:=?_);intro w hs)|(refine al hs (k:=?_);intro b w hz hs)|fail)
 have Ed:=CE.trans (hs.AD rfl)
 refine AY hs (h:=by exact WR _ (tab_only ht Ed)) (k:=?_);intro w' ho hs;repeat' (first|refine vs (k:=?_)|(refine bs hs (k:=?_);intro b w hz hs)|fail)
 have mJ:=lit_ls (xs:=[Pr.cells ⟨1,2,true⟩,Pr.cells ⟨2,2,true⟩]) (k:=3) (hs.get At.head) rfl (by decide) rfl
 refine cl (h:=by exact rX _ _ [⟨1,2,true⟩,⟨2,2,true⟩] [⟨1,2,true⟩,⟨2,2,true⟩] (by decide) _ ((UP.ls p3).only (hs.AD rfl)) mJ) (k:=?_)
 rw [show decide ([(⟨1,2,true⟩:Pr),⟨2,2,true⟩]=[⟨1,2,true⟩,⟨2,2,true⟩])=true by decide]
 rintro v w' ⟨rfl,ho⟩;replace hs:=hs.AK ho;refine Jc ?_
 refine AF ?_
 exact ⟨rfl,CE.trans (hs.AD rfl)⟩
theorem XU (w0:World) (ht:DF w0):AM Tryz.prog 174 #[] w0 fun v w'=>v = .bool true∧AA [] w0 w':=by
 have hs:=St.nil w0
 refine AQ Tryz.func174 Tryz.ntmps174 (k:=?_)
 refine Ja ?_
 refine AY hs (h:=by exact YC _ (tab_only ht (hs.AD rfl))) (k:=?_);intro w' ho hs;refine Jc ?_
 refine AF ?_
 exact ⟨rfl,hs.AD rfl⟩
def Om (x u:Int):Int:=if x > max u 0 then max u 0 else if x < -(max u 0) then -(max u 0) else x
theorem jH {x u:Int} (hw:In64 u):In64 (Om x u):=by
 unfold Om In64 at *
 split
 ·omega
 ·split <;> omega
theorem iK (x u:Int) (hx:A9 x) (hw:In64 u) (w0:World):AM Tryz.prog 108 #[wv x,.int .i64 u] w0 fun v w'=>v = .int .i64 (Om x u)∧AA [] w0 w':=by
 have hs:=St.nil w0
 refine AQ Tryz.func108 Tryz.ntmps108 (k:=?_)
 repeat' (first|refine Sa ?_|(refine bx hs (k:=?_);intro b w hz hs)|fail)
 have eC:Om x u=if x > max u 0 then max u 0 else if x < -(max u 0) then -(max u 0) else x:=rfl
 have hm:0≤max u 0∧max u 0 < 9223372036854775808:=by unfold In64 at hw;omega
 rw [show (if 0 > u then 0 else u)=max u 0 by split <;> omega]
 generalize max u 0=m at *
 have m1:A9 m:=by unfold A9;omega
 have m2:A9 (-m):=by unfold A9;omega
 have c1:CX x m > 0↔m < x:=sL
 have c2:CX x (-m) < 0↔x < -m:=qY
 refine dr [] hs (k:=?_);intro hX w hs
 refine tks 0 2 ?_
 refine dt 2 hX (k:=?_)
 refine AY hs (h:=by exact Fp m om om _) (k:=?_);intro w' ho hs;refine Jb ?_
 refine dn (k:=?_)
 refine dt 3 hX (k:=?_)
 refine AY hs (h:=by exact SW x m hx m1 _) (k:=?_);intro w' ho hs;refine Jb ?_
 refine dn (k:=?_)
 refine tks 4 2 ?_
 refine en (k:=?_)
 by_cases h:m < x
 ·rw [if_pos h] at eC
  rw [decide_eq_true (c1.2 h),eC]
  refine Je ?_
  refine AF ?_
  exact ⟨rfl,hs.AD rfl⟩
 rw [if_neg h] at eC
 rw [decide_eq_false (fun k=>h (c1.1 k))]
 refine Jg ?_
 have em:IntKind.i64.wrap (0 - m)=-m:=by rw [wrap_i64];omega
 refine dr [] hs (k:=?_);intro hX w hs
 refine tks 0 3 ?_
 refine dt 3 hX (k:=?_)
 refine cl (h:=by exact Fp (IntKind.i64.wrap (0 - m)) (by rw [em];omega) (by rw [em];omega) _) (k:=?_)
 rw [em]
 rintro v w' ⟨rfl,ho⟩;replace hs:=hs.AK ho;refine Jb ?_
 refine dn (k:=?_)
 refine dt 4 hX (k:=?_)
 refine AY hs (h:=by exact SW x (-m) hx m2 _) (k:=?_);intro w' ho hs;refine Jb ?_
 refine dn (k:=?_)
 refine tks 5 2 ?_
 refine en (k:=?_)
 by_cases h2:x < -m
 ·rw [if_pos h2] at eC
  rw [decide_eq_true (c2.2 h2),eC]
  refine Je ?_
  refine AF ?_
  exact ⟨Mt em,hs.AD rfl⟩
 rw [if_neg h2] at eC
 rw [decide_eq_false (fun k=>h2 (c2.1 k)),eC]
 refine Jd ?_
 refine AY hs (h:=by exact Un x hx (by unfold In64;omega) _) (k:=?_);intro w' ho hs;refine Ja ?_
 refine AF ?_
 exact ⟨rfl,hs.AD rfl⟩
structure Cf where
 cores:Int
 tasks:Int
 tick:Int
 slice:Int
 origin:Int
def QC (c:Cf):Value := .agg #[.int .i64 c.cores,.int .i64 c.tasks,.int .u64 c.tick,.int .u64 c.slice,.int .u64 c.origin]
def Cf.In (c:Cf):Prop:=In64 c.cores∧In64 c.tasks∧BV c.tick∧BV c.slice∧BV c.origin
def BC (n e:Int):Int:=if n < 1∨n > e then 3 else 0
theorem FX (n e:Int) (w0:World):AM Tryz.prog 62 #[.int .u64 n,.int .u64 e] w0 fun v w'=>v = .int .i64 (BC n e)∧AA [] w0 w':=by
 have hs:=St.nil w0
 refine AQ Tryz.func62 Tryz.ntmps62 (k:=?_)
 refine Jb ?_
 refine Al ?_
 refine vs (k:=?_)
 refine Jb ?_
 refine Al ?_
 refine vs (k:=?_)
 refine vs (k:=?_)
 unfold BC
 by_cases c1:n < 1
 ·rw [decide_eq_true c1,if_pos (.inl c1)]
  refine Jh ?_
  refine AF ?_
  exact ⟨rfl,hs.AD rfl⟩
 rw [decide_eq_false c1]
 refine vs (k:=?_)
 refine vs (k:=?_)
 refine vs (k:=?_)
 refine vs (k:=?_)
 by_cases c2:n > e
 ·rw [decide_eq_true c2,if_pos (.inr c2)]
  refine Je ?_
  refine AF ?_
  exact ⟨rfl,hs.AD rfl⟩
 rw [decide_eq_false c2,if_neg om]
 refine Jd ?_
 refine AF ?_
 exact ⟨rfl,hs.AD rfl⟩
def tW (e:Int):List Value:=[.int .i64 e]
def Fh:List Int→Int
 | []=>0
 | e :: l=>if e≠0 then e else Fh l
theorem dO {l:List Int} {i:Nat} (h:i < l.length):Fh (l.drop i)=if l[i]≠0 then l[i] else Fh (l.drop (i+1)):=by rw [List.drop_eq_getElem_cons h];rfl
theorem ZA (l:List Int) (sl:Value) (hm:l.length≤9223372036854775807) (w0:World) (hL:R6 w0 1 sl (l.map tW)):AM Tryz.prog 52 #[sl] w0 fun v w'=>v = .int .i64 (Fh l)∧AA [] w0 w':=by
 obtain ⟨ad,cap,rfl,hD⟩:=hL
 rw [List.length_map] at *
 have hs:=St.nil w0
 refine AQ Tryz.func52 Tryz.ntmps52 (k:=?_)
 refine Ja ?_
 refine BN (fun (_:Unit)=>[]) (fun _ w=>Fh l=0∧AA [] w0 w) ?_ ?_
 ·refine BD (fun (i:Nat)=>[(5,.slice ad l.length cap),(6,.int .i64 (l.length:Nat)),(7,.int .i64 (i:Nat))]) (fun i w=>i≤l.length∧Fh (l.drop i)=Fh l∧AA [] w0 w) (fun i=>l.length - i) 0 Ab ⟨Nat.zero_le _,by rw [List.drop_zero],hs.AD rfl⟩ fun i env wl ⟨hi,he,BS⟩=>?_
  clear hs
  have hs:=St.nil wl
  repeat' (first|refine Sa ?_|refine Au rfl (fun hc=>?_) fun hc=>?_|fail)
  ·have hlt:i < l.length:=by omega
   obtain ⟨b,off,cs,E,fz,rfl,hb,hcs⟩:=hD (fun h=>by have:=congrArg List.length h;rw [List.length_map,List.length_nil] at this;omega)
   have hpk:=hcs i (tW l[i]) (by rw [List.getElem?_map,List.getElem?_eq_getElem hlt];rfl)
   have ei:=D2 (m:=l.length) hlt hm
   rw [dO hlt] at he
   generalize l[i]=q at *
   refine ix (h0:=(by omega)) (h1:=(by omega)) (k:=?_)
   refine lh (BS.block hb (by simp)) (by cases hpk;assumption) (k:=?_)
   by_cases hq:q=0
   ·subst hq
    rw [if_neg (by simp)] at he
    refine Jd ?_
    exact A2 (i+1) (by show l.length - (i+1) < l.length - i;omega) (by (repeat (first | exact Ac | (apply A5;first | exact rfl | exact congrArg (Value.int .i64) ei)))) ⟨by show i+1≤_;omega,he,BS.trans (hs.AD rfl)⟩
   ·rw [if_pos hq] at he
    repeat' (first|refine Sa ?_|refine xc_cond rfl (fun hc=>?_) fun hc=>?_|fail)
    ·refine AF ?_
     exact ⟨by rw [← he];rfl,BS.trans (hs.AD rfl)⟩
    ·exact absurd (by simpa using hc) hq
  ·have e:i=l.length:=by omega
   subst e
   rw [List.drop_length] at he
   exact Ar () Ab ⟨he.symm,BS⟩
 ·rintro _ env w ⟨he,BS⟩
  clear hs
  have hs:=St.nil w
  refine Ja ?_
  refine AF ?_
  exact ⟨by rw [he];rfl,BS.trans (hs.AD rfl)⟩
def Bx (c:Cf) (k:Int):Int:=if k < 0∨k≥c.cores then 5 else 0
theorem KK (c:Cf) (k:Int) (w0:World):AM Tryz.prog 41 #[QC c,.int .i64 k] w0 fun v w'=>v = .int .i64 (Bx c k)∧AA [] w0 w':=by
 have hs:=St.nil w0
 refine AQ Tryz.func41 Tryz.ntmps41 (k:=?_)
 refine Jb ?_
 refine Al ?_
 refine bx hs (k:=?_);intro b w hz hs
 refine vs (k:=?_)
 refine Jb ?_
 refine Al ?_
 refine vs (k:=?_)
 refine vs (k:=?_)
 unfold Bx
 by_cases c1:k < 0
 ·rw [decide_eq_true c1,if_pos (.inl c1)]
  refine Jh ?_
  refine AF ?_
  exact ⟨rfl,hs.AD rfl⟩
 rw [decide_eq_false c1]
 refine vs (k:=?_)
 refine vs (k:=?_)
 refine vs (k:=?_)
 refine vs (k:=?_)
 refine vs (k:=?_)
 by_cases c2:c.cores≤k
 ·rw [decide_eq_true c2,if_pos (.inr c2)]
  refine Je ?_
  refine AF ?_
  exact ⟨rfl,hs.AD rfl⟩
 rw [decide_eq_false c2,if_neg om]
 refine Jd ?_
 refine AF ?_
 exact ⟨rfl,hs.AD rfl⟩
def Dp (n:Int):Int:=if 1099511627776 < n then 1099511627776 else n
theorem OS (c:Cf) (n:Int) (w0:World):AM Tryz.prog 54 #[QC c,.int .u64 n] w0 fun v w'=>v = .int .i64 (BC n (Dp c.slice))∧AA [] w0 w':=by
 have hs:=St.nil w0
 refine AQ Tryz.func54 Tryz.ntmps54 (k:=?_)
 repeat' (first|refine Sa ?_|(refine bx hs (k:=?_);intro b w hz hs)|fail)
 refine AY hs (h:=by exact FX n (Dp c.slice) _) (k:=?_);intro w' ho hs;refine Jc ?_
 refine AF ?_
 exact ⟨rfl,hs.AD rfl⟩
theorem jU (c:Cf) (n:Int) (w0:World):AM Tryz.prog 58 #[QC c,.int .u64 n] w0 fun v w'=>v = .int .i64 (BC n (Dp c.tick))∧AA [] w0 w':=by
 have hs:=St.nil w0
 refine AQ Tryz.func58 Tryz.ntmps58 (k:=?_)
 repeat' (first|refine Sa ?_|(refine bx hs (k:=?_);intro b w hz hs)|fail)
 refine AY hs (h:=by exact FX n (Dp c.tick) _) (k:=?_);intro w' ho hs;refine Jc ?_
 refine AF ?_
 exact ⟨rfl,hs.AD rfl⟩
theorem OO (c:Cf) (n:Int) (w0:World):AM Tryz.prog 53 #[QC c,.int .u64 n] w0 fun v w'=>v = .int .i64 (BC n 1048576)∧AA [] w0 w':=by
 have hs:=St.nil w0
 refine AQ Tryz.func53 Tryz.ntmps53 (k:=?_)
 repeat' (first|refine Sa ?_|(refine bx hs (k:=?_);intro b w hz hs)|fail)
 refine AY hs (h:=by exact FX n 1048576 _) (k:=?_);intro w' ho hs;refine Jc ?_
 refine AF ?_
 exact ⟨rfl,hs.AD rfl⟩
def GH (c:Cf) (x s:Int):Int:=Om x ((KT s c.tick).getD 0)
theorem Yy (s t:Int):In64 ((KT s t).getD 0):=by
 unfold KT
 split
 ·show In64 ((2*s+t)*1048576)
  unfold In64;omega
 ·decide
theorem Q5 (c:Cf) (x s:Int) (hc:c.In) (hx:A9 x) (hs0:BV s) (w0:World):AM Tryz.prog 70 #[QC c,wv x,.int .u64 s] w0 fun v w'=>v = .int .i64 (GH c x s)∧AA [] w0 w':=by
 have hs:=St.nil w0
 refine AQ Tryz.func70 Tryz.ntmps70 (k:=?_)
 repeat' (first|refine Sa ?_|(refine bx hs (k:=?_);intro b w hz hs)|fail)
 refine AY hs (h:=by exact SS s c.tick hs0 hc.2.2.1 _) (k:=?_);intro w' ho hs;refine Ja ?_
 refine AY hs (h:=by exact iK x ((KT s c.tick).getD 0) hx (Yy _ _) _) (k:=?_);intro w' ho hs;refine Jc ?_
 refine AF ?_
 exact ⟨rfl,hs.AD rfl⟩
def FK (c:Cf):Int:=if c.cores < 1∨c.tasks < 1 then 3 else Fh [BC c.cores 8,BC c.tasks 32,BC c.tick 1099511627776,BC c.slice 1099511627776]
theorem UX (c:Cf) (hc0:c.In) (w0:World):AM Tryz.prog 29 #[QC c] w0 fun v w'=>v = .int .i64 (FK c)∧AA [] w0 w':=by
 obtain ⟨i1,i2,i3,i4,i5⟩:=hc0
 unfold In64 at i1 i2
 have hs:=St.nil w0
 refine AQ Tryz.func29 Tryz.ntmps29 (k:=?_)
 refine Jb ?_
 refine Al ?_
 refine bx hs (k:=?_);intro b w hz hs
 refine vs (k:=?_)
 refine Jb ?_
 refine Al ?_
 refine vs (k:=?_)
 refine vs (k:=?_)
 refine vs (k:=?_)
 unfold FK
 by_cases c1:c.cores < 1
 ·rw [decide_eq_true c1,if_pos (.inl c1)]
  refine Jh ?_
  refine AF ?_
  exact ⟨rfl,hs.AD rfl⟩
 rw [decide_eq_false c1]
 refine vs (k:=?_)
 refine vs (k:=?_)
 refine vs (k:=?_)
 refine vs (k:=?_)
 by_cases c2:c.tasks < 1
 ·rw [decide_eq_true c2,if_pos (.inr c2)]
  refine Je ?_
  refine AF ?_
  exact ⟨rfl,hs.AD rfl⟩
 rw [decide_eq_false c2,if_neg om]
 refine Jl ?_
 have e1:IntKind.u64.wrap c.cores=c.cores:=by rw [wrap_u64];omega
 have e2:IntKind.u64.wrap c.tasks=c.tasks:=by rw [wrap_u64];omega
 refine dr [] hs (k:=?_);intro hX w hs
 refine tks 0 3 ?_
 refine tks 4 3 ?_
 refine tks 8 2 ?_
 refine tks 11 2 ?_
 refine dt 3 hX (k:=?_)
 refine cl (h:=by exact FX (IntKind.u64.wrap c.cores) 8 _) (k:=?_)
 rw [e1]
 rintro v w' ⟨rfl,ho⟩;replace hs:=hs.AK ho;refine Jb ?_
 refine dn (k:=?_)
 refine dt 7 hX (k:=?_)
 refine cl (h:=by exact FX (IntKind.u64.wrap c.tasks) 32 _) (k:=?_)
 rw [e2]
 rintro v w' ⟨rfl,ho⟩;replace hs:=hs.AK ho;refine Jb ?_
 refine dn (k:=?_)
 refine dt 10 hX (k:=?_)
 refine AY hs (h:=by exact FX c.tick 1099511627776 _) (k:=?_);intro w' ho hs;refine Jb ?_
 refine dn (k:=?_)
 refine dt 13 hX (k:=?_)
 refine AY hs (h:=by exact FX c.slice 1099511627776 _) (k:=?_);intro w' ho hs;refine Jb ?_
 refine dn (k:=?_)
 refine dt 14 hX (k:=?_)
 repeat' (first|refine Nx.h ?_|(refine bs hs (k:=?_);intro b w hz hs)|fail)
 refine dn (k:=?_)
 refine dt 15 hX (k:=?_)
 refine AY hs (h:=by exact ZA [BC c.cores 8,BC c.tasks 32,BC c.tick 1099511627776,BC c.slice 1099511627776] _ (by simp) _ (lit_ls (n:=4) (hs.get At.head) rfl (fun x hx=>by obtain ⟨e,_,rfl⟩:=List.mem_map.1 hx;rfl) rfl).x) (k:=?_);intro w' ho hs;refine Jb ?_
 refine dn (k:=?_)
 refine tk 16 hX (k:=?_)
 refine en (k:=?_)
 refine Jb ?_
 refine AF ?_
 exact ⟨rfl,hs.AD rfl⟩
theorem XZ (w0:World) (ht:DF w0):AM Tryz.prog 135 #[] w0 fun v w'=>v = .bool true∧AA [] w0 w':=by
 have hs:=St.nil w0
 refine AQ Tryz.func135 Tryz.ntmps135 (k:=?_)
 repeat' (first|refine Sa ?_|(refine AU hs (k:=?_);intro w hs)|(refine al hs (k:=?_);intro b w hz hs)|fail)
 refine AY hs (h:=by exact XU _ (tab_only ht (hs.AD rfl))) (k:=?_);intro w' ho hs;refine Jf ?_
 refine cl (h:=by exact UX ⟨2,3,4,5,0⟩ (by unfold Cf.In;decide) _) (k:=?_)
 rw [show FK ⟨2,3,4,5,0⟩=0 by decide]
 rintro v w' ⟨rfl,ho⟩;replace hs:=hs.AK ho;refine Jf ?_
 refine cl (h:=by exact KK ⟨2,3,4,5,0⟩ 2 _) (k:=?_)
 rw [show Bx ⟨2,3,4,5,0⟩ 2=5 by decide]
 rintro v w' ⟨rfl,ho⟩;replace hs:=hs.AK ho;refine Jf ?_
 refine cl (h:=by exact KK ⟨2,3,4,5,0⟩ 1 _) (k:=?_)
 rw [show Bx ⟨2,3,4,5,0⟩ 1=0 by decide]
 rintro v w' ⟨rfl,ho⟩;replace hs:=hs.AK ho;refine Jc ?_
 refine AF ?_
 exact ⟨rfl,hs.AD rfl⟩
theorem Xn (w0:World) (ht:DF w0):AM Tryz.prog 97 #[] w0 fun v w'=>v = .bool true∧AA [] w0 w':=by
 have hs:=St.nil w0
 refine AQ Tryz.func97 Tryz.ntmps97 (k:=?_)
 refine Ja ?_
 refine AY hs (h:=by exact XZ _ (tab_only ht (hs.AD rfl))) (k:=?_);intro w' ho hs;refine Jc ?_
 refine AF ?_
 exact ⟨rfl,hs.AD rfl⟩
theorem iI (zs:List Value) (k:Nat) (hk:zs.length=k) (h0:0 < k):∀ m:Nat,madeCells zs.toArray (m*k)=((List.replicate m zs).flatten).toArray:=by
 have H:∀ m:Nat,(List.range (m*k)).map (fun i=>zs.toArray[i % zs.toArray.size]!)=(List.replicate m zs).flatten:=fun m=>by
  induction m with
  | zero=>simp
  | succ m ih =>
    rw [Nat.add_mul,Nat.one_mul,List.range_add,List.map_append,ih,List.replicate_succ',List.flatten_append,List.flatten_singleton,List.map_map]
    congr 1
    apply List.ext_getElem
    ·simp [hk]
    ·intro i h1 h2
     simp only [List.length_map,List.length_range] at h1
     simp only [List.getElem_map,List.getElem_range,Function.comp,List.size_toArray,hk]
     rw [show (m*k+i) % k=i by rw [Nat.mul_comm,Nat.mul_add_mod,Nat.mod_eq_of_lt h1]]
     simp [h2]
 intro m
 apply Array.toList_inj.1
 rw [← H m]
 simp [madeCells]
section
variable {P : Program} {ops : Array Oper} {QE : Exit → Env → World → Prop} {n : Nat} {rest : List Oper} {env : Env} {w wb : World} {D : Ctx} {H : List Bn} {T : Lc}
 {d:Option Nat} {ty:Nat} {pos:String} {Am:Array Edge} {g:Option (Nat × Bool)}
theorem lW (hT:Bf P T) {t e size bytes m:Nat} {zs:List Value} {x y:Operand} {kl kc:IntKind} (hw:BA ops env g=true) (Cx:look t T.sls=some (e,size,bytes)) (hz:look e T.zs=some zs) (hzl:Nat.beq zs.length size=true) (h0:Nat.ble 1 size=true)
 (hx:ev env x = .int kl (m:Nat)) (hy:ev env y = .int kc (m:Nat)) (hb:bytes*m≤281474976710656) (hm:m≤9223372036854775807) (hs:St wb D H w)
 (k:∀ b w',w'.heap.size=w.heap.size+1→St wb D ((b,.cells ((List.replicate m zs).flatten).toArray e,true) :: H) w'→XS P ops QE n rest (Bp env d (.slice (some ⟨b,0,none⟩) m m)) w') :
 XS P ops QE n (⟨d,.makeSlice t x y,ty,pos,Am,g⟩ :: rest) env w:=by
 obtain ⟨hu,i,hi,hs1,hs2⟩:=Gw (hT.sl Cx)
 obtain ⟨i',z,hi',R7,KO⟩:=TA (hT.z hz)
 rw [hi] at hi';cases hi'
 have hr:=run_make (P:=P) w t e i z hu hi R7 kl kc (m:Nat) (m:Nat) om (Int.le_refl _) (by rw [hs2,← Int.natCast_mul];omega) om
 rw [hs1,KO,Int.toNat_natCast,iI zs size (Nat.eq_of_beq_eq_true hzl) (Nat.le_of_ble_eq_true h0)] at hr
 refine XS.value hw (v := .slice (some ⟨w.heap.size,0,none⟩) m m) (w':=w.alloc (.cells ((List.replicate m zs).flatten).toArray e)) ?_ (k w.heap.size _ (by simp) (hs.alloc _))
 simp [execOp,hx,hy,Sem.run_bind,hr]
end
structure Tk where
 id:Int
 st:Int
 core:Int
 w:Int
 slice:Int
 lag:Int
deriving DecidableEq
abbrev Tk.cells (x:Tk):List Value:=[.int .i64 x.id,.int .u8 x.st,.int .i64 x.core,.int .u32 x.w,.int .u64 x.slice,.int .i64 x.lag]
def Jx (x:Tk):Value := .agg #[.int .i64 x.id,.int .u8 x.st,.int .i64 x.core,.int .u32 x.w,.int .u64 x.slice,.int .i64 x.lag]
def Tk.zero:Tk:=⟨0,0,0,0,0,0⟩
def D7 (l:List Tk):List Value:=(l.map Tk.cells).flatten
abbrev aAW (rb n cap:Nat):Obj := .cells #[.slice (some ⟨rb,0,none⟩) n cap] 97 (0,0)
abbrev L8 (l:List Tk) (rest:List Value):Obj := .cells (D7 l ++ rest).toArray 51 (0,0)
def DW (w:World) (tb rb:Nat) (l:List Tk):Prop:=∃ cap rest,w.heap[tb]?=some (aAW rb l.length cap)∧w.heap[rb]?=some (L8 l rest)∧l.length≤32∧l.length≤cap∧rest.length+l.length*6=cap*6
theorem DW.keep {w w':World} {tb rb:Nat} {l:List Tk} {F:List Nat} (h:DW w tb rb l) (ho:AA F w w') (h1:tb∉F) (h2:rb∉F):DW w' tb rb l:=by
 obtain ⟨cap,rest,a,b,c⟩:=h
 exact ⟨cap,rest,ho.block a h1,ho.block b h2,c⟩
theorem DW.only {w w':World} {tb rb:Nat} {l:List Tk} (h:DW w tb rb l) (ho:AA [] w w'):DW w' tb rb l:=h.keep ho (by simp) (by simp)
theorem mX {cs more vs:List Value} {off n:Nat} (h:Dc cs off n vs):Dc (cs ++ more) off n vs:=by
 induction h with
 | nil=>exact .nil
 | cons h1 _ ih=>exact .cons (by rw [List.getElem?_append_left (by
  rcases Nat.lt_or_ge _ cs.length with h | h
  ·exact h
  ·rw [List.getElem?_eq_none h] at h1;cases h1)];exact h1) ih
theorem NZ {l:List Tk} {rest:List Value} {i:Nat} (h:i < l.length):Dc (D7 l ++ rest) (i*6) 6 l[i].cells:=by
 refine mX (pick_of rfl ?_)
 unfold D7
 exact Qm (fun y hy=>by obtain ⟨x,_,rfl⟩:=List.mem_map.1 hy;rfl) (by rw [List.getElem?_map,List.getElem?_eq_getElem h];rfl)
def Es (n:Int):Nat:=(max 0 (min n 32)).toNat
theorem Uw (n:Int) (w0:World):AM Tryz.prog 30 #[.int .i64 n] w0 fun v w'=>(∃ tb rb,v = .pointer (some ⟨tb,0,none⟩)∧DW w' tb rb (List.replicate (Es n) .zero)∧w0.heap.size≤tb∧w0.heap.size≤rb∧tb≠rb)∧AA [] w0 w':=by
 have hs:=St.nil w0
 refine AQ Tryz.func30 Tryz.ntmps30 (k:=?_)
 refine Ja ?_
 have hle:Es n≤32:=by unfold Es;omega
 rw [show (if (if (32:Int) < n then 32 else n) > 0 then (if (32:Int) < n then 32 else n) else 0)=((Es n:Nat):Int) by unfold Es;split <;> split <;> omega]
 generalize Es n=m at *
 refine lW AI (m:=m) rfl rfl rfl rfl rfl rfl rfl om om hs (k:=?_)
 intro rb w1 JK hs
 have g1:=hs.new _ List.mem_cons_self rfl
 simp only at g1
 refine vs (k:=?_)
 refine bx hs (k:=?_);intro tb w2 MK hs
 have g2:=hs.new _ List.mem_cons_self rfl
 simp only at g2
 have hnd:=hs.nd
 simp only [List.map_cons,List.nodup_cons,List.mem_cons,List.map_nil,List.not_mem_nil,or_false] at hnd
 refine Jc ?_
 refine AF ?_
 refine ⟨⟨tb,rb,rfl,⟨m,[],?_,?_,by rw [List.length_replicate];exact hle,by rw [List.length_replicate];exact ⟨Nat.le_refl _,by simp⟩⟩,g2,g1,hnd.1⟩,hs.AD rfl⟩
 ·rw [List.length_replicate];exact hs.get At.head
 ·have:=hs.get (At.tail At.head)
  rw [this]
  unfold L8 D7
  rw [List.map_replicate,List.append_nil];rfl
theorem RU (x:Tk) (w0:World):AM Tryz.prog 90 #[Jx x] w0 fun v w'=>v = .bool (decide (1≤x.st) && decide (x.st≤3))∧AA [] w0 w':=by
 have hs:=St.nil w0
 refine AQ Tryz.func90 Tryz.ntmps90 (k:=?_)
 repeat' (first|refine Sf ?_|(refine bx hs (k:=?_);intro b w hz hs)|((with_reducible apply BM);exact rfl;exact rfl;intro c hc;(fail_if_success have:true=c:=hc);(fail_if_success have:false=c:=hc);cases c)|fail)
 all_goals (refine AF ?_)
 all_goals refine ⟨?_,hs.AD rfl⟩
 all_goals clear hs
 ·have h1:decide (1≤x.st)=false:=hc
  rw [h1];rfl
 ·have h1:decide (1≤x.st)=true:=hc
  rw [h1];rfl
def BI (l:List Tk) (id:Int):Option Nat:=if 1≤id∧id≤l.length∧(l.getD (id - 1).toNat .zero).st≠0 then some (id - 1).toNat else none
theorem IF {l:List Tk} {id:Int} {i:Nat} (h:BI l id=some i):i < l.length∧id=(i:Int)+1:=by
 unfold BI at h
 split at h
 ·cases h;omega
 ·cases h
def aC (o:Option Nat):Int:=match o with | some i=>(i:Int) | none=>0
def Dd (o:Option Nat):Int:=match o with | some _=>0 | none=>4
theorem OQ (tb rb:Nat) (l:List Tk) (id:Int) (w0:World) (h:DW w0 tb rb l) (hid:In64 id):AM Tryz.prog 38 #[.pointer (some ⟨tb,0,none⟩),.int .i64 id] w0 fun v w'=>v = .tuple #[.int .i64 (aC (BI l id)),.int .i64 (Dd (BI l id))]∧AA [] w0 w':=by
 obtain ⟨cap,rest,h1,h2,h3,h4⟩:=h
 have hs:=((St.nil w0).AE h1).AE h2
 refine AQ Tryz.func38 Tryz.ntmps38 (k:=?_)
 refine Jb ?_
 refine Al ?_
 refine vs (k:=?_)
 refine vs (k:=?_)
 refine Jb ?_
 refine Al ?_
 refine vs (k:=?_)
 refine vs (k:=?_)
 refine vs (k:=?_)
 refine Jg ?_
 refine Al ?_
 refine vs (k:=?_)
 refine vs (k:=?_)
 by_cases c1:id < 1
 ·have e:BI l id=none:=if_neg om
  rw [decide_eq_true c1,e]
  refine Jh ?_
  refine AF ?_
  exact ⟨rfl,hs.AB [] (by simp [h1,h2]) (by simp [D0])⟩
 rw [decide_eq_false c1]
 iterate 8 refine vs (k:=?_)
 by_cases c2:id > (l.length:Nat)
 ·have e:BI l id=none:=if_neg om
  rw [decide_eq_true c2,e]
  refine Jh ?_
  refine AF ?_
  exact ⟨rfl,hs.AB [] (by simp [h1,h2]) (by simp [D0])⟩
 rw [decide_eq_false c2]
 obtain ⟨i,rfl⟩:∃ i:Nat,id=(i:Int)+1:=⟨(id - 1).toNat,by omega⟩
 have hi:i < l.length:=by omega
 have ew:IntKind.i64.wrap ((i:Int)+1 - 1)=(i:Int):=by rw [wrap_i64];omega
 have ei:((i:Int)+1 - 1).toNat=i:=by omega
 have hpk:=NZ (rest:=rest) hi
 have eF:BI l ((i:Int)+1)=if l[i].st≠0 then some i else none:=by
  unfold BI
  rw [ei,List.getD_eq_getElem?_getD,List.getElem?_eq_getElem hi]
  by_cases hq:l[i].st=0
  ·rw [if_neg (by simp [hq]),if_neg (by simp [hq])]
  ·rw [if_pos ⟨by omega,by omega,by simpa using hq⟩,if_pos hq]
 generalize l[i]=q at *
 iterate 8 refine vs (k:=?_)
 rw [ew]
 refine ix (h0:=(by omega)) (h1:=(by omega)) (k:=?_)
 refine vs (k:=?_)
 refine lh (v := .int .u8 q.st) (hs.get At.head) ?_ (k:=?_)
 ·cases hpk with | cons a t=>cases t with | cons a2 _=>simpa using a2
 refine vs (k:=?_)
 by_cases hq:q.st=0
 ·rw [if_neg (by simp [hq])] at eF
  rw [eF,hq]
  refine Je ?_
  refine AF ?_
  exact ⟨rfl,hs.AB [] (by simp [h1,h2]) (by simp [D0])⟩
 ·rw [if_pos hq] at eF
  rw [eF,show (q.st == 0)=false by simpa using hq]
  refine Jd ?_
  refine AF ?_
  refine ⟨?_,hs.AB [] (by simp [h1,h2]) (by simp [D0])⟩
  show Value.tuple _=Value.tuple _
  rw [ew];rfl
def BF (l:List Tk) (id:Int):Tk:=match BI l id with | some i=>l.getD i .zero | none => .zero
theorem Od (tb rb:Nat) (l:List Tk) (id:Int) (w0:World) (h:DW w0 tb rb l) (hid:In64 id):AM Tryz.prog 13 #[.pointer (some ⟨tb,0,none⟩),.int .i64 id] w0 fun v w'=>v = .tuple #[Jx (BF l id),.int .i64 (Dd (BI l id))]∧AA [] w0 w':=by
 have hT:=h
 obtain ⟨cap,rest,h1,h2,h3,h4⟩:=h
 have hs:=((St.nil w0).AE h1).AE h2
 refine AQ Tryz.func13 Tryz.ntmps13 (k:=?_)
 refine Ag ?_
 refine Al ?_
 refine al hs (k:=?_);intro b4 w hz hs
 refine Ja ?_
 refine cl (h:=by exact OQ tb rb l id _ (hT.only (hs.AB [] (by simp [h1,h2]) (by simp [D0]))) hid) (k:=?_)
 unfold BF
 cases e:BI l id with
 | none =>
   rintro v w' ⟨rfl,ho⟩;replace hs:=hs.AK ho;repeat' (first|refine Sc ?_|(refine AU hs (k:=?_);intro w hs)|fail)
   refine AF ?_
   exact ⟨rfl,hs.AB [] (by simp [h1,h2]) (by simp [D0])⟩
 | some i =>
   obtain ⟨hi,_⟩:=IF e
   have hpk:=NZ (rest:=rest) hi
   have eG:l.getD i .zero=l[i]:=by rw [List.getD_eq_getElem?_getD,List.getElem?_eq_getElem hi];rfl
   simp only
   rw [eG]
   generalize l[i]=q at *
   rintro v w' ⟨rfl,ho⟩;replace hs:=hs.AK ho;refine Jd ?_
   refine ix (h0:=(by show (0:Int)≤(i:Int);omega)) (h1:=(by show (i:Int) < _;omega)) (k:=?_)
   refine KH (vs:=q.cells) (hs.get (b:=rb) (o:=L8 l rest) (by repeat (first | exact At.head | (with_reducible apply At.tail)))) ?_ (k:=?_)
   ·simpa [aC] using hpk
   repeat' (first|refine Sb ?_|(refine AU hs (k:=?_);intro w hs)|fail)
   refine AF ?_
   exact ⟨rfl,hs.AB [] (by simp [h1,h2]) (by simp [D0])⟩
theorem Ht (x:Tk) (l:List Tk):D7 (x :: l)=x.cells ++ D7 l:=by simp [D7]
theorem PM (y:Tk) {rest:List Value}:∀ {l:List Tk} {i:Nat},i < l.length→Ai (D7 l ++ rest) (i*6) y.cells (D7 (l.set i y) ++ rest)
 | [],i,h=>absurd h (Nat.not_lt_zero _)
 | x :: l,0,_=>by
   rw [Ht,List.set_cons_zero,Ht,List.append_assoc,List.append_assoc]
   exact .cons (.cons (.cons (.cons (.cons (.cons .nil)))))
 | x :: l,i+1,h=>by
   have ih:=PM y (rest:=rest) (l:=l) (i:=i) (Nat.lt_of_succ_lt_succ h)
   rw [Ht,List.set_cons_succ,Ht,List.append_assoc,List.append_assoc,show (i+1)*6=i*6+1+1+1+1+1+1 by omega]
   exact .skip (.skip (.skip (.skip (.skip (.skip ih)))))
def FJ (l:List Tk) (id:Int):List Tk:=match BI l id with | some i=>l.set i .zero | none=>l
theorem Th (tb rb:Nat) (l:List Tk) (id:Int) (w0:World) (h:DW w0 tb rb l) (hid:In64 id):AM Tryz.prog 67 #[.pointer (some ⟨tb,0,none⟩),.int .i64 id] w0 fun v w'=>v = .int .i64 (Dd (BI l id))∧DW w' tb rb (FJ l id)∧AA [rb] w0 w':=by
 have hT:=h
 obtain ⟨cap,rest,h1,h2,h3,h4⟩:=h
 have hs:=((St.nil w0).AE h1).AE h2
 refine AQ Tryz.func67 Tryz.ntmps67 (k:=?_)
 refine Ja ?_
 refine cl (h:=by exact OQ tb rb l id _ (hT.only (hs.AB [] (by simp [h1,h2]) (by simp [D0]))) hid) (k:=?_)
 unfold FJ
 cases e:BI l id with
 | none =>
   rintro v w' ⟨rfl,ho⟩;replace hs:=hs.AK ho;refine Jd ?_
   refine AF ?_
   have ho:=hs.AB [] (by simp [h1,h2]) (by simp [D0])
   exact ⟨rfl,hT.only ho,ho.weaken (by simp)⟩
 | some i =>
   obtain ⟨hi,_⟩:=IF e
   have hpt:=PM .zero (rest:=rest) hi
   rintro v w' ⟨rfl,ho⟩;replace hs:=hs.AK ho;refine Je ?_
   refine ix (h0:=(by show (0:Int)≤(i:Int);omega)) (h1:=(by show (i:Int) < _;omega)) (k:=?_)
   refine AU hs (cs:=D7 l ++ rest) (vs:=Tk.zero.cells) (cs':=D7 (l.set i .zero) ++ rest) (hc:=?_) (k:=?_)
   ·simpa [aC] using hpt
   intro w hs
   refine Ja ?_
   refine AF ?_
   have ho:=hs.AB [rb] (by simp [h1]) (by simp [D0])
   refine ⟨rfl,⟨cap,rest,?_,hs.get At.head,by rw [List.length_set];exact h3,by rw [List.length_set];exact h4⟩,ho⟩
   rw [List.length_set];exact hs.get (At.tail At.head)
def B0 (x:Tk):Bool:=decide (1≤x.st) && decide (x.st≤3)
def xY (l:List Tk) (x:Tk):Int:=bif B0 x then Dd (BI l x.id) else 2
def Ez (l:List Tk) (x:Tk):List Tk:=bif B0 x then (match BI l x.id with | some i=>l.set i x | none=>l) else l
theorem FN (tb rb:Nat) (l:List Tk) (x:Tk) (w0:World) (h:DW w0 tb rb l) (hid:In64 x.id):AM Tryz.prog 71 #[.pointer (some ⟨tb,0,none⟩),Jx x] w0 fun v w'=>v = .int .i64 (xY l x)∧DW w' tb rb (Ez l x)∧AA [rb] w0 w':=by
 have hT:=h
 obtain ⟨cap,rest,h1,h2,h3,h4⟩:=h
 have hs:=((St.nil w0).AE h1).AE h2
 have lb1:=lt_of_block h1
 have lb2:=lt_of_block h2
 refine AQ Tryz.func71 Tryz.ntmps71 (k:=?_)
 repeat' (first|refine Sd ?_|(refine bx hs (k:=?_);intro b w hz hs)|fail)
 refine cl (h:=by exact RU x _) (k:=?_)
 rw [show (decide (1≤x.st) && decide (x.st≤3))=B0 x from rfl]
 unfold xY Ez
 cases hr:B0 x with
 | false =>
   rintro v w' ⟨rfl,ho⟩;replace hs:=hs.AK ho;refine Je ?_
   refine AF ?_
   have ho:=hs.AB [] (by simp [h1,h2]) (by simp [D0])
   exact ⟨rfl,hT.only ho,ho.weaken (by simp)⟩
 | true =>
   rintro v w' ⟨rfl,ho⟩;replace hs:=hs.AK ho;refine Jd ?_
   refine cl (h:=by exact OQ tb rb l x.id _ (hT.only (hs.AB [] (by simp [h1,h2]) (by simp [D0]))) hid) (k:=?_)
   simp only [cond_true]
   cases e:BI l x.id with
   | none =>
     rintro v w' ⟨rfl,ho⟩;replace hs:=hs.AK ho;refine Jd ?_
     refine AF ?_
     have ho:=hs.AB [] (by simp [h1,h2]) (by simp [D0])
     exact ⟨rfl,hT.only ho,ho.weaken (by simp)⟩
   | some i =>
     obtain ⟨hi,_⟩:=IF e
     have hpt:=PM x (rest:=rest) hi
     rintro v w' ⟨rfl,ho⟩;replace hs:=hs.AK ho;refine Je ?_
     refine dr [7] hs (k:=?_);intro hX w hs
     refine tks 0 6 ?_
     refine tk 6 hX (hr:=fun w' hH=>BG AI rfl rfl rfl (by show (0:Int)≤(i:Int);omega) (by show (i:Int) < _;omega)) (k:=?_)
     refine dt 7 hX (k:=?_)
     refine AU hs (cs:=D7 l ++ rest) (vs:=x.cells) (cs':=D7 (l.set i x) ++ rest) (hc:=?_) (k:=?_)
     ·simpa [aC] using hpt
     intro w hs
     refine XS.nil ?_
     refine dn (k:=?_)
     refine en (k:=?_)
     refine Ja ?_
     refine AF ?_
     have ho:=hs.AB [rb] (by simp [h1]) (by simp [D0])
     refine ⟨rfl,⟨cap,rest,?_,hs.get (b:=rb) (by repeat (first | exact At.head | (with_reducible apply At.tail))),by rw [List.length_set];exact h3,by rw [List.length_set];exact h4⟩,ho⟩
     rw [List.length_set];exact hs.get (b:=tb) (by repeat (first | exact At.head | (with_reducible apply At.tail)))
def DX:List Tk→Option Nat
 | []=>none
 | x :: l=>if x.st=0 then some 0 else (DX l).map (·+1)
theorem ZP {l:List Tk} {i:Nat} (h:i < l.length):DX (l.drop i)=if l[i].st=0 then some 0 else (DX (l.drop (i+1))).map (·+1):=by rw [List.drop_eq_getElem_cons h];rfl
theorem LC:∀ {l:List Tk} {i:Nat},DX l=some i→i < l.length
 | [],i,h=>by cases h
 | x :: l,i,h=>by
   unfold DX at h
   split at h
   ·cases h;simp
   ·cases e:DX l with
    | none=>rw [e] at h;cases h
    | some j=>rw [e] at h;cases h;have:=LC e;simp;omega
theorem kH (x:Tk) (w0:World):AM Tryz.prog 92 #[Jx x] w0 fun v w'=>v = .bool (x.st == 0)∧AA [] w0 w':=by
 have hs:=St.nil w0
 refine AQ Tryz.func92 Tryz.ntmps92 (k:=?_)
 repeat' (first|refine Sa ?_|(refine bx hs (k:=?_);intro b w hz hs)|fail)
 refine AF ?_
 exact ⟨rfl,hs.AD rfl⟩
def nH (o:Option Nat):Int:=match o with | some i=>(i:Int) | none=>-1
theorem ZX (rb cap:Nat) (l:List Tk) (rest:List Value) (w0:World) (hm:l.length≤32) (h:w0.heap[rb]?=some (L8 l rest)):AM Tryz.prog 91 #[.slice (some ⟨rb,0,none⟩) l.length cap,.func (.func 92) #[] #[]] w0 fun v w'=>v = .int .i64 (nH (DX l))∧AA [] w0 w':=by
 have hs:=St.nil w0
 refine AQ Tryz.func91 Tryz.ntmps91 (k:=?_)
 refine Ja ?_
 refine BN (fun (_:Unit)=>[]) (fun _ w=>DX l=none∧AA [] w0 w) ?_ ?_
 ·refine BD (fun (i:Nat)=>[(0,.slice (some ⟨rb,0,none⟩) l.length cap),(1,.func (.func 92) #[] #[]),(7,.int .i64 (l.length:Nat)),(8,.int .i64 (i:Nat))]) (fun i w=>i≤l.length∧(DX (l.drop i)).map (·+i)=DX l∧AA [] w0 w) (fun i=>l.length - i) 0 Ab ⟨Nat.zero_le _,by rw [List.drop_zero];cases DX l <;> rfl,hs.AD rfl⟩ fun i env wl ⟨hi,he,BS⟩=>?_
  clear hs
  have hs:=St.nil wl
  repeat' (first|refine Sa ?_|refine Au rfl (fun hc=>?_) fun hc=>?_|fail)
  ·have hlt:i < l.length:=by omega
   have hpk:=NZ (rest:=rest) hlt
   have ei:=D2 (m:=l.length) hlt om
   rw [ZP hlt] at he
   generalize l[i]=q at *
   refine ix (h0:=(by omega)) (h1:=(by omega)) (k:=?_)
   refine KH (vs:=q.cells) (BS.block h (by simp)) ?_ (k:=?_)
   ·simpa using hpk
   refine cl (h:=by exact kH q _) (k:=?_)
   by_cases hq:q.st=0
   ·rw [if_pos hq] at he
    rw [hq]
    rintro v w' ⟨rfl,ho⟩;replace hs:=hs.AK ho;refine Je ?_
    refine AF ?_
    exact ⟨by rw [← he];simp [nH,packed],BS.trans (hs.AD rfl)⟩
   ·rw [if_neg hq] at he
    rw [show (q.st == 0)=false by simpa using hq]
    rintro v w' ⟨rfl,ho⟩;replace hs:=hs.AK ho;refine Jd ?_
    refine A2 (i+1) (by show l.length - (i+1) < l.length - i;omega) (by (repeat (first | exact Ac | (apply A5;first | exact rfl | exact congrArg (Value.int .i64) ei)))) ⟨by show i+1≤_;omega,?_,BS.trans (hs.AD rfl)⟩
    rw [← he]
    cases DX (l.drop (i+1)) with
    | none=>rfl
    | some j=>simp;omega
  ·have e:i=l.length:=by omega
   subst e
   rw [List.drop_length] at he
   exact Ar () Ab ⟨he.symm,BS⟩
 ·rintro _ env w ⟨he,BS⟩
  clear hs
  have hs:=St.nil w
  refine Ja ?_
  refine AF ?_
  exact ⟨by rw [he];rfl,BS.trans (hs.AD rfl)⟩
def Eo (l:List Tk) (x:Tk):Int:=bif B0 x then (match DX l with | some i=>(i:Int)+1 | none=>0) else 0
def E9 (l:List Tk) (x:Tk):Int:=bif B0 x then (match DX l with | some _=>0 | none=>7) else 2
def DN (l:List Tk) (x:Tk):List Tk:=bif B0 x then (match DX l with | some i=>l.set i { x with id:=(i:Int)+1 } | none=>l) else l
theorem LI (tb rb:Nat) (l:List Tk) (x:Tk) (w0:World) (h:DW w0 tb rb l):AM Tryz.prog 55 #[.pointer (some ⟨tb,0,none⟩),Jx x] w0 fun v w'=>v = .tuple #[.int .i64 (Eo l x),.int .i64 (E9 l x)]∧DW w' tb rb (DN l x)∧AA [rb] w0 w':=by
 have hT:=h
 obtain ⟨cap,rest,h1,h2,h3,h4⟩:=h
 have hs:=((St.nil w0).AE h1).AE h2
 have lb1:=lt_of_block h1
 have lb2:=lt_of_block h2
 refine AQ Tryz.func55 Tryz.ntmps55 (k:=?_)
 repeat' (first|refine Sd ?_|(refine bx hs (k:=?_);intro b w hz hs)|fail)
 refine cl (h:=by exact RU x _) (k:=?_)
 rw [show (decide (1≤x.st) && decide (x.st≤3))=B0 x from rfl]
 unfold Eo E9 DN
 cases hr:B0 x with
 | false =>
   rintro v w' ⟨rfl,ho⟩;replace hs:=hs.AK ho;refine Je ?_
   refine AF ?_
   have ho:=hs.AB [] (by simp [h1,h2]) (by simp [D0])
   exact ⟨rfl,hT.only ho,ho.weaken (by simp)⟩
 | true =>
   rintro v w' ⟨rfl,ho⟩;replace hs:=hs.AK ho;refine Jd ?_
   refine cl (h:=by exact ZX rb cap l rest _ h3 (hs.get (b:=rb) (o:=L8 l rest) (by repeat (first | exact At.head | (with_reducible apply At.tail))))) (k:=?_)
   simp only [cond_true]
   cases e:DX l with
   | none =>
     rintro v w' ⟨rfl,ho⟩;replace hs:=hs.AK ho;refine Je ?_
     refine AF ?_
     have ho:=hs.AB [] (by simp [h1,h2]) (by simp [D0])
     exact ⟨rfl,hT.only ho,ho.weaken (by simp)⟩
   | some i =>
     have hi:=LC e
     have hpt:=PM { x with id:=(i:Int)+1 } (rest:=rest) hi
     have ew:IntKind.i64.wrap ((i:Int)+1)=(i:Int)+1:=by rw [wrap_i64];omega
     rw [show nH (some i)=(i:Int) from rfl]
     rintro v w' ⟨rfl,ho⟩;replace hs:=hs.AK ho
     refine vs (k:=?_)
     refine Jb ?_
     refine Al ?_
     refine vs (k:=?_)
     refine vs (k:=?_)
     rw [decide_eq_false (show ¬ ((i:Int) < 0) by omega)]
     refine Jg ?_
     refine Al ?_
     refine vs (k:=?_)
     refine vs (k:=?_)
     rw [ew]
     repeat' (first|refine Sb ?_|(refine st hs (k:=?_);intro w hs)|fail)
     refine dr [7] hs (k:=?_);intro hX w hs
     refine tks 0 6 ?_
     refine tk 6 hX (hr:=fun w' hH=>BG AI rfl rfl rfl (by show (0:Int)≤(i:Int);omega) (by show (i:Int) < _;omega)) (k:=?_)
     refine dt 7 hX (k:=?_)
     refine AU hs (cs:=D7 l ++ rest) (vs:=Tk.cells { x with id:=(i:Int)+1 }) (cs':=D7 (l.set i { x with id:=(i:Int)+1 }) ++ rest) (hc:=?_) (k:=?_)
     ·simpa using hpt
     intro w hs
     refine XS.nil ?_
     refine dn (k:=?_)
     refine en (k:=?_)
     refine Ja ?_
     refine AF ?_
     have ho:=hs.AB [rb] (by simp [h1]) (by simp [D0])
     refine ⟨rfl,⟨cap,rest,?_,hs.get (b:=rb) (by repeat (first | exact At.head | (with_reducible apply At.tail))),by rw [List.length_set];exact h3,by rw [List.length_set];exact h4⟩,ho⟩
     rw [List.length_set];exact hs.get (b:=tb) (by repeat (first | exact At.head | (with_reducible apply At.tail)))
def BE (l:List Tk):List Tk:=l.filter fun x=>decide (x.st≠0)
end Go.Proofs.Q0
namespace Go.Proofs.Q0
open Go Go.RowKit
def BY:Nat→List Tk→Prop
 | _,[]=>True
 | k,x :: l=>(x.st≠0→x.id=(k:Int)+1∧B0 x=true)∧BY (k+1) l
theorem BY.rep:∀ (m k:Nat),BY k (List.replicate m .zero)
 | 0,_=>trivial
 | m+1,k=>⟨fun h=>absurd rfl h,BY.rep m (k+1)⟩
theorem BY.set {y:Tk}:∀ {l:List Tk} {k i:Nat},BY k l→(y.st≠0→y.id=(k:Int)+i+1∧B0 y=true)→BY k (l.set i y)
 | [],k,i,_,_=>by rw [List.set_nil];trivial
 | x :: l,k,0,h,hy=>⟨fun hn=>by obtain ⟨a,b⟩:=hy hn;exact ⟨by omega,b⟩,h.2⟩
 | x :: l,k,i+1,h,hy=>⟨h.1,BY.set h.2 (fun hn=>by obtain ⟨a,b⟩:=hy hn;exact ⟨by omega,b⟩)⟩
theorem BY.get:∀ {l:List Tk} {k i:Nat} {x:Tk},BY k l→l[i]?=some x→x.st≠0→x.id=(k:Int)+i+1∧B0 x=true
 | [],_,_,_,_,h,_=>by simp at h
 | y :: l,k,0,x,hI,h,hn=>by
   rw [List.getElem?_cons_zero] at h
   cases h
   obtain ⟨a,b⟩:=hI.1 hn
   exact ⟨by omega,b⟩
 | y :: l,k,i+1,x,hI,h,hn=>by
   rw [List.getElem?_cons_succ] at h
   obtain ⟨a,b⟩:=BY.get hI.2 h hn
   exact ⟨by omega,b⟩
theorem GD {l:List Tk} {x:Tk} (h:x∈BE l):x.st≠0∧∃ i:Nat,l[i]?=some x:=by
 unfold BE at h
 obtain ⟨a,b⟩:=List.mem_filter.1 h
 exact ⟨by simpa using b,List.mem_iff_getElem?.1 a⟩
theorem Oc {l:List Tk} {i:Nat} {x:Tk} (h:l[i]?=some x):BI l ((i:Int)+1)=if x.st≠0 then some i else none:=by
 have hi:i < l.length:=by
  rcases Nat.lt_or_ge i l.length with h1 | h1
  ·exact h1
  ·rw [List.getElem?_eq_none h1] at h;cases h
 unfold BI
 rw [show ((i:Int)+1 - 1).toNat=i by omega,List.getD_eq_getElem?_getD,h]
 by_cases hq:x.st=0
 ·rw [if_neg (by simp [hq]),if_neg (by simp [hq])]
 ·rw [if_pos ⟨by omega,by omega,by simpa using hq⟩,if_pos hq]
theorem NS {l:List Tk} {id:Int} {i:Nat} (h:BI l id=some i):∃ x,l[i]?=some x∧x.st≠0∧id=(i:Int)+1:=by
 obtain ⟨hi,rfl⟩:=IF h
 have e:=Oc (List.getElem?_eq_getElem hi)
 rw [h] at e
 refine ⟨l[i],List.getElem?_eq_getElem hi,fun hq=>?_,rfl⟩
 rw [if_neg (by simp [hq])] at e
 cases e
theorem bZ {l:List Tk} {i:Nat} {x:Tk} (h:l[i]?=some x) (hx:x.st≠0):BF l ((i:Int)+1)=x:=by
 unfold BF
 rw [Oc h,if_pos hx]
 show l.getD i .zero=x
 rw [List.getD_eq_getElem?_getD,h];rfl
theorem HG {l:List Tk} (hI:BY 0 l) {x:Tk} (h:x∈BE l):∃ i,BI l x.id=some i∧l[i]?=some x∧BF l x.id=x:=by
 obtain ⟨hn,i,hi⟩:=GD h
 have e:=(hI.get hi hn).1
 have e2:x.id=(i:Int)+1:=by omega
 refine ⟨i,?_,hi,?_⟩
 ·rw [e2,Oc hi,if_pos hn]
 ·rw [e2];exact bZ hi hn
theorem gO {l:List Tk} (hI:BY 0 l) {id:Int} {i:Nat} (h:BI l id=some i):∃ x,x∈BE l∧x.id=id∧l[i]?=some x:=by
 obtain ⟨x,a,b,c⟩:=NS h
 refine ⟨x,?_,by have:=(hI.get a b).1;omega,a⟩
 unfold BE
 exact List.mem_filter.2 ⟨List.mem_iff_getElem?.2 ⟨i,a⟩,by simpa using b⟩
theorem WW (l:List Tk) (x:Tk):(DN l x).length=l.length:=by
 unfold DN
 cases B0 x with
 | false=>rfl
 | true=>cases DX l with
   | none=>rfl
   | some i=>exact List.length_set
theorem UR (l:List Tk) (id:Int):(FJ l id).length=l.length:=by
 unfold FJ
 cases BI l id with
 | none=>rfl
 | some i=>exact List.length_set
theorem l6 (l:List Tk) (x:Tk):(Ez l x).length=l.length:=by
 unfold Ez
 cases B0 x with
 | false=>rfl
 | true=>cases BI l x.id with
   | none=>rfl
   | some i=>exact List.length_set
theorem BY.add {l:List Tk} (h:BY 0 l) (x:Tk):BY 0 (DN l x):=by
 unfold DN
 cases hr:B0 x with
 | false=>exact h
 | true=>cases e:DX l with
   | none=>exact h
   | some i=>exact h.set fun _=>⟨by show (i:Int)+1=_;omega,hr⟩
theorem BY.drop {l:List Tk} (h:BY 0 l) (id:Int):BY 0 (FJ l id):=by
 unfold FJ
 cases BI l id with
 | none=>exact h
 | some i=>exact h.set fun hn=>absurd rfl hn
theorem BY.sets {l:List Tk} (h:BY 0 l) (x:Tk):BY 0 (Ez l x):=by
 unfold Ez
 cases hr:B0 x with
 | false=>exact h
 | true=>cases e:BI l x.id with
   | none=>exact h
   | some i =>
     obtain ⟨_,_,_,e2⟩:=NS e
     exact h.set fun _=>⟨by omega,hr⟩
theorem Um {x:Tk} (h:B0 x=true):x.st≠0:=fun e=>by unfold B0 at h;rw [e] at h;exact absurd h (by decide)
end Go.Proofs.Q0
namespace Go.Proofs.Q0
open IB (IT)
def er (r:RT):RT:=HZ r false
section
variable (f : RT → RT) (hf : ∀ r, Az (f r) = Az r)
include hf
end
end Go.Proofs.Q0
namespace Go.Proofs.Q0
open Go Go.RowKit
structure aA5 where
 d:Int
 r:RT
theorem kY:Rq.zero.In:=by decide
instance:Inhabited aA5:=⟨⟨0,⟨.zero,kY⟩⟩⟩
end Go.Proofs.Q0
namespace Go.Proofs.Q0
open IB (IT)
theorem s5 {r:Rq} (h:r.In) {p:Pt} {n:Int} (hp:p.In) (h0:0≤n) (h1:n≤r.left):(Cu r p n).In:=by
 refine ⟨⟨hp,h.1.2.1,h.1.2.2⟩,?_,h.2.2⟩
 show BV (bif decide (r.left - n=0) then r.slice else r.left - n)
 cases decide (r.left - n=0) with
 | true=>exact h.2.2
 | false =>
   have:=h.2.1
   show BV (r.left - n)
   unfold BV at *
   omega
theorem TR {c:Cs} {most:Int} (hm:0≤most) {u:Rq × Bool} (h:Fw c most=some u):u.1.In:=by
 unfold Fw DD at h
 split at h
 ·rename_i hc
  have hin:=Ki c.A.l c.run
  split at h
  ·cases h
  ·rename_i p hp
   have yW:(Cu (DH c.A.l c.run) p (BX c most)).In:=s5 hin (at_some hp).1 (by
    unfold BX EF
    have:=hin.2.1
    unfold BV at this
    split <;> omega) hc.2.2
   cases e:CK (Cu (DH c.A.l c.run) p (BX c most)) with
   | none=>rw [e] at h;cases h
   | some q =>
     rw [e] at h
     cases h
     exact (M8 yW e).1
 ·cases h
theorem RI:(C3 Rq.zero).1.right=false:=by decide
theorem put_zero (A:As):Dn A (C3 .zero)=2∧GX A (C3 .zero)=A:=by
 have e:Dn A (C3 .zero)=2:=by unfold Dn Fz;rw [RI];rfl
 exact ⟨e,by unfold GX;rw [e];rfl⟩
def Ax (c:Cs) (id:Int):Int × Cs:=if (Ah c.A.l id).isSome then (0,⟨Fk c.A id,c.run,E0 c.carr (CW c.A id)⟩) else (14,c)
def Be (c:Cs) (id:Int):Int × Cs:=match Ah c.A.l id with
 | none=>(14,c)
 | some a=>if a.1.asleep=true then (6,c) else if De c.A id < 0 then (0,⟨GZ c.A id true,c.run,c.carr⟩) else Ax c id
def CL (c:Cs) (id:Int):Int × Cs:=match Ah c.A.l id with
 | none=>(14,c)
 | some a=>if a.1.asleep=true then (0,⟨GZ c.A id false,c.run,c.carr⟩) else (6,c)
def JU (A:As) (r:Rq) (q:Int):Option Rq:=(GL (mA A) r.i.p q).bind fun p=>Io r p
def MR (c:Cs) (id:Int):Option Rq→Int × Cs
 | none=>(8,c)
 | some y=>(Dn c.A (C3 y),⟨GX c.A (C3 y),c.run,E0 c.carr (CW c.A id)⟩)
def Bk (c:Cs) (id q:Int):Int × Cs :=
 if Ek q=false then (2,c) else match Ah c.A.l id with
 | none=>(14,c)
 | some a=>MR c id (JU c.A a.1 q)
def Bl (c:Cs) (id ns:Int):Int × Cs :=
 if EW ns=false then (2,c) else match Ah c.A.l id with
 | none=>(14,c)
 | some a=>(Dn c.A (C3 ((D6 a.1 ns).getD .zero)),⟨GX c.A (C3 ((D6 a.1 ns).getD .zero)),c.run,c.carr⟩)
theorem sZ {r:Rq} (h:r.In) {p:Pt} (hp:p.In) {y:Rq} (e:Io r p=some y):y.In:=by
 unfold Io at e
 cases k:r.right with
 | false=>rw [k] at e;cases e
 | true=>rw [k] at e;exact (M8 (⟨⟨hp,h.1.2⟩,h.2⟩:Rq.In ⟨⟨p,r.i.id,r.i.d⟩,r.left,r.slice,r.asleep⟩) e).1
theorem l7 {r:Rq} (h:r.In) {n:Int} (hn:BV n) {y:Rq} (e:D6 r n=some y):y.In:=by
 unfold D6 at e
 cases k:r.right with
 | false=>rw [k] at e;cases e
 | true=>rw [k] at e;exact (M8 (⟨h.1,h.2.1,hn⟩:Rq.In ⟨r.i,r.left,n,r.asleep⟩) e).1
theorem wW {m:Mn} {p:Pt} {q:Int} {y:Pt} (e:GL m p q=some y):y.In:=by
 unfold GL at e
 split at e
 ·exact (at_some e).1
 ·cases e
structure aAf where
 d:Int
 id:Int
 w:Int
 ns:Int
 lag:Int
instance:Inhabited aAf:=⟨⟨0,0,0,0,0⟩⟩
end Go.Proofs.Q0
namespace Go.Proofs.Q0
open Go Go.RowKit
attribute [local irreducible] XS XC XA AX AO A7 A0 AZ A8 Aa AV SE
theorem HF {w0 w':World} {G:List Nat} {J:Int × Cs} {c:Cs} {n:Int} {P Q:Prop} (e:J=(n,c)) (hn:n≠0) (hq:Q) (ho:AA [] w0 w'):Value.int .i64 n = .int .i64 J.1∧Q∧(J.1=0→P)∧AA G w0 w':=by
 subst e;exact ⟨rfl,hq,fun h=>absurd h hn,ho.weaken (by simp)⟩
theorem Rw (l:List RT) (id:Int):∃ x bs,DH l id=x∧(Ah l id).isSome=bs∧x.In∧((bs=false∧Ah l id=none)∨∃ a,bs=true∧Ah l id=some a∧x=a.1):=by
 cases e:Ah l id with
 | none=>exact ⟨_,_,rfl,rfl,Ki _ _,.inl ⟨rfl,rfl⟩⟩
 | some a=>exact ⟨_,_,rfl,rfl,Ki _ _,.inr ⟨a,rfl,rfl,by unfold DH;rw [e]⟩⟩
theorem jP (b2:Nat) (c:Cs) (id:Int) (wb w0:World) (hid:In64 id) (B2:w0.heap[b2]?=some (.cells #[.int .i64 id] 3 (0,0))) :
 Ob wb w0 109 [.pointer (some ⟨b2,0,none⟩)] [] (fun _=>True) c (CL c id).1 (CL c id).2 .none:=by
 intro cb rb F hC hR Yk hrb
 have Eu:=hC
 have Mb:=hR
 obtain ⟨sb,Fs,rfl,h1,hS,h3,h4⟩:=hC
 obtain ⟨x,bs,ex,eb,NN,hcs⟩:=Rw c.A.l id
 generalize hJ:CL c id=J
 have hs:=((St.nil w0).AE h1).AE B2
 refine AQ Tryz.func109 Tryz.ntmps109 (k:=?_)
 refine Ja ?_
 refine dr [] hs (k:=?_);intro hX w hs
 refine tks 0 5 ?_
 refine GS 9 6 hs (k:=?_);intro f X w hp;have hs:=hp.st
 apply BH 5 9 (f:=f) (X:=X) hX hp;exact rfl;exact rfl;(apply AR AI;exact rfl);kernel_rfl;kernel_rfl;kernel_rfl;kernel_rfl;(intro X Y;(repeat (first | exact A4 | refine A3 ?_ (by exact rfl))));(intro w' hs;first|exact AH hs.hold|exact AH hs.hold.tail|exact A6 rfl);intro f X w hp;have hs:=hp.st
 have ho:=hs.AB [] (by simp [h1,B2]) (by simp [D0])
 refine cl (h:=by exact J1 sb c.A Fs id _ (hS.only ho) hid) (k:=?_)
 rw [ex,eb]
 rintro v w' ⟨rfl,ho⟩;replace hp:=hp.only ho;replace hs:=hp.st;refine Jb ?_
 refine dn (k:=?_)
 refine tk 6 hX (hc:=by cases f <;> kernel_rfl) (k:=?_)
 refine tk 7 hX (hc:=by cases f <;> kernel_rfl) (k:=?_)
 refine tk 8 hX (hc:=by cases f <;> kernel_rfl) (k:=?_)
 apply B9 9 (f:=f) (X:=X) hX hp;exact rfl;(apply AR AI;exact rfl);kernel_rfl;kernel_rfl;(intro X Y;(repeat (first | exact A4 | refine A3 ?_ (by exact rfl))));(intro w' hs;first|exact AH hs.hold|exact AH hs.hold.tail|exact A6 rfl);intro b w hI hs
 refine dt 10 hX (k:=?_)
 repeat' (first|refine Nx.h ?_|(refine AU hs (k:=?_);intro w hs)|fail)
 refine dn (k:=?_)
 refine tk 11 hX (k:=?_)
 refine en (k:=?_)
 rcases hcs with ⟨hb,e⟩ | ⟨a,hb,e,hx⟩
 ·subst hb
  refine Je ?_
  refine AF ?_
  exact HF (n:=14) (by rw [← hJ];unfold CL;rw [e]) (by decide) trivial (hs.AB [] (by simp [h1,B2]) (by simp [D0]))
 ·subst hb
  repeat' (first|refine Sd ?_|refine xc_cond rfl (fun hc=>?_) fun hc=>?_|fail)
  ·refine AF ?_
   have k:x.asleep=false:=by simpa using hc
   exact HF (n:=6) (by rw [← hJ];unfold CL;rw [e];show (if a.1.asleep=true then _ else _)=_;rw [← hx,k];rfl) (by decide) trivial (hs.AB [] (by simp [h1,B2]) (by simp [D0]))
  ·have k:x.asleep=true:=by simpa using hc
   have eJ:J=(0,⟨GZ c.A id false,c.run,c.carr⟩):=by rw [← hJ];unfold CL;rw [e];show (if a.1.asleep=true then _ else _)=_;rw [← hx,k];rfl
   have ho:=hs.AB [] (by simp [h1,B2]) (by simp [D0])
   have x1:=ho.block h1 (by simp)
   have x3:=ho.block B2 (by simp)
   clear hs
   have hs:=((St.nil _).AE x1).AE x3
   refine dr [] hs (k:=?_);intro hX w hs
   refine tks 0 5 ?_
   refine dt 5 hX (k:=?_)
   have AJ:=ho.trans (hs.AB [] (by simp [x1,x3]) (by simp [D0]))
   have Gf:=hS.only AJ
   refine cl (h:=by exact RE sb c.A Fs id false _ Gf hid) (k:=?_)
   rw [eb]
   rintro v w2 ⟨rfl,F2,Di,DQ,AN⟩
   have n1:cb∉Fs:=Bc.N0 h1 hS
   have n3:b2∉Fs:=hS.not B2 rfl
   have y1:=AN.block (AJ.block h1 (by simp)) n1
   have y3:=AN.block (AJ.block B2 (by simp)) n3
   have Pj:=AJ.size
   have LP:DI w2 rb .none [rb]:=(hR.only AJ).Ae AN (fun k hk hm=>by
    obtain rfl:=List.mem_singleton.1 hk
    exact Mb.apart Eu k (by simp) (by simp [hm]))
   clear hs
   have hs:=((St.nil w2).AE y1).AE y3
   refine Jb ?_
   refine dn (k:=?_)
   refine tk 6 hX (k:=?_)
   refine en (k:=?_)
   refine Jb ?_
   refine AF ?_
   have AT:=hs.AB [] (by simp [y1,y3]) (by simp [D0])
   subst eJ
   refine ⟨rfl,trivial,fun _=>⟨cb :: F2,[rb],⟨sb,F2,rfl,AT.block y1 (by simp),Di.only AT,h3,h4⟩,LP.only AT,fun k hk=>?_,fun k hk => .inl (by simpa using hk)⟩,((AJ.weaken (by simp)).step AN (fun k hk => .inl (by simp [hk]))).step AT (by simp)⟩
   rcases List.mem_cons.1 hk with rfl | hk
   ·simp
   ·rcases DQ k hk with h | h
    ·simp [h]
    ·exact .inr om
theorem LB {w w':World} {vg vp:Value} {r:Rp} {Gg Gp:List Nat} (p1:Y7 w vg r.g Gg) (p2:UP w vp r.p Gp) {G:List Nat} (ho:AA G w w') (h:∀ b∈G,∃ cs ty fz,w.heap[b]?=some (.cells cs ty fz)∧ty≠170∧ty≠168):Lt w' (.agg #[vg,vp]) r :=
 ⟨_,_,Gg,Gp,rfl,p1.keep ho (fun k hk hm=>by obtain ⟨cs,ty,fz,a,b,c⟩:=h k hm;exact BQ p1 a b hk),p2.keep ho (fun k hk hm=>by obtain ⟨cs,ty,fz,a,b,c⟩:=h k hm;exact BQ p2 a c hk)⟩
theorem XE (cb:Nat) (c:Cs) (F:List Nat) (id:Int) (w0:World) (h:Bc w0 cb c F) (hid:In64 id) :
 AM Tryz.prog 73 #[.pointer (some ⟨cb,0,none⟩),.int .i64 id] w0 fun v w'=>∃ rv,v = .tuple #[rv,.int .i64 (CL c id).1]∧Gx w0 cb F rv (CL c id).1 c (CL c id).2 .none w':=by
 have hs:=St.nil w0
 refine AQ Tryz.func73 Tryz.ntmps73 (k:=?_)
 refine Ag ?_
 refine Al ?_
 refine bx hs (k:=?_);intro b6 w _ hs
 refine al hs (k:=?_);intro Ep w hz hs
 refine Ja ?_
 have ho:=hs.AD rfl
 have hz:=ho.size
 have x6:=hs.get (b:=b6) (by repeat (first | exact At.head | (with_reducible apply At.tail)))
 have Hl:=hs.get (b:=Ep) (by repeat (first | exact At.head | (with_reducible apply At.tail)))
 have Ee:=h.only ho
 have hb:=hs.new _ List.mem_cons_self rfl
 simp only at hb
 refine cl (h:=by exact J5 cb c F _ Ee 109 [.pointer (some ⟨b6,0,none⟩)] [] (fun _=>True) (CL c id).1 (CL c id).2 .none (fun _ _ _ _ _ _=>trivial) (by simp) (by simp [Rp.none]) (fun w1 AJ=>jP b6 c id _ w1 hid (AJ.block x6 (by simp)))) (k:=?_)
 rintro v w2 ⟨rv,rfl,_,Hu,⟨F',hC',CV⟩,AN⟩
 obtain ⟨vg,vp,Gg,Gp,rfl,p1,p2⟩:=Hu
 obtain ⟨ag,cg,rfl⟩:=BO p1
 obtain ⟨ap,cp,rfl⟩:=BO p2
 have x2:=AN.block Hl (fun hm=>by obtain rfl:=List.mem_singleton.1 hm;exact Ee.not Hl rfl (by obtain ⟨_,_,rfl,_⟩:=Ee;simp))
 clear hs
 have hs:=(St.nil w2).AE x2
 repeat' (first|refine Sb ?_|(refine AU hs (k:=?_);intro w hs)|fail)
 refine AF ?_
 have AT:AA [Ep] w2 _:=hs.AB [Ep] (by simp) (by simp [D0])
 exact ⟨_,rfl,LB p1 p2 AT (fun b hm=>by obtain rfl:=List.mem_singleton.1 hm;exact ⟨_,_,_,x2,by decide,by decide⟩),⟨F',hC'.Ae AT (fun k hk hm=>by obtain rfl:=List.mem_singleton.1 hm;exact hC'.not x2 rfl hk),fun k hk=>by
  rcases CV k hk with h | h
  ·exact .inl h
  ·exact .inr om⟩,((ho.weaken (by simp)).step AN (fun k hk => .inl hk)).step AT (fun k hk => .inr (by obtain rfl:=List.mem_singleton.1 hk;exact hb))⟩
theorem ZH (b2 b3:Nat) (c:Cs) (id ns:Int) (wb w0:World) (hid:In64 id) (DZ:BV ns) (B2:w0.heap[b2]?=some (.cells #[.int .i64 id] 3 (0,0))) (B3:w0.heap[b3]?=some (.cells #[.int .u64 ns] 22 (0,0))) :
 Ob wb w0 116 [.pointer (some ⟨b2,0,none⟩),.pointer (some ⟨b3,0,none⟩)] [] (fun _=>True) c (Bl c id ns).1 (Bl c id ns).2 .none:=by
 intro cb rb F hC hR Yk hrb
 have Eu:=hC
 have Mb:=hR
 obtain ⟨sb,Fs,rfl,h1,hS,h3,h4⟩:=hC
 obtain ⟨x,bs,ex,eb,NN,hcs⟩:=Rw c.A.l id
 generalize hJ:Bl c id ns=J
 have hs:=(((St.nil w0).AE h1).AE B2).AE B3
 refine AQ Tryz.func116 Tryz.ntmps116 (k:=?_)
 refine Ja ?_
 refine dr [] hs (k:=?_);intro hX w hs
 refine tks 0 5 ?_
 refine GS 9 7 hs (k:=?_);intro f X w hp;have hs:=hp.st
 apply BH 5 9 (f:=f) (X:=X) hX hp;exact rfl;exact rfl;(apply AR AI;exact rfl);kernel_rfl;kernel_rfl;kernel_rfl;kernel_rfl;(intro X Y;(repeat (first | exact A4 | refine A3 ?_ (by exact rfl))));(intro w' hs;first|exact AH hs.hold|exact AH hs.hold.tail|exact A6 rfl);intro f X w hp;have hs:=hp.st
 have ho:=hs.AB [] (by simp [h1,B2,B3]) (by simp [D0])
 refine cl (h:=by exact J1 sb c.A Fs id _ (hS.only ho) hid) (k:=?_)
 rw [ex,eb]
 rintro v w' ⟨rfl,ho⟩;replace hp:=hp.only ho;replace hs:=hp.st;refine Jb ?_
 refine dn (k:=?_)
 refine tk 6 hX (hc:=by cases f <;> kernel_rfl) (k:=?_)
 refine tk 7 hX (hc:=by cases f <;> kernel_rfl) (k:=?_)
 refine tk 8 hX (hc:=by cases f <;> kernel_rfl) (k:=?_)
 apply B9 9 (f:=f) (X:=X) hX hp;exact rfl;(apply AR AI;exact rfl);kernel_rfl;kernel_rfl;(intro X Y;(repeat (first | exact A4 | refine A3 ?_ (by exact rfl))));(intro w' hs;first|exact AH hs.hold|exact AH hs.hold.tail|exact A6 rfl);intro b w hI hs
 refine dt 10 hX (k:=?_)
 repeat' (first|refine Nx.h ?_|(refine AU hs (k:=?_);intro w hs)|fail)
 refine dn (k:=?_)
 refine tk 11 hX (k:=?_)
 refine en (k:=?_)
 refine Ja ?_
 refine cl (h:=by exact Rb ns _) (k:=?_)
 cases c3:EW ns
 ·rintro v w' ⟨rfl,ho⟩;replace hs:=hs.AK ho;refine Je ?_
  refine AF ?_
  exact HF (n:=2) (by rw [← hJ];unfold Bl;rw [if_pos c3]) (by decide) trivial (hs.AB [] (by simp [h1,B2,B3]) (by simp [D0]))
 rcases hcs with ⟨hb,e⟩ | ⟨a,hb,e,hx⟩
 ·subst hb
  rintro v w' ⟨rfl,ho⟩;replace hs:=hs.AK ho;repeat' (first|refine vs (k:=?_)|refine Al ?_|refine Nx.h ?_|refine Ew ?_|refine ES ?_|fail)
  refine AF ?_
  exact HF (n:=14) (by rw [← hJ];unfold Bl;rw [if_neg (by rw [c3];decide),e]) (by decide) trivial (hs.AB [] (by simp [h1,B2,B3]) (by simp [D0]))
 ·subst hb
  have eJ:J=(Dn c.A (C3 ((D6 x ns).getD .zero)),⟨GX c.A (C3 ((D6 x ns).getD .zero)),c.run,c.carr⟩):=by rw [← hJ];unfold Bl;rw [if_neg (by rw [c3];decide),e,hx]
  rintro v w' ⟨rfl,ho⟩;replace hs:=hs.AK ho;refine Jd ?_
  refine cl (h:=by exact Xb x ns NN DZ _) (k:=?_)
  have hy:(C3 ((D6 x ns).getD .zero)).1=(D6 x ns).getD .zero:=by
   refine JY ?_
   cases q:D6 x ns with
   | none=>decide
   | some y=>exact l7 NN DZ q
  have er:iV (D6 x ns) = .tuple #[rv (C3 ((D6 x ns).getD .zero)).1,.bool (D6 x ns).isSome]:=by rw [hy];rfl
  rw [er]
  generalize C3 ((D6 x ns).getD .zero)=r at *
  generalize (D6 x ns).isSome=z at *
  rintro v w' ⟨rfl,ho⟩;replace hs:=hs.AK ho;repeat' (first|refine Sb ?_|(refine AU hs (k:=?_);intro w hs)|(refine al hs (k:=?_);intro b w hz hs)|fail)
  have ho:=hs.AB [] (by simp [h1,B2,B3]) (by simp [D0])
  have x1:=ho.block h1 (by simp)
  have x3:=hs.get (b:=b) (by repeat (first | exact At.head | (with_reducible apply At.tail)))
  clear hs
  have hs:=((St.nil _).AE x1).AE x3
  refine dr [] hs (k:=?_);intro hX w hs
  refine tks 0 5 ?_
  refine dt 5 hX (k:=?_)
  have ho':=hs.AB [] (by simp [x1,x3]) (by simp [D0])
  have AJ:=ho.trans ho'
  have Gf:=hS.only AJ
  refine cl (h:=by exact Qw sb c.A Fs r _ Gf) (k:=?_)
  rintro v w2 ⟨rfl,F2,Di,DQ,AN⟩
  have n1:cb∉Fs:=Bc.N0 h1 hS
  have n3:b∉Fs:=Gf.not (ho'.block x3 (by simp)) rfl
  have y1:=AN.block (AJ.block h1 (by simp)) n1
  have y3:=AN.block (ho'.block x3 (by simp)) n3
  have Pj:=AJ.size
  have LP:DI w2 rb .none [rb]:=(hR.only AJ).Ae AN (fun k hk hm=>by
   obtain rfl:=List.mem_singleton.1 hk
   exact Mb.apart Eu k (by simp) (by simp [hm]))
  clear hs
  have hs:=((St.nil w2).AE y1).AE y3
  refine Jb ?_
  refine dn (k:=?_)
  refine tk 6 hX (k:=?_)
  refine en (k:=?_)
  refine Jb ?_
  refine AF ?_
  have AT:=hs.AB [] (by simp [y1,y3]) (by simp [D0])
  subst eJ
  refine ⟨rfl,trivial,fun _=>⟨cb :: F2,[rb],⟨sb,F2,rfl,AT.block y1 (by simp),Di.only AT,h3,h4⟩,LP.only AT,fun k hk=>?_,fun k hk => .inl (by simpa using hk)⟩,((AJ.weaken (by simp)).step AN (fun k hk => .inl (by simp [hk]))).step AT (by simp)⟩
  rcases List.mem_cons.1 hk with rfl | hk
  ·simp
  ·rcases DQ k hk with h | h
   ·simp [h]
   ·exact .inr om
theorem TZ (cb:Nat) (c:Cs) (F:List Nat) (id ns:Int) (w0:World) (h:Bc w0 cb c F) (hid:In64 id) (DZ:BV ns) :
 AM Tryz.prog 77 #[.pointer (some ⟨cb,0,none⟩),.int .i64 id,.int .u64 ns] w0 fun v w'=>∃ rv,v = .tuple #[rv,.int .i64 (Bl c id ns).1]∧Gx w0 cb F rv (Bl c id ns).1 c (Bl c id ns).2 .none w':=by
 have hs:=St.nil w0
 refine AQ Tryz.func77 Tryz.ntmps77 (k:=?_)
 refine Ag ?_
 refine Al ?_
 refine bx hs (k:=?_);intro b6 w _ hs
 refine bx hs (k:=?_);intro b7 w _ hs
 refine al hs (k:=?_);intro Ep w hz hs
 refine Ja ?_
 have ho:=hs.AD rfl
 have hz:=ho.size
 have x6:=hs.get (b:=b6) (by repeat (first | exact At.head | (with_reducible apply At.tail)))
 have x7:=hs.get (b:=b7) (by repeat (first | exact At.head | (with_reducible apply At.tail)))
 have Hl:=hs.get (b:=Ep) (by repeat (first | exact At.head | (with_reducible apply At.tail)))
 have Ee:=h.only ho
 have hb:=hs.new _ List.mem_cons_self rfl
 simp only at hb
 refine cl (h:=by exact J5 cb c F _ Ee 116 [.pointer (some ⟨b6,0,none⟩),.pointer (some ⟨b7,0,none⟩)] [] (fun _=>True) (Bl c id ns).1 (Bl c id ns).2 .none (fun _ _ _ _ _ _=>trivial) (by simp) (by simp [Rp.none]) (fun w1 AJ=>ZH b6 b7 c id ns _ w1 hid DZ (AJ.block x6 (by simp)) (AJ.block x7 (by simp)))) (k:=?_)
 rintro v w2 ⟨rv,rfl,_,Hu,⟨F',hC',CV⟩,AN⟩
 obtain ⟨vg,vp,Gg,Gp,rfl,p1,p2⟩:=Hu
 obtain ⟨ag,cg,rfl⟩:=BO p1
 obtain ⟨ap,cp,rfl⟩:=BO p2
 have x2:=AN.block Hl (fun hm=>by obtain rfl:=List.mem_singleton.1 hm;exact Ee.not Hl rfl (by obtain ⟨_,_,rfl,_⟩:=Ee;simp))
 clear hs
 have hs:=(St.nil w2).AE x2
 repeat' (first|refine Sb ?_|(refine AU hs (k:=?_);intro w hs)|fail)
 refine AF ?_
 have AT:AA [Ep] w2 _:=hs.AB [Ep] (by simp) (by simp [D0])
 exact ⟨_,rfl,LB p1 p2 AT (fun b hm=>by obtain rfl:=List.mem_singleton.1 hm;exact ⟨_,_,_,x2,by decide,by decide⟩),⟨F',hC'.Ae AT (fun k hk hm=>by obtain rfl:=List.mem_singleton.1 hm;exact hC'.not x2 rfl hk),fun k hk=>by
  rcases CV k hk with h | h
  ·exact .inl h
  ·exact .inr om⟩,((ho.weaken (by simp)).step AN (fun k hk => .inl hk)).step AT (fun k hk => .inr (by obtain rfl:=List.mem_singleton.1 hk;exact hb))⟩
theorem Ze (b2 b3:Nat) (c:Cs) (id q:Int) (wb w0:World) (hid:In64 id) (hq:F7 q) (B2:w0.heap[b2]?=some (.cells #[.int .i64 id] 3 (0,0))) (B3:w0.heap[b3]?=some (.cells #[.int .u32 q] 49 (0,0))) :
 Ob wb w0 110 [.pointer (some ⟨b2,0,none⟩),.pointer (some ⟨b3,0,none⟩)] [] (fun _=>True) c (Bk c id q).1 (Bk c id q).2 .none:=by
 intro cb rb F hC hR Yk hrb
 have Eu:=hC
 have Mb:=hR
 obtain ⟨sb,Fs,rfl,h1,hS,h3,h4⟩:=hC
 obtain ⟨qb,mb,m,tb,Pn,cq,g1,g2,vR,gQ,gpl,gm,_,_⟩:=hS.GY
 obtain ⟨x,bs,ex,eb,NN,hcs⟩:=Rw c.A.l id
 generalize hJ:Bk c id q=J
 have hs:=(((((St.nil w0).AE h1).AE g1).AE g2).AE B2).AE B3
 refine AQ Tryz.func110 Tryz.ntmps110 (k:=?_)
 refine Ja ?_
 refine dr [] hs (k:=?_);intro hX w hs
 refine tks 0 5 ?_
 refine GS 9 7 hs (k:=?_);intro f X w hp;have hs:=hp.st
 apply BH 5 9 (f:=f) (X:=X) hX hp;exact rfl;exact rfl;(apply AR AI;exact rfl);kernel_rfl;kernel_rfl;kernel_rfl;kernel_rfl;(intro X Y;(repeat (first | exact A4 | refine A3 ?_ (by exact rfl))));(intro w' hs;first|exact AH hs.hold|exact AH hs.hold.tail|exact A6 rfl);intro f X w hp;have hs:=hp.st
 have ho:=hs.AB [] (by simp [h1,g1,g2,B2,B3]) (by simp [D0])
 refine cl (h:=by exact J1 sb c.A Fs id _ (hS.only ho) hid) (k:=?_)
 rw [ex,eb]
 rintro v w' ⟨rfl,ho⟩;replace hp:=hp.only ho;replace hs:=hp.st;refine Jb ?_
 refine dn (k:=?_)
 refine tk 6 hX (hc:=by cases f <;> kernel_rfl) (k:=?_)
 refine tk 7 hX (hc:=by cases f <;> kernel_rfl) (k:=?_)
 refine tk 8 hX (hc:=by cases f <;> kernel_rfl) (k:=?_)
 apply B9 9 (f:=f) (X:=X) hX hp;exact rfl;(apply AR AI;exact rfl);kernel_rfl;kernel_rfl;(intro X Y;(repeat (first | exact A4 | refine A3 ?_ (by exact rfl))));(intro w' hs;first|exact AH hs.hold|exact AH hs.hold.tail|exact A6 rfl);intro b w hI hs
 refine dt 10 hX (k:=?_)
 repeat' (first|refine Nx.h ?_|(refine AU hs (k:=?_);intro w hs)|fail)
 refine dn (k:=?_)
 refine tk 11 hX (k:=?_)
 refine en (k:=?_)
 refine Ja ?_
 refine cl (h:=by exact Pb q _) (k:=?_)
 cases c2:Ek q
 ·rintro v w' ⟨rfl,ho⟩;replace hs:=hs.AK ho;refine Je ?_
  refine AF ?_
  exact HF (n:=2) (by rw [← hJ];unfold Bk;rw [if_pos c2]) (by decide) trivial (hs.AB [] (by simp [h1,g1,g2,B2,B3]) (by simp [D0]))
 rcases hcs with ⟨hb,e⟩ | ⟨a,hb,e,hx⟩
 ·subst hb
  rintro v w' ⟨rfl,ho⟩;replace hs:=hs.AK ho;repeat' (first|refine vs (k:=?_)|refine Al ?_|refine Nx.h ?_|refine Ew ?_|refine ES ?_|fail)
  refine AF ?_
  exact HF (n:=14) (by rw [← hJ];unfold Bk;rw [if_neg (by rw [c2];decide),e]) (by decide) trivial (hs.AB [] (by simp [h1,g1,g2,B2,B3]) (by simp [D0]))
 subst hb
 have eJ:J=MR c id ((GL m x.i.p q).bind fun p=>Io x p):=by
  rw [← hJ];unfold Bk;rw [if_neg (by rw [c2];decide),e,hx,gm (List.ne_nil_of_mem (CA e).1)];rfl
 rintro v w' ⟨rfl,ho⟩;replace hs:=hs.AK ho;refine Jd ?_
 refine dr [] hs (k:=?_);intro hX w hs
 refine tks 0 14 ?_
 refine GS 18 9 hs (k:=?_);intro f X w hp;have hs:=hp.st
 apply BH 14 18 (f:=f) (X:=X) hX hp;exact rfl;exact rfl;(apply AR AI;exact rfl);kernel_rfl;kernel_rfl;kernel_rfl;kernel_rfl;(intro X Y;(repeat (first | exact A4 | refine A3 ?_ (by exact rfl))));(intro w' hs;first|exact AH hs.hold|exact AH hs.hold.tail|exact A6 rfl);intro f X w hp;have hs:=hp.st
 refine cl (h:=by exact T7 m x.i.p q vR NN.1.1 hq _) (k:=?_)
 have mR:∀ p,GL m x.i.p q=some p→p.In:=fun p h=>wW h
 generalize GL m x.i.p q=op at *
 cases op with
 | none =>
   rintro v w' ⟨rfl,ho⟩;replace hp:=hp.only ho;replace hs:=hp.st;refine Jb ?_
   refine dn (k:=?_)
   refine tk 15 hX (hc:=by cases f <;> kernel_rfl) (k:=?_)
   refine tk 16 hX (hc:=by cases f <;> kernel_rfl) (k:=?_)
   refine tk 17 hX (hc:=by cases f <;> kernel_rfl) (k:=?_)
   apply B9 18 (f:=f) (X:=X) hX hp;exact rfl;(apply AR AI;exact rfl);kernel_rfl;kernel_rfl;(intro X Y;(repeat (first | exact A4 | refine A3 ?_ (by exact rfl))));(intro w' hs;first|exact AH hs.hold|exact AH hs.hold.tail|exact A6 rfl);intro b w hI hs
   refine dt 19 hX (k:=?_)
   repeat' (first|refine Nx.h ?_|(refine AU hs (k:=?_);intro w hs)|fail)
   refine dn (k:=?_)
   refine tk 20 hX (k:=?_)
   refine en (k:=?_)
   refine Ja ?_
   refine cl (h:=by exact SL x .zero NN (by decide) _) (k:=?_)
   generalize Io x .zero=o
   cases o
   ·rintro v w' ⟨rfl,ho⟩;replace hs:=hs.AK ho;repeat' (first|refine Se ?_|(refine AU hs (k:=?_);intro w hs)|(refine al hs (k:=?_);intro b w hz hs)|fail)
    refine AF ?_
    exact HF (n:=8) eJ (by decide) trivial (hs.AB [] (by simp [h1,g1,g2,B2,B3]) (by simp [D0]))
   ·rintro v w' ⟨rfl,ho⟩;replace hs:=hs.AK ho;repeat' (first|refine Se ?_|(refine AU hs (k:=?_);intro w hs)|(refine al hs (k:=?_);intro b w hz hs)|fail)
    refine AF ?_
    exact HF (n:=8) eJ (by decide) trivial (hs.AB [] (by simp [h1,g1,g2,B2,B3]) (by simp [D0]))
 | some p =>
   have ND:=mR p rfl
   rintro v w' ⟨rfl,ho⟩;replace hp:=hp.only ho;replace hs:=hp.st;refine Jb ?_
   refine dn (k:=?_)
   refine tk 15 hX (hc:=by cases f <;> kernel_rfl) (k:=?_)
   refine tk 16 hX (hc:=by cases f <;> kernel_rfl) (k:=?_)
   refine tk 17 hX (hc:=by cases f <;> kernel_rfl) (k:=?_)
   apply B9 18 (f:=f) (X:=X) hX hp;exact rfl;(apply AR AI;exact rfl);kernel_rfl;kernel_rfl;(intro X Y;(repeat (first | exact A4 | refine A3 ?_ (by exact rfl))));(intro w' hs;first|exact AH hs.hold|exact AH hs.hold.tail|exact A6 rfl);intro b w hI hs
   refine dt 19 hX (k:=?_)
   repeat' (first|refine Nx.h ?_|(refine AU hs (k:=?_);intro w hs)|fail)
   refine dn (k:=?_)
   refine tk 20 hX (k:=?_)
   refine en (k:=?_)
   refine Ja ?_
   refine cl (h:=by exact SL x p NN ND _) (k:=?_)
   have eJ:J=MR c id (Io x p):=eJ
   cases hr:Io x p with
   | none =>
     rw [hr] at eJ
     rintro v w' ⟨rfl,ho⟩;replace hs:=hs.AK ho;repeat' (first|refine Sc ?_|(refine AU hs (k:=?_);intro w hs)|(refine al hs (k:=?_);intro b w hz hs)|fail)
     refine AF ?_
     exact HF (n:=8) eJ (by decide) trivial (hs.AB [] (by simp [h1,g1,g2,B2,B3]) (by simp [D0]))
   | some y =>
     have yQ:=sZ NN ND hr
     rw [hr] at eJ
     have eJ:J=(Dn c.A (C3 y),⟨GX c.A (C3 y),c.run,E0 c.carr (CW c.A id)⟩):=eJ
     rw [show C3 y=⟨y,yQ⟩ from dif_pos yQ] at eJ
     rintro v w' ⟨rfl,ho⟩;replace hs:=hs.AK ho;repeat' (first|refine Sd ?_|(refine AU hs (k:=?_);intro w hs)|(refine al hs (k:=?_);intro b w hz hs)|fail)
     have ho:=hs.AB [] (by simp [h1,g1,g2,B2,B3]) (by simp [D0])
     obtain ⟨s0,Ns⟩:=hS.rep
     refine AY hs (h:=by exact Ls cb c _ id _ (Eu.only ho) hid) (k:=?_);intro w' ho hs;skip
     have Ao:=hs.AB [] (by simp [h1,g1,g2,B2,B3]) (by simp [D0])
     have xb:=hs.get (b:=b) (by repeat (first | exact At.head | (with_reducible apply At.tail)))
     have hb:=hs.new _ List.mem_cons_self rfl
     simp only at hb
     have Rz:=hS.only Ao
     have x1:=Ao.block h1 (by simp)
     refine cl (h:=by exact Lq cb sb c.run c.carr _ _ x1 h3 (M7 Ns id)) (k:=?_)
     rintro v w5 ⟨fR,BK⟩
     have n5:cb∉Fs:=Bc.N0 h1 hS
     have nb:b≠cb:=by have:=lt_of_block h1;omega
     have pT:=BK.block xb (by simp [nb])
     have pU:=Rz.Ae BK (fun k hk hm=>by obtain rfl:=List.mem_singleton.1 hm;exact n5 hk)
     have pE:DI w5 rb .none [rb]:=(hR.only Ao).Ae BK (fun k hk hm=>by
      obtain rfl:=List.mem_singleton.1 hk
      obtain rfl:=List.mem_singleton.1 hm
      exact Mb.apart Eu k (by simp) (by simp))
     have B8:AA (rb :: (cb :: Fs) ++ []) w0 w5:=(Ao.weaken (by simp)).step BK (fun k hk => .inl (by obtain rfl:=List.mem_singleton.1 hk;simp))
     have pO:=B8.size
     clear hs
     have hs:=((St.nil w5).AE fR).AE pT
     refine Jb ?_
     refine dr [] hs (k:=?_);intro hX w hs
     refine tks 0 5 ?_
     refine dt 5 hX (k:=?_)
     have AJ:=hs.AB [] (by simp [fR,pT]) (by simp [D0])
     refine cl (h:=by exact Qw sb c.A Fs ⟨y,yQ⟩ _ (pU.only AJ)) (k:=?_)
     rintro v w2 ⟨rfl,F2,Di,DQ,AN⟩
     have Pj:=AJ.size
     have y1:=AN.block (AJ.block fR (by simp)) n5
     have nbF:b∉Fs:=pU.not pT rfl
     have yb:=AN.block (AJ.block pT (by simp)) nbF
     have LP:DI w2 rb .none [rb]:=(pE.only AJ).Ae AN (fun k hk hm=>by
      obtain rfl:=List.mem_singleton.1 hk
      exact Mb.apart Eu k (by simp) (by simp [hm]))
     clear hs
     have hs:=((St.nil w2).AE y1).AE yb
     refine Jb ?_
     refine dn (k:=?_)
     refine tk 6 hX (k:=?_)
     refine en (k:=?_)
     refine Jb ?_
     refine AF ?_
     have AT:=hs.AB [] (by simp [y1,yb]) (by simp [D0])
     subst eJ
     refine ⟨rfl,trivial,fun _=>⟨cb :: F2,[rb],⟨sb,F2,rfl,AT.block y1 (by simp),Di.only AT,Lp _ _,h4⟩,LP.only AT,fun k hk=>?_,fun k hk => .inl (by simpa using hk)⟩,((B8.step AJ (by simp)).step AN (fun k hk => .inl (by simp [hk]))).step AT (by simp)⟩
     rcases List.mem_cons.1 hk with rfl | hk
     ·simp
     ·rcases DQ k hk with h | h
      ·simp [h]
      ·exact .inr om
theorem RZ (cb:Nat) (c:Cs) (F:List Nat) (id q:Int) (w0:World) (h:Bc w0 cb c F) (hid:In64 id) (hq:F7 q) :
 AM Tryz.prog 75 #[.pointer (some ⟨cb,0,none⟩),.int .i64 id,.int .u32 q] w0 fun v w'=>∃ rv,v = .tuple #[rv,.int .i64 (Bk c id q).1]∧Gx w0 cb F rv (Bk c id q).1 c (Bk c id q).2 .none w':=by
 have hs:=St.nil w0
 refine AQ Tryz.func75 Tryz.ntmps75 (k:=?_)
 refine Ag ?_
 refine Al ?_
 refine bx hs (k:=?_);intro b6 w _ hs
 refine bx hs (k:=?_);intro b7 w _ hs
 refine al hs (k:=?_);intro Ep w hz hs
 refine Ja ?_
 have ho:=hs.AD rfl
 have hz:=ho.size
 have x6:=hs.get (b:=b6) (by repeat (first | exact At.head | (with_reducible apply At.tail)))
 have x7:=hs.get (b:=b7) (by repeat (first | exact At.head | (with_reducible apply At.tail)))
 have Hl:=hs.get (b:=Ep) (by repeat (first | exact At.head | (with_reducible apply At.tail)))
 have Ee:=h.only ho
 have hb:=hs.new _ List.mem_cons_self rfl
 simp only at hb
 refine cl (h:=by exact J5 cb c F _ Ee 110 [.pointer (some ⟨b6,0,none⟩),.pointer (some ⟨b7,0,none⟩)] [] (fun _=>True) (Bk c id q).1 (Bk c id q).2 .none (fun _ _ _ _ _ _=>trivial) (by simp) (by simp [Rp.none]) (fun w1 AJ=>Ze b6 b7 c id q _ w1 hid hq (AJ.block x6 (by simp)) (AJ.block x7 (by simp)))) (k:=?_)
 rintro v w2 ⟨rv,rfl,_,Hu,⟨F',hC',CV⟩,AN⟩
 obtain ⟨vg,vp,Gg,Gp,rfl,p1,p2⟩:=Hu
 obtain ⟨ag,cg,rfl⟩:=BO p1
 obtain ⟨ap,cp,rfl⟩:=BO p2
 have x2:=AN.block Hl (fun hm=>by obtain rfl:=List.mem_singleton.1 hm;exact Ee.not Hl rfl (by obtain ⟨_,_,rfl,_⟩:=Ee;simp))
 clear hs
 have hs:=(St.nil w2).AE x2
 repeat' (first|refine Sb ?_|(refine AU hs (k:=?_);intro w hs)|fail)
 refine AF ?_
 have AT:AA [Ep] w2 _:=hs.AB [Ep] (by simp) (by simp [D0])
 exact ⟨_,rfl,LB p1 p2 AT (fun b hm=>by obtain rfl:=List.mem_singleton.1 hm;exact ⟨_,_,_,x2,by decide,by decide⟩),⟨F',hC'.Ae AT (fun k hk hm=>by obtain rfl:=List.mem_singleton.1 hm;exact hC'.not x2 rfl hk),fun k hk=>by
  rcases CV k hk with h | h
  ·exact .inl h
  ·exact .inr om⟩,((ho.weaken (by simp)).step AN (fun k hk => .inl hk)).step AT (fun k hk => .inr (by obtain rfl:=List.mem_singleton.1 hk;exact hb))⟩
abbrev G7 (x:Int):Obj := .cells #[.int .i64 (x / 18446744073709551616),.int .u64 (x % 18446744073709551616)] 70 (0,0)
theorem gS {A:As} {id:Int} (e:Ah A.l id=none):CW A id=0:=by unfold CW;rw [e]
theorem SI (cb:Nat) (c:Cs) (F:List Nat) (id:Int) (w0:World) (h:Bc w0 cb c F) (hid:In64 id) :
 AM Tryz.prog 106 #[.pointer (some ⟨cb,0,none⟩),.int .i64 id] w0 fun v w'=>v = .tuple #[wv (CW c.A id),.int .i64 (Ax c id).1]∧∃ F',Bc w' cb (Ax c id).2 F'∧(∀ k∈F',k∈F∨w0.heap.size≤k)∧AA F w0 w':=by
 have hC:=h
 obtain ⟨sb,Fs,rfl,h1,hS,h3,h4⟩:=h
 have hs:=(St.nil w0).AE h1
 refine AQ Tryz.func106 Tryz.ntmps106 (k:=?_)
 refine Ag ?_
 refine Al ?_
 refine al hs (k:=?_);intro b4 w1 JK hs
 have g4:=hs.new (b4,true) (by simp) rfl
 simp only at g4
 refine Ja ?_
 have ho:=hs.AB [] (by simp [h1]) (by simp [D0])
 refine cl (h:=by exact Ls cb c _ id _ (hC.only ho) hid) (k:=?_)
 generalize H7:CW c.A id=lag
 rintro v w' ⟨rfl,ho⟩;replace hs:=hs.AK ho;repeat' (first|refine Sa ?_|(refine AU hs (k:=?_);intro w hs)|(refine al hs (k:=?_);intro b w hz hs)|fail)
 have AT:=hs.AB [] (by simp [h1]) (by simp [D0])
 have gb:=hs.new _ List.mem_cons_self rfl
 simp only at gb
 have x1:=hs.get (b:=cb) (o:=Et sb c.run c.carr) (by repeat (first | exact At.head | (with_reducible apply At.tail)))
 have x4:=hs.get (b:=b4) (by repeat (first | exact At.head | (with_reducible apply At.tail)))
 have xb:=hs.get (b:=b) (by repeat (first | exact At.head | (with_reducible apply At.tail)))
 have nb:b≠b4:=by
  have nd:=hs.nd
  simp only [List.map_cons,List.map_nil,List.nodup_cons,List.mem_cons,List.not_mem_nil,or_false,not_or] at nd
  exact nd.1.1
 have Gf:=hS.only AT
 obtain ⟨s0,Ns⟩:=hS.rep
 have hin:A9 lag:=by rw [← H7];exact M7 Ns id
 have n1:cb∉Fs:=Bc.N0 h1 hS
 have n4:b4∉Fs:=Gf.not x4 rfl
 have nB:b∉Fs:=Gf.not xb rfl
 have N2:=AT.size
 refine cl (h:=by exact fB sb c.A Fs id _ Gf hid) (k:=?_)
 rintro v w4 ⟨rfl,F2,Di,DQ,Ao⟩
 have y1:=Ao.block x1 n1
 have y4:=Ao.block x4 n4
 have yb:=Ao.block xb nB
 have Aw:AA (cb :: Fs) w0 w4:=(AT.weaken (by simp)).step Ao (fun k hk => .inl (by simp [hk]))
 have KR:∀ k∈F2,k∈Fs∨w0.heap.size≤k:=fun k hk=>by
  rcases DQ k hk with h | h
  ·exact .inl h
  ·exact .inr om
 have lcb:=lt_of_block h1
 clear hs
 have hs:=(((St.nil w4).AE y1).AE y4).AG yb (by simp [nb];omega)
 cases e:Ah c.A.l id with
 | none =>
   have eA:Fk c.A id=c.A:=by unfold Fk;rw [e];rfl
   have eL:Ax c id=(14,c):=by unfold Ax;rw [e];rfl
   rw [eA] at Di
   rw [eL]
   have l0:lag=0:=by rw [← H7];exact gS e
   repeat' (first|refine Sc ?_|(refine AU hs (k:=?_);intro w hs)|(refine al hs (k:=?_);intro b w hz hs)|fail)
   refine AF ?_
   have BK:=hs.AB [b4] (by simp [y1,yb]) (by simp [D0])
   subst l0
   refine ⟨rfl,cb :: F2,⟨sb,F2,rfl,BK.block y1 (by simp;omega),Di.Ae BK (fun k hk hm=>by obtain rfl:=List.mem_singleton.1 hm;exact Di.not y4 rfl hk),h3,h4⟩,fun k hk=>?_,Aw.step BK (fun k hk => .inr (by obtain rfl:=List.mem_singleton.1 hk;exact g4))⟩
   rcases List.mem_cons.1 hk with rfl | hk
   ·simp
   ·rcases KR k hk with h | h
    ·simp [h]
    ·exact .inr h
 | some a =>
   have eL:Ax c id=(0,⟨Fk c.A id,c.run,E0 c.carr lag⟩):=by unfold Ax;rw [e,H7];rfl
   rw [eL]
   repeat' (first|refine Sd ?_|(refine AU hs (k:=?_);intro w hs)|(refine al hs (k:=?_);intro b w hz hs)|fail)
   have BK:=hs.AB [] (by simp [y1,y4,yb]) (by simp [D0])
   refine cl (h:=by exact Lq cb sb c.run c.carr lag _ (BK.block y1 (by simp)) h3 hin) (k:=?_)
   rintro v w6 ⟨vQ,Ak⟩
   have z4:=Ak.block (BK.block y4 (by simp)) (by simp;omega)
   have zb:=Ak.block (BK.block yb (by simp)) (by simp;omega)
   have n6:cb∉F2:=Bc.N0 y1 Di
   have UE:=(Di.only BK).Ae Ak (fun k hk hm=>by obtain rfl:=List.mem_singleton.1 hm;exact n6 hk)
   have B8:AA (cb :: Fs) w0 w6:=(Aw.step BK (by simp)).step Ak (fun k hk => .inl (by obtain rfl:=List.mem_singleton.1 hk;simp))
   clear hs
   have hs:=(((St.nil w6).AE vQ).AE z4).AG zb (by simp [nb];omega)
   repeat' (first|refine Sa ?_|(refine AU hs (k:=?_);intro w hs)|fail)
   refine AF ?_
   have C1:=hs.AB [b4] (by simp [vQ,zb]) (by simp [D0])
   refine ⟨rfl,cb :: F2,⟨sb,F2,rfl,C1.block vQ (by simp;omega),UE.Ae C1 (fun k hk hm=>by obtain rfl:=List.mem_singleton.1 hm;exact UE.not z4 rfl hk),Lp _ _,h4⟩,fun k hk=>?_,B8.step C1 (fun k hk => .inr (by obtain rfl:=List.mem_singleton.1 hk;exact g4))⟩
   rcases List.mem_cons.1 hk with rfl | hk
   ·simp
   ·rcases KR k hk with h | h
    ·simp [h]
    ·exact .inr h
theorem DI.ne {w:World} {rb:Nat} {r:Rp} {F:List Nat} (h:DI w rb r F) {b:Nat} {cs:Array Value} {ty:Nat} {fz:Nat × Nat} (hb:w.heap[b]?=some (.cells cs ty fz)) (hne:ty≠131):rb≠b:=by
 obtain ⟨vg,vp,Gg,Gp,_,p1,_⟩:=h
 exact AW p1 hb (fun e=>hne e.symm)
theorem ZK (b2 b3:Nat) (c:Cs) (id:Int) (wb w0:World) (hid:In64 id) (B2:w0.heap[b2]?=some (.cells #[.int .i64 id] 3 (0,0))) (B3:w0.heap[b3]?=some (G7 0)) :
 Ob wb w0 137 [.pointer (some ⟨b2,0,none⟩),.pointer (some ⟨b3,0,none⟩)] [b3] (fun w=>w.heap[b3]?=some (G7 (CW c.A id))) c (Ax c id).1 (Ax c id).2 .none:=by
 intro cb rb F hC hR Yk hrb
 have hs:=((St.nil w0).AE B2).AE B3
 refine AQ Tryz.func137 Tryz.ntmps137 (k:=?_)
 refine Ja ?_
 have ho:=hs.AB [] (by simp [B2,B3]) (by simp [D0])
 refine cl (h:=by exact SI cb c F id _ (hC.only ho) hid) (k:=?_)
 rintro v w2 ⟨rfl,F2,E5,DQ,AN⟩
 have hz:=ho.size
 have y3:=AN.block (ho.block B3 (by simp)) (hC.not B3 rfl)
 have LP:DI w2 rb .none [rb]:=(hR.only ho).Ae AN (fun k hk hm=>hR.apart hC k hk hm)
 have Aw:AA (rb :: F ++ [b3]) w0 w2:=(ho.weaken (by simp)).step AN (fun k hk => .inl (by simp [hk]))
 have Up:rb≠b3:=hR.ne B3 (by decide)
 generalize Ax c id=J at *
 generalize CW c.A id=lag at *
 clear hs
 have hs:=(St.nil w2).AE y3
 repeat' (first|refine Sa ?_|(refine AU hs (k:=?_);intro w hs)|(refine al hs (k:=?_);intro b w hz hs)|fail)
 refine AF ?_
 have AT:=hs.AB [b3] (by simp) (by simp [D0])
 refine ⟨rfl,hs.get (b:=b3) (by repeat (first | exact At.head | (with_reducible apply At.tail))),fun _=>⟨F2,[rb],E5.Ae AT (fun k hk hm=>by obtain rfl:=List.mem_singleton.1 hm;exact E5.not y3 rfl hk),LP.Ae AT (fun k hk hm=>by obtain rfl:=List.mem_singleton.1 hk;exact Up (List.mem_singleton.1 hm)),fun k hk=>?_,fun k hk => .inl (by simpa using hk)⟩,Aw.step AT (fun k hk => .inl (by simp [List.mem_singleton.1 hk]))⟩
 rcases DQ k hk with h | h
 ·exact .inl h
 ·exact .inr om
theorem Iq (cb:Nat) (c:Cs) (F:List Nat) (id:Int) (w0:World) (h:Bc w0 cb c F) (hid:In64 id) :
 AM Tryz.prog 100 #[.pointer (some ⟨cb,0,none⟩),.int .i64 id] w0 fun v w'=>∃ rv,v = .tuple #[wv (CW c.A id),rv,.int .i64 (Ax c id).1]∧Gx w0 cb F rv (Ax c id).1 c (Ax c id).2 .none w':=by
 have hs:=St.nil w0
 refine AQ Tryz.func100 Tryz.ntmps100 (k:=?_)
 refine Ag ?_
 refine Al ?_
 refine bx hs (k:=?_);intro b6 w _ hs
 refine al hs (k:=?_);intro Ep w aAP hs
 refine al hs (k:=?_);intro IV w aAv hs
 refine Jc ?_
 refine Al ?_
 refine al hs (k:=?_);intro b7 w Yn hs
 refine Ja ?_
 have ho:=hs.AD rfl
 have hz:=ho.size
 have x6:=hs.get (b:=b6) (by repeat (first | exact At.head | (with_reducible apply At.tail)))
 have x7:=hs.get (b:=b7) (by repeat (first | exact At.head | (with_reducible apply At.tail)))
 have Hl:=hs.get (b:=Ep) (by repeat (first | exact At.head | (with_reducible apply At.tail)))
 have U2:=hs.get (b:=IV) (by repeat (first | exact At.head | (with_reducible apply At.tail)))
 have Ee:=h.only ho
 have W7:b7≠Ep:=by
  have nd:=hs.nd
  simp only [List.map_cons,List.map_nil,List.nodup_cons,List.mem_cons,List.not_mem_nil,or_false,not_or] at nd
  exact nd.1.2.1
 have g7:=hs.new (b7,true) (by simp) rfl
 have g10:=hs.new (Ep,true) (by simp) rfl
 have g11:=hs.new (IV,true) (by simp) rfl
 simp only at g7 g10 g11
 have ncb:∀ {b:Nat} {cs:Array Value} {ty:Nat} {fz:Nat × Nat},w0.heap.size≤b→b≠cb:=fun hb he=>by
  have:=h.lt cb (by obtain ⟨_,_,rfl,_⟩:=h;simp)
  omega
 refine cl (h:=by exact J5 cb c F _ Ee 137 [.pointer (some ⟨b6,0,none⟩),.pointer (some ⟨b7,0,none⟩)] [b7] (fun w=>w.heap[b7]?=some (G7 (CW c.A id))) (Ax c id).1 (Ax c id).2 .none (fun _ _ _ hx pJ hn=>pJ.block hx (hn b7 (by simp))) (fun k hk=>by obtain rfl:=List.mem_singleton.1 hk;exact ⟨Ee.not x7 rfl,lt_of_block x7⟩) (by simp [Rp.none]) (fun w1 AJ=>ZK b6 b7 c id _ w1 hid (AJ.block x6 (by simp)) (AJ.block x7 (by simp)))) (k:=?_)
 rintro v w2 ⟨rv,rfl,cY,Hu,⟨F',hC',CV⟩,AN⟩
 obtain ⟨vg,vp,Gg,Gp,rfl,p1,p2⟩:=Hu
 obtain ⟨ag,cg,rfl⟩:=BO p1
 obtain ⟨ap,cp,rfl⟩:=BO p2
 have cJ:cb∈F:=by obtain ⟨_,_,rfl,_⟩:=h;simp
 have Vu:=AN.block Hl (fun hm=>by
  simp only [List.mem_cons,List.not_mem_nil,or_false] at hm
  rcases hm with rfl | rfl
  ·exact Ee.not Hl rfl cJ
  ·exact W7 rfl)
 have n117:IV≠b7:=AW U2 x7 (by decide)
 have Wq:=AN.block U2 (fun hm=>by
  simp only [List.mem_cons,List.not_mem_nil,or_false] at hm
  rcases hm with rfl | rfl
  ·exact Ee.not U2 rfl cJ
  ·exact n117 rfl)
 generalize Ax c id=J at *
 generalize CW c.A id=lag at *
 clear hs
 have hs:=(((St.nil w2).AE Wq).AE Vu).AG cY (by simp [W7,n117.symm])
 repeat' (first|refine Sb ?_|(refine AU hs (k:=?_);intro w hs)|(refine al hs (k:=?_);intro b w hz hs)|fail)
 have hR:∀ {w'':World} {o o':Obj},St w2 D0 [(b,.cells #[.slice ag (BU J.1 J.2 .none).g.length cg,.slice ap (BU J.1 J.2 .none).p.length cp] 131 (0,0),true),(b7,G7 lag,false),(Ep,o,false),(IV,o',false)] w''→True=True→Ex [(b,.cells #[.slice ag (BU J.1 J.2 .none).g.length cg,.slice ap (BU J.1 J.2 .none).p.length cp] 131 (0,0),true),(b7,G7 lag,false)] w'':=fun hs _ e he=>hs.at_ e (by
  simp only [List.mem_cons,List.not_mem_nil,or_false] at he ⊢
  rcases he with he | he
  ·exact .inl he
  ·exact .inr (.inl he))
 refine qI [4] [(b,.cells #[.slice ag (BU J.1 J.2 .none).g.length cg,.slice ap (BU J.1 J.2 .none).p.length cp] 131 (0,0),true),(b7,G7 lag,false)] hs (k:=?_);intro hX w hs
 refine tks 0 3 ?_
 refine dt 3 hX (k:=?_)
 repeat' (first|refine Nx.h ?_|(refine AU hs (k:=?_);intro w hs)|fail)
 refine dn (k:=?_)
 refine dt 4 hX (k:=?_)
 repeat' (first|refine Nx.h ?_|(refine AU hs (k:=?_);intro w hs)|fail)
 refine dn (k:=?_)
 refine tk 5 hX (k:=?_)
 refine en (k:=?_)
 refine Jb ?_
 refine AF ?_
 have AT:=hs.AB [Ep,IV] (by simp [cY]) (by simp [D0])
 exact ⟨_,rfl,LB p1 p2 AT (fun b hm=>by
  simp only [List.mem_cons,List.not_mem_nil,or_false] at hm
  rcases hm with rfl | rfl
  ·exact ⟨_,_,_,Vu,by decide,by decide⟩
  ·exact ⟨_,_,_,Wq,by decide,by decide⟩),⟨F',hC'.Ae AT (fun k hk hm=>by
  simp only [List.mem_cons,List.not_mem_nil,or_false] at hm
  rcases hm with rfl | rfl
  ·exact hC'.not Vu rfl hk
  ·exact hC'.not Wq rfl hk),fun k hk=>by
  rcases CV k hk with h | h
  ·exact .inl h
  ·exact .inr om⟩,((ho.weaken (by simp)).step AN (fun k hk=>by
   simp only [List.mem_cons,List.not_mem_nil,or_false] at hk
   rcases hk with rfl | rfl
   ·exact .inl (by simp)
   ·exact .inr g7)).step AT (fun k hk=>by
   simp only [List.mem_cons,List.not_mem_nil,or_false] at hk
   rcases hk with rfl | rfl
   ·exact .inr g10
   ·exact .inr g11)⟩
def Bz (c:Cs) (id:Int):Bool × Int:=match Ah c.A.l id with
 | none=>(false,0)
 | some a=>if a.1.asleep=true then (false,0) else if De c.A id < 0 then (false,CW c.A id) else (true,CW c.A id)
abbrev Ga (x:Bool):Obj := .cells #[.bool x] 4 (0,0)
theorem Z4 (b2 b3 b4:Nat) (c:Cs) (id:Int) (wb w0:World) (hid:In64 id) (B2:w0.heap[b2]?=some (.cells #[.int .i64 id] 3 (0,0))) (B3:w0.heap[b3]?=some (G7 0)) (B4:w0.heap[b4]?=some (Ga false)) :
 Ob wb w0 101 [.pointer (some ⟨b2,0,none⟩),.pointer (some ⟨b3,0,none⟩),.pointer (some ⟨b4,0,none⟩)] [b3,b4] (fun w=>w.heap[b3]?=some (G7 (Bz c id).2)∧w.heap[b4]?=some (Ga (Bz c id).1)) c (Be c id).1 (Be c id).2 .none:=by
 intro cb rb F hC hR Yk hrb
 have Eu:=hC
 have Mb:=hR
 obtain ⟨sb,Fs,rfl,h1,hS,h3,h4⟩:=hC
 obtain ⟨qb,mb,g1,gQ⟩:=hS.EB
 obtain ⟨x,bs,ex,eb,NN,hcs⟩:=Rw c.A.l id
 have n1:cb∉Fs:=Bc.N0 h1 hS
 have n2:b2∉Fs:=hS.not B2 rfl
 have n3:b3∉Fs:=hS.not B3 rfl
 have n4:b4∉Fs:=hS.not B4 rfl
 have c3:b3∉cb :: Fs:=Eu.not B3 rfl
 have c4:b4∉cb :: Fs:=Eu.not B4 rfl
 have r3:rb≠b3:=hR.ne B3 (by decide)
 have r4:rb≠b4:=hR.ne B4 (by decide)
 have d34:b3≠b4:=AW B3 B4 (by decide)
 have d23:b2≠b3:=AW B2 B3 (by decide)
 have hs0:sb∈Fs:=by
  obtain ⟨_,_,_,_,_,_,_,_,_,_,_,_,m1,_⟩:=hS.GY
  exact m1
 have ds3:sb≠b3:=fun e=>n3 (e ▸ hs0)
 have dc3:cb≠b3:=fun e=>c3 (by simp [e])
 generalize hJ:Be c id=J
 generalize hK:Bz c id=K
 have hs:=(((((St.nil w0).AE h1).AE g1).AE B2).AE B3).AE B4
 refine AQ Tryz.func101 Tryz.ntmps101 (k:=?_)
 refine Ja ?_
 refine dr [] hs (k:=?_);intro hX w hs
 refine tks 0 5 ?_
 refine GS 9 8 hs (k:=?_);intro f X w hp;have hs:=hp.st
 apply BH 5 9 (f:=f) (X:=X) hX hp;exact rfl;exact rfl;(apply AR AI;exact rfl);kernel_rfl;kernel_rfl;kernel_rfl;kernel_rfl;(intro X Y;(repeat (first | exact A4 | refine A3 ?_ (by exact rfl))));(intro w' hs;first|exact AH hs.hold|exact AH hs.hold.tail|exact A6 rfl);intro f X w hp;have hs:=hp.st
 have ho:=hs.AB [] (by simp [h1,g1,B2,B3,B4]) (by simp [D0])
 refine cl (h:=by exact J1 sb c.A Fs id _ (hS.only ho) hid) (k:=?_)
 rw [ex,eb]
 rintro v w' ⟨rfl,ho⟩;replace hp:=hp.only ho;replace hs:=hp.st;refine Jb ?_
 refine dn (k:=?_)
 refine tk 6 hX (hc:=by cases f <;> kernel_rfl) (k:=?_)
 refine tk 7 hX (hc:=by cases f <;> kernel_rfl) (k:=?_)
 refine tk 8 hX (hc:=by cases f <;> kernel_rfl) (k:=?_)
 apply B9 9 (f:=f) (X:=X) hX hp;exact rfl;(apply AR AI;exact rfl);kernel_rfl;kernel_rfl;(intro X Y;(repeat (first | exact A4 | refine A3 ?_ (by exact rfl))));(intro w' hs;first|exact AH hs.hold|exact AH hs.hold.tail|exact A6 rfl);intro b w hI hs
 refine dt 10 hX (k:=?_)
 repeat' (first|refine Nx.h ?_|(refine AU hs (k:=?_);intro w hs)|fail)
 refine dn (k:=?_)
 refine tk 11 hX (k:=?_)
 refine en (k:=?_)
 rcases hcs with ⟨hb,e⟩ | ⟨a,hb,e,hx⟩
 ·subst hb
  have eK:K=(false,0):=by rw [← hK];unfold Bz;rw [e]
  refine Je ?_
  refine AF ?_
  exact HF (n:=14) (by rw [← hJ];unfold Be;rw [e]) (by decide) ⟨by rw [eK];exact hs.get (b:=b3) (by repeat (first | exact At.head | (with_reducible apply At.tail))),by rw [eK];exact hs.get (b:=b4) (by repeat (first | exact At.head | (with_reducible apply At.tail)))⟩ (hs.AB [] (by simp [h1,g1,B2,B3,B4]) (by simp [D0]))
 subst hb
 repeat' (first|refine Sd ?_|refine xc_cond rfl (fun hc=>?_) fun hc=>?_|fail)
 ·refine AF ?_
  have k:x.asleep=true:=by simpa using hc
  have eK:K=(false,0):=by rw [← hK];unfold Bz;rw [e];show (if a.1.asleep=true then _ else _)=_;rw [← hx,k];rfl
  exact HF (n:=6) (by rw [← hJ];unfold Be;rw [e];show (if a.1.asleep=true then _ else _)=_;rw [← hx,k];rfl) (by decide) ⟨by rw [eK];exact hs.get (b:=b3) (by repeat (first | exact At.head | (with_reducible apply At.tail))),by rw [eK];exact hs.get (b:=b4) (by repeat (first | exact At.head | (with_reducible apply At.tail)))⟩ (hs.AB [] (by simp [h1,g1,B2,B3,B4]) (by simp [D0]))
 have k:x.asleep=false:=by simpa using hc
 have eJ:J=if De c.A id < 0 then (0,(⟨GZ c.A id true,c.run,c.carr⟩:Cs)) else Ax c id:=by
  rw [← hJ];unfold Be;rw [e];show (if a.1.asleep=true then _ else _)=_;rw [← hx,k];rfl
 have eK:K=if De c.A id < 0 then (false,CW c.A id) else (true,CW c.A id):=by
  rw [← hK];unfold Bz;rw [e];show (if a.1.asleep=true then _ else _)=_;rw [← hx,k];rfl
 have ho:=hs.AB [] (by simp [h1,g1,B2,B3,B4]) (by simp [D0])
 refine cl (h:=by exact Ls cb c _ id _ (Eu.only ho) hid) (k:=?_)
 generalize CW c.A id=lag at *
 rintro v w' ⟨rfl,ho⟩;replace hs:=hs.AK ho;repeat' (first|refine Nx.h ?_|(refine AU hs (k:=?_);intro w hs)|fail)
 refine dr [] hs (k:=?_);intro hX w hs
 refine tks 0 8 ?_
 refine dt 8 hX (k:=?_)
 have AJ:=hs.AB [b3] (by simp [h1,g1,B2,B4]) (by simp [D0])
 have EK:=hS.Ae AJ (fun k hk hm=>by obtain rfl:=List.mem_singleton.1 hm;exact n3 hk)
 obtain ⟨qb',Pn,Y5,gQ'⟩:=EK.EB
 have eqb:qb'=qb:=by
  have:=AJ.block g1 (by simpa using ds3)
  rw [this] at Y5
  injection Y5 with Y5
  unfold Vf at Y5
  simp at Y5
  exact Y5.1.symm
 subst eqb
 refine AY hs (h:=by exact cL qb' c.A id _ gQ' hid) (k:=?_);intro w' ho hs;refine Jb ?_
 refine dn (k:=?_)
 refine tks 9 5 ?_
 refine en (k:=?_)
 repeat' (first|refine Sa ?_|(refine st hs (k:=?_);intro w hs)|refine Au rfl (fun hc=>?_) fun hc=>?_|fail)
 ·have kk:De c.A id < 0:=by simpa using hc
  rw [if_pos kk] at eJ eK
  have ho:=hs.AB [b3] (by simp [h1,g1,B2,B4]) (by simp [D0])
  have x1:=hs.get (b:=cb) (by repeat (first | exact At.head | (with_reducible apply At.tail)))
  have x2:=hs.get (b:=b2) (by repeat (first | exact At.head | (with_reducible apply At.tail)))
  have x3:=hs.get (b:=b3) (by repeat (first | exact At.head | (with_reducible apply At.tail)))
  have x4:=hs.get (b:=b4) (by repeat (first | exact At.head | (with_reducible apply At.tail)))
  clear hs
  have hs:=((((St.nil _).AE x1).AE x2).AE x3).AE x4
  refine dr [] hs (k:=?_);intro hX w hs
  refine tks 0 5 ?_
  refine dt 5 hX (k:=?_)
  have ho':=hs.AB [] (by simp [x1,x2,x3,x4]) (by simp [D0])
  have AJ:=ho.step ho' (by simp)
  have Gf:=hS.Ae AJ (fun k hk hm=>by obtain rfl:=List.mem_singleton.1 hm;exact n3 hk)
  refine cl (h:=by exact RE sb c.A Fs id true _ Gf hid) (k:=?_)
  rw [eb]
  rintro v w2 ⟨rfl,F2,Di,DQ,AN⟩
  have y1:=AN.block (ho'.block x1 (by simp)) n1
  have y2:=AN.block (ho'.block x2 (by simp)) n2
  have y3:=AN.block (ho'.block x3 (by simp)) n3
  have y4:=AN.block (ho'.block x4 (by simp)) n4
  have Pj:=AJ.size
  have LP:DI w2 rb .none [rb]:=(hR.Ae AJ (fun k hk hm=>by obtain rfl:=List.mem_singleton.1 hk;exact r3 (List.mem_singleton.1 hm))).Ae AN (fun k hk hm=>by
   obtain rfl:=List.mem_singleton.1 hk
   exact Mb.apart Eu k (by simp) (by simp [hm]))
  clear hs
  have hs:=((((St.nil w2).AE y1).AE y2).AE y3).AE y4
  refine Jb ?_
  refine dn (k:=?_)
  refine tk 6 hX (k:=?_)
  refine en (k:=?_)
  refine Jb ?_
  refine AF ?_
  have AT:=hs.AB [] (by simp [y1,y2,y3,y4]) (by simp [D0])
  subst eJ
  subst eK
  refine ⟨rfl,⟨AT.block y3 (by simp),AT.block y4 (by simp)⟩,fun _=>⟨cb :: F2,[rb],⟨sb,F2,rfl,AT.block y1 (by simp),Di.only AT,h3,h4⟩,LP.only AT,fun k hk=>?_,fun k hk => .inl (by simpa using hk)⟩,((AJ.weaken (G:=rb :: (cb :: Fs) ++ [b3,b4]) (by simp)).step AN (fun k hk => .inl (by simp [hk]))).step AT (by simp)⟩
  rcases List.mem_cons.1 hk with rfl | hk
  ·simp
  ·rcases DQ k hk with h | h
   ·simp [h]
   ·exact .inr om
 ·have kk:¬ De c.A id < 0:=by simpa using hc
  rw [if_neg kk] at eJ eK
  have ho:=hs.AB [b3,b4] (by simp [h1,g1,B2]) (by simp [D0])
  have x1:=hs.get (b:=cb) (o:=Et sb c.run c.carr) (by repeat (first | exact At.head | (with_reducible apply At.tail)))
  have x2:=hs.get (b:=b2) (by repeat (first | exact At.head | (with_reducible apply At.tail)))
  have x3:=hs.get (b:=b3) (by repeat (first | exact At.head | (with_reducible apply At.tail)))
  have x4:=hs.get (b:=b4) (by repeat (first | exact At.head | (with_reducible apply At.tail)))
  have Gf:=hS.Ae ho (fun k hk hm=>by
   simp only [List.mem_cons,List.not_mem_nil,or_false] at hm
   rcases hm with rfl | rfl
   ·exact n3 hk
   ·exact n4 hk)
  have Ee:Bc _ cb c (cb :: Fs):=⟨sb,Fs,rfl,x1,Gf,h3,h4⟩
  refine cl (h:=by exact SI cb c _ id _ Ee hid) (k:=?_)
  rintro v w2 ⟨rfl,F2,E5,DQ,AN⟩
  have hz:=ho.size
  have y3:=AN.block x3 c3
  have y4:=AN.block x4 c4
  have LP:DI w2 rb .none [rb]:=(hR.Ae ho (fun k hk hm=>by
   obtain rfl:=List.mem_singleton.1 hk
   simp only [List.mem_cons,List.not_mem_nil,or_false] at hm
   rcases hm with h | h
   ·exact r3 h
   ·exact r4 h)).Ae AN (fun k hk hm=>hR.apart Eu k hk hm)
  have Aw:AA (rb :: (cb :: Fs) ++ [b3,b4]) w0 w2:=(ho.weaken (by simp)).step AN (fun k hk => .inl (List.mem_append.2 (.inl (List.mem_cons_of_mem _ hk))))
  clear hs
  have hs:=((St.nil w2).AE y3).AE y4
  repeat' (first|refine Sa ?_|(refine AU hs (k:=?_);intro w hs)|(refine al hs (k:=?_);intro b w hz hs)|fail)
  refine AF ?_
  have AT:=hs.AB [] (by simp [y3,y4]) (by simp [D0])
  subst eJ
  subst eK
  refine ⟨rfl,⟨AT.block y3 (by simp),AT.block y4 (by simp)⟩,fun _=>⟨F2,[rb],E5.only AT,LP.only AT,fun k hk=>?_,fun k hk => .inl (by simpa using hk)⟩,Aw.step AT (by simp)⟩
  rcases DQ k hk with h | h
  ·exact .inl h
  ·exact .inr om
theorem Ip (cb:Nat) (c:Cs) (F:List Nat) (id:Int) (w0:World) (h:Bc w0 cb c F) (hid:In64 id) :
 AM Tryz.prog 69 #[.pointer (some ⟨cb,0,none⟩),.int .i64 id] w0 fun v w'=>∃ rv,v = .tuple #[.bool (Bz c id).1,wv (Bz c id).2,rv,.int .i64 (Be c id).1]∧Gx w0 cb F rv (Be c id).1 c (Be c id).2 .none w':=by
 have hs:=St.nil w0
 refine AQ Tryz.func69 Tryz.ntmps69 (k:=?_)
 refine Ag ?_
 refine Al ?_
 refine bx hs (k:=?_);intro b6 w _ hs
 refine vs (k:=?_)
 refine al hs (k:=?_);intro Ep w aAP hs
 refine al hs (k:=?_);intro IV w aAv hs
 refine Jc ?_
 refine Al ?_
 refine al hs (k:=?_);intro b7 w Yn hs
 refine Jb ?_
 refine Al ?_
 refine al hs (k:=?_);intro b9 w xX hs
 repeat' (first|refine Sa ?_|(refine st hs (k:=?_);intro w hs)|fail)
 have ho:=hs.AD rfl
 have hz:=ho.size
 have x6:=hs.get (b:=b6) (by repeat (first | exact At.head | (with_reducible apply At.tail)))
 have x7:=hs.get (b:=b7) (by repeat (first | exact At.head | (with_reducible apply At.tail)))
 have x9:=hs.get (b:=b9) (by repeat (first | exact At.head | (with_reducible apply At.tail)))
 have Hl:=hs.get (b:=Ep) (by repeat (first | exact At.head | (with_reducible apply At.tail)))
 have U2:=hs.get (b:=IV) (by repeat (first | exact At.head | (with_reducible apply At.tail)))
 have Ee:=h.only ho
 have W7:b7≠Ep:=by
  have nd:=hs.nd
  simp only [List.map_cons,List.map_nil,List.nodup_cons,List.mem_cons,List.not_mem_nil,or_false,not_or] at nd
  exact nd.2.1.2.1
 have g7:=hs.new (b7,true) (by simp) rfl
 have g9:=hs.new (b9,true) (by simp) rfl
 have g10:=hs.new (Ep,true) (by simp) rfl
 have g11:=hs.new (IV,true) (by simp) rfl
 simp only at g7 g9 g10 g11
 (with_reducible apply Kj);exact rfl;exact rfl;exact J5 cb c F _ Ee 101 [.pointer (some ⟨b6,0,none⟩),.pointer (some ⟨b7,0,none⟩),.pointer (some ⟨b9,0,none⟩)] [b7,b9] (fun w=>w.heap[b7]?=some (G7 (Bz c id).2)∧w.heap[b9]?=some (Ga (Bz c id).1)) (Be c id).1 (Be c id).2 .none (fun _ _ _ hx pJ hn=>⟨pJ.block hx.1 (hn b7 (by simp)),pJ.block hx.2 (hn b9 (by simp))⟩) (fun k hk=>by
  simp only [List.mem_cons,List.not_mem_nil,or_false] at hk
  rcases hk with rfl | rfl
  ·exact ⟨Ee.not x7 rfl,lt_of_block x7⟩
  ·exact ⟨Ee.not x9 rfl,lt_of_block x9⟩) (by simp [Rp.none]) (fun w1 AJ=>Z4 b6 b7 b9 c id _ w1 hid (AJ.block x6 (by simp)) (AJ.block x7 (by simp)) (AJ.block x9 (by simp)))
 rintro v w2 ⟨rv,rfl,⟨cY,zX⟩,Hu,⟨F',hC',CV⟩,AN⟩
 obtain ⟨vg,vp,Gg,Gp,rfl,p1,p2⟩:=Hu
 obtain ⟨ag,cg,rfl⟩:=BO p1
 obtain ⟨ap,cp,rfl⟩:=BO p2
 have cJ:cb∈F:=by obtain ⟨_,_,rfl,_⟩:=h;simp
 have Vu:=AN.block Hl (fun hm=>by
  simp only [List.mem_cons,List.not_mem_nil,or_false] at hm
  rcases hm with rfl | rfl | rfl
  ·exact Ee.not Hl rfl cJ
  ·exact W7 rfl
  ·exact AW Hl x9 (by decide) rfl)
 have n117:IV≠b7:=AW U2 x7 (by decide)
 have n119:IV≠b9:=AW U2 x9 (by decide)
 have n79:b7≠b9:=AW x7 x9 (by decide)
 have Wq:=AN.block U2 (fun hm=>by
  simp only [List.mem_cons,List.not_mem_nil,or_false] at hm
  rcases hm with rfl | rfl | rfl
  ·exact Ee.not U2 rfl cJ
  ·exact n117 rfl
  ·exact n119 rfl)
 generalize Be c id=J at *
 generalize Bz c id=K at *
 clear hs
 have hs:=((((St.nil w2).AE Wq).AE Vu).AG cY (by simp [W7,n117.symm])).AE zX
 repeat' (first|refine Sb ?_|(refine AU hs (k:=?_);intro w hs)|(refine al hs (k:=?_);intro b w hz hs)|fail)
 have hR:∀ {w'':World} {o o':Obj},St w2 D0 [(b,.cells #[.slice ag (BU J.1 J.2 .none).g.length cg,.slice ap (BU J.1 J.2 .none).p.length cp] 131 (0,0),true),(b9,Ga K.1,false),(b7,G7 K.2,false),(Ep,o,false),(IV,o',false)] w''→True=True→Ex [(b,.cells #[.slice ag (BU J.1 J.2 .none).g.length cg,.slice ap (BU J.1 J.2 .none).p.length cp] 131 (0,0),true),(b9,Ga K.1,false),(b7,G7 K.2,false)] w'':=fun hs _ e he=>hs.at_ e (by
  simp only [List.mem_cons,List.not_mem_nil,or_false] at he ⊢
  rcases he with he | he | he
  ·exact .inl he
  ·exact .inr (.inl he)
  ·exact .inr (.inr (.inl he)))
 refine qI [6] [(b,.cells #[.slice ag (BU J.1 J.2 .none).g.length cg,.slice ap (BU J.1 J.2 .none).p.length cp] 131 (0,0),true),(b9,Ga K.1,false),(b7,G7 K.2,false)] hs (k:=?_);intro hX w hs
 refine tks 0 5 ?_
 refine dt 5 hX (k:=?_)
 repeat' (first|refine Nx.h ?_|(refine AU hs (k:=?_);intro w hs)|fail)
 refine dn (k:=?_)
 refine dt 6 hX (k:=?_)
 repeat' (first|refine Nx.h ?_|(refine AU hs (k:=?_);intro w hs)|fail)
 refine dn (k:=?_)
 refine tk 7 hX (k:=?_)
 refine en (k:=?_)
 refine Jb ?_
 refine AF ?_
 have AT:=hs.AB [Ep,IV] (by simp [cY,zX]) (by simp [D0])
 exact ⟨_,rfl,LB p1 p2 AT (fun b hm=>by
  simp only [List.mem_cons,List.not_mem_nil,or_false] at hm
  rcases hm with rfl | rfl
  ·exact ⟨_,_,_,Vu,by decide,by decide⟩
  ·exact ⟨_,_,_,Wq,by decide,by decide⟩),⟨F',hC'.Ae AT (fun k hk hm=>by
  simp only [List.mem_cons,List.not_mem_nil,or_false] at hm
  rcases hm with rfl | rfl
  ·exact hC'.not Vu rfl hk
  ·exact hC'.not Wq rfl hk),fun k hk=>by
  rcases CV k hk with h | h
  ·exact .inl h
  ·exact .inr om⟩,((ho.weaken (by simp)).step AN (fun k hk=>by
   simp only [List.mem_cons,List.not_mem_nil,or_false] at hk
   rcases hk with rfl | rfl | rfl
   ·exact .inl (by simp)
   ·exact .inr g7
   ·exact .inr g9)).step AT (fun k hk=>by
   simp only [List.mem_cons,List.not_mem_nil,or_false] at hk
   rcases hk with rfl | rfl
   ·exact .inr g10
   ·exact .inr g11)⟩
end Go.Proofs.Q0
namespace Go.Proofs.Q0
open IB (IT)
def Rg (m:Mn):List It→Int
 | []=>0
 | x :: l=>H6 m x.p+Rg m l
theorem Vx (m:Mn):∀ l:List It,Rg m l=m.a*CH l - m.w*CY m.b l
 | []=>by show (0:Int)=m.a*0 - m.w*0;simp
 | x :: l=>by
   show H6 m x.p+Rg m l=m.a*(x.p.w+CH l) - m.w*(dist x.p m.b+CY m.b l)
   rw [Vx m l]
   unfold H6
   rw [Int.mul_add,Int.mul_add,Int.mul_comm (dist x.p m.b) m.w]
   omega
theorem U4 (m:Mn):∀ {l:List It},l≠[]→(∀ x∈l,H6 m x.p < 0)→Rg m l < 0
 | [],h,_=>absurd rfl h
 | x :: l,_,h=>by
   show H6 m x.p+Rg m l < 0
   have h1:=h x List.mem_cons_self
   by_cases e:l=[]
   ·subst e;show H6 m x.p+0 < 0;omega
   ·have:=U4 m e fun y hy=>h y (List.mem_cons_of_mem _ hy)
    omega
theorem BJ.zR {s:Ss} {A:As} (h:BJ s A) (e:A.l≠[]):∃ a∈A.l,0≤N8 A a:=by
 have hc:=h.cen e
 rw [h.GY e] at hc
 refine Classical.byContradiction fun hn=>?_
 have hneg:=U4 (Ix (its A.l)) (its_ne e) fun x hx=>by
  obtain ⟨a,ha,rfl⟩:=List.mem_map.1 hx
  rcases Int.lt_or_le (H6 (Ix (its A.l)) a.1.i.p) 0 with k | k
  ·exact k
  ·exact absurd ⟨a,ha,k⟩ hn
 rw [Vx,← hc.is.a,← hc.is.w,Int.mul_comm] at hneg
 omega
theorem bW:∀ {l:List RT},l≠[]→∃ a∈l,Q0 l=some a
 | [],h=>absurd rfl h
 | a :: l,_=>by
   suffices H:∀ (l:List RT) (a:RT) (L:List RT),a∈L→(∀ x∈l,x∈L)→l.foldl (fun a b=>bif due b.1.i a.1.i then b else a) a∈L from
    ⟨_,H l a (a :: l) List.mem_cons_self (fun x hx=>List.mem_cons_of_mem _ hx),rfl⟩
   intro l
   induction l with
   | nil=>intro a L ha _;exact ha
   | cons b l ih =>
     intro a L ha hl
     rw [List.foldl_cons]
     refine ih _ L ?_ fun x hx=>hl x (List.mem_cons_of_mem _ hx)
     cases due b.1.i a.1.i with
     | true=>exact hl b List.mem_cons_self
     | false=>exact ha
theorem BJ.lP {s:Ss} {A:As} (h:BJ s A) (e:A.l≠[]):∃ a∈A.l,HS A=some a∧0≤N8 A a:=by
 obtain ⟨b,hb,hb0⟩:=h.zR e
 have hne:Ln A≠[]:=fun k=>by
  have:b∈Ln A:=List.mem_filter.2 ⟨hb,by simpa using hb0⟩
  rw [k] at this;cases this
 obtain ⟨a,ha,hf⟩:=bW hne
 obtain ⟨h1,h2⟩:=List.mem_filter.1 ha
 exact ⟨a,h1,hf,by simpa using h2⟩
theorem kZ {A:As} (e:A.l=[]):HS A=none:=by unfold HS Ln;rw [e];rfl
theorem BJ.zI {s:Ss} {A:As} (h:BJ s A) (e:A.l≠[]):0 < (mA A).w:=by
 have hc:=h.cen e
 rw [h.GY e] at hc
 have:=hc.a0
 have:=hc.a1
 unfold mA
 omega
theorem nV {A:As} {a:RT} (hf:Ah A.l (Az a)=some a):(Fk A (Az a)).l=Dh (Az a) A.l:=by
 unfold Fk
 rw [hf];rfl
theorem del_sub {i:Int} {l:List RT}:∀ x∈Dh i l,x∈l∧Az x≠i:=fun x hx=>by
 obtain ⟨h1,h2⟩:=List.mem_filter.1 hx
 exact ⟨h1,by simpa using h2⟩
structure PK (A:As) (G:List Gn) (B:As):Prop where
 none:B.l.find? (GB B)=none
 sub:∀ x∈B.l,x∈A.l
 gone:∀ g∈G,g.r.asleep=true∧0≤g.lag∧g.id∈A.l.map Az∧∀ x∈B.l,Az x≠g.id
 len:B.l.length+G.length=A.l.length
 awake:∀ x∈A.l,x.1.asleep=false→x∈B.l
theorem BJ.Yb:∀ {n:Nat} {s:Ss} {A:As},BJ s A→A.l.length≤n→PK A (Go.Proofs.Q0.Cm n A).1 (Go.Proofs.Q0.Cm n A).2
 | 0,s,A,h,hn=>by
   have e:A.l=[]:=List.eq_nil_of_length_eq_zero (Nat.le_zero.1 hn)
   exact ⟨(by show A.l.find? _=_;rw [e];rfl),fun x hx=>hx,fun g hg=>(by cases hg),(by show A.l.length+0=_;omega),fun x hx _=>hx⟩
 | n+1,s,A,h,hn=>by
   unfold Go.Proofs.Q0.Cm
   cases e:A.l.find? (GB A) with
   | none=>exact ⟨e,fun x hx=>hx,fun g hg=>(by cases hg),(by show A.l.length+0=_;omega),fun x hx _=>hx⟩
   | some a =>
     have ha:=List.mem_of_find?_eq_some e
     have hgo:=List.find?_some e
     have hf:=Ct h.o ha
     obtain ⟨_,_,e3⟩:=h.exit hf
     have hl:=(del_perm h.o hf).length_eq
     have hx:=nV hf
     simp only [List.length_cons] at hl
     have ih:=e3.Yb (n:=n) (by rw [hx];omega)
     unfold GB at hgo
     rw [Bool.and_eq_true,decide_eq_true_iff] at hgo
     have hw:=h.zI (fun k=>by rw [k] at ha;cases ha)
     refine ⟨ih.none,fun x hx'=>?_,fun g hg=>?_,?_,fun x hx' hs=>ih.awake x ?_ hs⟩
     ·have:=ih.sub x hx'
      rw [hx] at this
      exact (del_sub x this).1
     ·rcases List.mem_cons.1 hg with rfl | hg
      ·refine ⟨hgo.1,Int.ediv_nonneg hgo.2 om,List.mem_map_of_mem ha,fun x hx'=>?_⟩
       have:=ih.sub x hx'
       rw [hx] at this
       exact (del_sub x this).2
      ·obtain ⟨k1,k2,k3,k4⟩:=ih.gone g hg
       refine ⟨k1,k2,?_,k4⟩
       obtain ⟨y,hy,YY⟩:=List.mem_map.1 k3
       rw [hx] at hy
       exact List.mem_map.2 ⟨y,(del_sub y hy).1,YY⟩
     ·have:=ih.len
      rw [hx] at this
      simp only [List.length_cons]
      omega
     ·rw [hx]
      refine List.mem_filter.2 ⟨hx',?_⟩
      simp only [decide_eq_true_eq]
      intro k
      have:x=a:=h.o.inj x hx' a ha k
      subst this
      rw [hs] at hgo
      cases hgo.1
theorem BJ.MM {s:Ss} {A:As} (h:BJ s A):PK A (DP A).1 (DP A).2:=h.Yb (Nat.le_refl _)
theorem PK.low {A B:As} {G:List Gn} (h:PK A G B):∀ x∈B.l,x.1.asleep=true→N8 B x < 0:=fun x hx hs=>by
 have:=List.find?_eq_none.1 h.none x hx
 unfold GB at this
 rw [hs] at this
 simpa using this
theorem ZZ {s:Ss} {A:As} (h:BJ s A):∀ a∈A.l,0 < Az a:=fun a ha=>(iright_all a.2.1 (rright_i (h.r a ha))).2.2.2.1
theorem BJ.runs {s:Ss} {A:As} (h:BJ s A):(KZ A=0∧(DP A).2.l=[])∨∃ a∈(DP A).2.l,KZ A=Az a∧0 < Az a∧a.1.asleep=false∧0≤N8 (DP A).2 a∧HS (DP A).2=some a:=by
 have hF:=h.MM
 obtain ⟨s',_,h'⟩:=h.flush
 unfold KZ
 by_cases e:(DP A).2.l=[]
 ·exact .inl ⟨by rw [kZ e];rfl,e⟩
 ·obtain ⟨a,ha,hs,h0⟩:=h'.lP e
  refine .inr ⟨a,ha,by rw [hs];rfl,ZZ h' a ha,?_,h0,hs⟩
  cases k:a.1.asleep with
  | false=>rfl
  | true=>have:=hF.low a ha k;omega
def KV (c:Cs):Prop:=(c.run=0∧c.A.l=[])∨∃ a∈c.A.l,c.run=Az a∧0 < Az a∧a.1.asleep=false∧0≤N8 c.A a
theorem KV.new (k:Int):KV (EV k) := .inl ⟨rfl,rfl⟩
theorem inv_set {s:Ss} {c:Cs} (h:BJ s c.A):KV (Da c):=by
 rcases h.runs with ⟨h1,h2⟩ | ⟨a,h1,h2,h3,h4,h5,_⟩
 ·exact .inl ⟨h1,h2⟩
 ·exact .inr ⟨a,h1,h2,h3,h4,h5⟩
theorem R4:∀ (k:Nat) (left:Int) (c:Cs) (r:Rp),0≤left→left≤1099511627776→(((DV k left c r).2.2.p.length:Nat):Int)≤r.p.length+left
 | 0,left,c,r,h0,_=>by show ((r.p.length:Nat):Int)≤_;omega
 | k+1,left,c,r,h0,hl=>by
   unfold DV
   split
   ·split
    ·rename_i hs
     have h1:=Mr (c:=c) (most:=left) ⟨h0,by omega⟩ hs
     have ih:=R4 k (left - BX c left) (Da (Df c left)) (IJ c left r) om om
     have e:(IJ c left r).p.length=r.p.length+1:=by show (r.p ++ [MF c left]).length=_;simp
     rw [e] at ih
     omega
    ·show ((r.p.length:Nat):Int)≤_;omega
   ·show ((r.p.length:Nat):Int)≤_;omega
theorem bO {A:As} {r:RT} (h:Dn A r=0):r.1.right=true∧∃ a,Ah A.l (Az r)=some a:=by
 unfold Dn Fz at h
 cases hr:r.1.right with
 | false=>rw [hr] at h;cases h
 | true =>
   rw [hr] at h
   have h:Kn A r.1.i=0:=h
   unfold Kn at h
   rw [rright_i hr] at h
   refine ⟨rfl,?_⟩
   cases e:Ah A.l (Az r) with
   | some a=>exact ⟨a,rfl⟩
   | none =>
     rw [show r.1.i.id=Az r from rfl,e] at h
     cases h
theorem Ul {A:As} {r:RT} (h:Dn A r=0):(GX A r).l=CF r A.l:=by unfold GX;rw [if_pos h]
theorem sK {s:Ss} {A:As} (h:BJ s A) (r:RT):(GX A r).l.length=A.l.length:=by
 by_cases e:Dn A r=0
 ·obtain ⟨_,a,ha⟩:=bO e
  rw [Ul e,(KA h.o).length_eq,(del_perm h.o ha).length_eq];rfl
 ·unfold GX;rw [if_neg e]
theorem PF {s:Ss} {c:Cs} (h:BJ s c.A) (m:Int):∃ s',BJ s' (Df c m).A:=⟨_,(h.put (D3 c m)).2.1⟩
theorem tick_gone:∀ (k:Nat) (left:Int) (c:Cs) (r:Rp),(∃ s,BJ s c.A)→(DV k left c r).2.2.g.length+(DV k left c r).2.1.A.l.length=r.g.length+c.A.l.length∧∃ s,BJ s (DV k left c r).2.1.A
 | 0,left,c,r,h=>⟨rfl,h⟩
 | k+1,left,c,r,h=>by
   unfold DV
   split
   ·split
    ·obtain ⟨s,hs⟩:=h
     obtain ⟨s1,h1⟩:=PF hs left
     obtain ⟨s2,_,h2⟩:=h1.flush
     have hF:=h1.MM.len
     have hp:(Df c left).A.l.length=c.A.l.length:=sK hs _
     obtain ⟨i1,i2⟩:=tick_gone k (left - BX c left) (Da (Df c left)) (IJ c left r) ⟨s2,h2⟩
     refine ⟨?_,i2⟩
     rw [i1]
     show (r.g ++ DY (Df c left)).length+(DP (Df c left).A).2.l.length=_
     rw [List.length_append]
     show r.g.length+(DP (Df c left).A).1.length+(DP (Df c left).A).2.l.length=_
     omega
    ·exact ⟨rfl,h⟩
   ·exact ⟨rfl,h⟩
theorem aA {r u:Rq} (h:CK r=some u):u.i.id=r.i.id∧u.asleep=r.asleep:=by
 unfold CK at h
 cases k:(Dx r).right with
 | false=>rw [k] at h;cases h
 | true =>
   rw [k] at h
   cases h
   unfold Dx
   cases EW r.left <;> exact ⟨rfl,rfl⟩
theorem Ry {c:Cs} {m:Int} {u:Rq × Bool} (h:Fw c m=some u):u.1.i.id=(DH c.A.l c.run).i.id∧u.1.asleep=(DH c.A.l c.run).asleep:=by
 unfold Fw DD at h
 split at h
 ·split at h
  ·cases h
  ·rename_i p hp
   cases e:CK (Cu (DH c.A.l c.run) p (BX c m)) with
   | none=>rw [e] at h;cases h
   | some q =>
     rw [e] at h
     cases h
     obtain ⟨a1,a2⟩:=aA e
     exact ⟨a1,a2⟩
 ·cases h
end Go.Proofs.Q0
namespace Go.Proofs.Q0
open Go Go.RowKit
def CO (c:Cs):Prop:=∃ s,BJ s c.A
theorem NJ {c:Cs} (h:CO c):CO (Da c):=by
 obtain ⟨s,hs⟩:=h
 obtain ⟨s',_,h'⟩:=hs.flush
 exact ⟨s',h'⟩
theorem Fy {c:Cs} (h:CO c) (id:Int):CO (Ax c id).2:=by
 obtain ⟨s,hs⟩:=h
 unfold Ax
 split
 ·rename_i k
  cases e:Ah c.A.l id with
  | none=>rw [e] at k;cases k
  | some a =>
    obtain ⟨_,_,h3⟩:=hs.exit e
    exact ⟨_,h3⟩
 ·exact ⟨s,hs⟩
theorem NF {c:Cs} (h:CO c) (id:Int):CO (Be c id).2:=by
 have hl:=Fy h id
 obtain ⟨s,hs⟩:=h
 unfold Be
 cases Ah c.A.l id with
 | none=>exact ⟨s,hs⟩
 | some a =>
   show CO (if a.1.asleep=true then (6,c) else if De c.A id < 0 then (0,(⟨GZ c.A id true,c.run,c.carr⟩:Cs)) else Ax c id).2
   split
   ·exact ⟨s,hs⟩
   ·split
    ·exact ⟨_,hs.Z1 id true⟩
    ·exact hl
theorem OX {c:Cs} (h:CO c) (id:Int):CO (CL c id).2:=by
 obtain ⟨s,hs⟩:=h
 unfold CL
 cases Ah c.A.l id with
 | none=>exact ⟨s,hs⟩
 | some a =>
   show CO (if a.1.asleep=true then (0,(⟨GZ c.A id false,c.run,c.carr⟩:Cs)) else (6,c)).2
   split
   ·exact ⟨_,hs.Z1 id false⟩
   ·exact ⟨s,hs⟩
theorem Mu {c:Cs} (h:CO c) (id q:Int):CO (Bk c id q).2:=by
 obtain ⟨s,hs⟩:=h
 unfold Bk
 split
 ·exact ⟨s,hs⟩
 ·cases Ah c.A.l id with
  | none=>exact ⟨s,hs⟩
  | some a =>
    show CO (MR c id (JU c.A a.1 q)).2
    cases JU c.A a.1 q with
    | none=>exact ⟨s,hs⟩
    | some y=>exact ⟨_,(hs.put (C3 y)).2.1⟩
theorem NT {c:Cs} (h:CO c) (id ns:Int):CO (Bl c id ns).2:=by
 obtain ⟨s,hs⟩:=h
 unfold Bl
 split
 ·exact ⟨s,hs⟩
 ·cases Ah c.A.l id with
  | none=>exact ⟨s,hs⟩
  | some a=>exact ⟨_,(hs.put _).2.1⟩
theorem Nd {c:Cs} (h:CO c) (id q ns lag:Int):CO (Bi c id q ns lag).2:=by
 obtain ⟨s,hs⟩:=h
 unfold Bi
 split
 ·exact ⟨s,hs⟩
 ·split
  ·exact ⟨s,hs⟩
  ·split
   ·exact ⟨s,hs⟩
   ·cases Hv c id q ns lag with
    | none=>exact ⟨s,hs⟩
    | some r =>
      show CO (if FO c.A r=0 then (0,(⟨G0 c.A r,c.run,E0 c.carr (CW (G0 c.A r) id)⟩:Cs)) else (FO c.A r,c)).2
      split
      ·exact ⟨_,(hs.enter r).2⟩
      ·exact ⟨s,hs⟩
theorem Tw {c:Cs} (h:CO c) (ns:Int):CO (Aq c ns).2.1:=by
 unfold Aq
 split
 ·exact (tick_gone _ ns c .none h).2
 ·exact h
structure Ev where
 core:Int
 id:Int
 ns:Int
 done:Bool
 gone:Bool
deriving DecidableEq
abbrev Ev.cells (x:Ev):List Value:=[.int .i64 x.core,.int .i64 x.id,.int .u64 x.ns,.bool x.done,.bool x.gone]
def Nr (l:List Ev):List Value:=(l.map Ev.cells).flatten
theorem X5 (l:List Ev) (x:Ev):Nr (l ++ [x])=Nr l ++ x.cells:=by simp [Nr]
structure Sy where
 cf:Cf
 t:List Tk
 k:List Cs
structure Ch where
 s:Sy
 ev:List Ev
def BP (x:Tk):Bool:=x.st == 1 || x.st == 2
def AS (s:Sy) (k:Int):Cs:=s.k.getD k.toNat (EV 0)
def Bb (s:Sy) (k:Int) (c:Cs):Sy:={ s with k:=s.k.set k.toNat c }
def Bu (s:Sy) (x:Tk):Sy:={ s with t:=Ez s.t x }
def Td (k:Int) (p:Pr):Ev:=⟨k,p.id,p.ns,p.done,false⟩
def D5 (s:Sy) (g:Gn):Tk:={ BF s.t g.id with st:=3,lag:=GH s.cf g.lag (BF s.t g.id).slice }
def DO (k:Int) (s:Ch) (g:Gn):Ch:=⟨Bu s.s (D5 s.s g),s.ev ++ [⟨k,g.id,0,false,true⟩]⟩
def Gv (k:Int) (s:Ch) (p:Pr):Ch:=⟨s.s,s.ev ++ [Td k p]⟩
def BR (s:Ch) (k:Int) (r:Rp):Ch:=r.g.foldl (DO k) (r.p.foldl (Gv k) s)
def B6 (s:Ch) (x:Tk):Int × Ch :=
 let c:=AS s.s x.core
 let l:=Ax c x.id
 (GH s.s.cf (CW c.A x.id) x.slice,BR ⟨Bb s.s x.core (Cr c l.1 l.2),s.ev⟩ x.core (BU l.1 l.2 .none))
def EP (s:Ch) (k:Int) (l:Int × Cs × Rp):Int × Ch :=
 if l.1=0 then (0,BR ⟨Bb s.s k (Cr (AS s.s k) l.1 l.2.1),s.ev⟩ k (BU l.1 l.2.1 l.2.2)) else (l.1,s)
def FM (s:Ch) (x:Tk) (lag:Int):Int × Ch:=EP s x.core ((Bi (AS s.s x.core) x.id x.w x.slice lag).1,(Bi (AS s.s x.core) x.id x.w x.slice lag).2,.none)
def DA (s:Sy) (core w slice:Int):Int:=Fh [Bx s.cf core,BC w 1048576,BC slice (Dp s.cf.slice)]
def BZ (core w slice:Int):Tk:=⟨0,1,core,IntKind.u32.wrap w,slice,0⟩
def Br (s:Ch) (core w slice:Int):Int × Int × Ch :=
 if DA s.s core w slice≠0 then (DA s.s core w slice,0,s) else
 if E9 s.s.t (BZ core w slice)≠0 then (E9 s.s.t (BZ core w slice),0,s) else
 let n:=Eo s.s.t (BZ core w slice)
 let j:=FM ⟨{ s.s with t:=DN s.s.t (BZ core w slice) },s.ev⟩ { BZ core w slice with id:=n } 0
 if j.1=0 then (0,n,j.2) else (j.1,0,s)
def Gc (s:Ch) (x:Tk) (id:Int):Int × Ch :=
 let s1:=if BP x=true then (B6 s x).2 else s
 (Dd (BI s1.s.t id),⟨{ s1.s with t:=FJ s1.s.t id },s1.ev⟩)
def FB (s:Ch) (x:Tk) (id:Int):Tk :=
 let y:=Bz (AS s.s x.core) id
 if y.1=true then { x with st:=3,lag:=GH s.s.cf y.2 x.slice } else { x with st:=2 }
def EN (s:Ch) (x:Tk) (l:Int × Cs × Rp):Int × Ch :=
 if l.1=0 then (0,BR ⟨Bu (Bb s.s x.core (Cr (AS s.s x.core) l.1 l.2.1)) x,s.ev⟩ x.core (BU l.1 l.2.1 l.2.2)) else (l.1,s)
def HE (s:Ch) (x:Tk) (id:Int):Int × Ch :=
 if x.st≠1 then (6,s) else
 let l:=Be (AS s.s x.core) id
 EN s (FB s x id) (l.1,l.2,.none)
def FC (s:Ch) (x:Tk) (id:Int):Int × Ch :=
 if x.st=1 then (6,s) else
 if x.st=3 then FM ⟨Bu s.s { x with st:=1 },s.ev⟩ { x with st:=1 } x.lag else
 let l:=CL (AS s.s x.core) id
 EN s { x with st:=1 } (l.1,l.2,.none)
def Dl (s:Ch) (x:Tk) (id w:Int):Int × Ch :=
 if BC w 1048576≠0 then (BC w 1048576,s) else
 let y:={ x with w:=IntKind.u32.wrap w }
 let s1:Ch:=⟨Bu s.s y,s.ev⟩
 if BP x=false then (0,s1) else
 let l:=Bk (AS s.s x.core) id y.w
 EP s1 x.core (l.1,l.2,.none)
def EY (s:Ch) (x:Tk) (id ns:Int):Int × Ch :=
 if BC ns (Dp s.s.cf.slice)≠0 then (BC ns (Dp s.s.cf.slice),s) else
 let y:={ x with slice:=ns }
 let s1:Ch:=⟨Bu s.s y,s.ev⟩
 if BP x=false then (0,s1) else
 let l:=Bl (AS s.s x.core) id ns
 EP s1 x.core (l.1,l.2,.none)
def ET (x:Tk) (core lag:Int):Tk:={ x with core:=core,lag:=lag,st:=if x.st=2 then 3 else x.st }
def Cg (s:Ch) (x:Tk) (core:Int):Int × Ch :=
 if Bx s.s.cf core≠0∨core=x.core then (Bx s.s.cf core,s) else
 let l:=if BP x=true then B6 s x else (x.lag,s)
 let y:=ET x core l.1
 let s1:Ch:=⟨Bu l.2.s y,l.2.ev⟩
 if y.st=1 then FM s1 y y.lag else (0,s1)
def Du:Nat→Nat→Ch→Int→Int × Ch
 | 0,_,s,_=>(0,s)
 | n+1,k,s,ns =>
   let l:=Aq (AS s.s k) ns
   if l.1=0 then Du n (k+1) (BR ⟨Bb s.s k (Cr (AS s.s k) l.1 l.2.1),s.ev⟩ k (BU l.1 l.2.1 l.2.2)) ns else (l.1,s)
def GF (s:Ch) (ns:Int):Int × Ch :=
 if BC ns (Dp s.s.cf.tick)≠0 then (BC ns (Dp s.s.cf.tick),s) else Du s.s.k.length 0 s ns
def CJ (s:Ch) (id:Int) (f:Ch→Tk→Int × Ch):Int × Ch:=if Dd (BI s.s.t id)≠0 then (Dd (BI s.s.t id),s) else f s (BF s.s.t id)
def FG (s:Sy) (l:Int × Ch):List Ev × Sy:=if l.1=0 then (l.2.ev,l.2.s) else ([],s)
structure C2 where
 d:Int
 id:Int
 core:Int
 w:Int
 ns:Int
abbrev C2.cells (a:C2):List Value:=[.int .u8 a.d,.int .i64 a.id,.int .i64 a.core,.int .u64 a.w,.int .u64 a.ns]
def C2.In (a:C2):Prop:=(0≤a.d∧a.d < 256)∧In64 a.id∧In64 a.core∧BV a.w∧BV a.ns
def D9 (s:Sy) (a:C2):Int × Ch :=
 let c:Ch:=⟨s,[]⟩
 if a.d % 12 < 2 then ((Br c a.core a.w a.ns).1,(Br c a.core a.w a.ns).2.2)
 else if a.d % 12=2 then CJ c a.id fun s x=>Gc s x a.id
 else if a.d % 12 < 5 then CJ c a.id fun s x=>HE s x a.id
 else if a.d % 12 < 7 then CJ c a.id fun s x=>FC s x a.id
 else if a.d % 12=7 then CJ c a.id fun s x=>Dl s x a.id a.w
 else if a.d % 12=8 then CJ c a.id fun s x=>EY s x a.id a.ns
 else if a.d % 12=9 then CJ c a.id fun s x=>Cg s x a.core
 else GF c a.ns
def JV (s:Sy) (a:C2):Int:=if a.d % 12 < 2 then (Br ⟨s,[]⟩ a.core a.w a.ns).2.1 else 0
def JC (c:Cf):Sy:=⟨c,List.replicate (Es c.tasks) .zero,List.replicate c.cores.toNat (EV c.origin)⟩
def CN (n:Int) (x:Tk):Prop:=In64 x.id∧(0≤x.st∧x.st < 256)∧In64 x.core∧F7 x.w∧BV x.slice∧In64 x.lag∧(x.st≠0→0≤x.core∧x.core < n)
theorem CN.zero (n:Int):CN n .zero:=⟨by decide,by decide,by decide,by decide,by decide,by decide,fun h=>absurd rfl h⟩
structure EC (s:Sy):Prop where
 cf:s.cf.In
 lo:1≤s.cf.cores
 hi:s.cf.cores≤8
 len:(s.k.length:Int)=s.cf.cores
 row:∀ x∈s.t,CN s.cf.cores x
 tl:s.t.length≤32
theorem VD {n:Int} {l:List Tk} (h:∀ x∈l,CN n x) {y:Tk} (hy:CN n y) (i:Nat):∀ x∈l.set i y,CN n x:=fun x hx=>by
 rcases List.mem_or_eq_of_mem_set hx with h1 | rfl
 ·exact h x h1
 ·exact hy
theorem sN {n:Int} {l:List Tk} (h:∀ x∈l,CN n x) {y:Tk} (hy:CN n y):∀ x∈Ez l y,CN n x:=by
 unfold Ez
 cases B0 y with
 | false=>exact h
 | true =>
   cases BI l y.id with
   | none=>exact h
   | some i=>exact VD h hy i
theorem VH {n:Int} {l:List Tk} (h:∀ x∈l,CN n x) (id:Int):∀ x∈FJ l id,CN n x:=by
 unfold FJ
 cases BI l id with
 | none=>exact h
 | some i=>exact VD h (CN.zero n) i
theorem ok_task {n:Int} {l:List Tk} (h:∀ x∈l,CN n x) (id:Int):CN n (BF l id):=by
 unfold BF
 cases e:BI l id with
 | none=>exact CN.zero n
 | some i =>
   have hi:=(IF e).1
   show CN n (l.getD i .zero)
   rw [List.getD_eq_getElem?_getD,List.getElem?_eq_getElem hi]
   exact h _ (List.getElem_mem hi)
theorem Ya {n:Int} {l:List Tk} (h:∀ x∈l,CN n x) (hl:l.length≤32) {y:Tk} (hy:CN n y):∀ x∈DN l y,CN n x:=by
 unfold DN
 cases B0 y with
 | false=>exact h
 | true =>
   cases e:DX l with
   | none=>exact h
   | some i =>
     have hi:=LC e
     have hn:In64 ((i:Int)+1):=by unfold In64;omega
     exact VD (y:={ y with id:=(i:Int)+1 }) h ⟨hn,hy.2⟩ i
theorem task_st {l:List Tk} {id:Int} (h:Dd (BI l id)=0):(BF l id).st≠0:=by
 cases e:BI l id with
 | none=>rw [e] at h;cases h
 | some i =>
   obtain ⟨x,h1,h2,_⟩:=NS e
   unfold BF
   rw [e]
   show (l.getD i .zero).st≠0
   rw [List.getD_eq_getElem?_getD,h1]
   exact h2
theorem Ky (c:Cf) (x s:Int):In64 (GH c x s):=jH (Yy _ _)
theorem EC.Sk {s:Sy} (h:EC s) (k:Int) (c:Cs):EC (Bb s k c):=⟨h.cf,h.lo,h.hi,by show ((s.k.set k.toNat c).length:Int)=_;rw [List.length_set];exact h.len,h.row,h.tl⟩
theorem EC.rows {s:Sy} (h:EC s) {t:List Tk} (ht:∀ x∈t,CN s.cf.cores x) (hl:t.length=s.t.length):EC { s with t:=t }:=⟨h.cf,h.lo,h.hi,h.len,ht,by show t.length≤32;rw [hl];exact h.tl⟩
theorem EC.CK {s:Sy} (h:EC s) {x:Tk} (hx:CN s.cf.cores x):EC (Bu s x):=h.rows (sN h.row hx) (l6 _ _)
theorem CN.oE {s:Sy} (h:EC s) (g:Gn):CN s.cf.cores (D5 s g):=by
 have hx:=ok_task h.row g.id
 by_cases e:(BF s.t g.id).st=0
 ·cases k:BI s.t g.id with
  | none =>
    have ez:BF s.t g.id = .zero:=by unfold BF;rw [k]
    have:=h.lo
    unfold D5
    rw [ez]
    exact ⟨(by decide:In64 0),(by decide:(0:Int)≤3∧(3:Int) < 256),(by decide:In64 0),(by decide:F7 0),(by decide:BV 0),Ky _ _ _,fun _=>⟨Int.le_refl _,by show (0:Int) < _;omega⟩⟩
  | some i=>exact absurd e (task_st (by rw [k];rfl))
 ·exact ⟨hx.1,(by decide:(0:Int)≤3∧(3:Int) < 256),hx.2.2.1,hx.2.2.2.1,hx.2.2.2.2.1,Ky _ _ _,fun _=>hx.2.2.2.2.2.2 e⟩
theorem Nn (k:Int):∀ (l:List Pr) (s:Ch),(l.foldl (Gv k) s).s=s.s∧(l.foldl (Gv k) s).ev=s.ev ++ l.map (Td k)
 | [],s=>⟨rfl,by simp⟩
 | p :: l,s=>by
   obtain ⟨h1,h2⟩:=Nn k l (Gv k s p)
   refine ⟨h1,?_⟩
   rw [List.foldl_cons,h2]
   simp [Gv]
theorem Yw (k:Int):∀ (l:List Gn) (s:Ch),EC s.s→EC (l.foldl (DO k) s).s∧(l.foldl (DO k) s).s.cf=s.s.cf∧(l.foldl (DO k) s).s.k=s.s.k
 | [],s,h=>⟨h,rfl,rfl⟩
 | g :: l,s,h=>Yw k l (DO k s g) (h.CK (CN.oE h g))
theorem ok_absorb {s:Ch} (h:EC s.s) (k:Int) (r:Rp):EC (BR s k r).s∧(BR s k r).s.cf=s.s.cf∧(BR s k r).s.k=s.s.k:=by
 obtain ⟨e1,_⟩:=Nn k r.p s
 obtain ⟨h1,h2,h3⟩:=Yw k r.g (r.p.foldl (Gv k) s) (by rw [e1];exact h)
 rw [e1] at h2 h3
 exact ⟨h1,h2,h3⟩
theorem TS (k:Int):∀ (l:List Gn) (s:Ch),(l.foldl (DO k) s).ev=s.ev ++ l.map (fun g=>⟨k,g.id,0,false,true⟩)
 | [],s=>by simp
 | g :: l,s=>by rw [List.foldl_cons,TS k l];simp [DO]
theorem OC (s:Ch) (k:Int) (r:Rp):(BR s k r).ev=s.ev ++ r.p.map (Td k) ++ r.g.map (fun g=>⟨k,g.id,0,false,true⟩):=by
 unfold BR
 rw [TS,(Nn k r.p s).2]
end Go.Proofs.Q0
namespace Go.Proofs.Q0
open Go Go.RowKit Go.ChangeShapes Go.WideShapes Go.ChangeAt
theorem Tc : Tryz.prog.underlying 24 = some (.struct #[{ name := "Cores", type := 3, offset := 0, embedded := false, tag := "", pkgPath := "", byteOffset := 0 }, { name := "Tasks", type := 3, offset := 1, embedded := false, tag := "", pkgPath := "", byteOffset := 8 }, { name := "Tick", type := 22, offset := 2, embedded := false, tag := "", pkgPath := "", byteOffset := 16 }, { name := "Slice", type := 22, offset := 3, embedded := false, tag := "", pkgPath := "", byteOffset := 24 }, { name := "Origin", type := 22, offset := 4, embedded := false, tag := "", pkgPath := "", byteOffset := 32 }]) := by kernel_rfl
theorem kX {H:Type} {enc:TypeId × Value→H} {W:World} {r:Reach} {b0 base:Nat} {spare:Nat→Bool} {held:Bool} {v:Value} {d:DataW H} {p:List MemPlace} (hv:Value.okWide Tryz.prog W r b0 24 v)
 (h:DataW.Trod enc Tryz.prog W base spare held 24 v d p):∃ c:Cf,c.In∧v=QC c:=by
 obtain ⟨cs,rfl,hsz⟩:=okWide_struct Tc hv
 have hC:Tryz.prog.cellsOf 24=5:=by kernel_rfl
 rw [hC] at hsz
 obtain ⟨l⟩:=cs
 match l,hsz with
 | [v0,v1,v2,v3,v4],_ =>
   obtain ⟨fuel,hf⟩:=h
   obtain ⟨xs,n,_,_,hl,hlen,hq⟩:=DataW.trod_struct Tc hf
   match xs,hlen with
   | [y0,y1,y2,y3,y4],_ =>
     have c1:Tryz.prog.cellsOf 3=1:=by kernel_rfl
     have c2:Tryz.prog.cellsOf 22=1:=by kernel_rfl
     have h0:=hq 0 _ rfl
     have h1:=hq 1 _ rfl
     have h2:=hq 2 _ rfl
     have h3:=hq 3 _ rfl
     have h4:=hq 4 _ rfl
     obtain ⟨a0,e0,_,w0⟩:=DataW.trod_int (t:=3) (k := .i64) (by kernel_rfl) h0
     obtain ⟨a1,e1,_,w1⟩:=DataW.trod_int (t:=3) (k := .i64) (by kernel_rfl) h1
     obtain ⟨a2,e2,_,w2⟩:=DataW.trod_int (t:=22) (k := .u64) (by kernel_rfl) h2
     obtain ⟨a3,e3,_,w3⟩:=DataW.trod_int (t:=22) (k := .u64) (by kernel_rfl) h3
     obtain ⟨a4,e4,_,w4⟩:=DataW.trod_int (t:=22) (k := .u64) (by kernel_rfl) h4
     have q0:v0 = .int .i64 a0:=by
      have e:List.take (Tryz.prog.cellsOf 3) (List.drop 0 [v0,v1,v2,v3,v4])=[.int .i64 a0]:=e0
      rw [c1] at e;simpa using e
     have q1:v1 = .int .i64 a1:=by
      have e:List.take (Tryz.prog.cellsOf 3) (List.drop 1 [v0,v1,v2,v3,v4])=[.int .i64 a1]:=e1
      rw [c1] at e;simpa using e
     have q2:v2 = .int .u64 a2:=by
      have e:List.take (Tryz.prog.cellsOf 22) (List.drop 2 [v0,v1,v2,v3,v4])=[.int .u64 a2]:=e2
      rw [c2] at e;simpa using e
     have q3:v3 = .int .u64 a3:=by
      have e:List.take (Tryz.prog.cellsOf 22) (List.drop 3 [v0,v1,v2,v3,v4])=[.int .u64 a3]:=e3
      rw [c2] at e;simpa using e
     have q4:v4 = .int .u64 a4:=by
      have e:List.take (Tryz.prog.cellsOf 22) (List.drop 4 [v0,v1,v2,v3,v4])=[.int .u64 a4]:=e4
      rw [c2] at e;simpa using e
     exact ⟨⟨a0,a1,a2,a3,a4⟩,⟨Ox w0,Ox w1,M5 w2,M5 w3,M5 w4⟩,by rw [q0,q1,q2,q3,q4];rfl⟩
theorem YH : Tryz.prog.underlying 33 = some (.struct #[{ name := "Do", type := 5, offset := 0, embedded := false, tag := "", pkgPath := "", byteOffset := 0 }, { name := "ID", type := 3, offset := 1, embedded := false, tag := "", pkgPath := "", byteOffset := 8 }, { name := "Core", type := 3, offset := 2, embedded := false, tag := "", pkgPath := "", byteOffset := 16 }, { name := "W", type := 22, offset := 3, embedded := false, tag := "", pkgPath := "", byteOffset := 24 }, { name := "Ns", type := 22, offset := 4, embedded := false, tag := "", pkgPath := "", byteOffset := 32 }]) := by kernel_rfl
theorem Pf:Tryz.prog.cellsOf 33=5:=by kernel_rfl
theorem dI {H:Type} {enc:TypeId × Value→H} {W:World} {base:Nat} {spare:Nat→Bool} {held:Bool} (fuel:Nat) (cs:List Value) (x) (h:DataW.trod enc Tryz.prog W base spare held fuel 33 cs=some x):∃ q:C2,cs=[.int .u8 q.d,.int .i64 q.id,.int .i64 q.core,.int .u64 q.w,.int .u64 q.ns]∧C2.In q:=by
 obtain ⟨xs,n,_,_,hl,hlen,hq⟩:=DataW.trod_struct YH h
 rw [Pf] at hl
 match cs,hl with
 | [v0,v1,v2,v3,v4],_ =>
   match xs,hlen with
   | [y0,y1,y2,y3,y4],_ =>
     have h0:=hq 0 _ rfl
     obtain ⟨a0,e0,_,w0⟩:=DataW.trod_int (t:=5) (k := .u8) (by kernel_rfl) h0
     replace w0:=tG w0
     have q0:v0 = .int .u8 a0:=by
      have e:List.take (Tryz.prog.cellsOf 5) (List.drop 0 [v0,v1,v2,v3,v4])=[.int .u8 a0]:=e0
      rw [show Tryz.prog.cellsOf 5=1 by kernel_rfl] at e;simpa using e
     have h1:=hq 1 _ rfl
     obtain ⟨a1,e1,_,w1⟩:=DataW.trod_int (t:=3) (k := .i64) (by kernel_rfl) h1
     replace w1:=Ox w1
     have q1:v1 = .int .i64 a1:=by
      have e:List.take (Tryz.prog.cellsOf 3) (List.drop 1 [v0,v1,v2,v3,v4])=[.int .i64 a1]:=e1
      rw [show Tryz.prog.cellsOf 3=1 by kernel_rfl] at e;simpa using e
     have h2:=hq 2 _ rfl
     obtain ⟨a2,e2,_,w2⟩:=DataW.trod_int (t:=3) (k := .i64) (by kernel_rfl) h2
     replace w2:=Ox w2
     have q2:v2 = .int .i64 a2:=by
      have e:List.take (Tryz.prog.cellsOf 3) (List.drop 2 [v0,v1,v2,v3,v4])=[.int .i64 a2]:=e2
      rw [show Tryz.prog.cellsOf 3=1 by kernel_rfl] at e;simpa using e
     have h3:=hq 3 _ rfl
     obtain ⟨a3,e3,_,w3⟩:=DataW.trod_int (t:=22) (k := .u64) (by kernel_rfl) h3
     replace w3:=M5 w3
     have q3:v3 = .int .u64 a3:=by
      have e:List.take (Tryz.prog.cellsOf 22) (List.drop 3 [v0,v1,v2,v3,v4])=[.int .u64 a3]:=e3
      rw [show Tryz.prog.cellsOf 22=1 by kernel_rfl] at e;simpa using e
     have h4:=hq 4 _ rfl
     obtain ⟨a4,e4,_,w4⟩:=DataW.trod_int (t:=22) (k := .u64) (by kernel_rfl) h4
     replace w4:=M5 w4
     have q4:v4 = .int .u64 a4:=by
      have e:List.take (Tryz.prog.cellsOf 22) (List.drop 4 [v0,v1,v2,v3,v4])=[.int .u64 a4]:=e4
      rw [show Tryz.prog.cellsOf 22=1 by kernel_rfl] at e;simpa using e
     subst q0
     subst q1
     subst q2
     subst q3
     subst q4
     exact ⟨⟨a0,a1,a2,a3,a4⟩,rfl,⟨w0,w1,w2,w3,w4⟩⟩
instance:Inhabited C2:=⟨⟨0,0,0,0,0⟩⟩
theorem Xu {H:Type} {enc:TypeId × Value→H} {W:World} {r:Reach} {b0 base:Nat} {spare:Nat→Bool} {held:Bool} {v:Value} {d:DataW H} {p:List MemPlace} (hv:Value.okWide Tryz.prog W r b0 25 v)
 (h:DataW.Trod enc Tryz.prog W base spare held 25 v d p):∃ xs:List C2,R6 W 5 v (xs.map C2.cells)∧∀ a∈xs,a.In :=
 open_rows (cells:=C2.cells) (by kernel_rfl) Pf (by decide) (fun _=>rfl) dI hv h
end Go.Proofs.Q0
namespace Go.Proofs.Q0
open Go Go.RowKit
attribute [local irreducible] XS XC XA AX AO A7 A0 AZ A8 Aa AV SE
def Hq:Tk:=⟨0,1,0,0,0,0⟩
def Lj (n:Nat):List Tk:=match n with
 | 0=>List.replicate (Es 3) .zero
 | 1=>DN (List.replicate (Es 3) .zero) Hq
 | 2=>DN (DN (List.replicate (Es 3) .zero) Hq) Hq
 | 3=>DN (DN (DN (List.replicate (Es 3) .zero) Hq) Hq) Hq
 | _=>FJ (DN (DN (DN (List.replicate (Es 3) .zero) Hq) Hq) Hq) 2
theorem a20:Eo (Lj 0) Hq=1∧E9 (Lj 0) Hq=0∧Eo (Lj 1) Hq=2∧E9 (Lj 1) Hq=0∧Eo (Lj 2) Hq=3∧E9 (Lj 2) Hq=0∧Dd (BI (Lj 3) 2)=0∧Eo (Lj 4) Hq=2∧E9 (Lj 4) Hq=0:=by decide
theorem X9 (w0:World) (ht:DF w0):AM Tryz.prog 61 #[] w0 fun v w'=>v = .bool true∧AA [] w0 w':=by
 have hs:=St.nil w0
 obtain ⟨e1,e2,e3,e4,e5,e6,e7,e8,e9⟩:=a20
 refine AQ Tryz.func61 Tryz.ntmps61 (k:=?_)
 refine Ja ?_
 refine cl (h:=by exact Uw 3 _) (k:=?_)
 rintro v w1 ⟨⟨tb,rb,rfl,hT,g1,g2,hne⟩,AJ⟩
 have Aw:=(hs.AD rfl).trans AJ
 have nX:=(hs.AD rfl).size
 have lr:rb < w1.heap.size:=by obtain ⟨_,_,_,h,_⟩:=hT;exact lt_of_block h
 clear hs
 have hs:=St.nil w1
 repeat' (first|refine Sa ?_|(refine AU hs (k:=?_);intro w hs)|(refine al hs (k:=?_);intro b w hz hs)|fail)
 have gb:=hs.new _ List.mem_cons_self rfl
 simp only at gb
 have hnb:b∉[rb]:=by simp;omega
 have uZ:=hs.AB [] (by simp) (by simp [D0])
 refine cl (h:=by exact LI tb rb (Lj 0) Hq _ (hT.only uZ)) (k:=?_)
 rw [e1,e2]
 rintro v w2 ⟨rfl,Bj,vC⟩
 have hb0:=vC.block (hs.get (b:=b) (by repeat (first | exact At.head | (with_reducible apply At.tail)))) hnb
 have aA8:=(Aw.trans uZ).step vC (fun k hk => .inr (by obtain rfl:=List.mem_singleton.1 hk;exact g2))
 clear hs
 have hs:=(St.nil w2).AE hb0
 refine Ja ?_
 have wM:=hs.AB [] (by simp [hb0]) (by simp [D0])
 refine cl (h:=by exact LI tb rb (Lj 1) Hq _ (Bj.only wM)) (k:=?_)
 rw [e3,e4]
 rintro v w3 ⟨rfl,L0,vN⟩
 have CD:=vN.block (hs.get (b:=b) (by repeat (first | exact At.head | (with_reducible apply At.tail)))) hnb
 have aAe:=(aA8.trans wM).step vN (fun k hk => .inr (by obtain rfl:=List.mem_singleton.1 hk;exact g2))
 clear hs
 have hs:=(St.nil w3).AE CD
 refine Ja ?_
 have yF:=hs.AB [] (by simp [CD]) (by simp [D0])
 refine cl (h:=by exact LI tb rb (Lj 2) Hq _ (L0.only yF)) (k:=?_)
 rw [e5,e6]
 rintro v w4 ⟨rfl,Fj,yD⟩
 have Dv:=yD.block (hs.get (b:=b) (by repeat (first | exact At.head | (with_reducible apply At.tail)))) hnb
 have aAY:=(aAe.trans yF).step yD (fun k hk => .inr (by obtain rfl:=List.mem_singleton.1 hk;exact g2))
 clear hs
 have hs:=(St.nil w4).AE Dv
 refine Ja ?_
 have vK:=hs.AB [] (by simp [Dv]) (by simp [D0])
 refine cl (h:=by exact Th tb rb (Lj 3) 2 _ (Fj.only vK) (by decide)) (k:=?_)
 rw [e7]
 rintro v w5 ⟨rfl,RX,xG⟩
 have GR:=xG.block (hs.get (b:=b) (by repeat (first | exact At.head | (with_reducible apply At.tail)))) hnb
 have aAO:=(aAY.trans vK).step xG (fun k hk => .inr (by obtain rfl:=List.mem_singleton.1 hk;exact g2))
 clear hs
 have hs:=(St.nil w5).AE GR
 refine Ja ?_
 have tP:=hs.AB [] (by simp [GR]) (by simp [D0])
 refine cl (h:=by exact LI tb rb (Lj 4) Hq _ (RX.only tP)) (k:=?_)
 rw [e8,e9]
 rintro v w6 ⟨rfl,Ws,vU⟩
 have hb4:=vU.block (hs.get (b:=b) (by repeat (first | exact At.head | (with_reducible apply At.tail)))) hnb
 have yL:=(aAO.trans tP).step vU (fun k hk => .inr (by obtain rfl:=List.mem_singleton.1 hk;exact g2))
 clear hs
 have hs:=(St.nil w6).AE hb4
 refine Ja ?_
 have To:=hs.AB [] (by simp [hb4]) (by simp [D0])
 refine AY hs (h:=by exact Xn _ (tab_only ht (yL.trans To))) (k:=?_);intro w' ho hs;refine Jc ?_
 refine AF ?_
 exact ⟨rfl,yL.trans (hs.AB [] (by simp [hb4]) (by simp [D0]))⟩
end Go.Proofs.Q0
namespace Go.Proofs.Q0
open Go Go.RowKit
section
variable {ops : Array Oper} {QE : Exit → Env → World → Prop} {n : Nat} {rest : List Oper} {env : Env} {w : World} {d : Option Nat} {ty : Nat} {pos : String} {Am : Array Edge} {g : Option (Nat × Bool)}
theorem aD {t t':Nat} {x y:Operand} {a b:Int} (h0:0≤a) (h2:0 < b) (hw:BA ops env g=true:=by exact rfl) (hx:ev env x = .int .u8 a:=by exact rfl) (hy:ev env y = .int .u8 b:=by exact rfl)
 (k:XS Tryz.prog ops QE n rest (Bp env d (.int .u8 (a % b))) w):XS Tryz.prog ops QE n (⟨d,.binOp .rem t x y t',ty,pos,Am,g⟩ :: rest) env w :=
 xs_val hw (by rw [Zt om hx hy,Int.tmod_eq_emod_of_nonneg h0]) k
theorem aAo {t t' e:Nat} {x y:Operand} {a:Option Addr} {m c:Nat} (ht:Tryz.prog.underlying t=some (.slice e)) (hw:BA ops env g=true:=by exact rfl) (hx:ev env x = .slice a m c:=by exact rfl) (hy:ev env y = .slice none 0 0:=by exact rfl)
 (k:XS Tryz.prog ops QE n rest (Bp env d (.bool a.isNone)) w):XS Tryz.prog ops QE n (⟨d,.binOp .eql t x y t',ty,pos,Am,g⟩ :: rest) env w :=
 xs_val hw (Kz (by rw [hx,hy];simp [eqGuard]) (by
  rw [hx,hy]
  have h:∀ d:Nat,(Op.equalIn (d+1) t (.slice a m c) (.slice none 0 0)).run Tryz.prog w = .ok a.isNone w:=fun d=>by cases a <;> simp [Op.equalIn,run_underlying ht]
  simp only [binOp]
  simp [Op.equal,Op.maxDepth,h 9999])) k
end
end Go.Proofs.Q0
namespace Go.Proofs.Q0
open Go Go.RowKit
attribute [local irreducible] XS XC XA AX AO A7 A0 AZ A8 Aa AV SE
section
variable {ops : Array Oper} {QE : Exit → Env → World → Prop} {n : Nat} {rest : List Oper} {env : Env} {w : World}
 {d:Option Nat} {ty:Nat} {pos:String} {Am:Array Edge} {g:Option (Nat × Bool)}
theorem aH {t e size bytes:Nat} {x y:Operand} {v u:Value} {k:Nat} {xs ys:List Value} {G Gy:List Nat} (hO:Ba w e size v k xs G) (hY:Ba w e size u 0 ys Gy) (hw:BA ops env g=true:=by exact rfl) (Cx:look t Gq.sls=some (e,size,bytes):=by exact rfl)
 (hx:ev env x=v:=by exact rfl) (hy:ev env y=u:=by exact rfl) (kk:XS Tryz.prog ops QE n rest (Bp env d v) w) :
 XS Tryz.prog ops QE n (⟨d,.call { callee := .builtin .append,args:=#[x,y],argTypes:=#[t,t] },ty,pos,Am,g⟩ :: rest) env w:=by
 obtain ⟨hu,i,hi,hs1,hs2⟩:=Gw (AI.sl Cx)
 have hr:=Vn (ty:=ty) hu hi hO hY
 refine XS.value hw (v:=v) (w':=w) ?_ kk
 simp [execOp,resolve,Sem.run_bind,invoke,builtin,hx,hy,hr]
end
theorem Mh (l:List Tk):(D7 l).length=l.length*6:=by
 induction l with
 | nil=>rfl
 | cons x l ih=>rw [Ht,List.length_append,ih,List.length_cons];simp;omega
theorem bN (l:List Tk):∀ u∈D7 l,u.oneCell'=true:=fun u hu=>by
 unfold D7 at hu
 obtain ⟨c,hc,hu⟩:=List.mem_flatten.1 hu
 obtain ⟨x,_,rfl⟩:=List.mem_map.1 hc
 simp only [List.mem_cons,List.not_mem_nil,or_false] at hu
 rcases hu with rfl | rfl | rfl | rfl | rfl | rfl <;> rfl
theorem QM (rb cap:Nat) (l:List Tk) (rest:List Value) (w0:World) (hm:l.length≤32) (hc:l.length≤cap) (hl:rest.length+l.length*6=cap*6) (h:w0.heap[rb]?=some (L8 l rest)) :
 AM Tryz.prog 79 #[.slice (some ⟨rb,0,none⟩) l.length cap] w0 fun v w'=>(∃ rb' cap' rest',v = .slice (some ⟨rb',0,none⟩) l.length cap'∧w'.heap[rb']?=some (L8 l rest')∧l.length≤cap'∧rest'.length+l.length*6=cap'*6∧w0.heap.size≤rb')∧AA [] w0 w':=by
 have hs:=St.nil w0
 refine AQ Tryz.func79 Tryz.ntmps79 (k:=?_)
 refine Ja ?_
 refine aAo (e:=51) (by kernel_rfl) (k:=?_)
 repeat' (first|refine Al ?_|refine Nx.h ?_|refine ES ?_|fail)
 refine M3 AI rfl rfl hs (fun v w1 hO hne=>?_)
 rcases hO with ⟨rfl,_⟩ | ⟨g,cp,cur,rfl,gL,UB,_,_,hs1⟩
 ·exact absurd rfl hne
 have hg:=hs1.get At.head
 have gg:=hs1.new _ List.mem_cons_self rfl
 simp only at gg
 have AJ:=hs1.AD rfl
 have hO:Ba w1 51 6 (.slice (some ⟨g,0,none⟩) 0 cp) 0 [] [g] := .inr ⟨g,cp,cur,rfl,rfl,gL,UB,rfl,rfl,hg⟩
 have hY:Ba w1 51 6 (.slice (some ⟨rb,0,none⟩) l.length cap) l.length (D7 l) [rb] := .inr ⟨rb,cap,D7 l ++ rest,rfl,rfl,hc,by rw [List.length_append,Mh];omega,Mh l,by rw [← Mh];exact List.take_left,AJ.block h (by simp)⟩
 clear hs
 have hs:=St.nil w1
 refine vs (k:=?_)
 by_cases h0:l.length=0
 ·obtain rfl:=List.length_eq_zero_iff.1 h0
  refine aH hO hY (kk:=?_)
  refine Jc ?_
  refine AF ?_
  have AN:=hs.AD rfl
  exact ⟨⟨g,cp,cur,rfl,AN.block hg (by simp),Nat.zero_le _,by simpa using UB,gg⟩,AJ.trans AN⟩
 ·refine SC AI rfl rfl rfl rfl rfl rfl (bN l) hO hY om om ?_
  rintro v2 w2 ⟨G',JF,Ds⟩ AN
  rw [Nat.zero_add,List.nil_append] at JF
  rcases JF with ⟨_,h1,_⟩ | ⟨g2,xB,aAE,rfl,rfl,k1,k2,k3,k4,k5⟩
  ·exact absurd h1 h0
  clear hs
  have hs:=St.nil w2
  refine Jc ?_
  refine AF ?_
  have AT:=hs.AD rfl
  have ho:=(AJ.step AN (fun k hk => .inr (by obtain rfl:=List.mem_singleton.1 hk;exact gg))).trans AT
  refine ⟨⟨g2,xB,aAE.drop (l.length*6),rfl,?_,k1,by rw [List.length_drop];omega,?_⟩,ho⟩
  ·rw [AT.block k5 (by simp)]
   unfold L8
   rw [← k4,List.take_append_drop]
  ·have hz:=AJ.size
   rcases Ds g2 (by simp) with h | h
   ·obtain rfl:=List.mem_singleton.1 h;exact gg
   ·omega
theorem bV (tb rb:Nat) (l:List Tk) (w0:World) (h:DW w0 tb rb l):AM Tryz.prog 39 #[.pointer (some ⟨tb,0,none⟩)] w0 fun v w'=>(∃ EZ rb',v = .pointer (some ⟨EZ,0,none⟩)∧DW w' EZ rb' l∧w0.heap.size≤EZ∧w0.heap.size≤rb'∧EZ≠rb')∧AA [] w0 w':=by
 obtain ⟨cap,rest,h1,h2,h3,h4,h5⟩:=h
 have hs:=(St.nil w0).AE h1
 refine AQ Tryz.func39 Tryz.ntmps39 (k:=?_)
 refine Jd ?_
 have BS:=hs.AB [] (by simp [h1]) (by simp [D0])
 refine cl (h:=by exact QM rb cap l rest _ h3 h4 h5 (BS.block h2 (by simp))) (k:=?_)
 rintro v w1 ⟨⟨rb',cap',rest',rfl,k1,k2,k3,k4⟩,AJ⟩
 have lr:=lt_of_block k1
 have hz:=BS.size
 clear hs
 have hs:=(St.nil w1)
 refine vs (k:=?_)
 refine bx hs (k:=?_);intro EZ w2 MK hs
 have g2:=hs.new _ List.mem_cons_self rfl
 simp only at g2
 have JK:=AJ.size
 refine Jc ?_
 refine AF ?_
 have AN:=hs.AD rfl
 exact ⟨⟨EZ,rb',rfl,⟨cap',rest',hs.get At.head,AN.block k1 (by simp),h3,k2,k3⟩,by omega,by omega,by omega⟩,(BS.trans AJ).trans AN⟩
end Go.Proofs.Q0
namespace Go.Proofs.Q0
open Go Go.RowKit
theorem tick_bounds {s:Ss} {c:Cs} (h:BJ s c.A) (ns:Int):(Aq c ns).2.2.p.length < 2000000000000∧(Aq c ns).2.2.g.length≤32:=by
 unfold Aq
 split
 ·rename_i hc
  have h1:=R4 (ns.toNat+1) ns c .none om hc.2
  have h2:=(tick_gone (ns.toNat+1) ns c .none ⟨s,h⟩).1
  have h3:=h.le
  have e1:Rp.none.p.length=0:=rfl
  have e2:Rp.none.g.length=0:=rfl
  rw [e1] at h1
  rw [e2] at h2
  constructor <;> omega
 ·exact ⟨(by show (0:Nat) < 2000000000000;omega),(by show (0:Nat)≤32;omega)⟩
theorem Bc.bG {w:World} {cb:Nat} {c:Cs} {F:List Nat} (h:Bc w cb c F):∃ s,BJ s c.A:=by
 obtain ⟨sb,Fs,_,_,hS,_⟩:=h
 exact hS.rep
theorem fA (cb:Nat) (c:Cs) (F:List Nat) (ns:Int) (w0:World) (h:Bc w0 cb c F) (DZ:BV ns) :
 AM Tryz.prog 59 #[.pointer (some ⟨cb,0,none⟩),.int .u64 ns] w0 fun v w'=>∃ rv,v = .tuple #[rv,.int .i64 (Aq c ns).1]∧Gx w0 cb F rv (Aq c ns).1 c (Aq c ns).2.1 (Aq c ns).2.2 w':=by
 obtain ⟨s,hs⟩:=h.bG
 obtain ⟨h1,h2⟩:=tick_bounds hs ns
 exact Vz cb c F ns w0 h DZ h1 om
theorem C9.mem {w:World} {sb:Nat} {A:As} {F:List Nat} (h:C9 w sb A F):sb∈F:=by
 obtain ⟨s,⟨qb,mb,Fq,rfl,_⟩,_⟩:=h
 simp
end Go.Proofs.Q0
namespace Go.Proofs.Q0
open Go Go.RowKit
attribute [local irreducible] XS XC XA AX AO A7 A0 AZ A8 Aa AV SE
theorem IG (cb:Nat) (c:Cs) (F:List Nat) (w0:World) (h:Bc w0 cb c F):AM Tryz.prog 18 #[.pointer (some ⟨cb,0,none⟩)] w0 fun v w'=>v = .int .i64 c.run∧AA [] w0 w':=by
 obtain ⟨sb,Fs,rfl,h1,hS,h3,h4⟩:=h
 have hs:=(St.nil w0).AE h1
 refine AQ Tryz.func18 Tryz.ntmps18 (k:=?_)
 refine Jd ?_
 refine AF ?_
 exact ⟨rfl,hs.AB [] (by simp [h1]) (by simp [D0])⟩
theorem Fo (cb:Nat) (c:Cs) (F:List Nat) (w0:World) (h:Bc w0 cb c F):AM Tryz.prog 19 #[.pointer (some ⟨cb,0,none⟩)] w0 fun v w'=>v=wv c.carr∧AA [] w0 w':=by
 obtain ⟨sb,Fs,rfl,h1,hS,h3,h4⟩:=h
 have hs:=(St.nil w0).AE h1
 refine AQ Tryz.func19 Tryz.ntmps19 (k:=?_)
 repeat' (first|refine Sd ?_|(refine AU hs (k:=?_);intro w hs)|(refine al hs (k:=?_);intro b w hz hs)|fail)
 refine AF ?_
 exact ⟨rfl,hs.AB [] (by simp [h1]) (by simp [D0])⟩
theorem Bc.mem {w:World} {cb:Nat} {c:Cs} {F:List Nat} (h:Bc w cb c F):cb∈F:=by obtain ⟨_,_,rfl,_⟩:=h;simp
theorem Bc.EB {w:World} {cb:Nat} {c:Cs} {F:List Nat} (h:Bc w cb c F):∃ sb qb mb Fs,F=cb :: Fs∧w.heap[cb]?=some (Et sb c.run c.carr)∧w.heap[sb]?=some (Vf qb mb)∧C9 w sb c.A Fs∧KS w qb c.A∧sb∈Fs:=by
 obtain ⟨sb,Fs,rfl,h1,hS,h3,h4⟩:=h
 obtain ⟨qb,mb,g1,gQ⟩:=hS.EB
 exact ⟨sb,qb,mb,Fs,rfl,h1,g1,hS,gQ,hS.mem⟩
end Go.Proofs.Q0
