/- A part of the proof: what its functions compute. -/
import Derived.Test.YtjiiakjheghcoaaGreatDoorGa7
set_option linter.unusedVariables false
set_option linter.unusedSimpArgs false
set_option maxRecDepth 100000
set_option maxHeartbeats 64000000
set_option linter.unusedSectionVars false
namespace Go.Proofs.Q0
open Go Go.RowKit
attribute [local irreducible] XS XC XA AX AO A6 AZ AY A7 Ab AV SE
def Qg:Cs:=Cb (ER 0) (Bj (ER 0) 1 1 2 0).1 (Bj (ER 0) 1 1 2 0).2
def OR:Cs:=Cb Qg (Bj Qg 2 1 2 0).1 (Bj Qg 2 1 2 0).2
theorem oV:(Bj (ER 0) 1 1 2 0).1=0:=by kernel_rfl
theorem qG:(Bj Qg 2 1 2 0).1=0:=by kernel_rfl
theorem aAA:(Ao OR 4).1=0:=by kernel_rfl
theorem oP:(Ao OR 4).2.2.p=[⟨1,2,true⟩,⟨2,2,true⟩]:=by kernel_rfl
theorem zO:(Ao OR 4).2.2.g.length=0:=by kernel_rfl
theorem Vs (w0:World) (ht:DE w0):AM Tryz.prog 231 #[] w0 fun v w'=>v = .bool true∧AA [] w0 w':=by
 have hs:=St.nil w0
 refine AQ Tryz.func231 Tryz.ntmps231 (k:=?_)
 refine Ja ?_
 refine AW hs (h:=by exact Xd _ (tab_only ht (hs.AD rfl))) (k:=?_);intro w' ho hs;refine Jc ?_
 refine AF ?_
 exact ⟨rfl,hs.AD rfl⟩
theorem lit_ls {w:World} {b e n k:Nat} {xs:List (List Value)} (hb:w.heap[b]?=some (.cells xs.flatten.toArray e (0,0))) (hn:xs.length=n) (hk:∀ x∈xs,x.length=k) (hl:xs.flatten.length=n*k):C1 w e k (.slice (some ⟨b,0,none⟩) n n) xs :=
 BS.ls (n:=n) (G:=[b]) (.inr ⟨b,n,xs.flatten,rfl,rfl,Nat.le_refl _,hl,hl,by rw [← hl];exact List.take_length,hb⟩) rfl hn.symm hk
theorem U3.ls {w:World} {v:Value} {l:List Pr} {G:List Nat} (h:U3 w v l G):C1 w 168 3 v (l.map Pr.cells):=BS.ls h rfl (by simp) (fun x hx=>by obtain ⟨p,_,rfl⟩:=List.mem_map.1 hx;rfl)
theorem YP (w0:World) (ht:DE w0):AM Tryz.prog 211 #[] w0 fun v w'=>v = .bool true∧AA [] w0 w':=by
 have hs:=St.nil w0
 refine AQ Tryz.func211 Tryz.ntmps211 (k:=?_)
 refine Ja ?_
 refine cl (h:=by exact Ur 0 (by decide) _) (k:=?_)
 rintro v w1 ⟨⟨cb,F0,rfl,hC,Dp⟩,AJ⟩
 have JO:=AJ.size
 have Ay:=(hs.AD rfl).trans AJ
 have nJ:∀ k∈F0,w0.heap.size≤k:=fun k hk=>by have:=Dp k hk;have:=(hs.AD rfl).size;omega
 have hcF:cb∈F0:=by obtain ⟨_,_,rfl,_⟩:=hC;simp
 have hcb:w0.heap.size≤cb:=nJ cb hcF
 clear hs
 have hs:=St.nil w1
 refine Jd ?_
 refine cl (h:=by exact QT cb (ER 0) F0 1 1 2 0 _ (hC.only (hs.AD rfl)) (by decide) (by decide) (by decide) (by decide)) (k:=?_)
 rw [oV]
 rintro v w2 ⟨rv,rfl,Hy,⟨F1,IZ,Cl⟩,AN⟩
 have IZ:Bb w2 cb Qg F1:=by have e:=oV;unfold Qg;rw [e];exact IZ
 obtain ⟨vg,vp,Gg,Gp,rfl,p1,p2⟩:=Hy
 obtain ⟨ag,cg,rfl⟩:=BO p1
 obtain ⟨ap,cp,rfl⟩:=BO p2
 have M6:=(hs.AD rfl).size
 have Bd:AA [] w0 w2:=(Ay.trans (hs.AD rfl)).step AN (fun k hk => .inr (by obtain rfl:=List.mem_singleton.1 hk;exact hcb))
 clear hs
 have hs:=St.nil w2
 repeat' (first|refine Sa ?_|(refine AU hs (k:=?_);intro w hs)|(refine al hs (k:=?_);intro b w hz hs)|fail)
 refine cl (h:=by exact QT cb Qg F1 2 1 2 0 _ (IZ.only (hs.AD rfl)) (by decide) (by decide) (by decide) (by decide)) (k:=?_)
 rw [qG]
 rintro v w3 ⟨rv,rfl,Hy,⟨F2,Iy,DW⟩,AS⟩
 have Iy:Bb w3 cb OR F2:=by have e:=qG;unfold OR;rw [e];exact Iy
 obtain ⟨vg,vp,Gg,Gp,rfl,p1,p2⟩:=Hy
 obtain ⟨ag,cg,rfl⟩:=BO p1
 obtain ⟨ap,cp,rfl⟩:=BO p2
 have Nc:=(hs.AD rfl).size
 have Ec:AA [] w0 w3:=(Bd.trans (hs.AD rfl)).step AS (fun k hk => .inr (by obtain rfl:=List.mem_singleton.1 hk;exact hcb))
 clear hs
 have hs:=St.nil w3
 repeat' (first|refine Sa ?_|(refine AU hs (k:=?_);intro w hs)|(refine al hs (k:=?_);intro b w hz hs)|fail)
 have Ti:(Ao OR 4).2.2.p.length < 2000000000000:=by rw [oP];decide
 have fR:(Ao OR 4).2.2.g.length≤1000000:=by rw [zO];decide
 refine cl (h:=by exact VY cb OR F2 4 _ (Iy.only (hs.AD rfl)) (by decide) Ti fR) (k:=?_)
 rw [aAA]
 rintro v w4 ⟨rv,rfl,Hy,_,Al⟩
 obtain ⟨vg,vp,Gg,Gp,rfl,p1,p2⟩:=Hy
 obtain ⟨ag,cg,rfl⟩:=BO p1
 have p3:U3 w4 vp [⟨1,2,true⟩,⟨2,2,true⟩] Gp:=by rw [← oP];exact p2
 obtain ⟨ap,cp,rfl⟩:=BO p3
 have OB:=(hs.AD rfl).size
 have CF:AA [] w0 w4:=(Ec.trans (hs.AD rfl)).step Al (fun k hk => .inr (by obtain rfl:=List.mem_singleton.1 hk;exact hcb))
 clear hs
 have hs:=St.nil w4
 repeat' (first|refine Sa ?_|(refine AU hs (k:=?_);intro w hs)|(refine al hs (k:=?_);intro b w hz hs)|fail)
 have E3:=CF.trans (hs.AD rfl)
 refine AW hs (h:=by exact Vs _ (tab_only ht E3)) (k:=?_);intro w' ho hs;repeat' (first|refine vs (k:=?_)|(refine bs hs (k:=?_);intro b w hz hs)|fail)
 have lG:=lit_ls (xs:=[Pr.cells ⟨1,2,true⟩,Pr.cells ⟨2,2,true⟩]) (k:=3) (hs.get At.head) rfl (by decide) rfl
 refine cl (h:=by exact tD _ _ [⟨1,2,true⟩,⟨2,2,true⟩] [⟨1,2,true⟩,⟨2,2,true⟩] (by decide) _ ((U3.ls p3).only (hs.AD rfl)) lG) (k:=?_)
 rw [show decide ([(⟨1,2,true⟩:Pr),⟨2,2,true⟩]=[⟨1,2,true⟩,⟨2,2,true⟩])=true by decide]
 rintro v w' ⟨rfl,ho⟩;replace hs:=hs.AL ho;refine Jc ?_
 refine AF ?_
 exact ⟨rfl,CF.trans (hs.AD rfl)⟩
theorem Xy (w0:World) (ht:DE w0):AM Tryz.prog 174 #[] w0 fun v w'=>v = .bool true∧AA [] w0 w':=by
 have hs:=St.nil w0
 refine AQ Tryz.func174 Tryz.ntmps174 (k:=?_)
 refine Ja ?_
 refine AW hs (h:=by exact YP _ (tab_only ht (hs.AD rfl))) (k:=?_);intro w' ho hs;refine Jc ?_
 refine AF ?_
 exact ⟨rfl,hs.AD rfl⟩
def O9 (x u:Int):Int:=if x > max u 0 then max u 0 else if x < -(max u 0) then -(max u 0) else x
theorem dS {x u:Int} (hw:In64 u):In64 (O9 x u):=by
 unfold O9 In64 at *
 split
 ·omega
 ·split <;> omega
theorem fJ (x u:Int) (hx:A9 x) (hw:In64 u) (w0:World):AM Tryz.prog 108 #[wv x,.int .i64 u] w0 fun v w'=>v = .int .i64 (O9 x u)∧AA [] w0 w':=by
 have hs:=St.nil w0
 refine AQ Tryz.func108 Tryz.ntmps108 (k:=?_)
 repeat' (first|refine Sa ?_|(refine bx hs (k:=?_);intro b w hz hs)|fail)
 have eC:O9 x u=if x > max u 0 then max u 0 else if x < -(max u 0) then -(max u 0) else x:=rfl
 have hm:0≤max u 0∧max u 0 < 9223372036854775808:=by unfold In64 at hw;omega
 rw [show (if 0 > u then 0 else u)=max u 0 by split <;> omega]
 generalize max u 0=m at *
 have m1:A9 m:=by unfold A9;omega
 have m2:A9 (-m):=by unfold A9;omega
 have c1:CZ x m > 0↔m < x:=rB
 have c2:CZ x (-m) < 0↔x < -m:=rO
 refine dr [] hs (k:=?_);intro hX w hs
 refine tks 0 2 ?_
 refine dt 2 hX (k:=?_)
 refine AW hs (h:=by exact Fg m om om _) (k:=?_);intro w' ho hs;refine Jb ?_
 refine dn (k:=?_)
 refine dt 3 hX (k:=?_)
 refine AW hs (h:=by exact TP x m hx m1 _) (k:=?_);intro w' ho hs;refine Jb ?_
 refine dn (k:=?_)
 refine tks 4 2 ?_
 refine en (k:=?_)
 by_cases h:m < x
 ·rw [if_pos h] at eC
  rw [decide_eq_true (c1.2 h),eC]
  refine Je ?_
  refine AF ?_
  exact ⟨rfl,hs.AD rfl⟩
 rw [if_neg h] at eC
 rw [decide_eq_false (fun k=>h (c1.1 k))]
 refine Jg ?_
 have em:IntKind.i64.wrap (0 - m)=-m:=by rw [wrap_i64];omega
 refine dr [] hs (k:=?_);intro hX w hs
 refine tks 0 3 ?_
 refine dt 3 hX (k:=?_)
 refine cl (h:=by exact Fg (IntKind.i64.wrap (0 - m)) (by rw [em];omega) (by rw [em];omega) _) (k:=?_)
 rw [em]
 rintro v w' ⟨rfl,ho⟩;replace hs:=hs.AL ho;refine Jb ?_
 refine dn (k:=?_)
 refine dt 4 hX (k:=?_)
 refine AW hs (h:=by exact TP x (-m) hx m2 _) (k:=?_);intro w' ho hs;refine Jb ?_
 refine dn (k:=?_)
 refine tks 5 2 ?_
 refine en (k:=?_)
 by_cases h2:x < -m
 ·rw [if_pos h2] at eC
  rw [decide_eq_true (c2.2 h2),eC]
  refine Je ?_
  refine AF ?_
  exact ⟨N0 em,hs.AD rfl⟩
 rw [if_neg h2] at eC
 rw [decide_eq_false (fun k=>h2 (c2.1 k)),eC]
 refine Jd ?_
 refine AW hs (h:=by exact WH x hx (by unfold In64;omega) _) (k:=?_);intro w' ho hs;refine Ja ?_
 refine AF ?_
 exact ⟨rfl,hs.AD rfl⟩
structure Cf where
 cores:Int
 tasks:Int
 tick:Int
 slice:Int
 origin:Int
def Pd (c:Cf):Value := .agg #[.int .i64 c.cores,.int .i64 c.tasks,.int .u64 c.tick,.int .u64 c.slice,.int .u64 c.origin]
def Cf.In (c:Cf):Prop:=In64 c.cores∧In64 c.tasks∧BV c.tick∧BV c.slice∧BV c.origin
def BB (n e:Int):Int:=if n < 1∨n > e then 3 else 0
theorem FI (n e:Int) (w0:World):AM Tryz.prog 62 #[.int .u64 n,.int .u64 e] w0 fun v w'=>v = .int .i64 (BB n e)∧AA [] w0 w':=by
 have hs:=St.nil w0
 refine AQ Tryz.func62 Tryz.ntmps62 (k:=?_)
 refine Jb ?_
 refine Aq ?_
 refine vs (k:=?_)
 refine Jb ?_
 refine Aq ?_
 refine vs (k:=?_)
 refine vs (k:=?_)
 unfold BB
 by_cases c1:n < 1
 ·rw [decide_eq_true c1,if_pos (.inl c1)]
  refine Jh ?_
  refine AF ?_
  exact ⟨rfl,hs.AD rfl⟩
 rw [decide_eq_false c1]
 refine vs (k:=?_)
 refine vs (k:=?_)
 refine vs (k:=?_)
 refine vs (k:=?_)
 by_cases c2:n > e
 ·rw [decide_eq_true c2,if_pos (.inr c2)]
  refine Je ?_
  refine AF ?_
  exact ⟨rfl,hs.AD rfl⟩
 rw [decide_eq_false c2,if_neg om]
 refine Jd ?_
 refine AF ?_
 exact ⟨rfl,hs.AD rfl⟩
def vI (e:Int):List Value:=[.int .i64 e]
def GF:List Int→Int
 | []=>0
 | e :: l=>if e≠0 then e else GF l
theorem jY {l:List Int} {i:Nat} (h:i < l.length):GF (l.drop i)=if l[i]≠0 then l[i] else GF (l.drop (i+1)):=by rw [List.drop_eq_getElem_cons h];rfl
theorem YV (l:List Int) (sl:Value) (hm:l.length≤9223372036854775807) (w0:World) (hL:RU w0 1 sl (l.map vI)):AM Tryz.prog 52 #[sl] w0 fun v w'=>v = .int .i64 (GF l)∧AA [] w0 w':=by
 obtain ⟨ad,cap,rfl,hD⟩:=hL
 rw [List.length_map] at *
 have hs:=St.nil w0
 refine AQ Tryz.func52 Tryz.ntmps52 (k:=?_)
 refine Ja ?_
 refine BH (fun (_:Unit)=>[]) (fun _ w=>GF l=0∧AA [] w0 w) ?_ ?_
 ·refine BF (fun (i:Nat)=>[(5,.slice ad l.length cap),(6,.int .i64 (l.length:Nat)),(7,.int .i64 (i:Nat))]) (fun i w=>i≤l.length∧GF (l.drop i)=GF l∧AA [] w0 w) (fun i=>l.length - i) 0 Aa ⟨Nat.zero_le _,by rw [List.drop_zero],hs.AD rfl⟩ fun i env wl ⟨hi,he,BL⟩=>?_
  clear hs
  have hs:=St.nil wl
  repeat' (first|refine Sa ?_|refine Av rfl (fun hc=>?_) fun hc=>?_|fail)
  ·have hlt:i < l.length:=by omega
   obtain ⟨b,off,cs,E,fz,rfl,hb,hcs⟩:=hD (fun h=>by have:=congrArg List.length h;rw [List.length_map,List.length_nil] at this;omega)
   have hpk:=hcs i (vI l[i]) (by rw [List.getElem?_map,List.getElem?_eq_getElem hlt];rfl)
   have ei:=DH (m:=l.length) hlt hm
   rw [jY hlt] at he
   generalize l[i]=q at *
   refine ix (h0:=(by omega)) (h1:=(by omega)) (k:=?_)
   refine lh (BL.block hb (by simp)) (by cases hpk;assumption) (k:=?_)
   by_cases hq:q=0
   ·subst hq
    rw [if_neg (by simp)] at he
    refine Jd ?_
    exact A2 (i+1) (by show l.length - (i+1) < l.length - i;omega) (by (repeat (first | exact Ac | (apply A5;first | exact rfl | exact congrArg (Value.int .i64) ei)))) ⟨by show i+1≤_;omega,he,BL.trans (hs.AD rfl)⟩
   ·rw [if_pos hq] at he
    repeat' (first|refine Sa ?_|refine xc_cond rfl (fun hc=>?_) fun hc=>?_|fail)
    ·refine AF ?_
     exact ⟨by rw [← he];rfl,BL.trans (hs.AD rfl)⟩
    ·exact absurd (by simpa using hc) hq
  ·have e:i=l.length:=by omega
   subst e
   rw [List.drop_length] at he
   exact Am () Aa ⟨he.symm,BL⟩
 ·rintro _ env w ⟨he,BL⟩
  clear hs
  have hs:=St.nil w
  refine Ja ?_
  refine AF ?_
  exact ⟨by rw [he];rfl,BL.trans (hs.AD rfl)⟩
def CP (c:Cf) (k:Int):Int:=if k < 0∨k≥c.cores then 5 else 0
theorem KP (c:Cf) (k:Int) (w0:World):AM Tryz.prog 41 #[Pd c,.int .i64 k] w0 fun v w'=>v = .int .i64 (CP c k)∧AA [] w0 w':=by
 have hs:=St.nil w0
 refine AQ Tryz.func41 Tryz.ntmps41 (k:=?_)
 refine Jb ?_
 refine Aq ?_
 refine bx hs (k:=?_);intro b w hz hs
 refine vs (k:=?_)
 refine Jb ?_
 refine Aq ?_
 refine vs (k:=?_)
 refine vs (k:=?_)
 unfold CP
 by_cases c1:k < 0
 ·rw [decide_eq_true c1,if_pos (.inl c1)]
  refine Jh ?_
  refine AF ?_
  exact ⟨rfl,hs.AD rfl⟩
 rw [decide_eq_false c1]
 refine vs (k:=?_)
 refine vs (k:=?_)
 refine vs (k:=?_)
 refine vs (k:=?_)
 refine vs (k:=?_)
 by_cases c2:c.cores≤k
 ·rw [decide_eq_true c2,if_pos (.inr c2)]
  refine Je ?_
  refine AF ?_
  exact ⟨rfl,hs.AD rfl⟩
 rw [decide_eq_false c2,if_neg om]
 refine Jd ?_
 refine AF ?_
 exact ⟨rfl,hs.AD rfl⟩
def Dd (n:Int):Int:=if 1099511627776 < n then 1099511627776 else n
theorem Nl (c:Cf) (n:Int) (w0:World):AM Tryz.prog 54 #[Pd c,.int .u64 n] w0 fun v w'=>v = .int .i64 (BB n (Dd c.slice))∧AA [] w0 w':=by
 have hs:=St.nil w0
 refine AQ Tryz.func54 Tryz.ntmps54 (k:=?_)
 repeat' (first|refine Sa ?_|(refine bx hs (k:=?_);intro b w hz hs)|fail)
 refine AW hs (h:=by exact FI n (Dd c.slice) _) (k:=?_);intro w' ho hs;refine Jc ?_
 refine AF ?_
 exact ⟨rfl,hs.AD rfl⟩
theorem jG (c:Cf) (n:Int) (w0:World):AM Tryz.prog 58 #[Pd c,.int .u64 n] w0 fun v w'=>v = .int .i64 (BB n (Dd c.tick))∧AA [] w0 w':=by
 have hs:=St.nil w0
 refine AQ Tryz.func58 Tryz.ntmps58 (k:=?_)
 repeat' (first|refine Sa ?_|(refine bx hs (k:=?_);intro b w hz hs)|fail)
 refine AW hs (h:=by exact FI n (Dd c.tick) _) (k:=?_);intro w' ho hs;refine Jc ?_
 refine AF ?_
 exact ⟨rfl,hs.AD rfl⟩
theorem O5 (c:Cf) (n:Int) (w0:World):AM Tryz.prog 53 #[Pd c,.int .u64 n] w0 fun v w'=>v = .int .i64 (BB n 1048576)∧AA [] w0 w':=by
 have hs:=St.nil w0
 refine AQ Tryz.func53 Tryz.ntmps53 (k:=?_)
 repeat' (first|refine Sa ?_|(refine bx hs (k:=?_);intro b w hz hs)|fail)
 refine AW hs (h:=by exact FI n 1048576 _) (k:=?_);intro w' ho hs;refine Jc ?_
 refine AF ?_
 exact ⟨rfl,hs.AD rfl⟩
def Fu (c:Cf) (x s:Int):Int:=O9 x ((KY s c.tick).getD 0)
theorem Y2 (s t:Int):In64 ((KY s t).getD 0):=by
 unfold KY
 split
 ·show In64 ((2*s+t)*1048576)
  unfold In64;omega
 ·decide
theorem Qe (c:Cf) (x s:Int) (hc:c.In) (hx:A9 x) (hs0:BV s) (w0:World):AM Tryz.prog 70 #[Pd c,wv x,.int .u64 s] w0 fun v w'=>v = .int .i64 (Fu c x s)∧AA [] w0 w':=by
 have hs:=St.nil w0
 refine AQ Tryz.func70 Tryz.ntmps70 (k:=?_)
 repeat' (first|refine Sa ?_|(refine bx hs (k:=?_);intro b w hz hs)|fail)
 refine AW hs (h:=by exact R7 s c.tick hs0 hc.2.2.1 _) (k:=?_);intro w' ho hs;refine Ja ?_
 refine AW hs (h:=by exact fJ x ((KY s c.tick).getD 0) hx (Y2 _ _) _) (k:=?_);intro w' ho hs;refine Jc ?_
 refine AF ?_
 exact ⟨rfl,hs.AD rfl⟩
def EV (c:Cf):Int:=if c.cores < 1∨c.tasks < 1 then 3 else GF [BB c.cores 8,BB c.tasks 32,BB c.tick 1099511627776,BB c.slice 1099511627776]
theorem Tx (c:Cf) (hc0:c.In) (w0:World):AM Tryz.prog 29 #[Pd c] w0 fun v w'=>v = .int .i64 (EV c)∧AA [] w0 w':=by
 obtain ⟨i1,i2,i3,i4,i5⟩:=hc0
 unfold In64 at i1 i2
 have hs:=St.nil w0
 refine AQ Tryz.func29 Tryz.ntmps29 (k:=?_)
 refine Jb ?_
 refine Aq ?_
 refine bx hs (k:=?_);intro b w hz hs
 refine vs (k:=?_)
 refine Jb ?_
 refine Aq ?_
 refine vs (k:=?_)
 refine vs (k:=?_)
 refine vs (k:=?_)
 unfold EV
 by_cases c1:c.cores < 1
 ·rw [decide_eq_true c1,if_pos (.inl c1)]
  refine Jh ?_
  refine AF ?_
  exact ⟨rfl,hs.AD rfl⟩
 rw [decide_eq_false c1]
 refine vs (k:=?_)
 refine vs (k:=?_)
 refine vs (k:=?_)
 refine vs (k:=?_)
 by_cases c2:c.tasks < 1
 ·rw [decide_eq_true c2,if_pos (.inr c2)]
  refine Je ?_
  refine AF ?_
  exact ⟨rfl,hs.AD rfl⟩
 rw [decide_eq_false c2,if_neg om]
 refine Jl ?_
 have e1:IntKind.u64.wrap c.cores=c.cores:=by rw [wrap_u64];omega
 have e2:IntKind.u64.wrap c.tasks=c.tasks:=by rw [wrap_u64];omega
 refine dr [] hs (k:=?_);intro hX w hs
 refine tks 0 3 ?_
 refine tks 4 3 ?_
 refine tks 8 2 ?_
 refine tks 11 2 ?_
 refine dt 3 hX (k:=?_)
 refine cl (h:=by exact FI (IntKind.u64.wrap c.cores) 8 _) (k:=?_)
 rw [e1]
 rintro v w' ⟨rfl,ho⟩;replace hs:=hs.AL ho;refine Jb ?_
 refine dn (k:=?_)
 refine dt 7 hX (k:=?_)
 refine cl (h:=by exact FI (IntKind.u64.wrap c.tasks) 32 _) (k:=?_)
 rw [e2]
 rintro v w' ⟨rfl,ho⟩;replace hs:=hs.AL ho;refine Jb ?_
 refine dn (k:=?_)
 refine dt 10 hX (k:=?_)
 refine AW hs (h:=by exact FI c.tick 1099511627776 _) (k:=?_);intro w' ho hs;refine Jb ?_
 refine dn (k:=?_)
 refine dt 13 hX (k:=?_)
 refine AW hs (h:=by exact FI c.slice 1099511627776 _) (k:=?_);intro w' ho hs;refine Jb ?_
 refine dn (k:=?_)
 refine dt 14 hX (k:=?_)
 repeat' (first|refine Nx.h ?_|(refine bs hs (k:=?_);intro b w hz hs)|fail)
 refine dn (k:=?_)
 refine dt 15 hX (k:=?_)
 refine AW hs (h:=by exact YV [BB c.cores 8,BB c.tasks 32,BB c.tick 1099511627776,BB c.slice 1099511627776] _ (by simp) _ (lit_ls (n:=4) (hs.get At.head) rfl (fun x hx=>by obtain ⟨e,_,rfl⟩:=List.mem_map.1 hx;rfl) rfl).x) (k:=?_);intro w' ho hs;refine Jb ?_
 refine dn (k:=?_)
 refine tk 16 hX (k:=?_)
 refine en (k:=?_)
 refine Jb ?_
 refine AF ?_
 exact ⟨rfl,hs.AD rfl⟩
theorem XX (w0:World) (ht:DE w0):AM Tryz.prog 135 #[] w0 fun v w'=>v = .bool true∧AA [] w0 w':=by
 have hs:=St.nil w0
 refine AQ Tryz.func135 Tryz.ntmps135 (k:=?_)
 repeat' (first|refine Sa ?_|(refine AU hs (k:=?_);intro w hs)|(refine al hs (k:=?_);intro b w hz hs)|fail)
 refine AW hs (h:=by exact Xy _ (tab_only ht (hs.AD rfl))) (k:=?_);intro w' ho hs;refine Jf ?_
 refine cl (h:=by exact Tx ⟨2,3,4,5,0⟩ (by unfold Cf.In;decide) _) (k:=?_)
 rw [show EV ⟨2,3,4,5,0⟩=0 by decide]
 rintro v w' ⟨rfl,ho⟩;replace hs:=hs.AL ho;refine Jf ?_
 refine cl (h:=by exact KP ⟨2,3,4,5,0⟩ 2 _) (k:=?_)
 rw [show CP ⟨2,3,4,5,0⟩ 2=5 by decide]
 rintro v w' ⟨rfl,ho⟩;replace hs:=hs.AL ho;refine Jf ?_
 refine cl (h:=by exact KP ⟨2,3,4,5,0⟩ 1 _) (k:=?_)
 rw [show CP ⟨2,3,4,5,0⟩ 1=0 by decide]
 rintro v w' ⟨rfl,ho⟩;replace hs:=hs.AL ho;refine Jc ?_
 refine AF ?_
 exact ⟨rfl,hs.AD rfl⟩
theorem YF (w0:World) (ht:DE w0):AM Tryz.prog 97 #[] w0 fun v w'=>v = .bool true∧AA [] w0 w':=by
 have hs:=St.nil w0
 refine AQ Tryz.func97 Tryz.ntmps97 (k:=?_)
 refine Ja ?_
 refine AW hs (h:=by exact XX _ (tab_only ht (hs.AD rfl))) (k:=?_);intro w' ho hs;refine Jc ?_
 refine AF ?_
 exact ⟨rfl,hs.AD rfl⟩
theorem cM (zs:List Value) (k:Nat) (hk:zs.length=k) (h0:0 < k):∀ m:Nat,madeCells zs.toArray (m*k)=((List.replicate m zs).flatten).toArray:=by
 have H:∀ m:Nat,(List.range (m*k)).map (fun i=>zs.toArray[i % zs.toArray.size]!)=(List.replicate m zs).flatten:=fun m=>by
  induction m with
  | zero=>simp
  | succ m ih =>
    rw [Nat.add_mul,Nat.one_mul,List.range_add,List.map_append,ih,List.replicate_succ',List.flatten_append,List.flatten_singleton,List.map_map]
    congr 1
    apply List.ext_getElem
    ·simp [hk]
    ·intro i h1 h2
     simp only [List.length_map,List.length_range] at h1
     simp only [List.getElem_map,List.getElem_range,Function.comp,List.size_toArray,hk]
     rw [show (m*k+i) % k=i by rw [Nat.mul_comm,Nat.mul_add_mod,Nat.mod_eq_of_lt h1]]
     simp [h2]
 intro m
 apply Array.toList_inj.1
 rw [← H m]
 simp [madeCells]
section
variable {P : Program} {ops : Array Oper} {QE : Exit → Env → World → Prop} {n : Nat} {rest : List Oper} {env : Env} {w wb : World} {D : Ctx} {H : List Bp} {T : Ld}
 {d:Option Nat} {ty:Nat} {pos:String} {Ar:Array Edge} {g:Option (Nat × Bool)}
theorem nF (hT:Bf P T) {t e size bytes m:Nat} {zs:List Value} {x y:Operand} {kl kc:IntKind} (hw:BC ops env g=true) (Cy:look t T.sls=some (e,size,bytes)) (hz:look e T.zs=some zs) (hzl:Nat.beq zs.length size=true) (h0:Nat.ble 1 size=true)
 (hx:ev env x = .int kl (m:Nat)) (hy:ev env y = .int kc (m:Nat)) (hb:bytes*m≤281474976710656) (hm:m≤9223372036854775807) (hs:St wb D H w)
 (k:∀ b w',w'.heap.size=w.heap.size+1→St wb D ((b,.cells ((List.replicate m zs).flatten).toArray e,true) :: H) w'→XS P ops QE n rest (Bt env d (.slice (some ⟨b,0,none⟩) m m)) w') :
 XS P ops QE n (⟨d,.makeSlice t x y,ty,pos,Ar,g⟩ :: rest) env w:=by
 obtain ⟨hu,i,hi,hs1,hs2⟩:=HB (hT.sl Cy)
 obtain ⟨i',z,hi',RM,KO⟩:=TN (hT.z hz)
 rw [hi] at hi';cases hi'
 have hr:=run_make (P:=P) w t e i z hu hi RM kl kc (m:Nat) (m:Nat) om (Int.le_refl _) (by rw [hs2,← Int.natCast_mul];omega) om
 rw [hs1,KO,Int.toNat_natCast,cM zs size (Nat.eq_of_beq_eq_true hzl) (Nat.le_of_ble_eq_true h0)] at hr
 refine XS.value hw (v := .slice (some ⟨w.heap.size,0,none⟩) m m) (w':=w.alloc (.cells ((List.replicate m zs).flatten).toArray e)) ?_ (k w.heap.size _ (by simp) (hs.alloc _))
 simp [execOp,hx,hy,Sem.run_bind,hr]
end
structure Tk where
 id:Int
 st:Int
 core:Int
 w:Int
 slice:Int
 lag:Int
deriving DecidableEq
abbrev Tk.cells (x:Tk):List Value:=[.int .i64 x.id,.int .u8 x.st,.int .i64 x.core,.int .u32 x.w,.int .u64 x.slice,.int .i64 x.lag]
def KT (x:Tk):Value := .agg #[.int .i64 x.id,.int .u8 x.st,.int .i64 x.core,.int .u32 x.w,.int .u64 x.slice,.int .i64 x.lag]
def Tk.zero:Tk:=⟨0,0,0,0,0,0⟩
def CO (l:List Tk):List Value:=(l.map Tk.cells).flatten
abbrev aAc (rb n cap:Nat):Obj := .cells #[.slice (some ⟨rb,0,none⟩) n cap] 97 (0,0)
abbrev Le (l:List Tk) (rest:List Value):Obj := .cells (CO l ++ rest).toArray 51 (0,0)
def DL (w:World) (tb rb:Nat) (l:List Tk):Prop:=∃ cap rest,w.heap[tb]?=some (aAc rb l.length cap)∧w.heap[rb]?=some (Le l rest)∧l.length≤32∧l.length≤cap∧rest.length+l.length*6=cap*6
theorem DL.keep {w w':World} {tb rb:Nat} {l:List Tk} {F:List Nat} (h:DL w tb rb l) (ho:AA F w w') (h1:tb∉F) (h2:rb∉F):DL w' tb rb l:=by
 obtain ⟨cap,rest,a,b,c⟩:=h
 exact ⟨cap,rest,ho.block a h1,ho.block b h2,c⟩
theorem DL.only {w w':World} {tb rb:Nat} {l:List Tk} (h:DL w tb rb l) (ho:AA [] w w'):DL w' tb rb l:=h.keep ho (by simp) (by simp)
theorem mE {cs more vs:List Value} {off n:Nat} (h:De cs off n vs):De (cs ++ more) off n vs:=by
 induction h with
 | nil=>exact .nil
 | cons h1 _ ih=>exact .cons (by rw [List.getElem?_append_left (by
  rcases Nat.lt_or_ge _ cs.length with h | h
  ·exact h
  ·rw [List.getElem?_eq_none h] at h1;cases h1)];exact h1) ih
theorem Kk {l:List Tk} {rest:List Value} {i:Nat} (h:i < l.length):De (CO l ++ rest) (i*6) 6 l[i].cells:=by
 refine mE (pick_of rfl ?_)
 unfold CO
 exact Q2 (fun y hy=>by obtain ⟨x,_,rfl⟩:=List.mem_map.1 hy;rfl) (by rw [List.getElem?_map,List.getElem?_eq_getElem h];rfl)
def Er (n:Int):Nat:=(max 0 (min n 32)).toNat
theorem XI (n:Int) (w0:World):AM Tryz.prog 30 #[.int .i64 n] w0 fun v w'=>(∃ tb rb,v = .pointer (some ⟨tb,0,none⟩)∧DL w' tb rb (List.replicate (Er n) .zero)∧w0.heap.size≤tb∧w0.heap.size≤rb∧tb≠rb)∧AA [] w0 w':=by
 have hs:=St.nil w0
 refine AQ Tryz.func30 Tryz.ntmps30 (k:=?_)
 refine Ja ?_
 have hle:Er n≤32:=by unfold Er;omega
 rw [show (if (if (32:Int) < n then 32 else n) > 0 then (if (32:Int) < n then 32 else n) else 0)=((Er n:Nat):Int) by unfold Er;split <;> split <;> omega]
 generalize Er n=m at *
 refine nF AI (m:=m) rfl rfl rfl rfl rfl rfl rfl om om hs (k:=?_)
 intro rb w1 JO hs
 have g1:=hs.new _ List.mem_cons_self rfl
 simp only at g1
 refine vs (k:=?_)
 refine bx hs (k:=?_);intro tb w2 M6 hs
 have g2:=hs.new _ List.mem_cons_self rfl
 simp only at g2
 have hnd:=hs.nd
 simp only [List.map_cons,List.nodup_cons,List.mem_cons,List.map_nil,List.not_mem_nil,or_false] at hnd
 refine Jc ?_
 refine AF ?_
 refine ⟨⟨tb,rb,rfl,⟨m,[],?_,?_,by rw [List.length_replicate];exact hle,by rw [List.length_replicate];exact ⟨Nat.le_refl _,by simp⟩⟩,g2,g1,hnd.1⟩,hs.AD rfl⟩
 ·rw [List.length_replicate];exact hs.get At.head
 ·have:=hs.get (At.tail At.head)
  rw [this]
  unfold Le CO
  rw [List.map_replicate,List.append_nil];rfl
theorem Ry (x:Tk) (w0:World):AM Tryz.prog 90 #[KT x] w0 fun v w'=>v = .bool (decide (1≤x.st) && decide (x.st≤3))∧AA [] w0 w':=by
 have hs:=St.nil w0
 refine AQ Tryz.func90 Tryz.ntmps90 (k:=?_)
 repeat' (first|refine Sf ?_|(refine bx hs (k:=?_);intro b w hz hs)|((with_reducible apply BI);exact rfl;exact rfl;intro c hc;(fail_if_success have:true=c:=hc);(fail_if_success have:false=c:=hc);cases c)|fail)
 all_goals (refine AF ?_)
 all_goals refine ⟨?_,hs.AD rfl⟩
 all_goals clear hs
 ·have h1:decide (1≤x.st)=false:=hc
  rw [h1];rfl
 ·have h1:decide (1≤x.st)=true:=hc
  rw [h1];rfl
def BU (l:List Tk) (id:Int):Option Nat:=if 1≤id∧id≤l.length∧(l.getD (id - 1).toNat .zero).st≠0 then some (id - 1).toNat else none
theorem IS {l:List Tk} {id:Int} {i:Nat} (h:BU l id=some i):i < l.length∧id=(i:Int)+1:=by
 unfold BU at h
 split at h
 ·cases h;omega
 ·cases h
def cA (o:Option Nat):Int:=match o with | some i=>(i:Int) | none=>0
def Eb (o:Option Nat):Int:=match o with | some _=>0 | none=>4
theorem OY (tb rb:Nat) (l:List Tk) (id:Int) (w0:World) (h:DL w0 tb rb l) (hid:In64 id):AM Tryz.prog 38 #[.pointer (some ⟨tb,0,none⟩),.int .i64 id] w0 fun v w'=>v = .tuple #[.int .i64 (cA (BU l id)),.int .i64 (Eb (BU l id))]∧AA [] w0 w':=by
 obtain ⟨cap,rest,h1,h2,h3,h4⟩:=h
 have hs:=((St.nil w0).AE h1).AE h2
 refine AQ Tryz.func38 Tryz.ntmps38 (k:=?_)
 refine Jb ?_
 refine Aq ?_
 refine vs (k:=?_)
 refine vs (k:=?_)
 refine Jb ?_
 refine Aq ?_
 refine vs (k:=?_)
 refine vs (k:=?_)
 refine vs (k:=?_)
 refine Jg ?_
 refine Aq ?_
 refine vs (k:=?_)
 refine vs (k:=?_)
 by_cases c1:id < 1
 ·have e:BU l id=none:=if_neg om
  rw [decide_eq_true c1,e]
  refine Jh ?_
  refine AF ?_
  exact ⟨rfl,hs.AB [] (by simp [h1,h2]) (by simp [D0])⟩
 rw [decide_eq_false c1]
 iterate 8 refine vs (k:=?_)
 by_cases c2:id > (l.length:Nat)
 ·have e:BU l id=none:=if_neg om
  rw [decide_eq_true c2,e]
  refine Jh ?_
  refine AF ?_
  exact ⟨rfl,hs.AB [] (by simp [h1,h2]) (by simp [D0])⟩
 rw [decide_eq_false c2]
 obtain ⟨i,rfl⟩:∃ i:Nat,id=(i:Int)+1:=⟨(id - 1).toNat,by omega⟩
 have hi:i < l.length:=by omega
 have ew:IntKind.i64.wrap ((i:Int)+1 - 1)=(i:Int):=by rw [wrap_i64];omega
 have ei:((i:Int)+1 - 1).toNat=i:=by omega
 have hpk:=Kk (rest:=rest) hi
 have eF:BU l ((i:Int)+1)=if l[i].st≠0 then some i else none:=by
  unfold BU
  rw [ei,List.getD_eq_getElem?_getD,List.getElem?_eq_getElem hi]
  by_cases hq:l[i].st=0
  ·rw [if_neg (by simp [hq]),if_neg (by simp [hq])]
  ·rw [if_pos ⟨by omega,by omega,by simpa using hq⟩,if_pos hq]
 generalize l[i]=q at *
 iterate 8 refine vs (k:=?_)
 rw [ew]
 refine ix (h0:=(by omega)) (h1:=(by omega)) (k:=?_)
 refine vs (k:=?_)
 refine lh (v := .int .u8 q.st) (hs.get At.head) ?_ (k:=?_)
 ·cases hpk with | cons a t=>cases t with | cons a2 _=>simpa using a2
 refine vs (k:=?_)
 by_cases hq:q.st=0
 ·rw [if_neg (by simp [hq])] at eF
  rw [eF,hq]
  refine Je ?_
  refine AF ?_
  exact ⟨rfl,hs.AB [] (by simp [h1,h2]) (by simp [D0])⟩
 ·rw [if_pos hq] at eF
  rw [eF,show (q.st == 0)=false by simpa using hq]
  refine Jd ?_
  refine AF ?_
  refine ⟨?_,hs.AB [] (by simp [h1,h2]) (by simp [D0])⟩
  show Value.tuple _=Value.tuple _
  rw [ew];rfl
def Bi (l:List Tk) (id:Int):Tk:=match BU l id with | some i=>l.getD i .zero | none => .zero
theorem Td (tb rb:Nat) (l:List Tk) (id:Int) (w0:World) (h:DL w0 tb rb l) (hid:In64 id):AM Tryz.prog 13 #[.pointer (some ⟨tb,0,none⟩),.int .i64 id] w0 fun v w'=>v = .tuple #[KT (Bi l id),.int .i64 (Eb (BU l id))]∧AA [] w0 w':=by
 have hT:=h
 obtain ⟨cap,rest,h1,h2,h3,h4⟩:=h
 have hs:=((St.nil w0).AE h1).AE h2
 refine AQ Tryz.func13 Tryz.ntmps13 (k:=?_)
 refine Ag ?_
 refine Aq ?_
 refine al hs (k:=?_);intro b4 w hz hs
 refine Ja ?_
 refine cl (h:=by exact OY tb rb l id _ (hT.only (hs.AB [] (by simp [h1,h2]) (by simp [D0]))) hid) (k:=?_)
 unfold Bi
 cases e:BU l id with
 | none =>
   rintro v w' ⟨rfl,ho⟩;replace hs:=hs.AL ho;repeat' (first|refine Sc ?_|(refine AU hs (k:=?_);intro w hs)|fail)
   refine AF ?_
   exact ⟨rfl,hs.AB [] (by simp [h1,h2]) (by simp [D0])⟩
 | some i =>
   obtain ⟨hi,_⟩:=IS e
   have hpk:=Kk (rest:=rest) hi
   have eG:l.getD i .zero=l[i]:=by rw [List.getD_eq_getElem?_getD,List.getElem?_eq_getElem hi];rfl
   simp only
   rw [eG]
   generalize l[i]=q at *
   rintro v w' ⟨rfl,ho⟩;replace hs:=hs.AL ho;refine Jd ?_
   refine ix (h0:=(by show (0:Int)≤(i:Int);omega)) (h1:=(by show (i:Int) < _;omega)) (k:=?_)
   refine JQ (vs:=q.cells) (hs.get (b:=rb) (o:=Le l rest) (by repeat (first | exact At.head | (with_reducible apply At.tail)))) ?_ (k:=?_)
   ·simpa [cA] using hpk
   repeat' (first|refine Sb ?_|(refine AU hs (k:=?_);intro w hs)|fail)
   refine AF ?_
   exact ⟨rfl,hs.AB [] (by simp [h1,h2]) (by simp [D0])⟩
theorem Hu (x:Tk) (l:List Tk):CO (x :: l)=x.cells ++ CO l:=by simp [CO]
theorem PU (y:Tk) {rest:List Value}:∀ {l:List Tk} {i:Nat},i < l.length→Ai (CO l ++ rest) (i*6) y.cells (CO (l.set i y) ++ rest)
 | [],i,h=>absurd h (Nat.not_lt_zero _)
 | x :: l,0,_=>by
   rw [Hu,List.set_cons_zero,Hu,List.append_assoc,List.append_assoc]
   exact .cons (.cons (.cons (.cons (.cons (.cons .nil)))))
 | x :: l,i+1,h=>by
   have ih:=PU y (rest:=rest) (l:=l) (i:=i) (Nat.lt_of_succ_lt_succ h)
   rw [Hu,List.set_cons_succ,Hu,List.append_assoc,List.append_assoc,show (i+1)*6=i*6+1+1+1+1+1+1 by omega]
   exact .skip (.skip (.skip (.skip (.skip (.skip ih)))))
def FG (l:List Tk) (id:Int):List Tk:=match BU l id with | some i=>l.set i .zero | none=>l
theorem UF (tb rb:Nat) (l:List Tk) (id:Int) (w0:World) (h:DL w0 tb rb l) (hid:In64 id):AM Tryz.prog 67 #[.pointer (some ⟨tb,0,none⟩),.int .i64 id] w0 fun v w'=>v = .int .i64 (Eb (BU l id))∧DL w' tb rb (FG l id)∧AA [rb] w0 w':=by
 have hT:=h
 obtain ⟨cap,rest,h1,h2,h3,h4⟩:=h
 have hs:=((St.nil w0).AE h1).AE h2
 refine AQ Tryz.func67 Tryz.ntmps67 (k:=?_)
 refine Ja ?_
 refine cl (h:=by exact OY tb rb l id _ (hT.only (hs.AB [] (by simp [h1,h2]) (by simp [D0]))) hid) (k:=?_)
 unfold FG
 cases e:BU l id with
 | none =>
   rintro v w' ⟨rfl,ho⟩;replace hs:=hs.AL ho;refine Jd ?_
   refine AF ?_
   have ho:=hs.AB [] (by simp [h1,h2]) (by simp [D0])
   exact ⟨rfl,hT.only ho,ho.weaken (by simp)⟩
 | some i =>
   obtain ⟨hi,_⟩:=IS e
   have hpt:=PU .zero (rest:=rest) hi
   rintro v w' ⟨rfl,ho⟩;replace hs:=hs.AL ho;refine Je ?_
   refine ix (h0:=(by show (0:Int)≤(i:Int);omega)) (h1:=(by show (i:Int) < _;omega)) (k:=?_)
   refine AU hs (cs:=CO l ++ rest) (vs:=Tk.zero.cells) (cs':=CO (l.set i .zero) ++ rest) (hc:=?_) (k:=?_)
   ·simpa [cA] using hpt
   intro w hs
   refine Ja ?_
   refine AF ?_
   have ho:=hs.AB [rb] (by simp [h1]) (by simp [D0])
   refine ⟨rfl,⟨cap,rest,?_,hs.get At.head,by rw [List.length_set];exact h3,by rw [List.length_set];exact h4⟩,ho⟩
   rw [List.length_set];exact hs.get (At.tail At.head)
def BZ (x:Tk):Bool:=decide (1≤x.st) && decide (x.st≤3)
def uN (l:List Tk) (x:Tk):Int:=bif BZ x then Eb (BU l x.id) else 2
def Ei (l:List Tk) (x:Tk):List Tk:=bif BZ x then (match BU l x.id with | some i=>l.set i x | none=>l) else l
theorem FQ (tb rb:Nat) (l:List Tk) (x:Tk) (w0:World) (h:DL w0 tb rb l) (hid:In64 x.id):AM Tryz.prog 71 #[.pointer (some ⟨tb,0,none⟩),KT x] w0 fun v w'=>v = .int .i64 (uN l x)∧DL w' tb rb (Ei l x)∧AA [rb] w0 w':=by
 have hT:=h
 obtain ⟨cap,rest,h1,h2,h3,h4⟩:=h
 have hs:=((St.nil w0).AE h1).AE h2
 have lb1:=lt_of_block h1
 have lb2:=lt_of_block h2
 refine AQ Tryz.func71 Tryz.ntmps71 (k:=?_)
 repeat' (first|refine Sd ?_|(refine bx hs (k:=?_);intro b w hz hs)|fail)
 refine cl (h:=by exact Ry x _) (k:=?_)
 rw [show (decide (1≤x.st) && decide (x.st≤3))=BZ x from rfl]
 unfold uN Ei
 cases hr:BZ x with
 | false =>
   rintro v w' ⟨rfl,ho⟩;replace hs:=hs.AL ho;refine Je ?_
   refine AF ?_
   have ho:=hs.AB [] (by simp [h1,h2]) (by simp [D0])
   exact ⟨rfl,hT.only ho,ho.weaken (by simp)⟩
 | true =>
   rintro v w' ⟨rfl,ho⟩;replace hs:=hs.AL ho;refine Jd ?_
   refine cl (h:=by exact OY tb rb l x.id _ (hT.only (hs.AB [] (by simp [h1,h2]) (by simp [D0]))) hid) (k:=?_)
   simp only [cond_true]
   cases e:BU l x.id with
   | none =>
     rintro v w' ⟨rfl,ho⟩;replace hs:=hs.AL ho;refine Jd ?_
     refine AF ?_
     have ho:=hs.AB [] (by simp [h1,h2]) (by simp [D0])
     exact ⟨rfl,hT.only ho,ho.weaken (by simp)⟩
   | some i =>
     obtain ⟨hi,_⟩:=IS e
     have hpt:=PU x (rest:=rest) hi
     rintro v w' ⟨rfl,ho⟩;replace hs:=hs.AL ho;refine Je ?_
     refine dr [7] hs (k:=?_);intro hX w hs
     refine tks 0 6 ?_
     refine tk 6 hX (hr:=fun w' hH=>BE AI rfl rfl rfl (by show (0:Int)≤(i:Int);omega) (by show (i:Int) < _;omega)) (k:=?_)
     refine dt 7 hX (k:=?_)
     refine AU hs (cs:=CO l ++ rest) (vs:=x.cells) (cs':=CO (l.set i x) ++ rest) (hc:=?_) (k:=?_)
     ·simpa [cA] using hpt
     intro w hs
     refine XS.nil ?_
     refine dn (k:=?_)
     refine en (k:=?_)
     refine Ja ?_
     refine AF ?_
     have ho:=hs.AB [rb] (by simp [h1]) (by simp [D0])
     refine ⟨rfl,⟨cap,rest,?_,hs.get (b:=rb) (by repeat (first | exact At.head | (with_reducible apply At.tail))),by rw [List.length_set];exact h3,by rw [List.length_set];exact h4⟩,ho⟩
     rw [List.length_set];exact hs.get (b:=tb) (by repeat (first | exact At.head | (with_reducible apply At.tail)))
def D2:List Tk→Option Nat
 | []=>none
 | x :: l=>if x.st=0 then some 0 else (D2 l).map (·+1)
theorem bU {l:List Tk} {i:Nat} (h:i < l.length):D2 (l.drop i)=if l[i].st=0 then some 0 else (D2 (l.drop (i+1))).map (·+1):=by rw [List.drop_eq_getElem_cons h];rfl
theorem Ky:∀ {l:List Tk} {i:Nat},D2 l=some i→i < l.length
 | [],i,h=>by cases h
 | x :: l,i,h=>by
   unfold D2 at h
   split at h
   ·cases h;simp
   ·cases e:D2 l with
    | none=>rw [e] at h;cases h
    | some j=>rw [e] at h;cases h;have:=Ky e;simp;omega
theorem nM (x:Tk) (w0:World):AM Tryz.prog 92 #[KT x] w0 fun v w'=>v = .bool (x.st == 0)∧AA [] w0 w':=by
 have hs:=St.nil w0
 refine AQ Tryz.func92 Tryz.ntmps92 (k:=?_)
 repeat' (first|refine Sa ?_|(refine bx hs (k:=?_);intro b w hz hs)|fail)
 refine AF ?_
 exact ⟨rfl,hs.AD rfl⟩
def lK (o:Option Nat):Int:=match o with | some i=>(i:Int) | none=>-1
theorem cG (rb cap:Nat) (l:List Tk) (rest:List Value) (w0:World) (hm:l.length≤32) (h:w0.heap[rb]?=some (Le l rest)):AM Tryz.prog 91 #[.slice (some ⟨rb,0,none⟩) l.length cap,.func (.func 92) #[] #[]] w0 fun v w'=>v = .int .i64 (lK (D2 l))∧AA [] w0 w':=by
 have hs:=St.nil w0
 refine AQ Tryz.func91 Tryz.ntmps91 (k:=?_)
 refine Ja ?_
 refine BH (fun (_:Unit)=>[]) (fun _ w=>D2 l=none∧AA [] w0 w) ?_ ?_
 ·refine BF (fun (i:Nat)=>[(0,.slice (some ⟨rb,0,none⟩) l.length cap),(1,.func (.func 92) #[] #[]),(7,.int .i64 (l.length:Nat)),(8,.int .i64 (i:Nat))]) (fun i w=>i≤l.length∧(D2 (l.drop i)).map (·+i)=D2 l∧AA [] w0 w) (fun i=>l.length - i) 0 Aa ⟨Nat.zero_le _,by rw [List.drop_zero];cases D2 l <;> rfl,hs.AD rfl⟩ fun i env wl ⟨hi,he,BL⟩=>?_
  clear hs
  have hs:=St.nil wl
  repeat' (first|refine Sa ?_|refine Av rfl (fun hc=>?_) fun hc=>?_|fail)
  ·have hlt:i < l.length:=by omega
   have hpk:=Kk (rest:=rest) hlt
   have ei:=DH (m:=l.length) hlt om
   rw [bU hlt] at he
   generalize l[i]=q at *
   refine ix (h0:=(by omega)) (h1:=(by omega)) (k:=?_)
   refine JQ (vs:=q.cells) (BL.block h (by simp)) ?_ (k:=?_)
   ·simpa using hpk
   refine cl (h:=by exact nM q _) (k:=?_)
   by_cases hq:q.st=0
   ·rw [if_pos hq] at he
    rw [hq]
    rintro v w' ⟨rfl,ho⟩;replace hs:=hs.AL ho;refine Je ?_
    refine AF ?_
    exact ⟨by rw [← he];simp [lK,packed],BL.trans (hs.AD rfl)⟩
   ·rw [if_neg hq] at he
    rw [show (q.st == 0)=false by simpa using hq]
    rintro v w' ⟨rfl,ho⟩;replace hs:=hs.AL ho;refine Jd ?_
    refine A2 (i+1) (by show l.length - (i+1) < l.length - i;omega) (by (repeat (first | exact Ac | (apply A5;first | exact rfl | exact congrArg (Value.int .i64) ei)))) ⟨by show i+1≤_;omega,?_,BL.trans (hs.AD rfl)⟩
    rw [← he]
    cases D2 (l.drop (i+1)) with
    | none=>rfl
    | some j=>simp;omega
  ·have e:i=l.length:=by omega
   subst e
   rw [List.drop_length] at he
   exact Am () Aa ⟨he.symm,BL⟩
 ·rintro _ env w ⟨he,BL⟩
  clear hs
  have hs:=St.nil w
  refine Ja ?_
  refine AF ?_
  exact ⟨by rw [he];rfl,BL.trans (hs.AD rfl)⟩
def Ea (l:List Tk) (x:Tk):Int:=bif BZ x then (match D2 l with | some i=>(i:Int)+1 | none=>0) else 0
def En (l:List Tk) (x:Tk):Int:=bif BZ x then (match D2 l with | some _=>0 | none=>7) else 2
def D4 (l:List Tk) (x:Tk):List Tk:=bif BZ x then (match D2 l with | some i=>l.set i { x with id:=(i:Int)+1 } | none=>l) else l
theorem L2 (tb rb:Nat) (l:List Tk) (x:Tk) (w0:World) (h:DL w0 tb rb l):AM Tryz.prog 55 #[.pointer (some ⟨tb,0,none⟩),KT x] w0 fun v w'=>v = .tuple #[.int .i64 (Ea l x),.int .i64 (En l x)]∧DL w' tb rb (D4 l x)∧AA [rb] w0 w':=by
 have hT:=h
 obtain ⟨cap,rest,h1,h2,h3,h4⟩:=h
 have hs:=((St.nil w0).AE h1).AE h2
 have lb1:=lt_of_block h1
 have lb2:=lt_of_block h2
 refine AQ Tryz.func55 Tryz.ntmps55 (k:=?_)
 repeat' (first|refine Sd ?_|(refine bx hs (k:=?_);intro b w hz hs)|fail)
 refine cl (h:=by exact Ry x _) (k:=?_)
 rw [show (decide (1≤x.st) && decide (x.st≤3))=BZ x from rfl]
 unfold Ea En D4
 cases hr:BZ x with
 | false =>
   rintro v w' ⟨rfl,ho⟩;replace hs:=hs.AL ho;refine Je ?_
   refine AF ?_
   have ho:=hs.AB [] (by simp [h1,h2]) (by simp [D0])
   exact ⟨rfl,hT.only ho,ho.weaken (by simp)⟩
 | true =>
   rintro v w' ⟨rfl,ho⟩;replace hs:=hs.AL ho;refine Jd ?_
   refine cl (h:=by exact cG rb cap l rest _ h3 (hs.get (b:=rb) (o:=Le l rest) (by repeat (first | exact At.head | (with_reducible apply At.tail))))) (k:=?_)
   simp only [cond_true]
   cases e:D2 l with
   | none =>
     rintro v w' ⟨rfl,ho⟩;replace hs:=hs.AL ho;refine Je ?_
     refine AF ?_
     have ho:=hs.AB [] (by simp [h1,h2]) (by simp [D0])
     exact ⟨rfl,hT.only ho,ho.weaken (by simp)⟩
   | some i =>
     have hi:=Ky e
     have hpt:=PU { x with id:=(i:Int)+1 } (rest:=rest) hi
     have ew:IntKind.i64.wrap ((i:Int)+1)=(i:Int)+1:=by rw [wrap_i64];omega
     rw [show lK (some i)=(i:Int) from rfl]
     rintro v w' ⟨rfl,ho⟩;replace hs:=hs.AL ho
     refine vs (k:=?_)
     refine Jb ?_
     refine Aq ?_
     refine vs (k:=?_)
     refine vs (k:=?_)
     rw [decide_eq_false (show ¬ ((i:Int) < 0) by omega)]
     refine Jg ?_
     refine Aq ?_
     refine vs (k:=?_)
     refine vs (k:=?_)
     rw [ew]
     repeat' (first|refine Sb ?_|(refine st hs (k:=?_);intro w hs)|fail)
     refine dr [7] hs (k:=?_);intro hX w hs
     refine tks 0 6 ?_
     refine tk 6 hX (hr:=fun w' hH=>BE AI rfl rfl rfl (by show (0:Int)≤(i:Int);omega) (by show (i:Int) < _;omega)) (k:=?_)
     refine dt 7 hX (k:=?_)
     refine AU hs (cs:=CO l ++ rest) (vs:=Tk.cells { x with id:=(i:Int)+1 }) (cs':=CO (l.set i { x with id:=(i:Int)+1 }) ++ rest) (hc:=?_) (k:=?_)
     ·simpa using hpt
     intro w hs
     refine XS.nil ?_
     refine dn (k:=?_)
     refine en (k:=?_)
     refine Ja ?_
     refine AF ?_
     have ho:=hs.AB [rb] (by simp [h1]) (by simp [D0])
     refine ⟨rfl,⟨cap,rest,?_,hs.get (b:=rb) (by repeat (first | exact At.head | (with_reducible apply At.tail))),by rw [List.length_set];exact h3,by rw [List.length_set];exact h4⟩,ho⟩
     rw [List.length_set];exact hs.get (b:=tb) (by repeat (first | exact At.head | (with_reducible apply At.tail)))
def Ap (l:List Tk):List Tk:=l.filter fun x=>decide (x.st≠0)
theorem aW (l:List Tk) (x:Tk):Ap (l ++ [x])=if x.st=0 then Ap l else Ap l ++ [x]:=by
 unfold Ap
 rw [List.filter_append]
 by_cases h:x.st=0
 ·rw [if_pos h];simp [h]
 ·rw [if_neg h];simp [h]
theorem ZO (a b:List Tk):CO (a ++ b)=CO a ++ CO b:=by simp [CO]
theorem U8 (tb rb:Nat) (l:List Tk) (w0:World) (h:DL w0 tb rb l):AM Tryz.prog 12 #[.pointer (some ⟨tb,0,none⟩)] w0 fun v w'=>(∃ G,BS w' 51 6 v (Ap l).length (CO (Ap l)) G∧∀ k∈G,w0.heap.size≤k)∧AA [] w0 w':=by
 obtain ⟨cap,rest,h1,h2,h3,h4⟩:=h
 have hs:=(St.nil w0).AE h1
 refine AQ Tryz.func12 Tryz.ntmps12 (k:=?_)
 refine Jd ?_
 have Ay:=hs.AB [] (by simp [h1]) (by simp [D0])
 refine BH (fun (v3:Value)=>[(3,v3)]) (fun v3 w=>AA [] w0 w∧∃ G,BS w 51 6 v3 (Ap l).length (CO (Ap l)) G∧∀ k∈G,w0.heap.size≤k) ?_ ?_
 ·refine BF (fun (x:Nat × Value)=>[(3,x.2),(11,.slice (some ⟨rb,0,none⟩) l.length cap),(12,.int .i64 (l.length:Nat)),(13,.int .i64 (x.1:Nat))])
   (fun x w=>x.1≤l.length∧AA [] w0 w∧∃ G,BS w 51 6 x.2 (Ap (l.take x.1)).length (CO (Ap (l.take x.1))) G∧∀ k∈G,w0.heap.size≤k) (fun x=>l.length - x.1) (0,.slice none 0 0) Aa ⟨Nat.zero_le _,Ay,[],.inl ⟨rfl,rfl,rfl,rfl⟩,by simp⟩ fun x env wl ⟨hi,BL,hT⟩=>?_
  obtain ⟨i,v5⟩:=x
  simp only at hi hT
  obtain ⟨G,hG,DM⟩:=hT
  clear hs
  have hs:=St.nil wl
  repeat' (first|refine Sa ?_|refine Av rfl (fun hc=>?_) fun hc=>?_|fail)
  ·have hlt:i < l.length:=by omega
   have hpk:=Kk (rest:=rest) hlt
   have ei:=DH (m:=l.length) hlt om
   have et:Ap (l.take (i+1))=if l[i].st=0 then Ap (l.take i) else Ap (l.take i) ++ [l[i]]:=by rw [CS hlt,aW]
   have uI:=hG.lt
   have hle:(Ap (l.take i)).length≤32:=by have:=List.length_filter_le (fun x:Tk=>decide (x.st≠0)) (l.take i);rw [List.length_take] at this;unfold Ap;omega
   generalize l[i]=q at *
   generalize Ap (l.take i)=A at *
   refine ix (h0:=(by omega)) (h1:=(by omega)) (k:=?_)
   refine JQ (vs:=q.cells) (BL.block h2 (by simp)) ?_ (k:=?_)
   ·simpa using hpk
   by_cases hq:q.st=0
   ·rw [if_pos hq] at et
    repeat' (first|refine Sa ?_|(refine AU hs (k:=?_);intro w hs)|(refine al hs (k:=?_);intro b w hz hs)|(refine bs hs (k:=?_);intro b w hz hs)|refine xc_cond rfl (fun hc=>?_) fun hc=>?_|fail)
    ·exact absurd hq (by simpa using hc)
    ·refine A2 (i+1,v5) (by show l.length - (i+1) < l.length - i;omega) (by (repeat (first | exact Ac | (apply A5;first | exact rfl | exact congrArg (Value.int .i64) ei)))) ⟨by show i+1≤_;omega,BL.trans (hs.AD rfl),G,?_,DM⟩
     simp only [et]
     exact hG.keep (hs.AD rfl) (by simp)
   ·rw [if_neg hq] at et
    repeat' (first|refine Sa ?_|(refine AU hs (k:=?_);intro w hs)|(refine al hs (k:=?_);intro b w hz hs)|(refine bs hs (k:=?_);intro b w hz hs)|refine xc_cond rfl (fun hc=>?_) fun hc=>?_|fail)
    ·have Dj:=hs.get At.head
     have AN:=hs.AD rfl
     refine CE AI rfl rfl rfl rfl rfl rfl rfl (by decide) (lit_cells (news:=q.cells) Dj) (by simp [Value.oneCell']) (hG.keep AN (by simp)) om om ?_
     intro MV w4 ⟨G',IE,IP⟩ Al
     have OB:=AN.size
     have Nu:=BL.size
     clear hs
     have hs:=St.nil w4
     refine Ja ?_
     refine A2 (i+1,MV) (by show l.length - (i+1) < l.length - i;omega) (by (repeat (first | exact Ac | (apply A5;first | exact rfl | exact congrArg (Value.int .i64) ei)))) ⟨by show i+1≤_;omega,((BL.trans AN).news DM Al).trans (hs.AD rfl),G',?_,?_⟩
     ·simp only [et]
      rw [List.length_append,ZO,show CO [q]=q.cells by simp [CO]]
      exact IE.keep (hs.AD rfl) (by simp)
     ·intro k hk
      rcases IP k hk with h | h
      ·exact DM k h
      ·omega
    ·exact absurd (by simpa using hc) hq
  ·have e:i=l.length:=by omega
   subst e
   rw [List.take_length] at hG
   exact Am v5 Aa ⟨BL,G,hG,DM⟩
 ·rintro v5 env w ⟨BL,G,hG,DM⟩
  clear hs
  have hs:=St.nil w
  refine Ja ?_
  refine AF ?_
  have AS:=hs.AD rfl
  exact ⟨⟨G,hG.keep AS (by simp),DM⟩,BL.trans AS⟩
end Go.Proofs.Q0
namespace Go.Proofs.Q0
open Go Go.RowKit
def BY:Nat→List Tk→Prop
 | _,[]=>True
 | k,x :: l=>(x.st≠0→x.id=(k:Int)+1∧BZ x=true)∧BY (k+1) l
theorem BY.rep:∀ (m k:Nat),BY k (List.replicate m .zero)
 | 0,_=>trivial
 | m+1,k=>⟨fun h=>absurd rfl h,BY.rep m (k+1)⟩
theorem BY.set {y:Tk}:∀ {l:List Tk} {k i:Nat},BY k l→(y.st≠0→y.id=(k:Int)+i+1∧BZ y=true)→BY k (l.set i y)
 | [],k,i,_,_=>by rw [List.set_nil];trivial
 | x :: l,k,0,h,hy=>⟨fun hn=>by obtain ⟨a,b⟩:=hy hn;exact ⟨by omega,b⟩,h.2⟩
 | x :: l,k,i+1,h,hy=>⟨h.1,BY.set h.2 (fun hn=>by obtain ⟨a,b⟩:=hy hn;exact ⟨by omega,b⟩)⟩
theorem BY.get:∀ {l:List Tk} {k i:Nat} {x:Tk},BY k l→l[i]?=some x→x.st≠0→x.id=(k:Int)+i+1∧BZ x=true
 | [],_,_,_,_,h,_=>by simp at h
 | y :: l,k,0,x,hI,h,hn=>by
   rw [List.getElem?_cons_zero] at h
   cases h
   obtain ⟨a,b⟩:=hI.1 hn
   exact ⟨by omega,b⟩
 | y :: l,k,i+1,x,hI,h,hn=>by
   rw [List.getElem?_cons_succ] at h
   obtain ⟨a,b⟩:=BY.get hI.2 h hn
   exact ⟨by omega,b⟩
theorem Fy {l:List Tk} {x:Tk} (h:x∈Ap l):x.st≠0∧∃ i:Nat,l[i]?=some x:=by
 unfold Ap at h
 obtain ⟨a,b⟩:=List.mem_filter.1 h
 exact ⟨by simpa using b,List.mem_iff_getElem?.1 a⟩
theorem Ns {l:List Tk} {i:Nat} {x:Tk} (h:l[i]?=some x):BU l ((i:Int)+1)=if x.st≠0 then some i else none:=by
 have hi:i < l.length:=by
  rcases Nat.lt_or_ge i l.length with h1 | h1
  ·exact h1
  ·rw [List.getElem?_eq_none h1] at h;cases h
 unfold BU
 rw [show ((i:Int)+1 - 1).toNat=i by omega,List.getD_eq_getElem?_getD,h]
 by_cases hq:x.st=0
 ·rw [if_neg (by simp [hq]),if_neg (by simp [hq])]
 ·rw [if_pos ⟨by omega,by omega,by simpa using hq⟩,if_pos hq]
theorem N2 {l:List Tk} {id:Int} {i:Nat} (h:BU l id=some i):∃ x,l[i]?=some x∧x.st≠0∧id=(i:Int)+1:=by
 obtain ⟨hi,rfl⟩:=IS h
 have e:=Ns (List.getElem?_eq_getElem hi)
 rw [h] at e
 refine ⟨l[i],List.getElem?_eq_getElem hi,fun hq=>?_,rfl⟩
 rw [if_neg (by simp [hq])] at e
 cases e
theorem fI {l:List Tk} {i:Nat} {x:Tk} (h:l[i]?=some x) (hx:x.st≠0):Bi l ((i:Int)+1)=x:=by
 unfold Bi
 rw [Ns h,if_pos hx]
 show l.getD i .zero=x
 rw [List.getD_eq_getElem?_getD,h];rfl
theorem HK {l:List Tk} (hI:BY 0 l) {x:Tk} (h:x∈Ap l):∃ i,BU l x.id=some i∧l[i]?=some x∧Bi l x.id=x:=by
 obtain ⟨hn,i,hi⟩:=Fy h
 have e:=(hI.get hi hn).1
 have e2:x.id=(i:Int)+1:=by omega
 refine ⟨i,?_,hi,?_⟩
 ·rw [e2,Ns hi,if_pos hn]
 ·rw [e2];exact fI hi hn
theorem cL {l:List Tk} (hI:BY 0 l) {id:Int} {i:Nat} (h:BU l id=some i):∃ x,x∈Ap l∧x.id=id∧l[i]?=some x:=by
 obtain ⟨x,a,b,c⟩:=N2 h
 refine ⟨x,?_,by have:=(hI.get a b).1;omega,a⟩
 unfold Ap
 exact List.mem_filter.2 ⟨List.mem_iff_getElem?.2 ⟨i,a⟩,by simpa using b⟩
theorem Ww (l:List Tk) (x:Tk):(D4 l x).length=l.length:=by
 unfold D4
 cases BZ x with
 | false=>rfl
 | true=>cases D2 l with
   | none=>rfl
   | some i=>exact List.length_set
theorem Tu (l:List Tk) (id:Int):(FG l id).length=l.length:=by
 unfold FG
 cases BU l id with
 | none=>rfl
 | some i=>exact List.length_set
theorem mN (l:List Tk) (x:Tk):(Ei l x).length=l.length:=by
 unfold Ei
 cases BZ x with
 | false=>rfl
 | true=>cases BU l x.id with
   | none=>rfl
   | some i=>exact List.length_set
theorem BY.add {l:List Tk} (h:BY 0 l) (x:Tk):BY 0 (D4 l x):=by
 unfold D4
 cases hr:BZ x with
 | false=>exact h
 | true=>cases e:D2 l with
   | none=>exact h
   | some i=>exact h.set fun _=>⟨by show (i:Int)+1=_;omega,hr⟩
theorem BY.drop {l:List Tk} (h:BY 0 l) (id:Int):BY 0 (FG l id):=by
 unfold FG
 cases BU l id with
 | none=>exact h
 | some i=>exact h.set fun hn=>absurd rfl hn
theorem BY.sets {l:List Tk} (h:BY 0 l) (x:Tk):BY 0 (Ei l x):=by
 unfold Ei
 cases hr:BZ x with
 | false=>exact h
 | true=>cases e:BU l x.id with
   | none=>exact h
   | some i =>
     obtain ⟨_,_,_,e2⟩:=N2 e
     exact h.set fun _=>⟨by omega,hr⟩
theorem VR {x:Tk} (h:BZ x=true):x.st≠0:=fun e=>by unfold BZ at h;rw [e] at h;exact absurd h (by decide)
end Go.Proofs.Q0
namespace Go.Proofs.Q0
open IB (IT)
def er (r:RT):RT:=HR r false
section
variable (f : RT → RT) (hf : ∀ r, BA (f r) = BA r)
include hf
end
end Go.Proofs.Q0
namespace Go.Proofs.Q0
open Go Go.RowKit
structure aAa where
 d:Int
 r:RT
theorem kS:Rq.zero.In:=by decide
instance:Inhabited aAa:=⟨⟨0,⟨.zero,kS⟩⟩⟩
end Go.Proofs.Q0
namespace Go.Proofs.Q0
open IB (IT)
theorem tJ {r:Rq} (h:r.In) {p:Pt} {n:Int} (hp:p.In) (h0:0≤n) (h1:n≤r.left):(Cv r p n).In:=by
 refine ⟨⟨hp,h.1.2.1,h.1.2.2⟩,?_,h.2.2⟩
 show BV (bif decide (r.left - n=0) then r.slice else r.left - n)
 cases decide (r.left - n=0) with
 | true=>exact h.2.2
 | false =>
   have:=h.2.1
   show BV (r.left - n)
   unfold BV at *
   omega
theorem TS {c:Cs} {most:Int} (hm:0≤most) {u:Rq × Bool} (h:GI c most=some u):u.1.In:=by
 unfold GI DC at h
 split at h
 ·rename_i hc
  have hin:=Kt c.A.l c.run
  split at h
  ·cases h
  ·rename_i p hp
   have aAC:(Cv (DJ c.A.l c.run) p (BX c most)).In:=tJ hin (at_some hp).1 (by
    unfold BX EC
    have:=hin.2.1
    unfold BV at this
    split <;> omega) hc.2.2
   cases e:CK (Cv (DJ c.A.l c.run) p (BX c most)) with
   | none=>rw [e] at h;cases h
   | some q =>
     rw [e] at h
     cases h
     exact (MU aAC e).1
 ·cases h
theorem S3:(C4 Rq.zero).1.right=false:=by decide
theorem put_zero (A:As):Dq A (C4 .zero)=2∧GR A (C4 .zero)=A:=by
 have e:Dq A (C4 .zero)=2:=by unfold Dq Fx;rw [S3];rfl
 exact ⟨e,by unfold GR;rw [e];rfl⟩
def Ax (c:Cs) (id:Int):Int × Cs:=if (Ah c.A.l id).isSome then (0,⟨Fk c.A id,c.run,ET c.carr (CX c.A id)⟩) else (14,c)
def Bg (c:Cs) (id:Int):Int × Cs:=match Ah c.A.l id with
 | none=>(14,c)
 | some a=>if a.1.asleep=true then (6,c) else if Dk c.A id < 0 then (0,⟨GU c.A id true,c.run,c.carr⟩) else Ax c id
def CL (c:Cs) (id:Int):Int × Cs:=match Ah c.A.l id with
 | none=>(14,c)
 | some a=>if a.1.asleep=true then (0,⟨GU c.A id false,c.run,c.carr⟩) else (6,c)
def J4 (A:As) (r:Rq) (q:Int):Option Rq:=(GJ (mA A) r.i.p q).bind fun p=>Ir r p
def M0 (c:Cs) (id:Int):Option Rq→Int × Cs
 | none=>(8,c)
 | some y=>(Dq c.A (C4 y),⟨GR c.A (C4 y),c.run,ET c.carr (CX c.A id)⟩)
def Bo (c:Cs) (id q:Int):Int × Cs :=
 if Ee q=false then (2,c) else match Ah c.A.l id with
 | none=>(14,c)
 | some a=>M0 c id (J4 c.A a.1 q)
def Bn (c:Cs) (id ns:Int):Int × Cs :=
 if EP ns=false then (2,c) else match Ah c.A.l id with
 | none=>(14,c)
 | some a=>(Dq c.A (C4 ((D9 a.1 ns).getD .zero)),⟨GR c.A (C4 ((D9 a.1 ns).getD .zero)),c.run,c.carr⟩)
theorem rU {r:Rq} (h:r.In) {p:Pt} (hp:p.In) {y:Rq} (e:Ir r p=some y):y.In:=by
 unfold Ir at e
 cases k:r.right with
 | false=>rw [k] at e;cases e
 | true=>rw [k] at e;exact (MU (⟨⟨hp,h.1.2⟩,h.2⟩:Rq.In ⟨⟨p,r.i.id,r.i.d⟩,r.left,r.slice,r.asleep⟩) e).1
theorem kK {r:Rq} (h:r.In) {n:Int} (hn:BV n) {y:Rq} (e:D9 r n=some y):y.In:=by
 unfold D9 at e
 cases k:r.right with
 | false=>rw [k] at e;cases e
 | true=>rw [k] at e;exact (MU (⟨h.1,h.2.1,hn⟩:Rq.In ⟨r.i,r.left,n,r.asleep⟩) e).1
theorem yH {m:Mn} {p:Pt} {q:Int} {y:Pt} (e:GJ m p q=some y):y.In:=by
 unfold GJ at e
 split at e
 ·exact (at_some e).1
 ·cases e
structure aA8 where
 d:Int
 id:Int
 w:Int
 ns:Int
 lag:Int
instance:Inhabited aA8:=⟨⟨0,0,0,0,0⟩⟩
end Go.Proofs.Q0
namespace Go.Proofs.Q0
open Go Go.RowKit
attribute [local irreducible] XS XC XA AX AO A6 AZ AY A7 Ab AV SE
theorem HD {w0 w':World} {G:List Nat} {J:Int × Cs} {c:Cs} {n:Int} {P Q:Prop} (e:J=(n,c)) (hn:n≠0) (hq:Q) (ho:AA [] w0 w'):Value.int .i64 n = .int .i64 J.1∧Q∧(J.1=0→P)∧AA G w0 w':=by
 subst e;exact ⟨rfl,hq,fun h=>absurd h hn,ho.weaken (by simp)⟩
theorem Rt (l:List RT) (id:Int):∃ x bs,DJ l id=x∧(Ah l id).isSome=bs∧x.In∧((bs=false∧Ah l id=none)∨∃ a,bs=true∧Ah l id=some a∧x=a.1):=by
 cases e:Ah l id with
 | none=>exact ⟨_,_,rfl,rfl,Kt _ _,.inl ⟨rfl,rfl⟩⟩
 | some a=>exact ⟨_,_,rfl,rfl,Kt _ _,.inr ⟨a,rfl,rfl,by unfold DJ;rw [e]⟩⟩
theorem kF (b2:Nat) (c:Cs) (id:Int) (wb w0:World) (hid:In64 id) (B2:w0.heap[b2]?=some (.cells #[.int .i64 id] 3 (0,0))) :
 Od wb w0 109 [.pointer (some ⟨b2,0,none⟩)] [] (fun _=>True) c (CL c id).1 (CL c id).2 .none:=by
 intro cb rb F hC hR Yd hrb
 have Es:=hC
 have MZ:=hR
 obtain ⟨sb,Fs,rfl,h1,hS,h3,h4⟩:=hC
 obtain ⟨x,bs,ex,eb,My,hcs⟩:=Rt c.A.l id
 generalize hJ:CL c id=J
 have hs:=((St.nil w0).AE h1).AE B2
 refine AQ Tryz.func109 Tryz.ntmps109 (k:=?_)
 refine Ja ?_
 refine dr [] hs (k:=?_);intro hX w hs
 refine tks 0 5 ?_
 refine GY 9 6 hs (k:=?_);intro f X w hp;have hs:=hp.st
 apply BG 5 9 (f:=f) (X:=X) hX hp;exact rfl;exact rfl;(apply AR AI;exact rfl);kernel_rfl;kernel_rfl;kernel_rfl;kernel_rfl;(intro X Y;(repeat (first | exact A4 | refine A3 ?_ (by exact rfl))));(intro w' hs;first|exact AH hs.hold|exact AH hs.hold.tail|exact A8 rfl);intro f X w hp;have hs:=hp.st
 have ho:=hs.AB [] (by simp [h1,B2]) (by simp [D0])
 refine cl (h:=by exact J0 sb c.A Fs id _ (hS.only ho) hid) (k:=?_)
 rw [ex,eb]
 rintro v w' ⟨rfl,ho⟩;replace hp:=hp.only ho;replace hs:=hp.st;refine Jb ?_
 refine dn (k:=?_)
 refine tk 6 hX (hc:=by cases f <;> kernel_rfl) (k:=?_)
 refine tk 7 hX (hc:=by cases f <;> kernel_rfl) (k:=?_)
 refine tk 8 hX (hc:=by cases f <;> kernel_rfl) (k:=?_)
 apply B9 9 (f:=f) (X:=X) hX hp;exact rfl;(apply AR AI;exact rfl);kernel_rfl;kernel_rfl;(intro X Y;(repeat (first | exact A4 | refine A3 ?_ (by exact rfl))));(intro w' hs;first|exact AH hs.hold|exact AH hs.hold.tail|exact A8 rfl);intro b w hI hs
 refine dt 10 hX (k:=?_)
 repeat' (first|refine Nx.h ?_|(refine AU hs (k:=?_);intro w hs)|fail)
 refine dn (k:=?_)
 refine tk 11 hX (k:=?_)
 refine en (k:=?_)
 rcases hcs with ⟨hb,e⟩ | ⟨a,hb,e,hx⟩
 ·subst hb
  refine Je ?_
  refine AF ?_
  exact HD (n:=14) (by rw [← hJ];unfold CL;rw [e]) (by decide) trivial (hs.AB [] (by simp [h1,B2]) (by simp [D0]))
 ·subst hb
  repeat' (first|refine Sd ?_|refine xc_cond rfl (fun hc=>?_) fun hc=>?_|fail)
  ·refine AF ?_
   have k:x.asleep=false:=by simpa using hc
   exact HD (n:=6) (by rw [← hJ];unfold CL;rw [e];show (if a.1.asleep=true then _ else _)=_;rw [← hx,k];rfl) (by decide) trivial (hs.AB [] (by simp [h1,B2]) (by simp [D0]))
  ·have k:x.asleep=true:=by simpa using hc
   have eJ:J=(0,⟨GU c.A id false,c.run,c.carr⟩):=by rw [← hJ];unfold CL;rw [e];show (if a.1.asleep=true then _ else _)=_;rw [← hx,k];rfl
   have ho:=hs.AB [] (by simp [h1,B2]) (by simp [D0])
   have x1:=ho.block h1 (by simp)
   have x3:=ho.block B2 (by simp)
   clear hs
   have hs:=((St.nil _).AE x1).AE x3
   refine dr [] hs (k:=?_);intro hX w hs
   refine tks 0 5 ?_
   refine dt 5 hX (k:=?_)
   have AJ:=ho.trans (hs.AB [] (by simp [x1,x3]) (by simp [D0]))
   have GX:=hS.only AJ
   refine cl (h:=by exact R5 sb c.A Fs id false _ GX hid) (k:=?_)
   rw [eb]
   rintro v w2 ⟨rfl,F2,EH,DW,AN⟩
   have n1:cb∉Fs:=Bb.N6 h1 hS
   have n3:b2∉Fs:=hS.not B2 rfl
   have y1:=AN.block (AJ.block h1 (by simp)) n1
   have y3:=AN.block (AJ.block B2 (by simp)) n3
   have Nu:=AJ.size
   have JT:DK w2 rb .none [rb]:=(hR.only AJ).Ae AN (fun k hk hm=>by
    obtain rfl:=List.mem_singleton.1 hk
    exact MZ.apart Es k (by simp) (by simp [hm]))
   clear hs
   have hs:=((St.nil w2).AE y1).AE y3
   refine Jb ?_
   refine dn (k:=?_)
   refine tk 6 hX (k:=?_)
   refine en (k:=?_)
   refine Jb ?_
   refine AF ?_
   have AS:=hs.AB [] (by simp [y1,y3]) (by simp [D0])
   subst eJ
   refine ⟨rfl,trivial,fun _=>⟨cb :: F2,[rb],⟨sb,F2,rfl,AS.block y1 (by simp),EH.only AS,h3,h4⟩,JT.only AS,fun k hk=>?_,fun k hk => .inl (by simpa using hk)⟩,((AJ.weaken (by simp)).step AN (fun k hk => .inl (by simp [hk]))).step AS (by simp)⟩
   rcases List.mem_cons.1 hk with rfl | hk
   ·simp
   ·rcases DW k hk with h | h
    ·simp [h]
    ·exact .inr om
theorem LH {w w':World} {vg vp:Value} {r:Rp} {Gg Gp:List Nat} (p1:YY w vg r.g Gg) (p2:U3 w vp r.p Gp) {G:List Nat} (ho:AA G w w') (h:∀ b∈G,∃ cs ty fz,w.heap[b]?=some (.cells cs ty fz)∧ty≠170∧ty≠168):MP w' (.agg #[vg,vp]) r :=
 ⟨_,_,Gg,Gp,rfl,p1.keep ho (fun k hk hm=>by obtain ⟨cs,ty,fz,a,b,c⟩:=h k hm;exact BM p1 a b hk),p2.keep ho (fun k hk hm=>by obtain ⟨cs,ty,fz,a,b,c⟩:=h k hm;exact BM p2 a c hk)⟩
theorem V4 (cb:Nat) (c:Cs) (F:List Nat) (id:Int) (w0:World) (h:Bb w0 cb c F) (hid:In64 id) :
 AM Tryz.prog 73 #[.pointer (some ⟨cb,0,none⟩),.int .i64 id] w0 fun v w'=>∃ rv,v = .tuple #[rv,.int .i64 (CL c id).1]∧HF w0 cb F rv (CL c id).1 c (CL c id).2 .none w':=by
 have hs:=St.nil w0
 refine AQ Tryz.func73 Tryz.ntmps73 (k:=?_)
 refine Ag ?_
 refine Aq ?_
 refine bx hs (k:=?_);intro b6 w _ hs
 refine al hs (k:=?_);intro Em w hz hs
 refine Ja ?_
 have ho:=hs.AD rfl
 have hz:=ho.size
 have x6:=hs.get (b:=b6) (by repeat (first | exact At.head | (with_reducible apply At.tail)))
 have Hq:=hs.get (b:=Em) (by repeat (first | exact At.head | (with_reducible apply At.tail)))
 have E6:=h.only ho
 have hb:=hs.new _ List.mem_cons_self rfl
 simp only at hb
 refine cl (h:=by exact J5 cb c F _ E6 109 [.pointer (some ⟨b6,0,none⟩)] [] (fun _=>True) (CL c id).1 (CL c id).2 .none (fun _ _ _ _ _ _=>trivial) (by simp) (by simp [Rp.none]) (fun w1 AJ=>kF b6 c id _ w1 hid (AJ.block x6 (by simp)))) (k:=?_)
 rintro v w2 ⟨rv,rfl,_,Hy,⟨F',hC',CV⟩,AN⟩
 obtain ⟨vg,vp,Gg,Gp,rfl,p1,p2⟩:=Hy
 obtain ⟨ag,cg,rfl⟩:=BO p1
 obtain ⟨ap,cp,rfl⟩:=BO p2
 have x2:=AN.block Hq (fun hm=>by obtain rfl:=List.mem_singleton.1 hm;exact E6.not Hq rfl (by obtain ⟨_,_,rfl,_⟩:=E6;simp))
 clear hs
 have hs:=(St.nil w2).AE x2
 repeat' (first|refine Sb ?_|(refine AU hs (k:=?_);intro w hs)|fail)
 refine AF ?_
 have AS:AA [Em] w2 _:=hs.AB [Em] (by simp) (by simp [D0])
 exact ⟨_,rfl,LH p1 p2 AS (fun b hm=>by obtain rfl:=List.mem_singleton.1 hm;exact ⟨_,_,_,x2,by decide,by decide⟩),⟨F',hC'.Ae AS (fun k hk hm=>by obtain rfl:=List.mem_singleton.1 hm;exact hC'.not x2 rfl hk),fun k hk=>by
  rcases CV k hk with h | h
  ·exact .inl h
  ·exact .inr om⟩,((ho.weaken (by simp)).step AN (fun k hk => .inl hk)).step AS (fun k hk => .inr (by obtain rfl:=List.mem_singleton.1 hk;exact hb))⟩
theorem bS (b2 b3:Nat) (c:Cs) (id ns:Int) (wb w0:World) (hid:In64 id) (D3:BV ns) (B2:w0.heap[b2]?=some (.cells #[.int .i64 id] 3 (0,0))) (B3:w0.heap[b3]?=some (.cells #[.int .u64 ns] 22 (0,0))) :
 Od wb w0 116 [.pointer (some ⟨b2,0,none⟩),.pointer (some ⟨b3,0,none⟩)] [] (fun _=>True) c (Bn c id ns).1 (Bn c id ns).2 .none:=by
 intro cb rb F hC hR Yd hrb
 have Es:=hC
 have MZ:=hR
 obtain ⟨sb,Fs,rfl,h1,hS,h3,h4⟩:=hC
 obtain ⟨x,bs,ex,eb,My,hcs⟩:=Rt c.A.l id
 generalize hJ:Bn c id ns=J
 have hs:=(((St.nil w0).AE h1).AE B2).AE B3
 refine AQ Tryz.func116 Tryz.ntmps116 (k:=?_)
 refine Ja ?_
 refine dr [] hs (k:=?_);intro hX w hs
 refine tks 0 5 ?_
 refine GY 9 7 hs (k:=?_);intro f X w hp;have hs:=hp.st
 apply BG 5 9 (f:=f) (X:=X) hX hp;exact rfl;exact rfl;(apply AR AI;exact rfl);kernel_rfl;kernel_rfl;kernel_rfl;kernel_rfl;(intro X Y;(repeat (first | exact A4 | refine A3 ?_ (by exact rfl))));(intro w' hs;first|exact AH hs.hold|exact AH hs.hold.tail|exact A8 rfl);intro f X w hp;have hs:=hp.st
 have ho:=hs.AB [] (by simp [h1,B2,B3]) (by simp [D0])
 refine cl (h:=by exact J0 sb c.A Fs id _ (hS.only ho) hid) (k:=?_)
 rw [ex,eb]
 rintro v w' ⟨rfl,ho⟩;replace hp:=hp.only ho;replace hs:=hp.st;refine Jb ?_
 refine dn (k:=?_)
 refine tk 6 hX (hc:=by cases f <;> kernel_rfl) (k:=?_)
 refine tk 7 hX (hc:=by cases f <;> kernel_rfl) (k:=?_)
 refine tk 8 hX (hc:=by cases f <;> kernel_rfl) (k:=?_)
 apply B9 9 (f:=f) (X:=X) hX hp;exact rfl;(apply AR AI;exact rfl);kernel_rfl;kernel_rfl;(intro X Y;(repeat (first | exact A4 | refine A3 ?_ (by exact rfl))));(intro w' hs;first|exact AH hs.hold|exact AH hs.hold.tail|exact A8 rfl);intro b w hI hs
 refine dt 10 hX (k:=?_)
 repeat' (first|refine Nx.h ?_|(refine AU hs (k:=?_);intro w hs)|fail)
 refine dn (k:=?_)
 refine tk 11 hX (k:=?_)
 refine en (k:=?_)
 refine Ja ?_
 refine cl (h:=by exact Rf ns _) (k:=?_)
 cases c3:EP ns
 ·rintro v w' ⟨rfl,ho⟩;replace hs:=hs.AL ho;refine Je ?_
  refine AF ?_
  exact HD (n:=2) (by rw [← hJ];unfold Bn;rw [if_pos c3]) (by decide) trivial (hs.AB [] (by simp [h1,B2,B3]) (by simp [D0]))
 rcases hcs with ⟨hb,e⟩ | ⟨a,hb,e,hx⟩
 ·subst hb
  rintro v w' ⟨rfl,ho⟩;replace hs:=hs.AL ho;repeat' (first|refine vs (k:=?_)|refine Aq ?_|refine Nx.h ?_|refine Et ?_|refine EJ ?_|fail)
  refine AF ?_
  exact HD (n:=14) (by rw [← hJ];unfold Bn;rw [if_neg (by rw [c3];decide),e]) (by decide) trivial (hs.AB [] (by simp [h1,B2,B3]) (by simp [D0]))
 ·subst hb
  have eJ:J=(Dq c.A (C4 ((D9 x ns).getD .zero)),⟨GR c.A (C4 ((D9 x ns).getD .zero)),c.run,c.carr⟩):=by rw [← hJ];unfold Bn;rw [if_neg (by rw [c3];decide),e,hx]
  rintro v w' ⟨rfl,ho⟩;replace hs:=hs.AL ho;refine Jd ?_
  refine cl (h:=by exact YN x ns My D3 _) (k:=?_)
  have hy:(C4 ((D9 x ns).getD .zero)).1=(D9 x ns).getD .zero:=by
   refine Jr ?_
   cases q:D9 x ns with
   | none=>decide
   | some y=>exact kK My D3 q
  have er:fM (D9 x ns) = .tuple #[rv (C4 ((D9 x ns).getD .zero)).1,.bool (D9 x ns).isSome]:=by rw [hy];rfl
  rw [er]
  generalize C4 ((D9 x ns).getD .zero)=r at *
  generalize (D9 x ns).isSome=z at *
  rintro v w' ⟨rfl,ho⟩;replace hs:=hs.AL ho;repeat' (first|refine Sb ?_|(refine AU hs (k:=?_);intro w hs)|(refine al hs (k:=?_);intro b w hz hs)|fail)
  have ho:=hs.AB [] (by simp [h1,B2,B3]) (by simp [D0])
  have x1:=ho.block h1 (by simp)
  have x3:=hs.get (b:=b) (by repeat (first | exact At.head | (with_reducible apply At.tail)))
  clear hs
  have hs:=((St.nil _).AE x1).AE x3
  refine dr [] hs (k:=?_);intro hX w hs
  refine tks 0 5 ?_
  refine dt 5 hX (k:=?_)
  have ho':=hs.AB [] (by simp [x1,x3]) (by simp [D0])
  have AJ:=ho.trans ho'
  have GX:=hS.only AJ
  refine cl (h:=by exact Qh sb c.A Fs r _ GX) (k:=?_)
  rintro v w2 ⟨rfl,F2,EH,DW,AN⟩
  have n1:cb∉Fs:=Bb.N6 h1 hS
  have n3:b∉Fs:=GX.not (ho'.block x3 (by simp)) rfl
  have y1:=AN.block (AJ.block h1 (by simp)) n1
  have y3:=AN.block (ho'.block x3 (by simp)) n3
  have Nu:=AJ.size
  have JT:DK w2 rb .none [rb]:=(hR.only AJ).Ae AN (fun k hk hm=>by
   obtain rfl:=List.mem_singleton.1 hk
   exact MZ.apart Es k (by simp) (by simp [hm]))
  clear hs
  have hs:=((St.nil w2).AE y1).AE y3
  refine Jb ?_
  refine dn (k:=?_)
  refine tk 6 hX (k:=?_)
  refine en (k:=?_)
  refine Jb ?_
  refine AF ?_
  have AS:=hs.AB [] (by simp [y1,y3]) (by simp [D0])
  subst eJ
  refine ⟨rfl,trivial,fun _=>⟨cb :: F2,[rb],⟨sb,F2,rfl,AS.block y1 (by simp),EH.only AS,h3,h4⟩,JT.only AS,fun k hk=>?_,fun k hk => .inl (by simpa using hk)⟩,((AJ.weaken (by simp)).step AN (fun k hk => .inl (by simp [hk]))).step AS (by simp)⟩
  rcases List.mem_cons.1 hk with rfl | hk
  ·simp
  ·rcases DW k hk with h | h
   ·simp [h]
   ·exact .inr om
theorem U5 (cb:Nat) (c:Cs) (F:List Nat) (id ns:Int) (w0:World) (h:Bb w0 cb c F) (hid:In64 id) (D3:BV ns) :
 AM Tryz.prog 77 #[.pointer (some ⟨cb,0,none⟩),.int .i64 id,.int .u64 ns] w0 fun v w'=>∃ rv,v = .tuple #[rv,.int .i64 (Bn c id ns).1]∧HF w0 cb F rv (Bn c id ns).1 c (Bn c id ns).2 .none w':=by
 have hs:=St.nil w0
 refine AQ Tryz.func77 Tryz.ntmps77 (k:=?_)
 refine Ag ?_
 refine Aq ?_
 refine bx hs (k:=?_);intro b6 w _ hs
 refine bx hs (k:=?_);intro b7 w _ hs
 refine al hs (k:=?_);intro Em w hz hs
 refine Ja ?_
 have ho:=hs.AD rfl
 have hz:=ho.size
 have x6:=hs.get (b:=b6) (by repeat (first | exact At.head | (with_reducible apply At.tail)))
 have x7:=hs.get (b:=b7) (by repeat (first | exact At.head | (with_reducible apply At.tail)))
 have Hq:=hs.get (b:=Em) (by repeat (first | exact At.head | (with_reducible apply At.tail)))
 have E6:=h.only ho
 have hb:=hs.new _ List.mem_cons_self rfl
 simp only at hb
 refine cl (h:=by exact J5 cb c F _ E6 116 [.pointer (some ⟨b6,0,none⟩),.pointer (some ⟨b7,0,none⟩)] [] (fun _=>True) (Bn c id ns).1 (Bn c id ns).2 .none (fun _ _ _ _ _ _=>trivial) (by simp) (by simp [Rp.none]) (fun w1 AJ=>bS b6 b7 c id ns _ w1 hid D3 (AJ.block x6 (by simp)) (AJ.block x7 (by simp)))) (k:=?_)
 rintro v w2 ⟨rv,rfl,_,Hy,⟨F',hC',CV⟩,AN⟩
 obtain ⟨vg,vp,Gg,Gp,rfl,p1,p2⟩:=Hy
 obtain ⟨ag,cg,rfl⟩:=BO p1
 obtain ⟨ap,cp,rfl⟩:=BO p2
 have x2:=AN.block Hq (fun hm=>by obtain rfl:=List.mem_singleton.1 hm;exact E6.not Hq rfl (by obtain ⟨_,_,rfl,_⟩:=E6;simp))
 clear hs
 have hs:=(St.nil w2).AE x2
 repeat' (first|refine Sb ?_|(refine AU hs (k:=?_);intro w hs)|fail)
 refine AF ?_
 have AS:AA [Em] w2 _:=hs.AB [Em] (by simp) (by simp [D0])
 exact ⟨_,rfl,LH p1 p2 AS (fun b hm=>by obtain rfl:=List.mem_singleton.1 hm;exact ⟨_,_,_,x2,by decide,by decide⟩),⟨F',hC'.Ae AS (fun k hk hm=>by obtain rfl:=List.mem_singleton.1 hm;exact hC'.not x2 rfl hk),fun k hk=>by
  rcases CV k hk with h | h
  ·exact .inl h
  ·exact .inr om⟩,((ho.weaken (by simp)).step AN (fun k hk => .inl hk)).step AS (fun k hk => .inr (by obtain rfl:=List.mem_singleton.1 hk;exact hb))⟩
theorem Zu (b2 b3:Nat) (c:Cs) (id q:Int) (wb w0:World) (hid:In64 id) (hq:FW q) (B2:w0.heap[b2]?=some (.cells #[.int .i64 id] 3 (0,0))) (B3:w0.heap[b3]?=some (.cells #[.int .u32 q] 49 (0,0))) :
 Od wb w0 110 [.pointer (some ⟨b2,0,none⟩),.pointer (some ⟨b3,0,none⟩)] [] (fun _=>True) c (Bo c id q).1 (Bo c id q).2 .none:=by
 intro cb rb F hC hR Yd hrb
 have Es:=hC
 have MZ:=hR
 obtain ⟨sb,Fs,rfl,h1,hS,h3,h4⟩:=hC
 obtain ⟨qb,mb,m,tb,QF,cq,g1,g2,yU,gQ,gpl,gm,_,_⟩:=hS.GS
 obtain ⟨x,bs,ex,eb,My,hcs⟩:=Rt c.A.l id
 generalize hJ:Bo c id q=J
 have hs:=(((((St.nil w0).AE h1).AE g1).AE g2).AE B2).AE B3
 refine AQ Tryz.func110 Tryz.ntmps110 (k:=?_)
 refine Ja ?_
 refine dr [] hs (k:=?_);intro hX w hs
 refine tks 0 5 ?_
 refine GY 9 7 hs (k:=?_);intro f X w hp;have hs:=hp.st
 apply BG 5 9 (f:=f) (X:=X) hX hp;exact rfl;exact rfl;(apply AR AI;exact rfl);kernel_rfl;kernel_rfl;kernel_rfl;kernel_rfl;(intro X Y;(repeat (first | exact A4 | refine A3 ?_ (by exact rfl))));(intro w' hs;first|exact AH hs.hold|exact AH hs.hold.tail|exact A8 rfl);intro f X w hp;have hs:=hp.st
 have ho:=hs.AB [] (by simp [h1,g1,g2,B2,B3]) (by simp [D0])
 refine cl (h:=by exact J0 sb c.A Fs id _ (hS.only ho) hid) (k:=?_)
 rw [ex,eb]
 rintro v w' ⟨rfl,ho⟩;replace hp:=hp.only ho;replace hs:=hp.st;refine Jb ?_
 refine dn (k:=?_)
 refine tk 6 hX (hc:=by cases f <;> kernel_rfl) (k:=?_)
 refine tk 7 hX (hc:=by cases f <;> kernel_rfl) (k:=?_)
 refine tk 8 hX (hc:=by cases f <;> kernel_rfl) (k:=?_)
 apply B9 9 (f:=f) (X:=X) hX hp;exact rfl;(apply AR AI;exact rfl);kernel_rfl;kernel_rfl;(intro X Y;(repeat (first | exact A4 | refine A3 ?_ (by exact rfl))));(intro w' hs;first|exact AH hs.hold|exact AH hs.hold.tail|exact A8 rfl);intro b w hI hs
 refine dt 10 hX (k:=?_)
 repeat' (first|refine Nx.h ?_|(refine AU hs (k:=?_);intro w hs)|fail)
 refine dn (k:=?_)
 refine tk 11 hX (k:=?_)
 refine en (k:=?_)
 refine Ja ?_
 refine cl (h:=by exact Pb q _) (k:=?_)
 cases c2:Ee q
 ·rintro v w' ⟨rfl,ho⟩;replace hs:=hs.AL ho;refine Je ?_
  refine AF ?_
  exact HD (n:=2) (by rw [← hJ];unfold Bo;rw [if_pos c2]) (by decide) trivial (hs.AB [] (by simp [h1,g1,g2,B2,B3]) (by simp [D0]))
 rcases hcs with ⟨hb,e⟩ | ⟨a,hb,e,hx⟩
 ·subst hb
  rintro v w' ⟨rfl,ho⟩;replace hs:=hs.AL ho;repeat' (first|refine vs (k:=?_)|refine Aq ?_|refine Nx.h ?_|refine Et ?_|refine EJ ?_|fail)
  refine AF ?_
  exact HD (n:=14) (by rw [← hJ];unfold Bo;rw [if_neg (by rw [c2];decide),e]) (by decide) trivial (hs.AB [] (by simp [h1,g1,g2,B2,B3]) (by simp [D0]))
 subst hb
 have eJ:J=M0 c id ((GJ m x.i.p q).bind fun p=>Ir x p):=by
  rw [← hJ];unfold Bo;rw [if_neg (by rw [c2];decide),e,hx,gm (List.ne_nil_of_mem (Bz e).1)];rfl
 rintro v w' ⟨rfl,ho⟩;replace hs:=hs.AL ho;refine Jd ?_
 refine dr [] hs (k:=?_);intro hX w hs
 refine tks 0 14 ?_
 refine GY 18 9 hs (k:=?_);intro f X w hp;have hs:=hp.st
 apply BG 14 18 (f:=f) (X:=X) hX hp;exact rfl;exact rfl;(apply AR AI;exact rfl);kernel_rfl;kernel_rfl;kernel_rfl;kernel_rfl;(intro X Y;(repeat (first | exact A4 | refine A3 ?_ (by exact rfl))));(intro w' hs;first|exact AH hs.hold|exact AH hs.hold.tail|exact A8 rfl);intro f X w hp;have hs:=hp.st
 refine cl (h:=by exact UN m x.i.p q yU My.1.1 hq _) (k:=?_)
 have lX:∀ p,GJ m x.i.p q=some p→p.In:=fun p h=>yH h
 generalize GJ m x.i.p q=op at *
 cases op with
 | none =>
   rintro v w' ⟨rfl,ho⟩;replace hp:=hp.only ho;replace hs:=hp.st;refine Jb ?_
   refine dn (k:=?_)
   refine tk 15 hX (hc:=by cases f <;> kernel_rfl) (k:=?_)
   refine tk 16 hX (hc:=by cases f <;> kernel_rfl) (k:=?_)
   refine tk 17 hX (hc:=by cases f <;> kernel_rfl) (k:=?_)
   apply B9 18 (f:=f) (X:=X) hX hp;exact rfl;(apply AR AI;exact rfl);kernel_rfl;kernel_rfl;(intro X Y;(repeat (first | exact A4 | refine A3 ?_ (by exact rfl))));(intro w' hs;first|exact AH hs.hold|exact AH hs.hold.tail|exact A8 rfl);intro b w hI hs
   refine dt 19 hX (k:=?_)
   repeat' (first|refine Nx.h ?_|(refine AU hs (k:=?_);intro w hs)|fail)
   refine dn (k:=?_)
   refine tk 20 hX (k:=?_)
   refine en (k:=?_)
   refine Ja ?_
   refine cl (h:=by exact Ru x .zero My (by decide) _) (k:=?_)
   generalize Ir x .zero=o
   cases o
   ·rintro v w' ⟨rfl,ho⟩;replace hs:=hs.AL ho;repeat' (first|refine Se ?_|(refine AU hs (k:=?_);intro w hs)|(refine al hs (k:=?_);intro b w hz hs)|fail)
    refine AF ?_
    exact HD (n:=8) eJ (by decide) trivial (hs.AB [] (by simp [h1,g1,g2,B2,B3]) (by simp [D0]))
   ·rintro v w' ⟨rfl,ho⟩;replace hs:=hs.AL ho;repeat' (first|refine Se ?_|(refine AU hs (k:=?_);intro w hs)|(refine al hs (k:=?_);intro b w hz hs)|fail)
    refine AF ?_
    exact HD (n:=8) eJ (by decide) trivial (hs.AB [] (by simp [h1,g1,g2,B2,B3]) (by simp [D0]))
 | some p =>
   have Mw:=lX p rfl
   rintro v w' ⟨rfl,ho⟩;replace hp:=hp.only ho;replace hs:=hp.st;refine Jb ?_
   refine dn (k:=?_)
   refine tk 15 hX (hc:=by cases f <;> kernel_rfl) (k:=?_)
   refine tk 16 hX (hc:=by cases f <;> kernel_rfl) (k:=?_)
   refine tk 17 hX (hc:=by cases f <;> kernel_rfl) (k:=?_)
   apply B9 18 (f:=f) (X:=X) hX hp;exact rfl;(apply AR AI;exact rfl);kernel_rfl;kernel_rfl;(intro X Y;(repeat (first | exact A4 | refine A3 ?_ (by exact rfl))));(intro w' hs;first|exact AH hs.hold|exact AH hs.hold.tail|exact A8 rfl);intro b w hI hs
   refine dt 19 hX (k:=?_)
   repeat' (first|refine Nx.h ?_|(refine AU hs (k:=?_);intro w hs)|fail)
   refine dn (k:=?_)
   refine tk 20 hX (k:=?_)
   refine en (k:=?_)
   refine Ja ?_
   refine cl (h:=by exact Ru x p My Mw _) (k:=?_)
   have eJ:J=M0 c id (Ir x p):=eJ
   cases hr:Ir x p with
   | none =>
     rw [hr] at eJ
     rintro v w' ⟨rfl,ho⟩;replace hs:=hs.AL ho;repeat' (first|refine Sc ?_|(refine AU hs (k:=?_);intro w hs)|(refine al hs (k:=?_);intro b w hz hs)|fail)
     refine AF ?_
     exact HD (n:=8) eJ (by decide) trivial (hs.AB [] (by simp [h1,g1,g2,B2,B3]) (by simp [D0]))
   | some y =>
     have wO:=rU My Mw hr
     rw [hr] at eJ
     have eJ:J=(Dq c.A (C4 y),⟨GR c.A (C4 y),c.run,ET c.carr (CX c.A id)⟩):=eJ
     rw [show C4 y=⟨y,wO⟩ from dif_pos wO] at eJ
     rintro v w' ⟨rfl,ho⟩;replace hs:=hs.AL ho;repeat' (first|refine Sd ?_|(refine AU hs (k:=?_);intro w hs)|(refine al hs (k:=?_);intro b w hz hs)|fail)
     have ho:=hs.AB [] (by simp [h1,g1,g2,B2,B3]) (by simp [D0])
     obtain ⟨s0,OH⟩:=hS.rep
     refine AW hs (h:=by exact Lw cb c _ id _ (Es.only ho) hid) (k:=?_);intro w' ho hs;skip
     have Al:=hs.AB [] (by simp [h1,g1,g2,B2,B3]) (by simp [D0])
     have xb:=hs.get (b:=b) (by repeat (first | exact At.head | (with_reducible apply At.tail)))
     have hb:=hs.new _ List.mem_cons_self rfl
     simp only at hb
     have SG:=hS.only Al
     have x1:=Al.block h1 (by simp)
     refine cl (h:=by exact Lp cb sb c.run c.carr _ _ x1 h3 (Mg OH id)) (k:=?_)
     rintro v w5 ⟨jN,BJ⟩
     have n5:cb∉Fs:=Bb.N6 h1 hS
     have nb:b≠cb:=by have:=lt_of_block h1;omega
     have pQ:=BJ.block xb (by simp [nb])
     have oQ:=SG.Ae BJ (fun k hk hm=>by obtain rfl:=List.mem_singleton.1 hm;exact n5 hk)
     have oF:DK w5 rb .none [rb]:=(hR.only Al).Ae BJ (fun k hk hm=>by
      obtain rfl:=List.mem_singleton.1 hk
      obtain rfl:=List.mem_singleton.1 hm
      exact MZ.apart Es k (by simp) (by simp))
     have Bd:AA (rb :: (cb :: Fs) ++ []) w0 w5:=(Al.weaken (by simp)).step BJ (fun k hk => .inl (by obtain rfl:=List.mem_singleton.1 hk;simp))
     have pP:=Bd.size
     clear hs
     have hs:=((St.nil w5).AE jN).AE pQ
     refine Jb ?_
     refine dr [] hs (k:=?_);intro hX w hs
     refine tks 0 5 ?_
     refine dt 5 hX (k:=?_)
     have AJ:=hs.AB [] (by simp [jN,pQ]) (by simp [D0])
     refine cl (h:=by exact Qh sb c.A Fs ⟨y,wO⟩ _ (oQ.only AJ)) (k:=?_)
     rintro v w2 ⟨rfl,F2,EH,DW,AN⟩
     have Nu:=AJ.size
     have y1:=AN.block (AJ.block jN (by simp)) n5
     have nbF:b∉Fs:=oQ.not pQ rfl
     have yb:=AN.block (AJ.block pQ (by simp)) nbF
     have JT:DK w2 rb .none [rb]:=(oF.only AJ).Ae AN (fun k hk hm=>by
      obtain rfl:=List.mem_singleton.1 hk
      exact MZ.apart Es k (by simp) (by simp [hm]))
     clear hs
     have hs:=((St.nil w2).AE y1).AE yb
     refine Jb ?_
     refine dn (k:=?_)
     refine tk 6 hX (k:=?_)
     refine en (k:=?_)
     refine Jb ?_
     refine AF ?_
     have AS:=hs.AB [] (by simp [y1,yb]) (by simp [D0])
     subst eJ
     refine ⟨rfl,trivial,fun _=>⟨cb :: F2,[rb],⟨sb,F2,rfl,AS.block y1 (by simp),EH.only AS,MC _ _,h4⟩,JT.only AS,fun k hk=>?_,fun k hk => .inl (by simpa using hk)⟩,((Bd.step AJ (by simp)).step AN (fun k hk => .inl (by simp [hk]))).step AS (by simp)⟩
     rcases List.mem_cons.1 hk with rfl | hk
     ·simp
     ·rcases DW k hk with h | h
      ·simp [h]
      ·exact .inr om
theorem SP (cb:Nat) (c:Cs) (F:List Nat) (id q:Int) (w0:World) (h:Bb w0 cb c F) (hid:In64 id) (hq:FW q) :
 AM Tryz.prog 75 #[.pointer (some ⟨cb,0,none⟩),.int .i64 id,.int .u32 q] w0 fun v w'=>∃ rv,v = .tuple #[rv,.int .i64 (Bo c id q).1]∧HF w0 cb F rv (Bo c id q).1 c (Bo c id q).2 .none w':=by
 have hs:=St.nil w0
 refine AQ Tryz.func75 Tryz.ntmps75 (k:=?_)
 refine Ag ?_
 refine Aq ?_
 refine bx hs (k:=?_);intro b6 w _ hs
 refine bx hs (k:=?_);intro b7 w _ hs
 refine al hs (k:=?_);intro Em w hz hs
 refine Ja ?_
 have ho:=hs.AD rfl
 have hz:=ho.size
 have x6:=hs.get (b:=b6) (by repeat (first | exact At.head | (with_reducible apply At.tail)))
 have x7:=hs.get (b:=b7) (by repeat (first | exact At.head | (with_reducible apply At.tail)))
 have Hq:=hs.get (b:=Em) (by repeat (first | exact At.head | (with_reducible apply At.tail)))
 have E6:=h.only ho
 have hb:=hs.new _ List.mem_cons_self rfl
 simp only at hb
 refine cl (h:=by exact J5 cb c F _ E6 110 [.pointer (some ⟨b6,0,none⟩),.pointer (some ⟨b7,0,none⟩)] [] (fun _=>True) (Bo c id q).1 (Bo c id q).2 .none (fun _ _ _ _ _ _=>trivial) (by simp) (by simp [Rp.none]) (fun w1 AJ=>Zu b6 b7 c id q _ w1 hid hq (AJ.block x6 (by simp)) (AJ.block x7 (by simp)))) (k:=?_)
 rintro v w2 ⟨rv,rfl,_,Hy,⟨F',hC',CV⟩,AN⟩
 obtain ⟨vg,vp,Gg,Gp,rfl,p1,p2⟩:=Hy
 obtain ⟨ag,cg,rfl⟩:=BO p1
 obtain ⟨ap,cp,rfl⟩:=BO p2
 have x2:=AN.block Hq (fun hm=>by obtain rfl:=List.mem_singleton.1 hm;exact E6.not Hq rfl (by obtain ⟨_,_,rfl,_⟩:=E6;simp))
 clear hs
 have hs:=(St.nil w2).AE x2
 repeat' (first|refine Sb ?_|(refine AU hs (k:=?_);intro w hs)|fail)
 refine AF ?_
 have AS:AA [Em] w2 _:=hs.AB [Em] (by simp) (by simp [D0])
 exact ⟨_,rfl,LH p1 p2 AS (fun b hm=>by obtain rfl:=List.mem_singleton.1 hm;exact ⟨_,_,_,x2,by decide,by decide⟩),⟨F',hC'.Ae AS (fun k hk hm=>by obtain rfl:=List.mem_singleton.1 hm;exact hC'.not x2 rfl hk),fun k hk=>by
  rcases CV k hk with h | h
  ·exact .inl h
  ·exact .inr om⟩,((ho.weaken (by simp)).step AN (fun k hk => .inl hk)).step AS (fun k hk => .inr (by obtain rfl:=List.mem_singleton.1 hk;exact hb))⟩
abbrev Gf (x:Int):Obj := .cells #[.int .i64 (x / 18446744073709551616),.int .u64 (x % 18446744073709551616)] 70 (0,0)
theorem dQ {A:As} {id:Int} (e:Ah A.l id=none):CX A id=0:=by unfold CX;rw [e]
theorem SX (cb:Nat) (c:Cs) (F:List Nat) (id:Int) (w0:World) (h:Bb w0 cb c F) (hid:In64 id) :
 AM Tryz.prog 106 #[.pointer (some ⟨cb,0,none⟩),.int .i64 id] w0 fun v w'=>v = .tuple #[wv (CX c.A id),.int .i64 (Ax c id).1]∧∃ F',Bb w' cb (Ax c id).2 F'∧(∀ k∈F',k∈F∨w0.heap.size≤k)∧AA F w0 w':=by
 have hC:=h
 obtain ⟨sb,Fs,rfl,h1,hS,h3,h4⟩:=h
 have hs:=(St.nil w0).AE h1
 refine AQ Tryz.func106 Tryz.ntmps106 (k:=?_)
 refine Ag ?_
 refine Aq ?_
 refine al hs (k:=?_);intro b4 w1 JO hs
 have g4:=hs.new (b4,true) (by simp) rfl
 simp only at g4
 refine Ja ?_
 have ho:=hs.AB [] (by simp [h1]) (by simp [D0])
 refine cl (h:=by exact Lw cb c _ id _ (hC.only ho) hid) (k:=?_)
 generalize Hl:CX c.A id=lag
 rintro v w' ⟨rfl,ho⟩;replace hs:=hs.AL ho;repeat' (first|refine Sa ?_|(refine AU hs (k:=?_);intro w hs)|(refine al hs (k:=?_);intro b w hz hs)|fail)
 have AS:=hs.AB [] (by simp [h1]) (by simp [D0])
 have gb:=hs.new _ List.mem_cons_self rfl
 simp only at gb
 have x1:=hs.get (b:=cb) (o:=Ep sb c.run c.carr) (by repeat (first | exact At.head | (with_reducible apply At.tail)))
 have x4:=hs.get (b:=b4) (by repeat (first | exact At.head | (with_reducible apply At.tail)))
 have xb:=hs.get (b:=b) (by repeat (first | exact At.head | (with_reducible apply At.tail)))
 have nb:b≠b4:=by
  have nd:=hs.nd
  simp only [List.map_cons,List.map_nil,List.nodup_cons,List.mem_cons,List.not_mem_nil,or_false,not_or] at nd
  exact nd.1.1
 have GX:=hS.only AS
 obtain ⟨s0,OH⟩:=hS.rep
 have hin:A9 lag:=by rw [← Hl];exact Mg OH id
 have n1:cb∉Fs:=Bb.N6 h1 hS
 have n4:b4∉Fs:=GX.not x4 rfl
 have nB:b∉Fs:=GX.not xb rfl
 have Nc:=AS.size
 refine cl (h:=by exact fC sb c.A Fs id _ GX hid) (k:=?_)
 rintro v w4 ⟨rfl,F2,EH,DW,Al⟩
 have y1:=Al.block x1 n1
 have y4:=Al.block x4 n4
 have yb:=Al.block xb nB
 have Ay:AA (cb :: Fs) w0 w4:=(AS.weaken (by simp)).step Al (fun k hk => .inl (by simp [hk]))
 have KZ:∀ k∈F2,k∈Fs∨w0.heap.size≤k:=fun k hk=>by
  rcases DW k hk with h | h
  ·exact .inl h
  ·exact .inr om
 have lcb:=lt_of_block h1
 clear hs
 have hs:=(((St.nil w4).AE y1).AE y4).AG yb (by simp [nb];omega)
 cases e:Ah c.A.l id with
 | none =>
   have eA:Fk c.A id=c.A:=by unfold Fk;rw [e];rfl
   have eL:Ax c id=(14,c):=by unfold Ax;rw [e];rfl
   rw [eA] at EH
   rw [eL]
   have l0:lag=0:=by rw [← Hl];exact dQ e
   repeat' (first|refine Sc ?_|(refine AU hs (k:=?_);intro w hs)|(refine al hs (k:=?_);intro b w hz hs)|fail)
   refine AF ?_
   have BJ:=hs.AB [b4] (by simp [y1,yb]) (by simp [D0])
   subst l0
   refine ⟨rfl,cb :: F2,⟨sb,F2,rfl,BJ.block y1 (by simp;omega),EH.Ae BJ (fun k hk hm=>by obtain rfl:=List.mem_singleton.1 hm;exact EH.not y4 rfl hk),h3,h4⟩,fun k hk=>?_,Ay.step BJ (fun k hk => .inr (by obtain rfl:=List.mem_singleton.1 hk;exact g4))⟩
   rcases List.mem_cons.1 hk with rfl | hk
   ·simp
   ·rcases KZ k hk with h | h
    ·simp [h]
    ·exact .inr h
 | some a =>
   have eL:Ax c id=(0,⟨Fk c.A id,c.run,ET c.carr lag⟩):=by unfold Ax;rw [e,Hl];rfl
   rw [eL]
   repeat' (first|refine Sd ?_|(refine AU hs (k:=?_);intro w hs)|(refine al hs (k:=?_);intro b w hz hs)|fail)
   have BJ:=hs.AB [] (by simp [y1,y4,yb]) (by simp [D0])
   refine cl (h:=by exact Lp cb sb c.run c.carr lag _ (BJ.block y1 (by simp)) h3 hin) (k:=?_)
   rintro v w6 ⟨yL,Ak⟩
   have z4:=Ak.block (BJ.block y4 (by simp)) (by simp;omega)
   have zb:=Ak.block (BJ.block yb (by simp)) (by simp;omega)
   have n6:cb∉F2:=Bb.N6 y1 EH
   have Te:=(EH.only BJ).Ae Ak (fun k hk hm=>by obtain rfl:=List.mem_singleton.1 hm;exact n6 hk)
   have Bd:AA (cb :: Fs) w0 w6:=(Ay.step BJ (by simp)).step Ak (fun k hk => .inl (by obtain rfl:=List.mem_singleton.1 hk;simp))
   clear hs
   have hs:=(((St.nil w6).AE yL).AE z4).AG zb (by simp [nb];omega)
   repeat' (first|refine Sa ?_|(refine AU hs (k:=?_);intro w hs)|fail)
   refine AF ?_
   have CQ:=hs.AB [b4] (by simp [yL,zb]) (by simp [D0])
   refine ⟨rfl,cb :: F2,⟨sb,F2,rfl,CQ.block yL (by simp;omega),Te.Ae CQ (fun k hk hm=>by obtain rfl:=List.mem_singleton.1 hm;exact Te.not z4 rfl hk),MC _ _,h4⟩,fun k hk=>?_,Bd.step CQ (fun k hk => .inr (by obtain rfl:=List.mem_singleton.1 hk;exact g4))⟩
   rcases List.mem_cons.1 hk with rfl | hk
   ·simp
   ·rcases KZ k hk with h | h
    ·simp [h]
    ·exact .inr h
theorem DK.ne {w:World} {rb:Nat} {r:Rp} {F:List Nat} (h:DK w rb r F) {b:Nat} {cs:Array Value} {ty:Nat} {fz:Nat × Nat} (hb:w.heap[b]?=some (.cells cs ty fz)) (hne:ty≠131):rb≠b:=by
 obtain ⟨vg,vp,Gg,Gp,_,p1,_⟩:=h
 exact A0 p1 hb (fun e=>hne e.symm)
theorem aB (b2 b3:Nat) (c:Cs) (id:Int) (wb w0:World) (hid:In64 id) (B2:w0.heap[b2]?=some (.cells #[.int .i64 id] 3 (0,0))) (B3:w0.heap[b3]?=some (Gf 0)) :
 Od wb w0 137 [.pointer (some ⟨b2,0,none⟩),.pointer (some ⟨b3,0,none⟩)] [b3] (fun w=>w.heap[b3]?=some (Gf (CX c.A id))) c (Ax c id).1 (Ax c id).2 .none:=by
 intro cb rb F hC hR Yd hrb
 have hs:=((St.nil w0).AE B2).AE B3
 refine AQ Tryz.func137 Tryz.ntmps137 (k:=?_)
 refine Ja ?_
 have ho:=hs.AB [] (by simp [B2,B3]) (by simp [D0])
 refine cl (h:=by exact SX cb c F id _ (hC.only ho) hid) (k:=?_)
 rintro v w2 ⟨rfl,F2,Iy,DW,AN⟩
 have hz:=ho.size
 have y3:=AN.block (ho.block B3 (by simp)) (hC.not B3 rfl)
 have JT:DK w2 rb .none [rb]:=(hR.only ho).Ae AN (fun k hk hm=>hR.apart hC k hk hm)
 have Ay:AA (rb :: F ++ [b3]) w0 w2:=(ho.weaken (by simp)).step AN (fun k hk => .inl (by simp [hk]))
 have XU:rb≠b3:=hR.ne B3 (by decide)
 generalize Ax c id=J at *
 generalize CX c.A id=lag at *
 clear hs
 have hs:=(St.nil w2).AE y3
 repeat' (first|refine Sa ?_|(refine AU hs (k:=?_);intro w hs)|(refine al hs (k:=?_);intro b w hz hs)|fail)
 refine AF ?_
 have AS:=hs.AB [b3] (by simp) (by simp [D0])
 refine ⟨rfl,hs.get (b:=b3) (by repeat (first | exact At.head | (with_reducible apply At.tail))),fun _=>⟨F2,[rb],Iy.Ae AS (fun k hk hm=>by obtain rfl:=List.mem_singleton.1 hm;exact Iy.not y3 rfl hk),JT.Ae AS (fun k hk hm=>by obtain rfl:=List.mem_singleton.1 hk;exact XU (List.mem_singleton.1 hm)),fun k hk=>?_,fun k hk => .inl (by simpa using hk)⟩,Ay.step AS (fun k hk => .inl (by simp [List.mem_singleton.1 hk]))⟩
 rcases DW k hk with h | h
 ·exact .inl h
 ·exact .inr om
theorem JB (cb:Nat) (c:Cs) (F:List Nat) (id:Int) (w0:World) (h:Bb w0 cb c F) (hid:In64 id) :
 AM Tryz.prog 100 #[.pointer (some ⟨cb,0,none⟩),.int .i64 id] w0 fun v w'=>∃ rv,v = .tuple #[wv (CX c.A id),rv,.int .i64 (Ax c id).1]∧HF w0 cb F rv (Ax c id).1 c (Ax c id).2 .none w':=by
 have hs:=St.nil w0
 refine AQ Tryz.func100 Tryz.ntmps100 (k:=?_)
 refine Ag ?_
 refine Aq ?_
 refine bx hs (k:=?_);intro b6 w _ hs
 refine al hs (k:=?_);intro Em w tY hs
 refine al hs (k:=?_);intro I7 w aBV hs
 refine Jc ?_
 refine Aq ?_
 refine al hs (k:=?_);intro b7 w Y7 hs
 refine Ja ?_
 have ho:=hs.AD rfl
 have hz:=ho.size
 have x6:=hs.get (b:=b6) (by repeat (first | exact At.head | (with_reducible apply At.tail)))
 have x7:=hs.get (b:=b7) (by repeat (first | exact At.head | (with_reducible apply At.tail)))
 have Hq:=hs.get (b:=Em) (by repeat (first | exact At.head | (with_reducible apply At.tail)))
 have US:=hs.get (b:=I7) (by repeat (first | exact At.head | (with_reducible apply At.tail)))
 have E6:=h.only ho
 have VA:b7≠Em:=by
  have nd:=hs.nd
  simp only [List.map_cons,List.map_nil,List.nodup_cons,List.mem_cons,List.not_mem_nil,or_false,not_or] at nd
  exact nd.1.2.1
 have g7:=hs.new (b7,true) (by simp) rfl
 have g10:=hs.new (Em,true) (by simp) rfl
 have g11:=hs.new (I7,true) (by simp) rfl
 simp only at g7 g10 g11
 have ncb:∀ {b:Nat} {cs:Array Value} {ty:Nat} {fz:Nat × Nat},w0.heap.size≤b→b≠cb:=fun hb he=>by
  have:=h.lt cb (by obtain ⟨_,_,rfl,_⟩:=h;simp)
  omega
 refine cl (h:=by exact J5 cb c F _ E6 137 [.pointer (some ⟨b6,0,none⟩),.pointer (some ⟨b7,0,none⟩)] [b7] (fun w=>w.heap[b7]?=some (Gf (CX c.A id))) (Ax c id).1 (Ax c id).2 .none (fun _ _ _ hx qR hn=>qR.block hx (hn b7 (by simp))) (fun k hk=>by obtain rfl:=List.mem_singleton.1 hk;exact ⟨E6.not x7 rfl,lt_of_block x7⟩) (by simp [Rp.none]) (fun w1 AJ=>aB b6 b7 c id _ w1 hid (AJ.block x6 (by simp)) (AJ.block x7 (by simp)))) (k:=?_)
 rintro v w2 ⟨rv,rfl,fF,Hy,⟨F',hC',CV⟩,AN⟩
 obtain ⟨vg,vp,Gg,Gp,rfl,p1,p2⟩:=Hy
 obtain ⟨ag,cg,rfl⟩:=BO p1
 obtain ⟨ap,cp,rfl⟩:=BO p2
 have gP:cb∈F:=by obtain ⟨_,_,rfl,_⟩:=h;simp
 have Vg:=AN.block Hq (fun hm=>by
  simp only [List.mem_cons,List.not_mem_nil,or_false] at hm
  rcases hm with rfl | rfl
  ·exact E6.not Hq rfl gP
  ·exact VA rfl)
 have n117:I7≠b7:=A0 US x7 (by decide)
 have WU:=AN.block US (fun hm=>by
  simp only [List.mem_cons,List.not_mem_nil,or_false] at hm
  rcases hm with rfl | rfl
  ·exact E6.not US rfl gP
  ·exact n117 rfl)
 generalize Ax c id=J at *
 generalize CX c.A id=lag at *
 clear hs
 have hs:=(((St.nil w2).AE WU).AE Vg).AG fF (by simp [VA,n117.symm])
 repeat' (first|refine Sb ?_|(refine AU hs (k:=?_);intro w hs)|(refine al hs (k:=?_);intro b w hz hs)|fail)
 have hR:∀ {w'':World} {o o':Obj},St w2 D0 [(b,.cells #[.slice ag (BR J.1 J.2 .none).g.length cg,.slice ap (BR J.1 J.2 .none).p.length cp] 131 (0,0),true),(b7,Gf lag,false),(Em,o,false),(I7,o',false)] w''→True=True→Ew [(b,.cells #[.slice ag (BR J.1 J.2 .none).g.length cg,.slice ap (BR J.1 J.2 .none).p.length cp] 131 (0,0),true),(b7,Gf lag,false)] w'':=fun hs _ e he=>hs.at_ e (by
  simp only [List.mem_cons,List.not_mem_nil,or_false] at he ⊢
  rcases he with he | he
  ·exact .inl he
  ·exact .inr (.inl he))
 refine p8 [4] [(b,.cells #[.slice ag (BR J.1 J.2 .none).g.length cg,.slice ap (BR J.1 J.2 .none).p.length cp] 131 (0,0),true),(b7,Gf lag,false)] hs (k:=?_);intro hX w hs
 refine tks 0 3 ?_
 refine dt 3 hX (k:=?_)
 repeat' (first|refine Nx.h ?_|(refine AU hs (k:=?_);intro w hs)|fail)
 refine dn (k:=?_)
 refine dt 4 hX (k:=?_)
 repeat' (first|refine Nx.h ?_|(refine AU hs (k:=?_);intro w hs)|fail)
 refine dn (k:=?_)
 refine tk 5 hX (k:=?_)
 refine en (k:=?_)
 refine Jb ?_
 refine AF ?_
 have AS:=hs.AB [Em,I7] (by simp [fF]) (by simp [D0])
 exact ⟨_,rfl,LH p1 p2 AS (fun b hm=>by
  simp only [List.mem_cons,List.not_mem_nil,or_false] at hm
  rcases hm with rfl | rfl
  ·exact ⟨_,_,_,Vg,by decide,by decide⟩
  ·exact ⟨_,_,_,WU,by decide,by decide⟩),⟨F',hC'.Ae AS (fun k hk hm=>by
  simp only [List.mem_cons,List.not_mem_nil,or_false] at hm
  rcases hm with rfl | rfl
  ·exact hC'.not Vg rfl hk
  ·exact hC'.not WU rfl hk),fun k hk=>by
  rcases CV k hk with h | h
  ·exact .inl h
  ·exact .inr om⟩,((ho.weaken (by simp)).step AN (fun k hk=>by
   simp only [List.mem_cons,List.not_mem_nil,or_false] at hk
   rcases hk with rfl | rfl
   ·exact .inl (by simp)
   ·exact .inr g7)).step AS (fun k hk=>by
   simp only [List.mem_cons,List.not_mem_nil,or_false] at hk
   rcases hk with rfl | rfl
   ·exact .inr g10
   ·exact .inr g11)⟩
def By (c:Cs) (id:Int):Bool × Int:=match Ah c.A.l id with
 | none=>(false,0)
 | some a=>if a.1.asleep=true then (false,0) else if Dk c.A id < 0 then (false,CX c.A id) else (true,CX c.A id)
abbrev Gk (x:Bool):Obj := .cells #[.bool x] 4 (0,0)
theorem Zm (b2 b3 b4:Nat) (c:Cs) (id:Int) (wb w0:World) (hid:In64 id) (B2:w0.heap[b2]?=some (.cells #[.int .i64 id] 3 (0,0))) (B3:w0.heap[b3]?=some (Gf 0)) (B4:w0.heap[b4]?=some (Gk false)) :
 Od wb w0 101 [.pointer (some ⟨b2,0,none⟩),.pointer (some ⟨b3,0,none⟩),.pointer (some ⟨b4,0,none⟩)] [b3,b4] (fun w=>w.heap[b3]?=some (Gf (By c id).2)∧w.heap[b4]?=some (Gk (By c id).1)) c (Bg c id).1 (Bg c id).2 .none:=by
 intro cb rb F hC hR Yd hrb
 have Es:=hC
 have MZ:=hR
 obtain ⟨sb,Fs,rfl,h1,hS,h3,h4⟩:=hC
 obtain ⟨qb,mb,g1,gQ⟩:=hS.E4
 obtain ⟨x,bs,ex,eb,My,hcs⟩:=Rt c.A.l id
 have n1:cb∉Fs:=Bb.N6 h1 hS
 have n2:b2∉Fs:=hS.not B2 rfl
 have n3:b3∉Fs:=hS.not B3 rfl
 have n4:b4∉Fs:=hS.not B4 rfl
 have c3:b3∉cb :: Fs:=Es.not B3 rfl
 have c4:b4∉cb :: Fs:=Es.not B4 rfl
 have r3:rb≠b3:=hR.ne B3 (by decide)
 have r4:rb≠b4:=hR.ne B4 (by decide)
 have d34:b3≠b4:=A0 B3 B4 (by decide)
 have d23:b2≠b3:=A0 B2 B3 (by decide)
 have hs0:sb∈Fs:=by
  obtain ⟨_,_,_,_,_,_,_,_,_,_,_,_,m1,_⟩:=hS.GS
  exact m1
 have ds3:sb≠b3:=fun e=>n3 (e ▸ hs0)
 have dc3:cb≠b3:=fun e=>c3 (by simp [e])
 generalize hJ:Bg c id=J
 generalize hK:By c id=K
 have hs:=(((((St.nil w0).AE h1).AE g1).AE B2).AE B3).AE B4
 refine AQ Tryz.func101 Tryz.ntmps101 (k:=?_)
 refine Ja ?_
 refine dr [] hs (k:=?_);intro hX w hs
 refine tks 0 5 ?_
 refine GY 9 8 hs (k:=?_);intro f X w hp;have hs:=hp.st
 apply BG 5 9 (f:=f) (X:=X) hX hp;exact rfl;exact rfl;(apply AR AI;exact rfl);kernel_rfl;kernel_rfl;kernel_rfl;kernel_rfl;(intro X Y;(repeat (first | exact A4 | refine A3 ?_ (by exact rfl))));(intro w' hs;first|exact AH hs.hold|exact AH hs.hold.tail|exact A8 rfl);intro f X w hp;have hs:=hp.st
 have ho:=hs.AB [] (by simp [h1,g1,B2,B3,B4]) (by simp [D0])
 refine cl (h:=by exact J0 sb c.A Fs id _ (hS.only ho) hid) (k:=?_)
 rw [ex,eb]
 rintro v w' ⟨rfl,ho⟩;replace hp:=hp.only ho;replace hs:=hp.st;refine Jb ?_
 refine dn (k:=?_)
 refine tk 6 hX (hc:=by cases f <;> kernel_rfl) (k:=?_)
 refine tk 7 hX (hc:=by cases f <;> kernel_rfl) (k:=?_)
 refine tk 8 hX (hc:=by cases f <;> kernel_rfl) (k:=?_)
 apply B9 9 (f:=f) (X:=X) hX hp;exact rfl;(apply AR AI;exact rfl);kernel_rfl;kernel_rfl;(intro X Y;(repeat (first | exact A4 | refine A3 ?_ (by exact rfl))));(intro w' hs;first|exact AH hs.hold|exact AH hs.hold.tail|exact A8 rfl);intro b w hI hs
 refine dt 10 hX (k:=?_)
 repeat' (first|refine Nx.h ?_|(refine AU hs (k:=?_);intro w hs)|fail)
 refine dn (k:=?_)
 refine tk 11 hX (k:=?_)
 refine en (k:=?_)
 rcases hcs with ⟨hb,e⟩ | ⟨a,hb,e,hx⟩
 ·subst hb
  have eK:K=(false,0):=by rw [← hK];unfold By;rw [e]
  refine Je ?_
  refine AF ?_
  exact HD (n:=14) (by rw [← hJ];unfold Bg;rw [e]) (by decide) ⟨by rw [eK];exact hs.get (b:=b3) (by repeat (first | exact At.head | (with_reducible apply At.tail))),by rw [eK];exact hs.get (b:=b4) (by repeat (first | exact At.head | (with_reducible apply At.tail)))⟩ (hs.AB [] (by simp [h1,g1,B2,B3,B4]) (by simp [D0]))
 subst hb
 repeat' (first|refine Sd ?_|refine xc_cond rfl (fun hc=>?_) fun hc=>?_|fail)
 ·refine AF ?_
  have k:x.asleep=true:=by simpa using hc
  have eK:K=(false,0):=by rw [← hK];unfold By;rw [e];show (if a.1.asleep=true then _ else _)=_;rw [← hx,k];rfl
  exact HD (n:=6) (by rw [← hJ];unfold Bg;rw [e];show (if a.1.asleep=true then _ else _)=_;rw [← hx,k];rfl) (by decide) ⟨by rw [eK];exact hs.get (b:=b3) (by repeat (first | exact At.head | (with_reducible apply At.tail))),by rw [eK];exact hs.get (b:=b4) (by repeat (first | exact At.head | (with_reducible apply At.tail)))⟩ (hs.AB [] (by simp [h1,g1,B2,B3,B4]) (by simp [D0]))
 have k:x.asleep=false:=by simpa using hc
 have eJ:J=if Dk c.A id < 0 then (0,(⟨GU c.A id true,c.run,c.carr⟩:Cs)) else Ax c id:=by
  rw [← hJ];unfold Bg;rw [e];show (if a.1.asleep=true then _ else _)=_;rw [← hx,k];rfl
 have eK:K=if Dk c.A id < 0 then (false,CX c.A id) else (true,CX c.A id):=by
  rw [← hK];unfold By;rw [e];show (if a.1.asleep=true then _ else _)=_;rw [← hx,k];rfl
 have ho:=hs.AB [] (by simp [h1,g1,B2,B3,B4]) (by simp [D0])
 refine cl (h:=by exact Lw cb c _ id _ (Es.only ho) hid) (k:=?_)
 generalize CX c.A id=lag at *
 rintro v w' ⟨rfl,ho⟩;replace hs:=hs.AL ho;repeat' (first|refine Nx.h ?_|(refine AU hs (k:=?_);intro w hs)|fail)
 refine dr [] hs (k:=?_);intro hX w hs
 refine tks 0 8 ?_
 refine dt 8 hX (k:=?_)
 have AJ:=hs.AB [b3] (by simp [h1,g1,B2,B4]) (by simp [D0])
 have FC:=hS.Ae AJ (fun k hk hm=>by obtain rfl:=List.mem_singleton.1 hm;exact n3 hk)
 obtain ⟨qb',QF,ZJ,gQ'⟩:=FC.E4
 have eqb:qb'=qb:=by
  have:=AJ.block g1 (by simpa using ds3)
  rw [this] at ZJ
  injection ZJ with ZJ
  unfold Uz at ZJ
  simp at ZJ
  exact ZJ.1.symm
 subst eqb
 refine AW hs (h:=by exact cT qb' c.A id _ gQ' hid) (k:=?_);intro w' ho hs;refine Jb ?_
 refine dn (k:=?_)
 refine tks 9 5 ?_
 refine en (k:=?_)
 repeat' (first|refine Sa ?_|(refine st hs (k:=?_);intro w hs)|refine Av rfl (fun hc=>?_) fun hc=>?_|fail)
 ·have kk:Dk c.A id < 0:=by simpa using hc
  rw [if_pos kk] at eJ eK
  have ho:=hs.AB [b3] (by simp [h1,g1,B2,B4]) (by simp [D0])
  have x1:=hs.get (b:=cb) (by repeat (first | exact At.head | (with_reducible apply At.tail)))
  have x2:=hs.get (b:=b2) (by repeat (first | exact At.head | (with_reducible apply At.tail)))
  have x3:=hs.get (b:=b3) (by repeat (first | exact At.head | (with_reducible apply At.tail)))
  have x4:=hs.get (b:=b4) (by repeat (first | exact At.head | (with_reducible apply At.tail)))
  clear hs
  have hs:=((((St.nil _).AE x1).AE x2).AE x3).AE x4
  refine dr [] hs (k:=?_);intro hX w hs
  refine tks 0 5 ?_
  refine dt 5 hX (k:=?_)
  have ho':=hs.AB [] (by simp [x1,x2,x3,x4]) (by simp [D0])
  have AJ:=ho.step ho' (by simp)
  have GX:=hS.Ae AJ (fun k hk hm=>by obtain rfl:=List.mem_singleton.1 hm;exact n3 hk)
  refine cl (h:=by exact R5 sb c.A Fs id true _ GX hid) (k:=?_)
  rw [eb]
  rintro v w2 ⟨rfl,F2,EH,DW,AN⟩
  have y1:=AN.block (ho'.block x1 (by simp)) n1
  have y2:=AN.block (ho'.block x2 (by simp)) n2
  have y3:=AN.block (ho'.block x3 (by simp)) n3
  have y4:=AN.block (ho'.block x4 (by simp)) n4
  have Nu:=AJ.size
  have JT:DK w2 rb .none [rb]:=(hR.Ae AJ (fun k hk hm=>by obtain rfl:=List.mem_singleton.1 hk;exact r3 (List.mem_singleton.1 hm))).Ae AN (fun k hk hm=>by
   obtain rfl:=List.mem_singleton.1 hk
   exact MZ.apart Es k (by simp) (by simp [hm]))
  clear hs
  have hs:=((((St.nil w2).AE y1).AE y2).AE y3).AE y4
  refine Jb ?_
  refine dn (k:=?_)
  refine tk 6 hX (k:=?_)
  refine en (k:=?_)
  refine Jb ?_
  refine AF ?_
  have AS:=hs.AB [] (by simp [y1,y2,y3,y4]) (by simp [D0])
  subst eJ
  subst eK
  refine ⟨rfl,⟨AS.block y3 (by simp),AS.block y4 (by simp)⟩,fun _=>⟨cb :: F2,[rb],⟨sb,F2,rfl,AS.block y1 (by simp),EH.only AS,h3,h4⟩,JT.only AS,fun k hk=>?_,fun k hk => .inl (by simpa using hk)⟩,((AJ.weaken (G:=rb :: (cb :: Fs) ++ [b3,b4]) (by simp)).step AN (fun k hk => .inl (by simp [hk]))).step AS (by simp)⟩
  rcases List.mem_cons.1 hk with rfl | hk
  ·simp
  ·rcases DW k hk with h | h
   ·simp [h]
   ·exact .inr om
 ·have kk:¬ Dk c.A id < 0:=by simpa using hc
  rw [if_neg kk] at eJ eK
  have ho:=hs.AB [b3,b4] (by simp [h1,g1,B2]) (by simp [D0])
  have x1:=hs.get (b:=cb) (o:=Ep sb c.run c.carr) (by repeat (first | exact At.head | (with_reducible apply At.tail)))
  have x2:=hs.get (b:=b2) (by repeat (first | exact At.head | (with_reducible apply At.tail)))
  have x3:=hs.get (b:=b3) (by repeat (first | exact At.head | (with_reducible apply At.tail)))
  have x4:=hs.get (b:=b4) (by repeat (first | exact At.head | (with_reducible apply At.tail)))
  have GX:=hS.Ae ho (fun k hk hm=>by
   simp only [List.mem_cons,List.not_mem_nil,or_false] at hm
   rcases hm with rfl | rfl
   ·exact n3 hk
   ·exact n4 hk)
  have E6:Bb _ cb c (cb :: Fs):=⟨sb,Fs,rfl,x1,GX,h3,h4⟩
  refine cl (h:=by exact SX cb c _ id _ E6 hid) (k:=?_)
  rintro v w2 ⟨rfl,F2,Iy,DW,AN⟩
  have hz:=ho.size
  have y3:=AN.block x3 c3
  have y4:=AN.block x4 c4
  have JT:DK w2 rb .none [rb]:=(hR.Ae ho (fun k hk hm=>by
   obtain rfl:=List.mem_singleton.1 hk
   simp only [List.mem_cons,List.not_mem_nil,or_false] at hm
   rcases hm with h | h
   ·exact r3 h
   ·exact r4 h)).Ae AN (fun k hk hm=>hR.apart Es k hk hm)
  have Ay:AA (rb :: (cb :: Fs) ++ [b3,b4]) w0 w2:=(ho.weaken (by simp)).step AN (fun k hk => .inl (List.mem_append.2 (.inl (List.mem_cons_of_mem _ hk))))
  clear hs
  have hs:=((St.nil w2).AE y3).AE y4
  repeat' (first|refine Sa ?_|(refine AU hs (k:=?_);intro w hs)|(refine al hs (k:=?_);intro b w hz hs)|fail)
  refine AF ?_
  have AS:=hs.AB [] (by simp [y3,y4]) (by simp [D0])
  subst eJ
  subst eK
  refine ⟨rfl,⟨AS.block y3 (by simp),AS.block y4 (by simp)⟩,fun _=>⟨F2,[rb],Iy.only AS,JT.only AS,fun k hk=>?_,fun k hk => .inl (by simpa using hk)⟩,Ay.step AS (by simp)⟩
  rcases DW k hk with h | h
  ·exact .inl h
  ·exact .inr om
theorem JI (cb:Nat) (c:Cs) (F:List Nat) (id:Int) (w0:World) (h:Bb w0 cb c F) (hid:In64 id) :
 AM Tryz.prog 69 #[.pointer (some ⟨cb,0,none⟩),.int .i64 id] w0 fun v w'=>∃ rv,v = .tuple #[.bool (By c id).1,wv (By c id).2,rv,.int .i64 (Bg c id).1]∧HF w0 cb F rv (Bg c id).1 c (Bg c id).2 .none w':=by
 have hs:=St.nil w0
 refine AQ Tryz.func69 Tryz.ntmps69 (k:=?_)
 refine Ag ?_
 refine Aq ?_
 refine bx hs (k:=?_);intro b6 w _ hs
 refine vs (k:=?_)
 refine al hs (k:=?_);intro Em w tY hs
 refine al hs (k:=?_);intro I7 w aBV hs
 refine Jc ?_
 refine Aq ?_
 refine al hs (k:=?_);intro b7 w Y7 hs
 refine Jb ?_
 refine Aq ?_
 refine al hs (k:=?_);intro b9 w hz9 hs
 repeat' (first|refine Sa ?_|(refine st hs (k:=?_);intro w hs)|fail)
 have ho:=hs.AD rfl
 have hz:=ho.size
 have x6:=hs.get (b:=b6) (by repeat (first | exact At.head | (with_reducible apply At.tail)))
 have x7:=hs.get (b:=b7) (by repeat (first | exact At.head | (with_reducible apply At.tail)))
 have x9:=hs.get (b:=b9) (by repeat (first | exact At.head | (with_reducible apply At.tail)))
 have Hq:=hs.get (b:=Em) (by repeat (first | exact At.head | (with_reducible apply At.tail)))
 have US:=hs.get (b:=I7) (by repeat (first | exact At.head | (with_reducible apply At.tail)))
 have E6:=h.only ho
 have VA:b7≠Em:=by
  have nd:=hs.nd
  simp only [List.map_cons,List.map_nil,List.nodup_cons,List.mem_cons,List.not_mem_nil,or_false,not_or] at nd
  exact nd.2.1.2.1
 have g7:=hs.new (b7,true) (by simp) rfl
 have g9:=hs.new (b9,true) (by simp) rfl
 have g10:=hs.new (Em,true) (by simp) rfl
 have g11:=hs.new (I7,true) (by simp) rfl
 simp only at g7 g9 g10 g11
 (with_reducible apply Kp);exact rfl;exact rfl;exact J5 cb c F _ E6 101 [.pointer (some ⟨b6,0,none⟩),.pointer (some ⟨b7,0,none⟩),.pointer (some ⟨b9,0,none⟩)] [b7,b9] (fun w=>w.heap[b7]?=some (Gf (By c id).2)∧w.heap[b9]?=some (Gk (By c id).1)) (Bg c id).1 (Bg c id).2 .none (fun _ _ _ hx qR hn=>⟨qR.block hx.1 (hn b7 (by simp)),qR.block hx.2 (hn b9 (by simp))⟩) (fun k hk=>by
  simp only [List.mem_cons,List.not_mem_nil,or_false] at hk
  rcases hk with rfl | rfl
  ·exact ⟨E6.not x7 rfl,lt_of_block x7⟩
  ·exact ⟨E6.not x9 rfl,lt_of_block x9⟩) (by simp [Rp.none]) (fun w1 AJ=>Zm b6 b7 b9 c id _ w1 hid (AJ.block x6 (by simp)) (AJ.block x7 (by simp)) (AJ.block x9 (by simp)))
 rintro v w2 ⟨rv,rfl,⟨fF,hXc⟩,Hy,⟨F',hC',CV⟩,AN⟩
 obtain ⟨vg,vp,Gg,Gp,rfl,p1,p2⟩:=Hy
 obtain ⟨ag,cg,rfl⟩:=BO p1
 obtain ⟨ap,cp,rfl⟩:=BO p2
 have gP:cb∈F:=by obtain ⟨_,_,rfl,_⟩:=h;simp
 have Vg:=AN.block Hq (fun hm=>by
  simp only [List.mem_cons,List.not_mem_nil,or_false] at hm
  rcases hm with rfl | rfl | rfl
  ·exact E6.not Hq rfl gP
  ·exact VA rfl
  ·exact A0 Hq x9 (by decide) rfl)
 have n117:I7≠b7:=A0 US x7 (by decide)
 have n119:I7≠b9:=A0 US x9 (by decide)
 have n79:b7≠b9:=A0 x7 x9 (by decide)
 have WU:=AN.block US (fun hm=>by
  simp only [List.mem_cons,List.not_mem_nil,or_false] at hm
  rcases hm with rfl | rfl | rfl
  ·exact E6.not US rfl gP
  ·exact n117 rfl
  ·exact n119 rfl)
 generalize Bg c id=J at *
 generalize By c id=K at *
 clear hs
 have hs:=((((St.nil w2).AE WU).AE Vg).AG fF (by simp [VA,n117.symm])).AE hXc
 repeat' (first|refine Sb ?_|(refine AU hs (k:=?_);intro w hs)|(refine al hs (k:=?_);intro b w hz hs)|fail)
 have hR:∀ {w'':World} {o o':Obj},St w2 D0 [(b,.cells #[.slice ag (BR J.1 J.2 .none).g.length cg,.slice ap (BR J.1 J.2 .none).p.length cp] 131 (0,0),true),(b9,Gk K.1,false),(b7,Gf K.2,false),(Em,o,false),(I7,o',false)] w''→True=True→Ew [(b,.cells #[.slice ag (BR J.1 J.2 .none).g.length cg,.slice ap (BR J.1 J.2 .none).p.length cp] 131 (0,0),true),(b9,Gk K.1,false),(b7,Gf K.2,false)] w'':=fun hs _ e he=>hs.at_ e (by
  simp only [List.mem_cons,List.not_mem_nil,or_false] at he ⊢
  rcases he with he | he | he
  ·exact .inl he
  ·exact .inr (.inl he)
  ·exact .inr (.inr (.inl he)))
 refine p8 [6] [(b,.cells #[.slice ag (BR J.1 J.2 .none).g.length cg,.slice ap (BR J.1 J.2 .none).p.length cp] 131 (0,0),true),(b9,Gk K.1,false),(b7,Gf K.2,false)] hs (k:=?_);intro hX w hs
 refine tks 0 5 ?_
 refine dt 5 hX (k:=?_)
 repeat' (first|refine Nx.h ?_|(refine AU hs (k:=?_);intro w hs)|fail)
 refine dn (k:=?_)
 refine dt 6 hX (k:=?_)
 repeat' (first|refine Nx.h ?_|(refine AU hs (k:=?_);intro w hs)|fail)
 refine dn (k:=?_)
 refine tk 7 hX (k:=?_)
 refine en (k:=?_)
 refine Jb ?_
 refine AF ?_
 have AS:=hs.AB [Em,I7] (by simp [fF,hXc]) (by simp [D0])
 exact ⟨_,rfl,LH p1 p2 AS (fun b hm=>by
  simp only [List.mem_cons,List.not_mem_nil,or_false] at hm
  rcases hm with rfl | rfl
  ·exact ⟨_,_,_,Vg,by decide,by decide⟩
  ·exact ⟨_,_,_,WU,by decide,by decide⟩),⟨F',hC'.Ae AS (fun k hk hm=>by
  simp only [List.mem_cons,List.not_mem_nil,or_false] at hm
  rcases hm with rfl | rfl
  ·exact hC'.not Vg rfl hk
  ·exact hC'.not WU rfl hk),fun k hk=>by
  rcases CV k hk with h | h
  ·exact .inl h
  ·exact .inr om⟩,((ho.weaken (by simp)).step AN (fun k hk=>by
   simp only [List.mem_cons,List.not_mem_nil,or_false] at hk
   rcases hk with rfl | rfl | rfl
   ·exact .inl (by simp)
   ·exact .inr g7
   ·exact .inr g9)).step AS (fun k hk=>by
   simp only [List.mem_cons,List.not_mem_nil,or_false] at hk
   rcases hk with rfl | rfl
   ·exact .inr g10
   ·exact .inr g11)⟩
end Go.Proofs.Q0
namespace Go.Proofs.Q0
open IB (IT)
def Ro (m:Mn):List It→Int
 | []=>0
 | x :: l=>He m x.p+Ro m l
theorem Ut (m:Mn):∀ l:List It,Ro m l=m.a*CG l - m.w*CY m.b l
 | []=>by show (0:Int)=m.a*0 - m.w*0;simp
 | x :: l=>by
   show He m x.p+Ro m l=m.a*(x.p.w+CG l) - m.w*(dist x.p m.b+CY m.b l)
   rw [Ut m l]
   unfold He
   rw [Int.mul_add,Int.mul_add,Int.mul_comm (dist x.p m.b) m.w]
   omega
theorem Tv (m:Mn):∀ {l:List It},l≠[]→(∀ x∈l,He m x.p < 0)→Ro m l < 0
 | [],h,_=>absurd rfl h
 | x :: l,_,h=>by
   show He m x.p+Ro m l < 0
   have h1:=h x List.mem_cons_self
   by_cases e:l=[]
   ·subst e;show He m x.p+0 < 0;omega
   ·have:=Tv m e fun y hy=>h y (List.mem_cons_of_mem _ hy)
    omega
theorem BK.zM {s:Ss} {A:As} (h:BK s A) (e:A.l≠[]):∃ a∈A.l,0≤N9 A a:=by
 have hc:=h.cen e
 rw [h.GS e] at hc
 refine Classical.byContradiction fun hn=>?_
 have hneg:=Tv (JH (its A.l)) (its_ne e) fun x hx=>by
  obtain ⟨a,ha,rfl⟩:=List.mem_map.1 hx
  rcases Int.lt_or_le (He (JH (its A.l)) a.1.i.p) 0 with k | k
  ·exact k
  ·exact absurd ⟨a,ha,k⟩ hn
 rw [Ut,← hc.is.a,← hc.is.w,Int.mul_comm] at hneg
 omega
theorem bH:∀ {l:List RT},l≠[]→∃ a∈l,Q3 l=some a
 | [],h=>absurd rfl h
 | a :: l,_=>by
   suffices H:∀ (l:List RT) (a:RT) (L:List RT),a∈L→(∀ x∈l,x∈L)→l.foldl (fun a b=>bif due b.1.i a.1.i then b else a) a∈L from
    ⟨_,H l a (a :: l) List.mem_cons_self (fun x hx=>List.mem_cons_of_mem _ hx),rfl⟩
   intro l
   induction l with
   | nil=>intro a L ha _;exact ha
   | cons b l ih =>
     intro a L ha hl
     rw [List.foldl_cons]
     refine ih _ L ?_ fun x hx=>hl x (List.mem_cons_of_mem _ hx)
     cases due b.1.i a.1.i with
     | true=>exact hl b List.mem_cons_self
     | false=>exact ha
theorem BK.nT {s:Ss} {A:As} (h:BK s A) (e:A.l≠[]):∃ a∈A.l,HP A=some a∧0≤N9 A a:=by
 obtain ⟨b,hb,hb0⟩:=h.zM e
 have hne:Lm A≠[]:=fun k=>by
  have:b∈Lm A:=List.mem_filter.2 ⟨hb,by simpa using hb0⟩
  rw [k] at this;cases this
 obtain ⟨a,ha,hf⟩:=bH hne
 obtain ⟨h1,h2⟩:=List.mem_filter.1 ha
 exact ⟨a,h1,hf,by simpa using h2⟩
theorem lY {A:As} (e:A.l=[]):HP A=none:=by unfold HP Lm;rw [e];rfl
theorem BK.zJ {s:Ss} {A:As} (h:BK s A) (e:A.l≠[]):0 < (mA A).w:=by
 have hc:=h.cen e
 rw [h.GS e] at hc
 have:=hc.a0
 have:=hc.a1
 unfold mA
 omega
theorem oI {A:As} {a:RT} (hf:Ah A.l (BA a)=some a):(Fk A (BA a)).l=Dg (BA a) A.l:=by
 unfold Fk
 rw [hf];rfl
theorem del_sub {i:Int} {l:List RT}:∀ x∈Dg i l,x∈l∧BA x≠i:=fun x hx=>by
 obtain ⟨h1,h2⟩:=List.mem_filter.1 hx
 exact ⟨h1,by simpa using h2⟩
structure PZ (A:As) (G:List Gn) (B:As):Prop where
 none:B.l.find? (GB B)=none
 sub:∀ x∈B.l,x∈A.l
 gone:∀ g∈G,g.r.asleep=true∧0≤g.lag∧g.id∈A.l.map BA∧∀ x∈B.l,BA x≠g.id
 len:B.l.length+G.length=A.l.length
 awake:∀ x∈A.l,x.1.asleep=false→x∈B.l
theorem BK.Yo:∀ {n:Nat} {s:Ss} {A:As},BK s A→A.l.length≤n→PZ A (Go.Proofs.Q0.Co n A).1 (Go.Proofs.Q0.Co n A).2
 | 0,s,A,h,hn=>by
   have e:A.l=[]:=List.eq_nil_of_length_eq_zero (Nat.le_zero.1 hn)
   exact ⟨(by show A.l.find? _=_;rw [e];rfl),fun x hx=>hx,fun g hg=>(by cases hg),(by show A.l.length+0=_;omega),fun x hx _=>hx⟩
 | n+1,s,A,h,hn=>by
   unfold Go.Proofs.Q0.Co
   cases e:A.l.find? (GB A) with
   | none=>exact ⟨e,fun x hx=>hx,fun g hg=>(by cases hg),(by show A.l.length+0=_;omega),fun x hx _=>hx⟩
   | some a =>
     have ha:=List.mem_of_find?_eq_some e
     have hgo:=List.find?_some e
     have hf:=Ct h.o ha
     obtain ⟨_,_,e3⟩:=h.exit hf
     have hl:=(del_perm h.o hf).length_eq
     have hx:=oI hf
     simp only [List.length_cons] at hl
     have ih:=e3.Yo (n:=n) (by rw [hx];omega)
     unfold GB at hgo
     rw [Bool.and_eq_true,decide_eq_true_iff] at hgo
     have hw:=h.zJ (fun k=>by rw [k] at ha;cases ha)
     refine ⟨ih.none,fun x hx'=>?_,fun g hg=>?_,?_,fun x hx' hs=>ih.awake x ?_ hs⟩
     ·have:=ih.sub x hx'
      rw [hx] at this
      exact (del_sub x this).1
     ·rcases List.mem_cons.1 hg with rfl | hg
      ·refine ⟨hgo.1,Int.ediv_nonneg hgo.2 om,List.mem_map_of_mem ha,fun x hx'=>?_⟩
       have:=ih.sub x hx'
       rw [hx] at this
       exact (del_sub x this).2
      ·obtain ⟨k1,k2,k3,k4⟩:=ih.gone g hg
       refine ⟨k1,k2,?_,k4⟩
       obtain ⟨y,hy,ZL⟩:=List.mem_map.1 k3
       rw [hx] at hy
       exact List.mem_map.2 ⟨y,(del_sub y hy).1,ZL⟩
     ·have:=ih.len
      rw [hx] at this
      simp only [List.length_cons]
      omega
     ·rw [hx]
      refine List.mem_filter.2 ⟨hx',?_⟩
      simp only [decide_eq_true_eq]
      intro k
      have:x=a:=h.o.inj x hx' a ha k
      subst this
      rw [hs] at hgo
      cases hgo.1
theorem BK.Mf {s:Ss} {A:As} (h:BK s A):PZ A (DT A).1 (DT A).2:=h.Yo (Nat.le_refl _)
theorem PZ.low {A B:As} {G:List Gn} (h:PZ A G B):∀ x∈B.l,x.1.asleep=true→N9 B x < 0:=fun x hx hs=>by
 have:=List.find?_eq_none.1 h.none x hx
 unfold GB at this
 rw [hs] at this
 simpa using this
theorem Zj {s:Ss} {A:As} (h:BK s A):∀ a∈A.l,0 < BA a:=fun a ha=>(iright_all a.2.1 (rright_i (h.r a ha))).2.2.2.1
theorem BK.runs {s:Ss} {A:As} (h:BK s A):(KX A=0∧(DT A).2.l=[])∨∃ a∈(DT A).2.l,KX A=BA a∧0 < BA a∧a.1.asleep=false∧0≤N9 (DT A).2 a∧HP (DT A).2=some a:=by
 have hF:=h.Mf
 obtain ⟨s',_,h'⟩:=h.flush
 unfold KX
 by_cases e:(DT A).2.l=[]
 ·exact .inl ⟨by rw [lY e];rfl,e⟩
 ·obtain ⟨a,ha,hs,h0⟩:=h'.nT e
  refine .inr ⟨a,ha,by rw [hs];rfl,Zj h' a ha,?_,h0,hs⟩
  cases k:a.1.asleep with
  | false=>rfl
  | true=>have:=hF.low a ha k;omega
def K1 (c:Cs):Prop:=(c.run=0∧c.A.l=[])∨∃ a∈c.A.l,c.run=BA a∧0 < BA a∧a.1.asleep=false∧0≤N9 c.A a
theorem K1.new (k:Int):K1 (ER k) := .inl ⟨rfl,rfl⟩
theorem inv_set {s:Ss} {c:Cs} (h:BK s c.A):K1 (Dc c):=by
 rcases h.runs with ⟨h1,h2⟩ | ⟨a,h1,h2,h3,h4,h5,_⟩
 ·exact .inl ⟨h1,h2⟩
 ·exact .inr ⟨a,h1,h2,h3,h4,h5⟩
theorem SW:∀ (k:Nat) (left:Int) (c:Cs) (r:Rp),0≤left→left≤1099511627776→(((DY k left c r).2.2.p.length:Nat):Int)≤r.p.length+left
 | 0,left,c,r,h0,_=>by show ((r.p.length:Nat):Int)≤_;omega
 | k+1,left,c,r,h0,hl=>by
   unfold DY
   split
   ·split
    ·rename_i hs
     have h1:=NH (c:=c) (most:=left) ⟨h0,by omega⟩ hs
     have ih:=SW k (left - BX c left) (Dc (Dh c left)) (IV c left r) om om
     have e:(IV c left r).p.length=r.p.length+1:=by show (r.p ++ [MI c left]).length=_;simp
     rw [e] at ih
     omega
    ·show ((r.p.length:Nat):Int)≤_;omega
   ·show ((r.p.length:Nat):Int)≤_;omega
theorem aM {A:As} {r:RT} (h:Dq A r=0):r.1.right=true∧∃ a,Ah A.l (BA r)=some a:=by
 unfold Dq Fx at h
 cases hr:r.1.right with
 | false=>rw [hr] at h;cases h
 | true =>
   rw [hr] at h
   have h:Ks A r.1.i=0:=h
   unfold Ks at h
   rw [rright_i hr] at h
   refine ⟨rfl,?_⟩
   cases e:Ah A.l (BA r) with
   | some a=>exact ⟨a,rfl⟩
   | none =>
     rw [show r.1.i.id=BA r from rfl,e] at h
     cases h
theorem Ul {A:As} {r:RT} (h:Dq A r=0):(GR A r).l=CH r A.l:=by unfold GR;rw [if_pos h]
theorem rW {s:Ss} {A:As} (h:BK s A) (r:RT):(GR A r).l.length=A.l.length:=by
 by_cases e:Dq A r=0
 ·obtain ⟨_,a,ha⟩:=aM e
  rw [Ul e,(KH h.o).length_eq,(del_perm h.o ha).length_eq];rfl
 ·unfold GR;rw [if_neg e]
theorem PE {s:Ss} {c:Cs} (h:BK s c.A) (m:Int):∃ s',BK s' (Dh c m).A:=⟨_,(h.put (D6 c m)).2.1⟩
theorem tick_gone:∀ (k:Nat) (left:Int) (c:Cs) (r:Rp),(∃ s,BK s c.A)→(DY k left c r).2.2.g.length+(DY k left c r).2.1.A.l.length=r.g.length+c.A.l.length∧∃ s,BK s (DY k left c r).2.1.A
 | 0,left,c,r,h=>⟨rfl,h⟩
 | k+1,left,c,r,h=>by
   unfold DY
   split
   ·split
    ·obtain ⟨s,hs⟩:=h
     obtain ⟨s1,h1⟩:=PE hs left
     obtain ⟨s2,_,h2⟩:=h1.flush
     have hF:=h1.Mf.len
     have hp:(Dh c left).A.l.length=c.A.l.length:=rW hs _
     obtain ⟨i1,i2⟩:=tick_gone k (left - BX c left) (Dc (Dh c left)) (IV c left r) ⟨s2,h2⟩
     refine ⟨?_,i2⟩
     rw [i1]
     show (r.g ++ DZ (Dh c left)).length+(DT (Dh c left).A).2.l.length=_
     rw [List.length_append]
     show r.g.length+(DT (Dh c left).A).1.length+(DT (Dh c left).A).2.l.length=_
     omega
    ·exact ⟨rfl,h⟩
   ·exact ⟨rfl,h⟩
theorem Za {r u:Rq} (h:CK r=some u):u.i.id=r.i.id∧u.asleep=r.asleep:=by
 unfold CK at h
 cases k:(Dv r).right with
 | false=>rw [k] at h;cases h
 | true =>
   rw [k] at h
   cases h
   unfold Dv
   cases EP r.left <;> exact ⟨rfl,rfl⟩
theorem S9 {c:Cs} {m:Int} {u:Rq × Bool} (h:GI c m=some u):u.1.i.id=(DJ c.A.l c.run).i.id∧u.1.asleep=(DJ c.A.l c.run).asleep:=by
 unfold GI DC at h
 split at h
 ·split at h
  ·cases h
  ·rename_i p hp
   cases e:CK (Cv (DJ c.A.l c.run) p (BX c m)) with
   | none=>rw [e] at h;cases h
   | some q =>
     rw [e] at h
     cases h
     obtain ⟨a1,a2⟩:=Za e
     exact ⟨a1,a2⟩
 ·cases h
end Go.Proofs.Q0
namespace Go.Proofs.Q0
open Go Go.RowKit
def Bx (c:Cs):Prop:=∃ s,BK s c.A
theorem Kw {c:Cs} (h:Bx c):Bx (Dc c):=by
 obtain ⟨s,hs⟩:=h
 obtain ⟨s',_,h'⟩:=hs.flush
 exact ⟨s',h'⟩
theorem FB {c:Cs} (h:Bx c) (id:Int):Bx (Ax c id).2:=by
 obtain ⟨s,hs⟩:=h
 unfold Ax
 split
 ·rename_i k
  cases e:Ah c.A.l id with
  | none=>rw [e] at k;cases k
  | some a =>
    obtain ⟨_,_,h3⟩:=hs.exit e
    exact ⟨_,h3⟩
 ·exact ⟨s,hs⟩
theorem Kg {c:Cs} (h:Bx c) (id:Int):Bx (Bg c id).2:=by
 have hl:=FB h id
 obtain ⟨s,hs⟩:=h
 unfold Bg
 cases Ah c.A.l id with
 | none=>exact ⟨s,hs⟩
 | some a =>
   show Bx (if a.1.asleep=true then (6,c) else if Dk c.A id < 0 then (0,(⟨GU c.A id true,c.run,c.carr⟩:Cs)) else Ax c id).2
   split
   ·exact ⟨s,hs⟩
   ·split
    ·exact ⟨_,hs.bI id true⟩
    ·exact hl
theorem L8 {c:Cs} (h:Bx c) (id:Int):Bx (CL c id).2:=by
 obtain ⟨s,hs⟩:=h
 unfold CL
 cases Ah c.A.l id with
 | none=>exact ⟨s,hs⟩
 | some a =>
   show Bx (if a.1.asleep=true then (0,(⟨GU c.A id false,c.run,c.carr⟩:Cs)) else (6,c)).2
   split
   ·exact ⟨_,hs.bI id false⟩
   ·exact ⟨s,hs⟩
theorem Kl {c:Cs} (h:Bx c) (id q:Int):Bx (Bo c id q).2:=by
 obtain ⟨s,hs⟩:=h
 unfold Bo
 split
 ·exact ⟨s,hs⟩
 ·cases Ah c.A.l id with
  | none=>exact ⟨s,hs⟩
  | some a =>
    show Bx (M0 c id (J4 c.A a.1 q)).2
    cases J4 c.A a.1 q with
    | none=>exact ⟨s,hs⟩
    | some y=>exact ⟨_,(hs.put (C4 y)).2.1⟩
theorem Kf {c:Cs} (h:Bx c) (id ns:Int):Bx (Bn c id ns).2:=by
 obtain ⟨s,hs⟩:=h
 unfold Bn
 split
 ·exact ⟨s,hs⟩
 ·cases Ah c.A.l id with
  | none=>exact ⟨s,hs⟩
  | some a=>exact ⟨_,(hs.put _).2.1⟩
theorem I0 {c:Cs} (h:Bx c) (id q ns lag:Int):Bx (Bj c id q ns lag).2:=by
 obtain ⟨s,hs⟩:=h
 unfold Bj
 split
 ·exact ⟨s,hs⟩
 ·split
  ·exact ⟨s,hs⟩
  ·split
   ·exact ⟨s,hs⟩
   ·cases Hr c id q ns lag with
    | none=>exact ⟨s,hs⟩
    | some r =>
      show Bx (if FJ c.A r=0 then (0,(⟨GV c.A r,c.run,ET c.carr (CX (GV c.A r) id)⟩:Cs)) else (FJ c.A r,c)).2
      split
      ·exact ⟨_,(hs.enter r).2⟩
      ·exact ⟨s,hs⟩
theorem Ot {c:Cs} (h:Bx c) (ns:Int):Bx (Ao c ns).2.1:=by
 unfold Ao
 split
 ·exact (tick_gone _ ns c .none h).2
 ·exact h
structure Ev where
 core:Int
 id:Int
 ns:Int
 done:Bool
 gone:Bool
deriving DecidableEq
abbrev Ev.cells (x:Ev):List Value:=[.int .i64 x.core,.int .i64 x.id,.int .u64 x.ns,.bool x.done,.bool x.gone]
def Md (l:List Ev):List Value:=(l.map Ev.cells).flatten
theorem Xc (l:List Ev) (x:Ev):Md (l ++ [x])=Md l ++ x.cells:=by simp [Md]
structure Sy where
 cf:Cf
 t:List Tk
 k:List Cs
structure Ch where
 s:Sy
 ev:List Ev
def BP (x:Tk):Bool:=x.st == 1 || x.st == 2
def AT (s:Sy) (k:Int):Cs:=s.k.getD k.toNat (ER 0)
def B7 (s:Sy) (k:Int) (c:Cs):Sy:={ s with k:=s.k.set k.toNat c }
def Bv (s:Sy) (x:Tk):Sy:={ s with t:=Ei s.t x }
def Tw (k:Int) (p:Pr):Ev:=⟨k,p.id,p.ns,p.done,false⟩
def D7 (s:Sy) (g:Gn):Tk:={ Bi s.t g.id with st:=3,lag:=Fu s.cf g.lag (Bi s.t g.id).slice }
def DS (k:Int) (s:Ch) (g:Gn):Ch:=⟨Bv s.s (D7 s.s g),s.ev ++ [⟨k,g.id,0,false,true⟩]⟩
def Gz (k:Int) (s:Ch) (p:Pr):Ch:=⟨s.s,s.ev ++ [Tw k p]⟩
def BQ (s:Ch) (k:Int) (r:Rp):Ch:=r.g.foldl (DS k) (r.p.foldl (Gz k) s)
def B0 (s:Ch) (x:Tk):Int × Ch :=
 let c:=AT s.s x.core
 let l:=Ax c x.id
 (Fu s.s.cf (CX c.A x.id) x.slice,BQ ⟨B7 s.s x.core (Cb c l.1 l.2),s.ev⟩ x.core (BR l.1 l.2 .none))
def EK (s:Ch) (k:Int) (l:Int × Cs × Rp):Int × Ch :=
 if l.1=0 then (0,BQ ⟨B7 s.s k (Cb (AT s.s k) l.1 l.2.1),s.ev⟩ k (BR l.1 l.2.1 l.2.2)) else (l.1,s)
def FD (s:Ch) (x:Tk) (lag:Int):Int × Ch:=EK s x.core ((Bj (AT s.s x.core) x.id x.w x.slice lag).1,(Bj (AT s.s x.core) x.id x.w x.slice lag).2,.none)
def DP (s:Sy) (core w slice:Int):Int:=GF [CP s.cf core,BB w 1048576,BB slice (Dd s.cf.slice)]
def B6 (core w slice:Int):Tk:=⟨0,1,core,IntKind.u32.wrap w,slice,0⟩
def Bk (s:Ch) (core w slice:Int):Int × Int × Ch :=
 if DP s.s core w slice≠0 then (DP s.s core w slice,0,s) else
 if En s.s.t (B6 core w slice)≠0 then (En s.s.t (B6 core w slice),0,s) else
 let n:=Ea s.s.t (B6 core w slice)
 let j:=FD ⟨{ s.s with t:=D4 s.s.t (B6 core w slice) },s.ev⟩ { B6 core w slice with id:=n } 0
 if j.1=0 then (0,n,j.2) else (j.1,0,s)
def Gd (s:Ch) (x:Tk) (id:Int):Int × Ch :=
 let s1:=if BP x=true then (B0 s x).2 else s
 (Eb (BU s1.s.t id),⟨{ s1.s with t:=FG s1.s.t id },s1.ev⟩)
def F9 (s:Ch) (x:Tk) (id:Int):Tk :=
 let y:=By (AT s.s x.core) id
 if y.1=true then { x with st:=3,lag:=Fu s.s.cf y.2 x.slice } else { x with st:=2 }
def EI (s:Ch) (x:Tk) (l:Int × Cs × Rp):Int × Ch :=
 if l.1=0 then (0,BQ ⟨Bv (B7 s.s x.core (Cb (AT s.s x.core) l.1 l.2.1)) x,s.ev⟩ x.core (BR l.1 l.2.1 l.2.2)) else (l.1,s)
def Hj (s:Ch) (x:Tk) (id:Int):Int × Ch :=
 if x.st≠1 then (6,s) else
 let l:=Bg (AT s.s x.core) id
 EI s (F9 s x id) (l.1,l.2,.none)
def F7 (s:Ch) (x:Tk) (id:Int):Int × Ch :=
 if x.st=1 then (6,s) else
 if x.st=3 then FD ⟨Bv s.s { x with st:=1 },s.ev⟩ { x with st:=1 } x.lag else
 let l:=CL (AT s.s x.core) id
 EI s { x with st:=1 } (l.1,l.2,.none)
def Du (s:Ch) (x:Tk) (id w:Int):Int × Ch :=
 if BB w 1048576≠0 then (BB w 1048576,s) else
 let y:={ x with w:=IntKind.u32.wrap w }
 let s1:Ch:=⟨Bv s.s y,s.ev⟩
 if BP x=false then (0,s1) else
 let l:=Bo (AT s.s x.core) id y.w
 EK s1 x.core (l.1,l.2,.none)
def El (s:Ch) (x:Tk) (id ns:Int):Int × Ch :=
 if BB ns (Dd s.s.cf.slice)≠0 then (BB ns (Dd s.s.cf.slice),s) else
 let y:={ x with slice:=ns }
 let s1:Ch:=⟨Bv s.s y,s.ev⟩
 if BP x=false then (0,s1) else
 let l:=Bn (AT s.s x.core) id ns
 EK s1 x.core (l.1,l.2,.none)
def EB (x:Tk) (core lag:Int):Tk:={ x with core:=core,lag:=lag,st:=if x.st=2 then 3 else x.st }
def Ci (s:Ch) (x:Tk) (core:Int):Int × Ch :=
 if CP s.s.cf core≠0∨core=x.core then (CP s.s.cf core,s) else
 let l:=if BP x=true then B0 s x else (x.lag,s)
 let y:=EB x core l.1
 let s1:Ch:=⟨Bv l.2.s y,l.2.ev⟩
 if y.st=1 then FD s1 y y.lag else (0,s1)
def Ds:Nat→Nat→Ch→Int→Int × Ch
 | 0,_,s,_=>(0,s)
 | n+1,k,s,ns =>
   let l:=Ao (AT s.s k) ns
   if l.1=0 then Ds n (k+1) (BQ ⟨B7 s.s k (Cb (AT s.s k) l.1 l.2.1),s.ev⟩ k (BR l.1 l.2.1 l.2.2)) ns else (l.1,s)
def FZ (s:Ch) (ns:Int):Int × Ch :=
 if BB ns (Dd s.s.cf.tick)≠0 then (BB ns (Dd s.s.cf.tick),s) else Ds s.s.k.length 0 s ns
def CJ (s:Ch) (id:Int) (f:Ch→Tk→Int × Ch):Int × Ch:=if Eb (BU s.s.t id)≠0 then (Eb (BU s.s.t id),s) else f s (Bi s.s.t id)
def Db (s:Sy) (l:Int × Ch):List Ev × Sy:=if l.1=0 then (l.2.ev,l.2.s) else ([],s)
structure C0 where
 d:Int
 id:Int
 core:Int
 w:Int
 ns:Int
abbrev C0.cells (a:C0):List Value:=[.int .u8 a.d,.int .i64 a.id,.int .i64 a.core,.int .u64 a.w,.int .u64 a.ns]
def C0.In (a:C0):Prop:=(0≤a.d∧a.d < 256)∧In64 a.id∧In64 a.core∧BV a.w∧BV a.ns
def Cc (s:Sy) (a:C0):Int × Ch :=
 let c:Ch:=⟨s,[]⟩
 if a.d % 12 < 2 then ((Bk c a.core a.w a.ns).1,(Bk c a.core a.w a.ns).2.2)
 else if a.d % 12=2 then CJ c a.id fun s x=>Gd s x a.id
 else if a.d % 12 < 5 then CJ c a.id fun s x=>Hj s x a.id
 else if a.d % 12 < 7 then CJ c a.id fun s x=>F7 s x a.id
 else if a.d % 12=7 then CJ c a.id fun s x=>Du s x a.id a.w
 else if a.d % 12=8 then CJ c a.id fun s x=>El s x a.id a.ns
 else if a.d % 12=9 then CJ c a.id fun s x=>Ci s x a.core
 else FZ c a.ns
def Hg (s:Sy) (a:C0):Int:=if a.d % 12 < 2 then (Bk ⟨s,[]⟩ a.core a.w a.ns).2.1 else 0
def Ic (c:Cf):Sy:=⟨c,List.replicate (Er c.tasks) .zero,List.replicate c.cores.toNat (ER c.origin)⟩
def CN (n:Int) (x:Tk):Prop:=In64 x.id∧(0≤x.st∧x.st < 256)∧In64 x.core∧FW x.w∧BV x.slice∧In64 x.lag∧(x.st≠0→0≤x.core∧x.core < n)
theorem CN.zero (n:Int):CN n .zero:=⟨by decide,by decide,by decide,by decide,by decide,by decide,fun h=>absurd rfl h⟩
structure EG (s:Sy):Prop where
 cf:s.cf.In
 lo:1≤s.cf.cores
 hi:s.cf.cores≤8
 len:(s.k.length:Int)=s.cf.cores
 row:∀ x∈s.t,CN s.cf.cores x
 tl:s.t.length≤32
theorem Wt {n:Int} {l:List Tk} (h:∀ x∈l,CN n x) {y:Tk} (hy:CN n y) (i:Nat):∀ x∈l.set i y,CN n x:=fun x hx=>by
 rcases List.mem_or_eq_of_mem_set hx with h1 | rfl
 ·exact h x h1
 ·exact hy
theorem sA {n:Int} {l:List Tk} (h:∀ x∈l,CN n x) {y:Tk} (hy:CN n y):∀ x∈Ei l y,CN n x:=by
 unfold Ei
 cases BZ y with
 | false=>exact h
 | true =>
   cases BU l y.id with
   | none=>exact h
   | some i=>exact Wt h hy i
theorem XR {n:Int} {l:List Tk} (h:∀ x∈l,CN n x) (id:Int):∀ x∈FG l id,CN n x:=by
 unfold FG
 cases BU l id with
 | none=>exact h
 | some i=>exact Wt h (CN.zero n) i
theorem ok_task {n:Int} {l:List Tk} (h:∀ x∈l,CN n x) (id:Int):CN n (Bi l id):=by
 unfold Bi
 cases e:BU l id with
 | none=>exact CN.zero n
 | some i =>
   have hi:=(IS e).1
   show CN n (l.getD i .zero)
   rw [List.getD_eq_getElem?_getD,List.getElem?_eq_getElem hi]
   exact h _ (List.getElem_mem hi)
theorem Ya {n:Int} {l:List Tk} (h:∀ x∈l,CN n x) (hl:l.length≤32) {y:Tk} (hy:CN n y):∀ x∈D4 l y,CN n x:=by
 unfold D4
 cases BZ y with
 | false=>exact h
 | true =>
   cases e:D2 l with
   | none=>exact h
   | some i =>
     have hi:=Ky e
     have hn:In64 ((i:Int)+1):=by unfold In64;omega
     exact Wt (y:={ y with id:=(i:Int)+1 }) h ⟨hn,hy.2⟩ i
theorem task_st {l:List Tk} {id:Int} (h:Eb (BU l id)=0):(Bi l id).st≠0:=by
 cases e:BU l id with
 | none=>rw [e] at h;cases h
 | some i =>
   obtain ⟨x,h1,h2,_⟩:=N2 e
   unfold Bi
   rw [e]
   show (l.getD i .zero).st≠0
   rw [List.getD_eq_getElem?_getD,h1]
   exact h2
theorem LK (c:Cf) (x s:Int):In64 (Fu c x s):=dS (Y2 _ _)
theorem EG.T5 {s:Sy} (h:EG s) (k:Int) (c:Cs):EG (B7 s k c):=⟨h.cf,h.lo,h.hi,by show ((s.k.set k.toNat c).length:Int)=_;rw [List.length_set];exact h.len,h.row,h.tl⟩
theorem EG.rows {s:Sy} (h:EG s) {t:List Tk} (ht:∀ x∈t,CN s.cf.cores x) (hl:t.length=s.t.length):EG { s with t:=t }:=⟨h.cf,h.lo,h.hi,h.len,ht,by show t.length≤32;rw [hl];exact h.tl⟩
theorem EG.CK {s:Sy} (h:EG s) {x:Tk} (hx:CN s.cf.cores x):EG (Bv s x):=h.rows (sA h.row hx) (mN _ _)
theorem CN.qK {s:Sy} (h:EG s) (g:Gn):CN s.cf.cores (D7 s g):=by
 have hx:=ok_task h.row g.id
 by_cases e:(Bi s.t g.id).st=0
 ·cases k:BU s.t g.id with
  | none =>
    have ez:Bi s.t g.id = .zero:=by unfold Bi;rw [k]
    have:=h.lo
    unfold D7
    rw [ez]
    exact ⟨(by decide:In64 0),(by decide:(0:Int)≤3∧(3:Int) < 256),(by decide:In64 0),(by decide:FW 0),(by decide:BV 0),LK _ _ _,fun _=>⟨Int.le_refl _,by show (0:Int) < _;omega⟩⟩
  | some i=>exact absurd e (task_st (by rw [k];rfl))
 ·exact ⟨hx.1,(by decide:(0:Int)≤3∧(3:Int) < 256),hx.2.2.1,hx.2.2.2.1,hx.2.2.2.2.1,LK _ _ _,fun _=>hx.2.2.2.2.2.2 e⟩
theorem OT (k:Int):∀ (l:List Pr) (s:Ch),(l.foldl (Gz k) s).s=s.s∧(l.foldl (Gz k) s).ev=s.ev ++ l.map (Tw k)
 | [],s=>⟨rfl,by simp⟩
 | p :: l,s=>by
   obtain ⟨h1,h2⟩:=OT k l (Gz k s p)
   refine ⟨h1,?_⟩
   rw [List.foldl_cons,h2]
   simp [Gz]
theorem Y8 (k:Int):∀ (l:List Gn) (s:Ch),EG s.s→EG (l.foldl (DS k) s).s∧(l.foldl (DS k) s).s.cf=s.s.cf∧(l.foldl (DS k) s).s.k=s.s.k
 | [],s,h=>⟨h,rfl,rfl⟩
 | g :: l,s,h=>Y8 k l (DS k s g) (h.CK (CN.qK h g))
theorem ok_absorb {s:Ch} (h:EG s.s) (k:Int) (r:Rp):EG (BQ s k r).s∧(BQ s k r).s.cf=s.s.cf∧(BQ s k r).s.k=s.s.k:=by
 obtain ⟨e1,_⟩:=OT k r.p s
 obtain ⟨h1,h2,h3⟩:=Y8 k r.g (r.p.foldl (Gz k) s) (by rw [e1];exact h)
 rw [e1] at h2 h3
 exact ⟨h1,h2,h3⟩
theorem TY (k:Int):∀ (l:List Gn) (s:Ch),(l.foldl (DS k) s).ev=s.ev ++ l.map (fun g=>⟨k,g.id,0,false,true⟩)
 | [],s=>by simp
 | g :: l,s=>by rw [List.foldl_cons,TY k l];simp [DS]
theorem Nk (s:Ch) (k:Int) (r:Rp):(BQ s k r).ev=s.ev ++ r.p.map (Tw k) ++ r.g.map (fun g=>⟨k,g.id,0,false,true⟩):=by
 unfold BQ
 rw [TY,(OT k r.p s).2]
end Go.Proofs.Q0
namespace Go.Proofs.Q0
open Go Go.RowKit Go.ChangeShapes Go.WideShapes Go.ChangeAt
theorem Ua : Tryz.prog.underlying 24 = some (.struct #[{ name := "Cores", type := 3, offset := 0, embedded := false, tag := "", pkgPath := "", byteOffset := 0 }, { name := "Tasks", type := 3, offset := 1, embedded := false, tag := "", pkgPath := "", byteOffset := 8 }, { name := "Tick", type := 22, offset := 2, embedded := false, tag := "", pkgPath := "", byteOffset := 16 }, { name := "Slice", type := 22, offset := 3, embedded := false, tag := "", pkgPath := "", byteOffset := 24 }, { name := "Origin", type := 22, offset := 4, embedded := false, tag := "", pkgPath := "", byteOffset := 32 }]) := by kernel_rfl
theorem lW {H:Type} {enc:TypeId × Value→H} {W:World} {r:Reach} {b0 base:Nat} {spare:Nat→Bool} {held:Bool} {v:Value} {d:DataW H} {p:List MemPlace} (hv:Value.okWide Tryz.prog W r b0 24 v)
 (h:DataW.Trod enc Tryz.prog W base spare held 24 v d p):∃ c:Cf,c.In∧v=Pd c:=by
 obtain ⟨cs,rfl,hsz⟩:=okWide_struct Ua hv
 have hC:Tryz.prog.cellsOf 24=5:=by kernel_rfl
 rw [hC] at hsz
 obtain ⟨l⟩:=cs
 match l,hsz with
 | [v0,v1,v2,v3,v4],_ =>
   obtain ⟨fuel,hf⟩:=h
   obtain ⟨xs,n,_,_,hl,hlen,hq⟩:=DataW.trod_struct Ua hf
   match xs,hlen with
   | [y0,y1,y2,y3,y4],_ =>
     have c1:Tryz.prog.cellsOf 3=1:=by kernel_rfl
     have c2:Tryz.prog.cellsOf 22=1:=by kernel_rfl
     have h0:=hq 0 _ rfl
     have h1:=hq 1 _ rfl
     have h2:=hq 2 _ rfl
     have h3:=hq 3 _ rfl
     have h4:=hq 4 _ rfl
     obtain ⟨a0,e0,_,w0⟩:=DataW.trod_int (t:=3) (k := .i64) (by kernel_rfl) h0
     obtain ⟨a1,e1,_,w1⟩:=DataW.trod_int (t:=3) (k := .i64) (by kernel_rfl) h1
     obtain ⟨a2,e2,_,w2⟩:=DataW.trod_int (t:=22) (k := .u64) (by kernel_rfl) h2
     obtain ⟨a3,e3,_,w3⟩:=DataW.trod_int (t:=22) (k := .u64) (by kernel_rfl) h3
     obtain ⟨a4,e4,_,w4⟩:=DataW.trod_int (t:=22) (k := .u64) (by kernel_rfl) h4
     have q0:v0 = .int .i64 a0:=by
      have e:List.take (Tryz.prog.cellsOf 3) (List.drop 0 [v0,v1,v2,v3,v4])=[.int .i64 a0]:=e0
      rw [c1] at e;simpa using e
     have q1:v1 = .int .i64 a1:=by
      have e:List.take (Tryz.prog.cellsOf 3) (List.drop 1 [v0,v1,v2,v3,v4])=[.int .i64 a1]:=e1
      rw [c1] at e;simpa using e
     have q2:v2 = .int .u64 a2:=by
      have e:List.take (Tryz.prog.cellsOf 22) (List.drop 2 [v0,v1,v2,v3,v4])=[.int .u64 a2]:=e2
      rw [c2] at e;simpa using e
     have q3:v3 = .int .u64 a3:=by
      have e:List.take (Tryz.prog.cellsOf 22) (List.drop 3 [v0,v1,v2,v3,v4])=[.int .u64 a3]:=e3
      rw [c2] at e;simpa using e
     have q4:v4 = .int .u64 a4:=by
      have e:List.take (Tryz.prog.cellsOf 22) (List.drop 4 [v0,v1,v2,v3,v4])=[.int .u64 a4]:=e4
      rw [c2] at e;simpa using e
     exact ⟨⟨a0,a1,a2,a3,a4⟩,⟨PV w0,PV w1,Mp w2,Mp w3,Mp w4⟩,by rw [q0,q1,q2,q3,q4];rfl⟩
theorem YC : Tryz.prog.underlying 33 = some (.struct #[{ name := "Do", type := 5, offset := 0, embedded := false, tag := "", pkgPath := "", byteOffset := 0 }, { name := "ID", type := 3, offset := 1, embedded := false, tag := "", pkgPath := "", byteOffset := 8 }, { name := "Core", type := 3, offset := 2, embedded := false, tag := "", pkgPath := "", byteOffset := 16 }, { name := "W", type := 22, offset := 3, embedded := false, tag := "", pkgPath := "", byteOffset := 24 }, { name := "Ns", type := 22, offset := 4, embedded := false, tag := "", pkgPath := "", byteOffset := 32 }]) := by kernel_rfl
theorem Pq:Tryz.prog.cellsOf 33=5:=by kernel_rfl
theorem gC {H:Type} {enc:TypeId × Value→H} {W:World} {base:Nat} {spare:Nat→Bool} {held:Bool} (fuel:Nat) (cs:List Value) (x) (h:DataW.trod enc Tryz.prog W base spare held fuel 33 cs=some x):∃ q:C0,cs=[.int .u8 q.d,.int .i64 q.id,.int .i64 q.core,.int .u64 q.w,.int .u64 q.ns]∧C0.In q:=by
 obtain ⟨xs,n,_,_,hl,hlen,hq⟩:=DataW.trod_struct YC h
 rw [Pq] at hl
 match cs,hl with
 | [v0,v1,v2,v3,v4],_ =>
   match xs,hlen with
   | [y0,y1,y2,y3,y4],_ =>
     have h0:=hq 0 _ rfl
     obtain ⟨a0,e0,_,w0⟩:=DataW.trod_int (t:=5) (k := .u8) (by kernel_rfl) h0
     replace w0:=vM w0
     have q0:v0 = .int .u8 a0:=by
      have e:List.take (Tryz.prog.cellsOf 5) (List.drop 0 [v0,v1,v2,v3,v4])=[.int .u8 a0]:=e0
      rw [show Tryz.prog.cellsOf 5=1 by kernel_rfl] at e;simpa using e
     have h1:=hq 1 _ rfl
     obtain ⟨a1,e1,_,w1⟩:=DataW.trod_int (t:=3) (k := .i64) (by kernel_rfl) h1
     replace w1:=PV w1
     have q1:v1 = .int .i64 a1:=by
      have e:List.take (Tryz.prog.cellsOf 3) (List.drop 1 [v0,v1,v2,v3,v4])=[.int .i64 a1]:=e1
      rw [show Tryz.prog.cellsOf 3=1 by kernel_rfl] at e;simpa using e
     have h2:=hq 2 _ rfl
     obtain ⟨a2,e2,_,w2⟩:=DataW.trod_int (t:=3) (k := .i64) (by kernel_rfl) h2
     replace w2:=PV w2
     have q2:v2 = .int .i64 a2:=by
      have e:List.take (Tryz.prog.cellsOf 3) (List.drop 2 [v0,v1,v2,v3,v4])=[.int .i64 a2]:=e2
      rw [show Tryz.prog.cellsOf 3=1 by kernel_rfl] at e;simpa using e
     have h3:=hq 3 _ rfl
     obtain ⟨a3,e3,_,w3⟩:=DataW.trod_int (t:=22) (k := .u64) (by kernel_rfl) h3
     replace w3:=Mp w3
     have q3:v3 = .int .u64 a3:=by
      have e:List.take (Tryz.prog.cellsOf 22) (List.drop 3 [v0,v1,v2,v3,v4])=[.int .u64 a3]:=e3
      rw [show Tryz.prog.cellsOf 22=1 by kernel_rfl] at e;simpa using e
     have h4:=hq 4 _ rfl
     obtain ⟨a4,e4,_,w4⟩:=DataW.trod_int (t:=22) (k := .u64) (by kernel_rfl) h4
     replace w4:=Mp w4
     have q4:v4 = .int .u64 a4:=by
      have e:List.take (Tryz.prog.cellsOf 22) (List.drop 4 [v0,v1,v2,v3,v4])=[.int .u64 a4]:=e4
      rw [show Tryz.prog.cellsOf 22=1 by kernel_rfl] at e;simpa using e
     subst q0
     subst q1
     subst q2
     subst q3
     subst q4
     exact ⟨⟨a0,a1,a2,a3,a4⟩,rfl,⟨w0,w1,w2,w3,w4⟩⟩
instance:Inhabited C0:=⟨⟨0,0,0,0,0⟩⟩
theorem X5 {H:Type} {enc:TypeId × Value→H} {W:World} {r:Reach} {b0 base:Nat} {spare:Nat→Bool} {held:Bool} {v:Value} {d:DataW H} {p:List MemPlace} (hv:Value.okWide Tryz.prog W r b0 25 v)
 (h:DataW.Trod enc Tryz.prog W base spare held 25 v d p):∃ xs:List C0,RU W 5 v (xs.map C0.cells)∧∀ a∈xs,a.In :=
 open_rows (cells:=C0.cells) (by kernel_rfl) Pq (by decide) (fun _=>rfl) gC hv h
end Go.Proofs.Q0
namespace Go.Proofs.Q0
open Go Go.RowKit
attribute [local irreducible] XS XC XA AX AO A6 AZ AY A7 Ab AV SE
def IC:Tk:=⟨0,1,0,0,0,0⟩
def Lf (n:Nat):List Tk:=match n with
 | 0=>List.replicate (Er 3) .zero
 | 1=>D4 (List.replicate (Er 3) .zero) IC
 | 2=>D4 (D4 (List.replicate (Er 3) .zero) IC) IC
 | 3=>D4 (D4 (D4 (List.replicate (Er 3) .zero) IC) IC) IC
 | _=>FG (D4 (D4 (D4 (List.replicate (Er 3) .zero) IC) IC) IC) 2
theorem a20:Ea (Lf 0) IC=1∧En (Lf 0) IC=0∧Ea (Lf 1) IC=2∧En (Lf 1) IC=0∧Ea (Lf 2) IC=3∧En (Lf 2) IC=0∧Eb (BU (Lf 3) 2)=0∧Ea (Lf 4) IC=2∧En (Lf 4) IC=0:=by decide
theorem Xt (w0:World) (ht:DE w0):AM Tryz.prog 61 #[] w0 fun v w'=>v = .bool true∧AA [] w0 w':=by
 have hs:=St.nil w0
 obtain ⟨e1,e2,e3,e4,e5,e6,e7,e8,e9⟩:=a20
 refine AQ Tryz.func61 Tryz.ntmps61 (k:=?_)
 refine Ja ?_
 refine cl (h:=by exact XI 3 _) (k:=?_)
 rintro v w1 ⟨⟨tb,rb,rfl,hT,g1,g2,hne⟩,AJ⟩
 have Ay:=(hs.AD rfl).trans AJ
 have qM:=(hs.AD rfl).size
 have lr:rb < w1.heap.size:=by obtain ⟨_,_,_,h,_⟩:=hT;exact lt_of_block h
 clear hs
 have hs:=St.nil w1
 repeat' (first|refine Sa ?_|(refine AU hs (k:=?_);intro w hs)|(refine al hs (k:=?_);intro b w hz hs)|fail)
 have gb:=hs.new _ List.mem_cons_self rfl
 simp only at gb
 have hnb:b∉[rb]:=by simp;omega
 have vF:=hs.AB [] (by simp) (by simp [D0])
 refine cl (h:=by exact L2 tb rb (Lf 0) IC _ (hT.only vF)) (k:=?_)
 rw [e1,e2]
 rintro v w2 ⟨rfl,Bl,wL⟩
 have hb0:=wL.block (hs.get (b:=b) (by repeat (first | exact At.head | (with_reducible apply At.tail)))) hnb
 have aA1:=(Ay.trans vF).step wL (fun k hk => .inr (by obtain rfl:=List.mem_singleton.1 hk;exact g2))
 clear hs
 have hs:=(St.nil w2).AE hb0
 refine Ja ?_
 have yQ:=hs.AB [] (by simp [hb0]) (by simp [D0])
 refine cl (h:=by exact L2 tb rb (Lf 1) IC _ (Bl.only yQ)) (k:=?_)
 rw [e3,e4]
 rintro v w3 ⟨rfl,K5,uL⟩
 have CD:=uL.block (hs.get (b:=b) (by repeat (first | exact At.head | (with_reducible apply At.tail)))) hnb
 have aA5:=(aA1.trans yQ).step uL (fun k hk => .inr (by obtain rfl:=List.mem_singleton.1 hk;exact g2))
 clear hs
 have hs:=(St.nil w3).AE CD
 refine Ja ?_
 have wX:=hs.AB [] (by simp [CD]) (by simp [D0])
 refine cl (h:=by exact L2 tb rb (Lf 2) IC _ (K5.only wX)) (k:=?_)
 rw [e5,e6]
 rintro v w4 ⟨rfl,Fj,uC⟩
 have Dj:=uC.block (hs.get (b:=b) (by repeat (first | exact At.head | (with_reducible apply At.tail)))) hnb
 have aBL:=(aA5.trans wX).step uC (fun k hk => .inr (by obtain rfl:=List.mem_singleton.1 hk;exact g2))
 clear hs
 have hs:=(St.nil w4).AE Dj
 refine Ja ?_
 have wI:=hs.AB [] (by simp [Dj]) (by simp [D0])
 refine cl (h:=by exact UF tb rb (Lf 3) 2 _ (Fj.only wI) (by decide)) (k:=?_)
 rw [e7]
 rintro v w5 ⟨rfl,Rj,uP⟩
 have GM:=uP.block (hs.get (b:=b) (by repeat (first | exact At.head | (with_reducible apply At.tail)))) hnb
 have aBB:=(aBL.trans wI).step uP (fun k hk => .inr (by obtain rfl:=List.mem_singleton.1 hk;exact g2))
 clear hs
 have hs:=(St.nil w5).AE GM
 refine Ja ?_
 have vS:=hs.AB [] (by simp [GM]) (by simp [D0])
 refine cl (h:=by exact L2 tb rb (Lf 4) IC _ (Rj.only vS)) (k:=?_)
 rw [e8,e9]
 rintro v w6 ⟨rfl,VM,yZ⟩
 have hb4:=yZ.block (hs.get (b:=b) (by repeat (first | exact At.head | (with_reducible apply At.tail)))) hnb
 have xX:=(aBB.trans vS).step yZ (fun k hk => .inr (by obtain rfl:=List.mem_singleton.1 hk;exact g2))
 clear hs
 have hs:=(St.nil w6).AE hb4
 refine Ja ?_
 have Tz:=hs.AB [] (by simp [hb4]) (by simp [D0])
 refine AW hs (h:=by exact YF _ (tab_only ht (xX.trans Tz))) (k:=?_);intro w' ho hs;refine Jc ?_
 refine AF ?_
 exact ⟨rfl,xX.trans (hs.AB [] (by simp [hb4]) (by simp [D0]))⟩
end Go.Proofs.Q0
namespace Go.Proofs.Q0
open Go Go.RowKit
section
variable {ops : Array Oper} {QE : Exit → Env → World → Prop} {n : Nat} {rest : List Oper} {env : Env} {w : World} {d : Option Nat} {ty : Nat} {pos : String} {Ar : Array Edge} {g : Option (Nat × Bool)}
theorem vG {t t':Nat} {x y:Operand} {a b:Int} (h0:0≤a) (h2:0 < b) (hw:BC ops env g=true:=by exact rfl) (hx:ev env x = .int .u8 a:=by exact rfl) (hy:ev env y = .int .u8 b:=by exact rfl)
 (k:XS Tryz.prog ops QE n rest (Bt env d (.int .u8 (a % b))) w):XS Tryz.prog ops QE n (⟨d,.binOp .rem t x y t',ty,pos,Ar,g⟩ :: rest) env w :=
 xs_val hw (by rw [Z9 om hx hy,Int.tmod_eq_emod_of_nonneg h0]) k
theorem aAq {t t' e:Nat} {x y:Operand} {a:Option Addr} {m c:Nat} (ht:Tryz.prog.underlying t=some (.slice e)) (hw:BC ops env g=true:=by exact rfl) (hx:ev env x = .slice a m c:=by exact rfl) (hy:ev env y = .slice none 0 0:=by exact rfl)
 (k:XS Tryz.prog ops QE n rest (Bt env d (.bool a.isNone)) w):XS Tryz.prog ops QE n (⟨d,.binOp .eql t x y t',ty,pos,Ar,g⟩ :: rest) env w :=
 xs_val hw (LQ (by rw [hx,hy];simp [eqGuard]) (by
  rw [hx,hy]
  have h:∀ d:Nat,(Op.equalIn (d+1) t (.slice a m c) (.slice none 0 0)).run Tryz.prog w = .ok a.isNone w:=fun d=>by cases a <;> simp [Op.equalIn,run_underlying ht]
  simp only [binOp]
  simp [Op.equal,Op.maxDepth,h 9999])) k
end
end Go.Proofs.Q0
namespace Go.Proofs.Q0
open Go Go.RowKit
attribute [local irreducible] XS XC XA AX AO A6 AZ AY A7 Ab AV SE
section
variable {ops : Array Oper} {QE : Exit → Env → World → Prop} {n : Nat} {rest : List Oper} {env : Env} {w : World}
 {d:Option Nat} {ty:Nat} {pos:String} {Ar:Array Edge} {g:Option (Nat × Bool)}
theorem aX {t e size bytes:Nat} {x y:Operand} {v u:Value} {k:Nat} {xs ys:List Value} {G Gy:List Nat} (hO:BS w e size v k xs G) (hY:BS w e size u 0 ys Gy) (hw:BC ops env g=true:=by exact rfl) (Cy:look t Gv.sls=some (e,size,bytes):=by exact rfl)
 (hx:ev env x=v:=by exact rfl) (hy:ev env y=u:=by exact rfl) (kk:XS Tryz.prog ops QE n rest (Bt env d v) w) :
 XS Tryz.prog ops QE n (⟨d,.call { callee := .builtin .append,args:=#[x,y],argTypes:=#[t,t] },ty,pos,Ar,g⟩ :: rest) env w:=by
 obtain ⟨hu,i,hi,hs1,hs2⟩:=HB (AI.sl Cy)
 have hr:=Wh (ty:=ty) hu hi hO hY
 refine XS.value hw (v:=v) (w':=w) ?_ kk
 simp [execOp,resolve,Sem.run_bind,invoke,builtin,hx,hy,hr]
end
theorem NI (l:List Tk):(CO l).length=l.length*6:=by
 induction l with
 | nil=>rfl
 | cons x l ih=>rw [Hu,List.length_append,ih,List.length_cons];simp;omega
theorem bB (l:List Tk):∀ u∈CO l,u.oneCell'=true:=fun u hu=>by
 unfold CO at hu
 obtain ⟨c,hc,hu⟩:=List.mem_flatten.1 hu
 obtain ⟨x,_,rfl⟩:=List.mem_map.1 hc
 simp only [List.mem_cons,List.not_mem_nil,or_false] at hu
 rcases hu with rfl | rfl | rfl | rfl | rfl | rfl <;> rfl
theorem Q6 (rb cap:Nat) (l:List Tk) (rest:List Value) (w0:World) (hm:l.length≤32) (hc:l.length≤cap) (hl:rest.length+l.length*6=cap*6) (h:w0.heap[rb]?=some (Le l rest)) :
 AM Tryz.prog 79 #[.slice (some ⟨rb,0,none⟩) l.length cap] w0 fun v w'=>(∃ rb' cap' rest',v = .slice (some ⟨rb',0,none⟩) l.length cap'∧w'.heap[rb']?=some (Le l rest')∧l.length≤cap'∧rest'.length+l.length*6=cap'*6∧w0.heap.size≤rb')∧AA [] w0 w':=by
 have hs:=St.nil w0
 refine AQ Tryz.func79 Tryz.ntmps79 (k:=?_)
 refine Ja ?_
 refine aAq (e:=51) (by kernel_rfl) (k:=?_)
 repeat' (first|refine Aq ?_|refine Nx.h ?_|refine EJ ?_|fail)
 refine Mh AI rfl rfl hs (fun v w1 hO hne=>?_)
 rcases hO with ⟨rfl,_⟩ | ⟨g,cp,cur,rfl,fX,Ta,_,_,hs1⟩
 ·exact absurd rfl hne
 have hg:=hs1.get At.head
 have gg:=hs1.new _ List.mem_cons_self rfl
 simp only at gg
 have AJ:=hs1.AD rfl
 have hO:BS w1 51 6 (.slice (some ⟨g,0,none⟩) 0 cp) 0 [] [g] := .inr ⟨g,cp,cur,rfl,rfl,fX,Ta,rfl,rfl,hg⟩
 have hY:BS w1 51 6 (.slice (some ⟨rb,0,none⟩) l.length cap) l.length (CO l) [rb] := .inr ⟨rb,cap,CO l ++ rest,rfl,rfl,hc,by rw [List.length_append,NI];omega,NI l,by rw [← NI];exact List.take_left,AJ.block h (by simp)⟩
 clear hs
 have hs:=St.nil w1
 refine vs (k:=?_)
 by_cases h0:l.length=0
 ·obtain rfl:=List.length_eq_zero_iff.1 h0
  refine aX hO hY (kk:=?_)
  refine Jc ?_
  refine AF ?_
  have AN:=hs.AD rfl
  exact ⟨⟨g,cp,cur,rfl,AN.block hg (by simp),Nat.zero_le _,by simpa using Ta,gg⟩,AJ.trans AN⟩
 ·refine RY AI rfl rfl rfl rfl rfl rfl (bB l) hO hY om om ?_
  rintro v2 w2 ⟨G',IE,DM⟩ AN
  rw [Nat.zero_add,List.nil_append] at IE
  rcases IE with ⟨_,h1,_⟩ | ⟨g2,tR,aAQ,rfl,rfl,k1,k2,k3,k4,k5⟩
  ·exact absurd h1 h0
  clear hs
  have hs:=St.nil w2
  refine Jc ?_
  refine AF ?_
  have AS:=hs.AD rfl
  have ho:=(AJ.step AN (fun k hk => .inr (by obtain rfl:=List.mem_singleton.1 hk;exact gg))).trans AS
  refine ⟨⟨g2,tR,aAQ.drop (l.length*6),rfl,?_,k1,by rw [List.length_drop];omega,?_⟩,ho⟩
  ·rw [AS.block k5 (by simp)]
   unfold Le
   rw [← k4,List.take_append_drop]
  ·have hz:=AJ.size
   rcases DM g2 (by simp) with h | h
   ·obtain rfl:=List.mem_singleton.1 h;exact gg
   ·omega
theorem aN (tb rb:Nat) (l:List Tk) (w0:World) (h:DL w0 tb rb l):AM Tryz.prog 39 #[.pointer (some ⟨tb,0,none⟩)] w0 fun v w'=>(∃ ES rb',v = .pointer (some ⟨ES,0,none⟩)∧DL w' ES rb' l∧w0.heap.size≤ES∧w0.heap.size≤rb'∧ES≠rb')∧AA [] w0 w':=by
 obtain ⟨cap,rest,h1,h2,h3,h4,h5⟩:=h
 have hs:=(St.nil w0).AE h1
 refine AQ Tryz.func39 Tryz.ntmps39 (k:=?_)
 refine Jd ?_
 have BL:=hs.AB [] (by simp [h1]) (by simp [D0])
 refine cl (h:=by exact Q6 rb cap l rest _ h3 h4 h5 (BL.block h2 (by simp))) (k:=?_)
 rintro v w1 ⟨⟨rb',cap',rest',rfl,k1,k2,k3,k4⟩,AJ⟩
 have lr:=lt_of_block k1
 have hz:=BL.size
 clear hs
 have hs:=(St.nil w1)
 refine vs (k:=?_)
 refine bx hs (k:=?_);intro ES w2 M6 hs
 have g2:=hs.new _ List.mem_cons_self rfl
 simp only at g2
 have JO:=AJ.size
 refine Jc ?_
 refine AF ?_
 have AN:=hs.AD rfl
 exact ⟨⟨ES,rb',rfl,⟨cap',rest',hs.get At.head,AN.block k1 (by simp),h3,k2,k3⟩,by omega,by omega,by omega⟩,(BL.trans AJ).trans AN⟩
end Go.Proofs.Q0
