/- Proved: what is done to a task turns nothing on a core where it neither was nor is -/
import Derived.Test.YtjiiakjheghcoaaGreatDoorGb10
import Derived.Test.YtjiiakjheghcoaaGreatDoorRows
import Derived.JoinedOf
import Derived.Test.YtjiiakjheghcoaaGreatDoorTie
import Derived.Lib.LaidTab
import Derived.Stop.LaidErr
import Derived.MakeChecks
import Derived.LaidMore
import Derived.LaidLaws
import Derived.Test.YtjiiakjheghcoaaGreatDoorCards
import Derived.SevenTiedAt
set_option linter.unusedVariables false
set_option linter.unusedSimpArgs false
set_option maxRecDepth 100000
set_option maxHeartbeats 64000000
set_option linter.unusedSectionVars false
namespace Go.Proofs.Q0
open Go Go.RowKit
attribute [local irreducible] XS XC XA AX AO A7 A0 AZ A8 Aa AV SE
abbrev Wz (x:Int):Obj := .cells #[.int .i64 x] 3 (0,0)
theorem rQ {l:List Tk} (h:l.length≤32) (x:Tk):In64 (Eo l x):=by
 unfold Eo
 cases B0 x with
 | false=>exact (by decide:In64 0)
 | true =>
   cases e:DX l with
   | none=>exact (by decide:In64 0)
   | some i =>
     have:=LC e
     show In64 ((i:Int)+1)
     unfold In64;omega
theorem X2 (b1 b2 b3 b4 hb:Nat) (s:Sy) (core q ns:Int) (wb w0:World) (F9:In64 core) (hq:BV q) (DZ:BV ns) (hw0:AA [] wb w0) (n14:b1≠b4) (n23:b2≠b3)
 (wU:wb.heap[b1]?=some (Wz core)) (B2w:wb.heap[b2]?=some (.cells #[.int .u64 q] 22 (0,0))) (B3w:wb.heap[b3]?=some (.cells #[.int .u64 ns] 22 (0,0))) (B4w:wb.heap[b4]?=some (Wz 0)) :
 qN wb w0 51 [.pointer (some ⟨b1,0,none⟩),.pointer (some ⟨b2,0,none⟩),.pointer (some ⟨b3,0,none⟩),.pointer (some ⟨b4,0,none⟩)] [b4] (fun w=>w.heap[b4]?=some (Wz (Br ⟨s,[]⟩ core q ns).2.1)) s ((Br ⟨s,[]⟩ core q ns).1,(Br ⟨s,[]⟩ core q ns).2.2):=by
 intro hb F h hF
 have B1:=hw0.block wU (by simp)
 have B2:=hw0.block B2w (by simp)
 have B3:=hw0.block B3w (by simp)
 have B4:=hw0.block B4w (by simp)
 have l4:=lt_of_block B4w
 have zw:=hw0.size
 have Eu:=h
 have VL:=h.lt
 have QV:EC s:=by obtain ⟨_,_,_,_,_,_,_,_,_,hO⟩:=h.EB;exact hO.s.ok
 obtain ⟨sb,tb,rb,v,ve,L,G,Ge,eF,hO⟩:=h.EB
 have Yl:=hO.s.t.Rj.2
 have ZB:b4∉F:=fun hm=>by have:=hF _ hm;omega
 have hh:=hO.h
 have os:=hO.s.o
 have hs:=((((St.nil w0).AE B1).AE B2).AG B3 (by
  have:=AW B3 B1 (by decide)
  simp;exact ⟨Ne.symm n23,this⟩)).AE os |>.AE hh
 refine AQ Tryz.func51 Tryz.ntmps51 (k:=?_)
 refine Ja ?_
 refine Hj [] hs (k:=?_);clear hs;intro hX w CE hs
 refine tks 0 8 ?_
 refine tks 9 8 ?_
 refine tks 18 8 ?_
 refine dt 8 hX (k:=?_)
 refine cl (h:=by exact KK s.cf core _) (k:=?_)
 rintro v2 w2 ⟨rfl,AN⟩
 replace hs:=hs.I9 AN
 refine XS.nil ?_
 refine dn (k:=?_)
 refine dt 17 hX (k:=?_)
 refine cl (h:=by exact OO s.cf q _) (k:=?_)
 rintro v3 w3 ⟨rfl,AT⟩
 replace hs:=hs.I9 AT
 refine XS.nil ?_
 refine dn (k:=?_)
 refine dt 26 hX (k:=?_)
 refine cl (h:=by exact OS s.cf ns _) (k:=?_)
 rintro v4 w4 ⟨rfl,Ao⟩
 replace hs:=hs.I9 Ao
 refine XS.nil ?_
 refine dn (k:=?_)
 refine dt 27 hX (k:=?_)
 refine bs1 hs (k:=?_);clear hs;intro b27 w5 BK z5 hs
 refine XS.nil ?_
 refine dn (k:=?_)
 refine dt 28 hX (k:=?_)
 refine cl (h:=by exact ZA [Bx s.cf core,BC q 1048576,BC ns (Dp s.cf.slice)] _ (by simp) _ (lit_ls (n:=3) (hs.get At.head) rfl (fun x hx=>by obtain ⟨e,_,rfl⟩:=List.mem_map.1 hx;rfl) rfl).x) (k:=?_)
 rintro v6 w6 ⟨rfl,Ak⟩
 replace hs:=hs.I9 Ak
 refine XS.nil ?_
 refine dn (k:=?_)
 refine tk 29 hX (k:=?_)
 refine en (k:=?_)
 have Aw:=((((CE.trans AN).trans AT).trans Ao).trans BK).trans Ak
 have zA:=Aw.size
 rw [show Fh [Bx s.cf core,BC q 1048576,BC ns (Dp s.cf.slice)]=DA s core q ns from rfl]
 by_cases c1:DA s core q ns≠0
 ·rw [Kg (s:=⟨s,[]⟩) c1]
  generalize DA s core q ns=ee at *
  repeat' (first|refine Sa ?_|(refine AU hs (k:=?_);intro w hs)|(refine al hs (k:=?_);intro b w hz hs)|refine xc_cond rfl (fun hc=>?_) fun hc=>?_|fail)
  ·refine AF ?_
   have C1:=hs.AB [] (fun e he => .inr (.inr (hs.hold e he))) (by simp [D0])
   exact ⟨rfl,(Aw.trans C1).block B4 (by simp),fun z=>absurd z c1,(Aw.trans C1).weaken (by simp)⟩
  ·exact absurd (by simpa using hc) c1
 have nW:DA s core q ns=0:=by
  rcases Classical.em (DA s core q ns=0) with z | z
  ·exact z
  ·exact absurd z c1
 rw [nW]
 have Ia:0≤core∧core < s.cf.cores:=by
  unfold DA Fh Bx at nW
  by_cases k:core < 0∨core≥s.cf.cores
  ·rw [if_pos k] at nW;cases nW
  ·omega
 have HK:CN s.cf.cores (BZ core q ns):=⟨(by decide:In64 0),(by decide:(0:Int)≤1∧(1:Int) < 256),F9,M6 _,DZ,(by decide:In64 0),fun _=>Ia⟩
 have k1:=hs.get (b:=b1) (by repeat (first | exact At.head | (with_reducible apply At.tail)))
 have k2:=hs.get (b:=b2) (by repeat (first | exact At.head | (with_reducible apply At.tail)))
 have k3:=hs.get (b:=b3) (by repeat (first | exact At.head | (with_reducible apply At.tail)))
 have xL:=hO.only Aw
 have o6h:=xL.h
 have o6s:=xL.s.o
 clear hs
 have hs:=((((St.nil w6).AE k1).AE k2).AG k3 (by
  have:=AW k3 k1 (by decide)
  simp;exact ⟨Ne.symm n23,this⟩)).AE o6s |>.AE o6h
 have hH:=hs.hold
 repeat' (first|refine Sd ?_|(refine AU hs (k:=?_);intro w hs)|(refine al hs (k:=?_);intro b w hz hs)|fail)
 obtain ⟨b8,rfl⟩:∃ z,z=b:=⟨_,rfl⟩
 have z8:w6.heap.size≤b8:=hs.new (b8,true) (by simp) rfl
 have C1:=hs.AB [] (fun e he=>by
  rcases List.mem_cons.1 he with rfl | he
  ·exact .inl rfl
  ·exact .inr (.inr (hH e he))) (by simp [D0])
 replace hs:=hs.En
 simp only [List.map_cons,List.map_nil] at hs
 have hO7:=xL.only C1
 have Fv:b8≠rb:=by omega
 have Aj:=(Aw.trans C1).weaken (G:=F) (by simp)
 refine Hj [] hs (k:=?_);clear hs;intro hX w Ed hs
 have s9:=hO7.only Ed
 replace Aj:=Aj.step Ed (by simp)
 refine tks 0 8 ?_
 refine dt 8 hX (k:=?_)
 refine cl (h:=by exact LI tb rb s.t (BZ core q ns) _ s9.s.t) (k:=?_)
 rintro v8 w8 ⟨rfl,hT8,E3⟩
 have Hf:=s9.s.t
 obtain ⟨J9,Hw,MB,Eb,_⟩:=Hf
 replace hs:=hs.Db E3 (fun k hk=>by obtain rfl:=List.mem_singleton.1 hk;exact hs.Hg Fv Eb)
 have hO9:=s9.JD hT8 E3 (QV.rows (Ya QV.row QV.tl HK) (WW _ _))
 replace Aj:=Aj.step E3 (fun k hk => .inl (by obtain rfl:=List.mem_singleton.1 hk;rw [eF];simp [CB]))
 have B48:w8.heap[b4]?=some (Wz 0):=Aj.block B4 ZB
 refine XS.nil ?_
 refine dn (k:=?_)
 refine tks 9 5 ?_
 refine en (k:=?_)
 by_cases c2:E9 s.t (BZ core q ns)≠0
 ·rw [Ka (s:=⟨s,[]⟩) c1 c2]
  have VN:E9 (Ch.s ⟨s,[]⟩).t (BZ core q ns)≠0:=c2
  generalize E9 (Ch.s ⟨s,[]⟩).t (BZ core q ns)=ee at *
  generalize E9 s.t (BZ core q ns)=ee2 at *
  repeat' (first|refine Sa ?_|(refine st hs (k:=?_);intro w hs)|refine xc_cond rfl (fun hc=>?_) fun hc=>?_|fail)
  ·refine AF ?_
   have C1:=hs.AB [] (fun e he => .inr (.inr (hs.hold e he))) (by simp [D0])
   exact ⟨rfl,C1.block B48 (by simp),fun z=>absurd z c2,(Aj.step C1 (by simp)).weaken (by intro k hk;exact List.mem_append_left _ hk)⟩
  ·exact absurd (by simpa using hc) c2
 have VN:E9 s.t (BZ core q ns)=0:=by
  rcases Classical.em (E9 s.t (BZ core q ns)=0) with z | z
  ·exact z
  ·exact absurd z c2
 rw [NW (s:=⟨s,[]⟩) c1 c2,VN]
 have hn:=rQ QV.tl (BZ core q ns)
 have eJ:Jw ⟨s,[]⟩ core q ns=FM ⟨{ s with t:=DN s.t (BZ core q ns) },[]⟩ { BZ core q ns with id:=Eo s.t (BZ core q ns) } 0:=rfl
 have eN:Eo (Ch.s ⟨s,[]⟩).t (BZ core q ns)=Eo s.t (BZ core q ns):=rfl
 rw [eN]
 have hy2:CN s.cf.cores { BZ core q ns with id:=Eo s.t (BZ core q ns) }:=⟨hn,HK.2⟩
 generalize Jw ⟨s,[]⟩ core q ns=J at *
 generalize Eo s.t (BZ core q ns)=n at *
 have hH:=hs.hold
 have EM:=hs.get At.head
 repeat' (first|refine Sd ?_|(refine st hs (k:=?_);intro w hs)|fail)
 have J0:=hs.AB [b8] (fun e he=>by
  rcases List.mem_cons.1 he with rfl | he
  ·exact .inr (.inl (by simp))
  ·exact .inr (.inr (hH e (List.mem_cons_of_mem _ he)))) (by simp [D0])
 have aAU:=hO9.Em J0 EM Fv
 have yR:b4≠b8:=by omega
 replace Aj:=Aj.step J0 (fun k hk => .inr (by obtain rfl:=List.mem_singleton.1 hk;omega))
 have aA1:=J0.block B48 (by simpa using yR)
 refine cl (h:=by exact Nb hb ⟨{ s with t:=DN s.t (BZ core q ns) },[]⟩ _ { BZ core q ns with id:=n } 0 _ aAU.at hy2 (by decide:(1:Int)≠0) (by decide:In64 0) (by simp)) (k:=?_)
 rw [← eJ]
 rintro v11 w11 ⟨rfl,aA6,JE⟩
 have oO:=Aj.size
 have Zl:=JE.block aA1 (by rw [← eF];exact ZB)
 replace Aj:=Aj.step JE (fun k hk => .inl (by rw [eF];exact hk))
 clear hs
 have hs:=(St.nil w11).AE Zl
 by_cases c3:J.1=0
 ·rw [if_pos c3]
  have hL:=aA6 c3
  rw [c3]
  repeat' (first|refine Sd ?_|(refine st hs (k:=?_);intro w hs)|fail)
  refine AF ?_
  have Bq:=hs.AB [b4] (by simp) (by simp [D0])
  obtain ⟨F',h1,h2⟩:=hL
  refine ⟨rfl,hs.get (b:=b4) (by repeat (first | exact At.head | (with_reducible apply At.tail))),fun _=>⟨F',h1.Ae Bq (fun k hk hm=>by obtain rfl:=List.mem_singleton.1 hm;exact h1.not Zl rfl hk),fun k hk=>?_⟩,(Aj.weaken (by intro k hk;exact List.mem_append_left _ hk)).step Bq (fun k hk => .inl (List.mem_append_right _ hk))⟩
  rcases h2 k hk with q | q
  ·exact .inl (by rw [eF];exact q)
  ·exact .inr om
 ·rw [if_neg c3]
  generalize J.1=ee at *
  repeat' (first|refine Sa ?_|(refine st hs (k:=?_);intro w hs)|refine xc_cond rfl (fun hc=>?_) fun hc=>?_|fail)
  ·refine AF ?_
   have C1:=hs.AB [] (by simp [Zl]) (by simp [D0])
   exact ⟨rfl,C1.block Zl (by simp),fun z=>absurd z c3,(Aj.step C1 (by simp)).weaken (by intro k hk;exact List.mem_append_left _ hk)⟩
  ·exact absurd (by simpa using hc) c3
theorem Dt.fin {w0 w1 w2 w3:World} {sb:Nat} {F:List Nat} {ve:Value} {s:Sy} {l:Int × Ch} (T:Dt w1 sb F [] ve s l w2) (ho:AA [] w0 w1) (AT:AA [] w2 w3):Dt w0 sb F [] ve s l w3:=by
 obtain ⟨⟨G,hG⟩,⟨F',hS,hF⟩,hT⟩:=T
 have hz:=ho.size
 exact ⟨⟨G,hG.keep AT (by simp)⟩,⟨F',hS.only AT,fun k hk=>by
  rcases hF k hk with q | q
  ·exact .inl q
  ·exact .inr om⟩,((ho.weaken (by simp)).step hT (fun k hk => .inl hk)).step AT (by simp)⟩
theorem Dt.form {w0 w1:World} {sb:Nat} {F E:List Nat} {ve:Value} {s:Sy} {l:Int × Ch} (T:Dt w0 sb F E ve s l w1):∃ a c,ve = .slice a (FG s l).1.length c:=by
 obtain ⟨⟨G,hG⟩,_⟩:=T
 exact BO hG
theorem dA (sb:Nat) (s:Sy) (F:List Nat) (id:Int) (w0:World) (h:CS w0 sb s F) (hid:In64 id) :
 AM Tryz.prog 32 #[.pointer (some ⟨sb,0,none⟩),.int .i64 id] w0 fun v w'=>∃ ve,v = .tuple #[ve,.int .i64 (CJ ⟨s,[]⟩ id (fun s x=>Gc s x id)).1]∧Dt w0 sb F [] ve s (CJ ⟨s,[]⟩ id (fun s x=>Gc s x id)) w':=by
 have hs:=St.nil w0
 refine AQ Tryz.func32 Tryz.ntmps32 (k:=?_)
 refine Ag ?_
 refine Al ?_
 refine Gd hs (k:=?_);clear hs;intro b3 w3 AT z3 hs
 refine Ja ?_
 have k3:=hs.get (b:=b3) (by repeat (first | exact At.head | (with_reducible apply At.tail)))
 have B8:=AT
 refine cl (h:=by exact I1 sb s F id 65 [.pointer (some ⟨b3,0,none⟩)] (fun s x=>Gc s x id) _ (h.only B8) hid (fun wb w h1 h2=>Pg.of fun hb F' hC he hx hn=>fD b3 hb s F' (BF s.t id) id w hC hid ((h1.trans h2).block k3 (by simp)) hx hn)) (k:=?_)
 rintro v w9 ⟨ve,rfl,T⟩
 obtain ⟨ae,ce,rfl⟩:=T.form
 clear hs
 have hs:=St.nil w9
 refine Jc ?_
 refine AF ?_
 exact ⟨_,rfl,T.fin B8 (hs.AD rfl)⟩
theorem R8 (sb:Nat) (s:Sy) (F:List Nat) (id:Int) (w0:World) (h:CS w0 sb s F) (hid:In64 id) :
 AM Tryz.prog 33 #[.pointer (some ⟨sb,0,none⟩),.int .i64 id] w0 fun v w'=>∃ ve,v = .tuple #[ve,.int .i64 (CJ ⟨s,[]⟩ id (fun s x=>HE s x id)).1]∧Dt w0 sb F [] ve s (CJ ⟨s,[]⟩ id (fun s x=>HE s x id)) w':=by
 have hs:=St.nil w0
 refine AQ Tryz.func33 Tryz.ntmps33 (k:=?_)
 refine Ag ?_
 refine Al ?_
 refine Gd hs (k:=?_);clear hs;intro b3 w3 AT z3 hs
 refine Ja ?_
 have k3:=hs.get (b:=b3) (by repeat (first | exact At.head | (with_reducible apply At.tail)))
 have B8:=AT
 refine cl (h:=by exact I1 sb s F id 68 [.pointer (some ⟨b3,0,none⟩)] (fun s x=>HE s x id) _ (h.only B8) hid (fun wb w h1 h2=>Pg.of fun hb F' hC he hx hn=>Xm b3 hb s F' (BF s.t id) id w hC hid ((h1.trans h2).block k3 (by simp)) hx hn)) (k:=?_)
 rintro v w9 ⟨ve,rfl,T⟩
 obtain ⟨ae,ce,rfl⟩:=T.form
 clear hs
 have hs:=St.nil w9
 refine Jc ?_
 refine AF ?_
 exact ⟨_,rfl,T.fin B8 (hs.AD rfl)⟩
theorem T2 (sb:Nat) (s:Sy) (F:List Nat) (id:Int) (w0:World) (h:CS w0 sb s F) (hid:In64 id) :
 AM Tryz.prog 34 #[.pointer (some ⟨sb,0,none⟩),.int .i64 id] w0 fun v w'=>∃ ve,v = .tuple #[ve,.int .i64 (CJ ⟨s,[]⟩ id (fun s x=>FC s x id)).1]∧Dt w0 sb F [] ve s (CJ ⟨s,[]⟩ id (fun s x=>FC s x id)) w':=by
 have hs:=St.nil w0
 refine AQ Tryz.func34 Tryz.ntmps34 (k:=?_)
 refine Ag ?_
 refine Al ?_
 refine Gd hs (k:=?_);clear hs;intro b3 w3 AT z3 hs
 refine Ja ?_
 have k3:=hs.get (b:=b3) (by repeat (first | exact At.head | (with_reducible apply At.tail)))
 have B8:=AT
 refine cl (h:=by exact I1 sb s F id 72 [.pointer (some ⟨b3,0,none⟩)] (fun s x=>FC s x id) _ (h.only B8) hid (fun wb w h1 h2=>Pg.of fun hb F' hC he hx hn=>Zy b3 hb s F' (BF s.t id) id w hC hid ((h1.trans h2).block k3 (by simp)) hx hn)) (k:=?_)
 rintro v w9 ⟨ve,rfl,T⟩
 obtain ⟨ae,ce,rfl⟩:=T.form
 clear hs
 have hs:=St.nil w9
 refine Jc ?_
 refine AF ?_
 exact ⟨_,rfl,T.fin B8 (hs.AD rfl)⟩
theorem Xr (sb:Nat) (s:Sy) (F:List Nat) (id q:Int) (w0:World) (h:CS w0 sb s F) (hid:In64 id) :
 AM Tryz.prog 35 #[.pointer (some ⟨sb,0,none⟩),.int .i64 id,.int .u64 q] w0 fun v w'=>∃ ve,v = .tuple #[ve,.int .i64 (CJ ⟨s,[]⟩ id (fun s x=>Dl s x id q)).1]∧Dt w0 sb F [] ve s (CJ ⟨s,[]⟩ id (fun s x=>Dl s x id q)) w':=by
 have hs:=St.nil w0
 refine AQ Tryz.func35 Tryz.ntmps35 (k:=?_)
 refine Ag ?_
 refine Al ?_
 refine Gd hs (k:=?_);clear hs;intro b4 w4 Ao z4 hs
 refine Gd hs (k:=?_);clear hs;intro b5 w5 BK z5 hs
 refine Ja ?_
 have k4:=hs.get (b:=b4) (by repeat (first | exact At.head | (with_reducible apply At.tail)))
 have k5:=hs.get (b:=b5) (by repeat (first | exact At.head | (with_reducible apply At.tail)))
 have B8:=(Ao.trans BK)
 refine cl (h:=by exact I1 sb s F id 74 [.pointer (some ⟨b5,0,none⟩),.pointer (some ⟨b4,0,none⟩)] (fun s x=>Dl s x id q) _ (h.only B8) hid (fun wb w h1 h2=>Pg.of fun hb F' hC he hx hn=>XV b5 b4 hb s F' (BF s.t id) id q w hC hid ((h1.trans h2).block k5 (by simp)) ((h1.trans h2).block k4 (by simp)) hx hn)) (k:=?_)
 rintro v w9 ⟨ve,rfl,T⟩
 obtain ⟨ae,ce,rfl⟩:=T.form
 clear hs
 have hs:=St.nil w9
 refine Jc ?_
 refine AF ?_
 exact ⟨_,rfl,T.fin B8 (hs.AD rfl)⟩
theorem Z7 (sb:Nat) (s:Sy) (F:List Nat) (id q:Int) (w0:World) (h:CS w0 sb s F) (hid:In64 id) (hq:BV q) :
 AM Tryz.prog 36 #[.pointer (some ⟨sb,0,none⟩),.int .i64 id,.int .u64 q] w0 fun v w'=>∃ ve,v = .tuple #[ve,.int .i64 (CJ ⟨s,[]⟩ id (fun s x=>EY s x id q)).1]∧Dt w0 sb F [] ve s (CJ ⟨s,[]⟩ id (fun s x=>EY s x id q)) w':=by
 have hs:=St.nil w0
 refine AQ Tryz.func36 Tryz.ntmps36 (k:=?_)
 refine Ag ?_
 refine Al ?_
 refine Gd hs (k:=?_);clear hs;intro b4 w4 Ao z4 hs
 refine Gd hs (k:=?_);clear hs;intro b5 w5 BK z5 hs
 refine Ja ?_
 have k4:=hs.get (b:=b4) (by repeat (first | exact At.head | (with_reducible apply At.tail)))
 have k5:=hs.get (b:=b5) (by repeat (first | exact At.head | (with_reducible apply At.tail)))
 have B8:=(Ao.trans BK)
 refine cl (h:=by exact I1 sb s F id 76 [.pointer (some ⟨b5,0,none⟩),.pointer (some ⟨b4,0,none⟩)] (fun s x=>EY s x id q) _ (h.only B8) hid (fun wb w h1 h2=>Pg.of fun hb F' hC he hx hn=>Xa b5 b4 hb s F' (BF s.t id) id q w hC hid hq ((h1.trans h2).block k5 (by simp)) ((h1.trans h2).block k4 (by simp)) hx hn)) (k:=?_)
 rintro v w9 ⟨ve,rfl,T⟩
 obtain ⟨ae,ce,rfl⟩:=T.form
 clear hs
 have hs:=St.nil w9
 refine Jc ?_
 refine AF ?_
 exact ⟨_,rfl,T.fin B8 (hs.AD rfl)⟩
theorem XN (sb:Nat) (s:Sy) (F:List Nat) (id core:Int) (w0:World) (h:CS w0 sb s F) (hid:In64 id) (F9:In64 core) :
 AM Tryz.prog 37 #[.pointer (some ⟨sb,0,none⟩),.int .i64 id,.int .i64 core] w0 fun v w'=>∃ ve,v = .tuple #[ve,.int .i64 (CJ ⟨s,[]⟩ id (fun s x=>Cg s x core)).1]∧Dt w0 sb F [] ve s (CJ ⟨s,[]⟩ id (fun s x=>Cg s x core)) w':=by
 have hs:=St.nil w0
 refine AQ Tryz.func37 Tryz.ntmps37 (k:=?_)
 refine Ag ?_
 refine Al ?_
 refine Gd hs (k:=?_);clear hs;intro b5 w5 BK z5 hs
 refine Ja ?_
 have k5:=hs.get (b:=b5) (by repeat (first | exact At.head | (with_reducible apply At.tail)))
 have B8:=BK
 refine cl (h:=by exact I1 sb s F id 78 [.pointer (some ⟨b5,0,none⟩)] (fun s x=>Cg s x core) _ (h.only B8) hid (fun wb w h1 h2=>Pg.of fun hb F' hC he hx hn=>dZ b5 hb s F' (BF s.t id) core w hC F9 ((h1.trans h2).block k5 (by simp)) hx hn)) (k:=?_)
 rintro v w9 ⟨ve,rfl,T⟩
 obtain ⟨ae,ce,rfl⟩:=T.form
 clear hs
 have hs:=St.nil w9
 refine Jc ?_
 refine AF ?_
 exact ⟨_,rfl,T.fin B8 (hs.AD rfl)⟩
theorem Nj (sb:Nat) (s:Sy) (F:List Nat) (ns:Int) (w0:World) (h:CS w0 sb s F) (DZ:BV ns) (hbd:ns≤1099511627776→∀ k:Nat,k < s.k.length→(Aq (AS s k) ns).2.2.p.length≤1000000) :
 AM Tryz.prog 27 #[.pointer (some ⟨sb,0,none⟩),.int .u64 ns] w0 fun v w'=>∃ ve,v = .tuple #[ve,.int .i64 (GF ⟨s,[]⟩ ns).1]∧Dt w0 sb F [] ve s (GF ⟨s,[]⟩ ns) w':=by
 have hs:=St.nil w0
 refine AQ Tryz.func27 Tryz.ntmps27 (k:=?_)
 refine Ag ?_
 refine Al ?_
 refine Gd hs (k:=?_);clear hs;intro b3 w3 AT z3 hs
 refine Ja ?_
 have k3:=hs.get (b:=b3) (by repeat (first | exact At.head | (with_reducible apply At.tail)))
 refine cl (h:=by exact Qk sb s F _ (h.only AT) 57 [.pointer (some ⟨b3,0,none⟩)] [] (fun _=>True) (GF ⟨s,[]⟩ ns) (fun _ _ _ _ _ _=>trivial) (by simp) (fun w hw hb F' hC CV=>Zn b3 hb s ns _ w DZ hw k3 hbd hb F' hC CV)) (k:=?_)
 rintro v w9 ⟨ve,rfl,_,T⟩
 obtain ⟨ae,ce,rfl⟩:=T.form
 clear hs
 have hs:=St.nil w9
 refine Jc ?_
 refine AF ?_
 exact ⟨_,rfl,T.fin AT (hs.AD rfl)⟩
theorem K7 (sb:Nat) (s:Sy) (F:List Nat) (core q ns:Int) (w0:World) (h:CS w0 sb s F) (F9:In64 core) (hq:BV q) (DZ:BV ns) :
 AM Tryz.prog 26 #[.pointer (some ⟨sb,0,none⟩),.int .i64 core,.int .u64 q,.int .u64 ns] w0 fun v w'=>∃ ve,v = .tuple #[.int .i64 (Br ⟨s,[]⟩ core q ns).2.1,ve,.int .i64 (Br ⟨s,[]⟩ core q ns).1]∧Dt w0 sb F [] ve s ((Br ⟨s,[]⟩ core q ns).1,(Br ⟨s,[]⟩ core q ns).2.2) w':=by
 have VL:=h.lt
 have hs:=St.nil w0
 refine AQ Tryz.func26 Tryz.ntmps26 (k:=?_)
 refine Ag ?_
 refine Al ?_
 refine Gd hs (k:=?_);clear hs;intro b5 w5 BK z5 hs
 refine Gd hs (k:=?_);clear hs;intro b6 w6 Ak z6 hs
 refine Gd hs (k:=?_);clear hs;intro b7 w7 C1 z7 hs
 iterate 3 refine vs (k:=?_)
 refine XS.nil ?_
 refine Dw ?_
 refine Ag ?_
 refine Al ?_
 refine FF hs (k:=?_);clear hs;intro IV w8 E3 z8 hs
 refine fK hs (k:=?_);clear hs;intro w9 MO hs
 refine Ja ?_
 have k5:=hs.get (b:=b5) (by repeat (first | exact At.head | (with_reducible apply At.tail)))
 have k6:=hs.get (b:=b6) (by repeat (first | exact At.head | (with_reducible apply At.tail)))
 have k7:=hs.get (b:=b7) (by repeat (first | exact At.head | (with_reducible apply At.tail)))
 have oG:=hs.get (b:=IV) (by repeat (first | exact At.head | (with_reducible apply At.tail)))
 have e5:=BK.size
 have e6:=Ak.size
 have e7:=C1.size
 have e8:=E3.size
 have l5:=lt_of_block k5
 have Aw:AA [] w0 w9:=(((BK.trans Ak).trans C1).trans E3).step MO (fun k hk => .inr (by obtain rfl:=List.mem_singleton.1 hk;simp at *;omega))
 have n57:b5≠IV:=by
  have:=hs.nd
  simp only [List.map_cons,List.map_nil,List.nodup_cons,List.mem_cons,not_or] at this
  exact fun e=>this.1.2.2.1 e.symm
 have n67:b6≠b7:=by
  have:=hs.nd
  simp only [List.map_cons,List.map_nil,List.nodup_cons,List.mem_cons,not_or] at this
  exact fun e=>this.2.1.1 e.symm
 refine cl (h:=by exact Qk sb s F _ (h.only Aw) 51 [.pointer (some ⟨b5,0,none⟩),.pointer (some ⟨b6,0,none⟩),.pointer (some ⟨b7,0,none⟩),.pointer (some ⟨IV,0,none⟩)] [IV] (fun w=>w.heap[IV]?=some (Wz (Br ⟨s,[]⟩ core q ns).2.1)) ((Br ⟨s,[]⟩ core q ns).1,(Br ⟨s,[]⟩ core q ns).2.2) (fun w w' G hq ho hG=>ho.block hq (hG _ (by simp))) (fun k hk=>by obtain rfl:=List.mem_singleton.1 hk;exact ⟨fun hm=>by have:=VL _ hm;simp at *;omega,lt_of_block oG⟩) (fun w hw hb F' hC CV=>X2 b5 b6 b7 IV hb s core q ns _ w F9 hq DZ hw n57 n67 k5 k6 k7 oG hb F' hC CV)) (k:=?_)
 rintro v dS ⟨ve,rfl,hQ,T⟩
 obtain ⟨ae,ce,rfl⟩:=T.form
 clear hs
 have hs:=(St.nil dS).AE hQ
 obtain ⟨⟨Gt,nZ⟩,⟨F',wG,CV⟩,Va⟩:=T
 refine Ja ?_
 refine AF ?_
 have JE:=hs.AB [] (by simp [hQ]) (by simp [D0])
 have zA:=Aw.size
 refine ⟨_,rfl,⟨Gt,nZ.keep JE (by simp)⟩,⟨F',wG.only JE,fun k hk=>?_⟩,((Aw.weaken (by simp)).step Va (fun k hk=>?_)).step JE (by simp)⟩
 ·rcases CV k hk with z | z
  ·exact .inl z
  ·exact .inr om
 ·simp only [List.mem_cons,List.not_mem_nil,or_false] at hk
  rcases hk with rfl | rfl
  ·exact .inl (by simp)
  ·exact .inr (by simp at *;omega)
abbrev aBL (a:C2):Value := .agg #[.int .u8 a.d,.int .i64 a.id,.int .i64 a.core,.int .u64 a.w,.int .u64 a.ns]
def lM (s:Sy) (a:C2):Prop:=9 < a.d % 12→a.ns≤1099511627776→∀ k:Nat,k < s.k.length→(Aq (AS s k) a.ns).2.2.p.length≤1000000
theorem fE (sb:Nat) (s:Sy) (F:List Nat) (a:C2) (ha:a.In) (w0:World) (h:CS w0 sb s F) (hfew:lM s a) :
 AM Tryz.prog 11 #[.pointer (some ⟨sb,0,none⟩),aBL a] w0 fun v w'=>∃ ve,v = .tuple #[.int .i64 (JV s a),ve,.int .i64 (D9 s a).1]∧Dt w0 sb F [] ve s (D9 s a) w':=by
 have hs:=St.nil w0
 obtain ⟨d0,hid,F9,hw,DZ⟩:=ha
 refine AQ Tryz.func11 Tryz.ntmps11 (k:=?_)
 refine Ag ?_
 refine Al ?_
 refine Gd hs (k:=?_);clear hs;intro b3 w1 AJ z1 hs
 refine Ja ?_
 refine aD (b:=12) d0.1 (by decide) (k:=?_)
 have aBe:0≤a.d % 12∧a.d % 12 < 12:=by omega
 by_cases k0:a.d % 12=0
 ·rw [k0]
  have eD:D9 s a=((Br ⟨s,[]⟩ a.core a.w a.ns).1,(Br ⟨s,[]⟩ a.core a.w a.ns).2.2):=by unfold D9;rw [if_pos (show a.d % 12 < 2 by omega)]
  have eI:JV s a=(Br ⟨s,[]⟩ a.core a.w a.ns).2.1:=if_pos (show a.d % 12 < 2 by omega)
  rw [eD,eI]
  refine Je ?_
  have ho:=AJ.trans (hs.AB [] (fun e he => .inr (.inr (hs.hold e he))) (by simp [D0]))
  refine cl (h:=by exact K7 sb s F a.core a.w a.ns _ (h.only ho) F9 hw DZ) (k:=?_)
  rintro v w5 ⟨ve,rfl,T⟩
  obtain ⟨ae,ce,rfl⟩:=T.form
  clear hs
  have hs:=St.nil w5
  refine Jc ?_
  refine AF ?_
  exact ⟨_,rfl,T.fin ho (hs.AD rfl)⟩
 by_cases k1:a.d % 12=1
 ·rw [k1]
  have eD:D9 s a=((Br ⟨s,[]⟩ a.core a.w a.ns).1,(Br ⟨s,[]⟩ a.core a.w a.ns).2.2):=by unfold D9;rw [if_pos (show a.d % 12 < 2 by omega)]
  have eI:JV s a=(Br ⟨s,[]⟩ a.core a.w a.ns).2.1:=if_pos (show a.d % 12 < 2 by omega)
  rw [eD,eI]
  repeat' (first|refine vs (k:=?_)|refine Al ?_|refine Nx.h ?_|refine Ew ?_|refine ES ?_|fail)
  have ho:=AJ.trans (hs.AB [] (fun e he => .inr (.inr (hs.hold e he))) (by simp [D0]))
  refine cl (h:=by exact K7 sb s F a.core a.w a.ns _ (h.only ho) F9 hw DZ) (k:=?_)
  rintro v w5 ⟨ve,rfl,T⟩
  obtain ⟨ae,ce,rfl⟩:=T.form
  clear hs
  have hs:=St.nil w5
  refine Jc ?_
  refine AF ?_
  exact ⟨_,rfl,T.fin ho (hs.AD rfl)⟩
 by_cases k2:a.d % 12=2
 ·rw [k2]
  have eD:D9 s a=CJ ⟨s,[]⟩ a.id fun s x=>Gc s x a.id:=by unfold D9;rw [if_neg (show ¬ a.d % 12 < 2 by omega),if_pos (show a.d % 12=2 by omega)]
  have eI:JV s a=0:=if_neg (show ¬ a.d % 12 < 2 by omega)
  rw [eD,eI]
  repeat' (first|refine vs (k:=?_)|refine Al ?_|refine Nx.h ?_|refine Ew ?_|refine ES ?_|fail)
  have ho:=AJ.trans (hs.AB [] (fun e he => .inr (.inr (hs.hold e he))) (by simp [D0]))
  refine cl (h:=by exact dA sb s F a.id _ (h.only ho) hid) (k:=?_)
  rintro v w5 ⟨ve,rfl,T⟩
  obtain ⟨ae,ce,rfl⟩:=T.form
  clear hs
  have hs:=St.nil w5
  refine Ja ?_
  refine AF ?_
  exact ⟨_,rfl,T.fin ho (hs.AD rfl)⟩
 by_cases k3:a.d % 12=3
 ·rw [k3]
  have eD:D9 s a=CJ ⟨s,[]⟩ a.id fun s x=>HE s x a.id:=by unfold D9;rw [if_neg (show ¬ a.d % 12 < 2 by omega),if_neg (show ¬ a.d % 12=2 by omega),if_pos (show a.d % 12 < 5 by omega)]
  have eI:JV s a=0:=if_neg (show ¬ a.d % 12 < 2 by omega)
  rw [eD,eI]
  repeat' (first|refine vs (k:=?_)|refine Al ?_|refine Nx.h ?_|refine Ew ?_|refine ES ?_|fail)
  have ho:=AJ.trans (hs.AB [] (fun e he => .inr (.inr (hs.hold e he))) (by simp [D0]))
  refine cl (h:=by exact R8 sb s F a.id _ (h.only ho) hid) (k:=?_)
  rintro v w5 ⟨ve,rfl,T⟩
  obtain ⟨ae,ce,rfl⟩:=T.form
  clear hs
  have hs:=St.nil w5
  refine Ja ?_
  refine AF ?_
  exact ⟨_,rfl,T.fin ho (hs.AD rfl)⟩
 by_cases k4:a.d % 12=4
 ·rw [k4]
  have eD:D9 s a=CJ ⟨s,[]⟩ a.id fun s x=>HE s x a.id:=by unfold D9;rw [if_neg (show ¬ a.d % 12 < 2 by omega),if_neg (show ¬ a.d % 12=2 by omega),if_pos (show a.d % 12 < 5 by omega)]
  have eI:JV s a=0:=if_neg (show ¬ a.d % 12 < 2 by omega)
  rw [eD,eI]
  repeat' (first|refine vs (k:=?_)|refine Al ?_|refine Nx.h ?_|refine Ew ?_|refine ES ?_|fail)
  have ho:=AJ.trans (hs.AB [] (fun e he => .inr (.inr (hs.hold e he))) (by simp [D0]))
  refine cl (h:=by exact R8 sb s F a.id _ (h.only ho) hid) (k:=?_)
  rintro v w5 ⟨ve,rfl,T⟩
  obtain ⟨ae,ce,rfl⟩:=T.form
  clear hs
  have hs:=St.nil w5
  refine Ja ?_
  refine AF ?_
  exact ⟨_,rfl,T.fin ho (hs.AD rfl)⟩
 by_cases k5:a.d % 12=5
 ·rw [k5]
  have eD:D9 s a=CJ ⟨s,[]⟩ a.id fun s x=>FC s x a.id:=by unfold D9;rw [if_neg (show ¬ a.d % 12 < 2 by omega),if_neg (show ¬ a.d % 12=2 by omega),if_neg (show ¬ a.d % 12 < 5 by omega),if_pos (show a.d % 12 < 7 by omega)]
  have eI:JV s a=0:=if_neg (show ¬ a.d % 12 < 2 by omega)
  rw [eD,eI]
  repeat' (first|refine vs (k:=?_)|refine Al ?_|refine Nx.h ?_|refine Ew ?_|refine ES ?_|fail)
  have ho:=AJ.trans (hs.AB [] (fun e he => .inr (.inr (hs.hold e he))) (by simp [D0]))
  refine cl (h:=by exact T2 sb s F a.id _ (h.only ho) hid) (k:=?_)
  rintro v w5 ⟨ve,rfl,T⟩
  obtain ⟨ae,ce,rfl⟩:=T.form
  clear hs
  have hs:=St.nil w5
  refine Ja ?_
  refine AF ?_
  exact ⟨_,rfl,T.fin ho (hs.AD rfl)⟩
 by_cases k6:a.d % 12=6
 ·rw [k6]
  have eD:D9 s a=CJ ⟨s,[]⟩ a.id fun s x=>FC s x a.id:=by unfold D9;rw [if_neg (show ¬ a.d % 12 < 2 by omega),if_neg (show ¬ a.d % 12=2 by omega),if_neg (show ¬ a.d % 12 < 5 by omega),if_pos (show a.d % 12 < 7 by omega)]
  have eI:JV s a=0:=if_neg (show ¬ a.d % 12 < 2 by omega)
  rw [eD,eI]
  repeat' (first|refine vs (k:=?_)|refine Al ?_|refine Nx.h ?_|refine Ew ?_|refine ES ?_|fail)
  have ho:=AJ.trans (hs.AB [] (fun e he => .inr (.inr (hs.hold e he))) (by simp [D0]))
  refine cl (h:=by exact T2 sb s F a.id _ (h.only ho) hid) (k:=?_)
  rintro v w5 ⟨ve,rfl,T⟩
  obtain ⟨ae,ce,rfl⟩:=T.form
  clear hs
  have hs:=St.nil w5
  refine Ja ?_
  refine AF ?_
  exact ⟨_,rfl,T.fin ho (hs.AD rfl)⟩
 by_cases k7:a.d % 12=7
 ·rw [k7]
  have eD:D9 s a=CJ ⟨s,[]⟩ a.id fun s x=>Dl s x a.id a.w:=by unfold D9;rw [if_neg (show ¬ a.d % 12 < 2 by omega),if_neg (show ¬ a.d % 12=2 by omega),if_neg (show ¬ a.d % 12 < 5 by omega),if_neg (show ¬ a.d % 12 < 7 by omega),if_pos (show a.d % 12=7 by omega)]
  have eI:JV s a=0:=if_neg (show ¬ a.d % 12 < 2 by omega)
  rw [eD,eI]
  repeat' (first|refine vs (k:=?_)|refine Al ?_|refine Nx.h ?_|refine Ew ?_|refine ES ?_|fail)
  have ho:=AJ.trans (hs.AB [] (fun e he => .inr (.inr (hs.hold e he))) (by simp [D0]))
  refine cl (h:=by exact Xr sb s F a.id a.w _ (h.only ho) hid) (k:=?_)
  rintro v w5 ⟨ve,rfl,T⟩
  obtain ⟨ae,ce,rfl⟩:=T.form
  clear hs
  have hs:=St.nil w5
  refine Ja ?_
  refine AF ?_
  exact ⟨_,rfl,T.fin ho (hs.AD rfl)⟩
 by_cases k8:a.d % 12=8
 ·rw [k8]
  have eD:D9 s a=CJ ⟨s,[]⟩ a.id fun s x=>EY s x a.id a.ns:=by unfold D9;rw [if_neg (show ¬ a.d % 12 < 2 by omega),if_neg (show ¬ a.d % 12=2 by omega),if_neg (show ¬ a.d % 12 < 5 by omega),if_neg (show ¬ a.d % 12 < 7 by omega),if_neg (show ¬ a.d % 12=7 by omega),if_pos (show a.d % 12=8 by omega)]
  have eI:JV s a=0:=if_neg (show ¬ a.d % 12 < 2 by omega)
  rw [eD,eI]
  repeat' (first|refine vs (k:=?_)|refine Al ?_|refine Nx.h ?_|refine Ew ?_|refine ES ?_|fail)
  have ho:=AJ.trans (hs.AB [] (fun e he => .inr (.inr (hs.hold e he))) (by simp [D0]))
  refine cl (h:=by exact Z7 sb s F a.id a.ns _ (h.only ho) hid DZ) (k:=?_)
  rintro v w5 ⟨ve,rfl,T⟩
  obtain ⟨ae,ce,rfl⟩:=T.form
  clear hs
  have hs:=St.nil w5
  refine Ja ?_
  refine AF ?_
  exact ⟨_,rfl,T.fin ho (hs.AD rfl)⟩
 by_cases k9:a.d % 12=9
 ·rw [k9]
  have eD:D9 s a=CJ ⟨s,[]⟩ a.id fun s x=>Cg s x a.core:=by unfold D9;rw [if_neg (show ¬ a.d % 12 < 2 by omega),if_neg (show ¬ a.d % 12=2 by omega),if_neg (show ¬ a.d % 12 < 5 by omega),if_neg (show ¬ a.d % 12 < 7 by omega),if_neg (show ¬ a.d % 12=7 by omega),if_neg (show ¬ a.d % 12=8 by omega),if_pos (show a.d % 12=9 by omega)]
  have eI:JV s a=0:=if_neg (show ¬ a.d % 12 < 2 by omega)
  rw [eD,eI]
  repeat' (first|refine vs (k:=?_)|refine Al ?_|refine Nx.h ?_|refine Ew ?_|refine ES ?_|fail)
  have ho:=AJ.trans (hs.AB [] (fun e he => .inr (.inr (hs.hold e he))) (by simp [D0]))
  refine cl (h:=by exact XN sb s F a.id a.core _ (h.only ho) hid F9) (k:=?_)
  rintro v w5 ⟨ve,rfl,T⟩
  obtain ⟨ae,ce,rfl⟩:=T.form
  clear hs
  have hs:=St.nil w5
  refine Ja ?_
  refine AF ?_
  exact ⟨_,rfl,T.fin ho (hs.AD rfl)⟩
 by_cases oM:a.d % 12=10
 ·rw [oM]
  have eD:D9 s a=GF ⟨s,[]⟩ a.ns:=by unfold D9;rw [if_neg (show ¬ a.d % 12 < 2 by omega),if_neg (show ¬ a.d % 12=2 by omega),if_neg (show ¬ a.d % 12 < 5 by omega),if_neg (show ¬ a.d % 12 < 7 by omega),if_neg (show ¬ a.d % 12=7 by omega),if_neg (show ¬ a.d % 12=8 by omega),if_neg (show ¬ a.d % 12=9 by omega)]
  have eI:JV s a=0:=if_neg (show ¬ a.d % 12 < 2 by omega)
  rw [eD,eI]
  refine Jd ?_
  have ho:=AJ.trans (hs.AB [] (fun e he => .inr (.inr (hs.hold e he))) (by simp [D0]))
  refine cl (h:=by exact Nj sb s F a.ns _ (h.only ho) DZ (hfew om)) (k:=?_)
  rintro v w5 ⟨ve,rfl,T⟩
  obtain ⟨ae,ce,rfl⟩:=T.form
  clear hs
  have hs:=St.nil w5
  refine Ja ?_
  refine AF ?_
  exact ⟨_,rfl,T.fin ho (hs.AD rfl)⟩
 by_cases oG:a.d % 12=11
 ·rw [oG]
  have eD:D9 s a=GF ⟨s,[]⟩ a.ns:=by unfold D9;rw [if_neg (show ¬ a.d % 12 < 2 by omega),if_neg (show ¬ a.d % 12=2 by omega),if_neg (show ¬ a.d % 12 < 5 by omega),if_neg (show ¬ a.d % 12 < 7 by omega),if_neg (show ¬ a.d % 12=7 by omega),if_neg (show ¬ a.d % 12=8 by omega),if_neg (show ¬ a.d % 12=9 by omega)]
  have eI:JV s a=0:=if_neg (show ¬ a.d % 12 < 2 by omega)
  rw [eD,eI]
  refine Jd ?_
  have ho:=AJ.trans (hs.AB [] (fun e he => .inr (.inr (hs.hold e he))) (by simp [D0]))
  refine cl (h:=by exact Nj sb s F a.ns _ (h.only ho) DZ (hfew om)) (k:=?_)
  rintro v w5 ⟨ve,rfl,T⟩
  obtain ⟨ae,ce,rfl⟩:=T.form
  clear hs
  have hs:=St.nil w5
  refine Ja ?_
  refine AF ?_
  exact ⟨_,rfl,T.fin ho (hs.AD rfl)⟩
 omega
theorem aJ (p q:Ev):(By (.int .i64 p.core) (.int .i64 q.core) && (By (.int .i64 p.id) (.int .i64 q.id) && (By (.int .u64 p.ns) (.int .u64 q.ns) && (By (.bool p.done) (.bool q.done) && By (.bool p.gone) (.bool q.gone)))))=decide (p=q):=by
 obtain ⟨a,b,c,d,e⟩:=p
 obtain ⟨a',b',c',d',e'⟩:=q
 show ((a == a') && ((b == b') && ((c == c') && ((d == d') && (e == e')))))=_
 rw [Bool.eq_iff_iff]
 simp
theorem lQ (va vb:Value) (A B:List Ev) (hm:A.length≤9223372036854775807) (w0:World) (hA:Cn w0 41 5 va (A.map Ev.cells)) (hB:Cn w0 41 5 vb (B.map Ev.cells)) :
 AM Tryz.prog 22 #[va,vb] w0 fun v w'=>v = .bool (decide (A=B))∧AA [] w0 w':=by
 obtain ⟨SD,ca,rfl,hA⟩:=hA
 obtain ⟨SU,cb,rfl,hB⟩:=hB
 rw [List.length_map] at *
 rw [List.length_map] at *
 have hs:=St.nil w0
 refine AQ Tryz.func22 Tryz.ntmps22 (k:=?_)
 repeat' (first|refine Sa ?_|refine xc_cond rfl (fun hc=>?_) fun hc=>?_|fail)
 ·refine AF ?_
  refine ⟨congrArg Value.bool ?_,hs.AD rfl⟩
  have hne:A≠B:=fun e=>by subst e;simp at hc
  exact (decide_eq_false hne).symm
 ·have IX:A.length=B.length:=by
   have h:((A.length:Nat):Int)=B.length:=by simpa using hc
   omega
  refine BN (fun _:Unit=>[]) (fun _ w=>A=B∧AA [] w0 w) ?_ ?_
  ·refine BD (fun (i:Nat)=>[(0,.slice SD A.length ca),(1,.slice SU B.length cb),(12,.int .i64 (A.length:Nat)),(13,.int .i64 (i:Nat))])
    (fun i w=>i≤A.length∧A.take i=B.take i∧AA [] w0 w)
    (fun i=>A.length - i) 0 Ab ⟨Nat.zero_le _,by simp,hs.AD rfl⟩ fun i env w ⟨hi,ht,ho⟩=>?_
   clear hs
   have hs:=St.nil w
   repeat' (first|refine Sa ?_|refine Au rfl (fun hc=>?_) fun hc=>?_|fail)
   ·have hlt:i < A.length:=by omega
    have IA:i < B.length:=by omega
    obtain ⟨ba,oa,gJ,fa,rfl,a2,a3,a4⟩:=hA (fun h=>by have:=congrArg List.length h;rw [List.length_map,List.length_nil] at this;omega)
    obtain ⟨bb,ob,fH,fb,rfl,b2,b3,b4⟩:=hB (fun h=>by have:=congrArg List.length h;rw [List.length_map,List.length_nil] at this;omega)
    have ga:=a4 i _ (by rw [List.getElem?_map,List.getElem?_eq_getElem hlt];rfl)
    have gb:=b4 i _ (by rw [List.getElem?_map,List.getElem?_eq_getElem IA];rfl)
    have a3:=ho.block a3 (by simp)
    have b3:=ho.block b3 (by simp)
    have key:A[i]=B[i]→A.take (i+1)=B.take (i+1):=fun he=>by rw [List.take_add_one,List.take_add_one,ht,List.getElem?_eq_getElem hlt,List.getElem?_eq_getElem IA,he]
    have Ij:A[i]≠B[i]→A≠B:=fun h e=>h (by subst e;rfl)
    have ei:=D2 hlt hm
    generalize A[i]=x at *
    generalize B[i]=y at *
    by_cases e:ba=bb
    ·subst e
     rw [a3] at b3
     cases b3
     replace hs:=hs.AG a3 (by simp)
     refine dr [] hs (k:=?_);intro hX w hs
     refine tks 0 2 ?_
     refine tk 2 hX (hr:=fun w' hH=>BG AI rfl rfl rfl om om) (k:=?_)
     refine tk 3 hX (hr:=fun w' hH=>Dy AI rfl rfl (hH rfl) At.head ga) (k:=?_)
     refine tks 4 2 ?_
     refine tk 6 hX (hr:=fun w' hH=>BG AI rfl rfl rfl om om) (k:=?_)
     refine tk 7 hX (hr:=fun w' hH=>Dy AI rfl rfl (hH rfl) At.head gb) (k:=?_)
     refine tk 8 hX (k:=?_)
     refine en (k:=?_)
     repeat' (first|refine Sa ?_|refine xc_cond rfl (fun hc=>?_) fun hc=>?_|fail)
     ·rw [aJ] at hc
      refine AF ?_
      exact ⟨congrArg Value.bool (decide_eq_false (Ij (by simpa using hc))).symm,ho.step (hs.AB [] (by simp [a3]) (by simp [D0])) (by simp)⟩
     ·rw [aJ] at hc
      exact A2 (i+1) om (by (repeat (first | exact Ac | (apply A5;first | exact rfl | exact congrArg (Value.int .i64) ei)))) ⟨by omega,key (by simpa using hc),ho.step (hs.AB [] (by simp [a3]) (by simp [D0])) (by simp)⟩
    ·replace hs:=(hs.AG a3 (by simp)).AG b3 (by simpa using Ne.symm e)
     refine dr [] hs (k:=?_);intro hX w hs
     refine tks 0 2 ?_
     refine tk 2 hX (hr:=fun w' hH=>BG AI rfl rfl rfl om om) (k:=?_)
     refine tk 3 hX (hr:=fun w' hH=>Dy AI rfl rfl (hH rfl) (At.tail At.head) ga) (k:=?_)
     refine tks 4 2 ?_
     refine tk 6 hX (hr:=fun w' hH=>BG AI rfl rfl rfl om om) (k:=?_)
     refine tk 7 hX (hr:=fun w' hH=>Dy AI rfl rfl (hH rfl) At.head gb) (k:=?_)
     refine tk 8 hX (k:=?_)
     refine en (k:=?_)
     repeat' (first|refine Sa ?_|refine xc_cond rfl (fun hc=>?_) fun hc=>?_|fail)
     ·rw [aJ] at hc
      refine AF ?_
      exact ⟨congrArg Value.bool (decide_eq_false (Ij (by simpa using hc))).symm,ho.step (hs.AB [] (by simp [a3,b3]) (by simp [D0])) (by simp)⟩
     ·rw [aJ] at hc
      exact A2 (i+1) om (by (repeat (first | exact Ac | (apply A5;first | exact rfl | exact congrArg (Value.int .i64) ei)))) ⟨by omega,key (by simpa using hc),ho.step (hs.AB [] (by simp [a3,b3]) (by simp [D0])) (by simp)⟩
   ·have e:i=A.length:=by omega
    have SP:A=B:=by
     have h1:A.take i=A:=List.take_of_length_le om
     have h2:B.take i=B:=List.take_of_length_le om
     rw [← h1,ht,h2]
    exact Ar () Ab ⟨SP,ho.step (hs.AD rfl) (by simp)⟩
  ·rintro _ env w ⟨rfl,ho⟩
   clear hs
   have hs:=St.nil w
   refine Ja ?_
   refine AF ?_
   exact ⟨congrArg Value.bool (decide_eq_true rfl).symm,ho.step (hs.AD rfl) (by simp)⟩
def zM (m:Int) (a:C2):Prop:=9 < a.d % 12→a.ns≤1099511627776→a.ns≤m
structure Gr (least ticks:Int) (A:List C2):Prop where
 l1:1≤least
 l2:least≤1099511627776
 t1:0≤ticks
 t2:ticks≤A.length*1099511627776
 a:∀ x∈A,ZR least x
 t:∀ x∈A,zM ticks x
theorem Gr.tick {l t:Int} {A:List C2} (h:Gr l t A) {q:C2} (h0:0≤q.ns) (h1:9 < q.d % 12) (h2:q.ns≤1099511627776):Gr l (t+q.ns) (A ++ [q]):=by
 have hl:((A ++ [q]).length:Int)=A.length+1:=by simp
 refine ⟨h.l1,h.l2,by have:=h.t1;omega,by rw [hl];have:=h.t2;omega,fun x hx=>?_,fun x hx=>?_⟩
 ·rcases List.mem_append.1 hx with k | k
  ·exact h.a x k
  ·obtain rfl:=List.mem_singleton.1 k
   intro z;omega
 ·rcases List.mem_append.1 hx with k | k
  ·intro a b;have:=h.t x k a b;omega
  ·obtain rfl:=List.mem_singleton.1 k
   intro _ _;have:=h.t1;omega
theorem lB (a b:Int):EF a b≤a∧EF a b≤b∧(EF a b=a∨EF a b=b):=by unfold EF;split <;> omega
theorem Gr.ask {l t:Int} {A:List C2} (h:Gr l t A) {q:C2} (h1:¬ (9 < q.d % 12∧q.ns≤1099511627776)) (h2:1≤q.ns):Gr (EF l q.ns) t (A ++ [q]):=by
 have hl:((A ++ [q]).length:Int)=A.length+1:=by simp
 obtain ⟨k1,k2,k3⟩:=lB l q.ns
 refine ⟨by have:=h.l1;omega,by have:=h.l2;omega,h.t1,by rw [hl];have:=h.t2;omega,fun x hx=>?_,fun x hx=>?_⟩
 ·rcases List.mem_append.1 hx with k | k
  ·intro a b;have:=h.a x k a b;omega
  ·obtain rfl:=List.mem_singleton.1 k
   intro _ _;omega
 ·rcases List.mem_append.1 hx with k | k
  ·exact h.t x k
  ·obtain rfl:=List.mem_singleton.1 k
   intro a b;exact absurd ⟨a,b⟩ h1
theorem Gr.skip {l t:Int} {A:List C2} (h:Gr l t A) {q:C2} (h1:¬ (9 < q.d % 12∧q.ns≤1099511627776)) (h2:¬ ((q.d % 12 < 2∨q.d % 12=8)∧1≤q.ns)):Gr l t (A ++ [q]):=by
 have hl:((A ++ [q]).length:Int)=A.length+1:=by simp
 refine ⟨h.l1,h.l2,h.t1,by rw [hl];have:=h.t2;omega,fun x hx=>?_,fun x hx=>?_⟩
 ·rcases List.mem_append.1 hx with k | k
  ·exact h.a x k
  ·obtain rfl:=List.mem_singleton.1 k
   intro a b;exact absurd ⟨a,b⟩ h2
 ·rcases List.mem_append.1 hx with k | k
  ·exact h.t x k
  ·obtain rfl:=List.mem_singleton.1 k
   intro a b;exact absurd ⟨a,b⟩ h1
def xS (xs:List C2):Prop:=xs.length≤40∧∃ m,1≤m∧(∀ a∈xs,ZR m a)∧∀ a∈xs,9 < a.d % 12→a.ns≤1099511627776→a.ns / m≤300
theorem XT (c:Cf) (xs:List C2) (sl:Value) (hx:∀ a∈xs,a.In) (w0:World) (hL:R6 w0 5 sl (xs.map C2.cells)):AM Tryz.prog 8 #[QC c,sl] w0 fun v w'=>(∃ b,v = .bool b∧(b=true→xS xs))∧AA [] w0 w':=by
 obtain ⟨ad,cap,rfl,hD⟩:=hL
 rw [List.length_map]
 have hs:=St.nil w0
 refine AQ Tryz.func8 Tryz.ntmps8 (k:=?_)
 repeat' (first|refine Sa ?_|(refine bx hs (k:=?_);intro b w hz hs)|refine Au rfl (fun hc=>?_) fun hc=>?_|fail)
 ·refine AF ?_
  exact ⟨⟨false,rfl,fun h=>by cases h⟩,hs.AD rfl⟩
 have hm:xs.length≤40:=by omega
 have BS:=hs.AD rfl
 refine BN (fun (x:Int × Int)=>[(5,.int .u64 x.1),(6,.int .u64 x.2)]) (fun x w=>Gr x.1 x.2 xs∧AA [] w0 w) ?_ ?_
 ·refine BD (fun (x:Nat × Int × Int)=>[(5,.int .u64 x.2.1),(6,.int .u64 x.2.2),(13,.slice ad xs.length cap),(14,.int .i64 (xs.length:Nat)),(15,.int .i64 (x.1:Nat))])
   (fun x w=>x.1≤xs.length∧Gr x.2.1 x.2.2 (xs.take x.1)∧AA [] w0 w) (fun x=>xs.length - x.1) (0,1099511627776,0) Ab ⟨Nat.zero_le _,⟨by decide,by decide,by decide,by simp,by simp,by simp⟩,BS⟩ fun x env wl ⟨hi,hI,ho⟩=>?_
  obtain ⟨i,least,ticks⟩:=x
  simp only at hi hI
  clear hs
  have hs:=St.nil wl
  repeat' (first|refine Sa ?_|refine Au rfl (fun hc=>?_) fun hc=>?_|fail)
  ·have hlt:i < xs.length:=by omega
   obtain ⟨b,off,cs,E,fz,rfl,hb,hcs⟩:=hD (fun h=>by have:=congrArg List.length h;rw [List.length_map,List.length_nil] at this;omega)
   have hpk:=hcs i (C2.cells xs[i]) (by rw [List.getElem?_map,List.getElem?_eq_getElem hlt];rfl)
   have ei:=D2 (m:=xs.length) hlt om
   have et:xs.take (i+1)=xs.take i ++ [xs[i]]:=C4 hlt
   have IX:((xs.take i).length:Int)≤40:=by rw [List.length_take];omega
   obtain ⟨d0,hid,F9,hw,DZ⟩:=hx xs[i] (List.getElem_mem hlt)
   generalize xs[i]=q at *
   have aAx:0≤q.ns∧q.ns < 18446744073709551616:=DZ
   have ht2:=hI.t2
   have ht1:=hI.t1
   have LR:=hI.l1
   have hl2:=hI.l2
   have ew:q.ns≤1099511627776→IntKind.u64.wrap (ticks+q.ns)=ticks+q.ns:=fun h=>by rw [wrap_u64];omega
   have nA:=fun h1 h2=>hI.tick (q:=q) aAx.1 h1 h2
   have nB:=fun h1 h2=>hI.ask (q:=q) h1 h2
   have nC:=fun h1 h2=>hI.skip (q:=q) h1 h2
   rw [← et] at nA nB nC
   refine ix (h0:=(by omega)) (h1:=(by omega)) (k:=?_)
   refine KH (vs:=q.cells) (ho.block hb (by simp)) hpk (k:=?_)
   refine al hs (k:=?_);clear hs;intro IV w3 N2 hs
   refine AU hs (k:=?_);clear hs;intro w4 hs
   refine Ja ?_
   refine aD (b:=12) d0.1 (by decide) (k:=?_)
   generalize q.d % 12=m at *
   repeat' (first|refine vs (k:=?_)|refine ps (k:=?_)|refine Al ?_|refine Nx.h ?_|refine ES ?_|((with_reducible apply BM);exact rfl;exact rfl;intro c hc;(fail_if_success have:true=c:=hc);(fail_if_success have:false=c:=hc);cases c)|refine Au rfl (fun hc=>?_) fun hc=>?_|fail)
   all_goals (first
    | (have hq : m > 9 ∧ q.ns ≤ 1099511627776 := (by simp only [decide_eq_true_eq, decide_eq_false_iff_not, ge_iff_le, beq_iff_eq, beq_eq_false_iff_ne, ne_eq] at *; omega)
       refine A2 (i+1,least,ticks+q.ns) (by show xs.length - (i+1) < xs.length - i;omega) ?_ ⟨by show i+1≤_;omega,nA om hq.2,ho.trans (hs.AD rfl)⟩;(repeat (first | exact Ac | (apply A5;first | exact rfl | exact congrArg (Value.int .i64) ei | exact congrArg (Value.int .u64) (ew hq.2) | exact congrArg (Value.int .u64) (ew hq.2))));done)
    | (have hq : ¬ (9 < m ∧ q.ns ≤ 1099511627776) ∧ 1 ≤ q.ns := (by simp only [decide_eq_true_eq, decide_eq_false_iff_not, ge_iff_le, beq_iff_eq, beq_eq_false_iff_ne, ne_eq] at *; omega)
       refine A2 (i+1,EF least q.ns,ticks) (by show xs.length - (i+1) < xs.length - i;omega) ?_ ⟨by show i+1≤_;omega,nB hq.1 hq.2,ho.trans (hs.AD rfl)⟩;(repeat (first | exact Ac | (apply A5;first | exact rfl | exact congrArg (Value.int .i64) ei)));done)
    | (have hq : ¬ (9 < m ∧ q.ns ≤ 1099511627776) ∧ ¬ ((m < 2 ∨ m = 8) ∧ 1 ≤ q.ns) := (by simp only [decide_eq_true_eq, decide_eq_false_iff_not, ge_iff_le, beq_iff_eq, beq_eq_false_iff_ne, ne_eq] at *; omega)
       refine A2 (i+1,least,ticks) (by show xs.length - (i+1) < xs.length - i;omega) ?_ ⟨by show i+1≤_;omega,nC hq.1 hq.2,ho.trans (hs.AD rfl)⟩;(repeat (first | exact Ac | (apply A5;first | exact rfl | exact congrArg (Value.int .i64) ei)));done))
  ·have e:i=xs.length:=by omega
   subst e
   rw [List.take_length] at hI
   exact Ar (least,ticks) Ab ⟨hI,ho⟩
 ·rintro ⟨least,ticks⟩ env w ⟨hI,ho⟩
  simp only at hI
  have LR:=hI.l1
  have hl2:=hI.l2
  have ht1:=hI.t1
  have ht2:=hI.t2
  clear hs
  have hs:=St.nil w
  refine Ja ?_
  refine AF ?_
  refine ⟨⟨_,rfl,fun hb=>⟨hm,least,LR,hI.a,fun a ha h1 h2=>?_⟩⟩,ho.trans (hs.AD rfl)⟩
  have hq:ticks / least≤300:=by simpa using hb
  have:=Int.ediv_le_ediv (show 0 < least by omega) (hI.t a ha h1 h2)
  omega
theorem uS {s:Sy} {a:C2} {m:Int} (hI:Co s) (hl:Bg m s.t) (hm:1≤m) (ha:a.In) (ht:9 < a.d % 12→a.ns≤1099511627776→a.ns / m≤300):lM s a:=fun h1 h2 k hk=>by
 have:=gG hI hl hm ha.2.2.2.2.1 (ht h1 h2) hk
 omega
theorem sO (va vb:Value) (A B:List Int) (hm:A.length≤9223372036854775807) (w0:World) (hA:Cn w0 3 1 va (A.map O7)) (hB:Cn w0 3 1 vb (B.map O7)) :
 AM Tryz.prog 23 #[va,vb] w0 fun v w'=>v = .bool (decide (A=B))∧AA [] w0 w':=by
 obtain ⟨SD,ca,rfl,hA⟩:=hA
 obtain ⟨SU,cb,rfl,hB⟩:=hB
 rw [List.length_map] at *
 rw [List.length_map] at *
 have hs:=St.nil w0
 refine AQ Tryz.func23 Tryz.ntmps23 (k:=?_)
 repeat' (first|refine Sa ?_|refine xc_cond rfl (fun hc=>?_) fun hc=>?_|fail)
 ·refine AF ?_
  refine ⟨congrArg Value.bool ?_,hs.AD rfl⟩
  have hne:A≠B:=fun e=>by subst e;simp at hc
  exact (decide_eq_false hne).symm
 ·have IX:A.length=B.length:=by
   have h:((A.length:Nat):Int)=B.length:=by simpa using hc
   omega
  refine BN (fun _:Unit=>[]) (fun _ w=>A=B∧AA [] w0 w) ?_ ?_
  ·refine BD (fun (i:Nat)=>[(0,.slice SD A.length ca),(1,.slice SU B.length cb),(12,.int .i64 (A.length:Nat)),(13,.int .i64 (i:Nat))])
    (fun i w=>i≤A.length∧A.take i=B.take i∧AA [] w0 w)
    (fun i=>A.length - i) 0 Ab ⟨Nat.zero_le _,by simp,hs.AD rfl⟩ fun i env w ⟨hi,ht,ho⟩=>?_
   clear hs
   have hs:=St.nil w
   repeat' (first|refine Sa ?_|refine Au rfl (fun hc=>?_) fun hc=>?_|fail)
   ·have hlt:i < A.length:=by omega
    have IA:i < B.length:=by omega
    obtain ⟨ba,oa,gJ,fa,rfl,a2,a3,a4⟩:=hA (fun h=>by have:=congrArg List.length h;rw [List.length_map,List.length_nil] at this;omega)
    obtain ⟨bb,ob,fH,fb,rfl,b2,b3,b4⟩:=hB (fun h=>by have:=congrArg List.length h;rw [List.length_map,List.length_nil] at this;omega)
    have ga:=a4 i _ (by rw [List.getElem?_map,List.getElem?_eq_getElem hlt];rfl)
    have gb:=b4 i _ (by rw [List.getElem?_map,List.getElem?_eq_getElem IA];rfl)
    have a3:=ho.block a3 (by simp)
    have b3:=ho.block b3 (by simp)
    have key:A[i]=B[i]→A.take (i+1)=B.take (i+1):=fun he=>by rw [List.take_add_one,List.take_add_one,ht,List.getElem?_eq_getElem hlt,List.getElem?_eq_getElem IA,he]
    have Ij:A[i]≠B[i]→A≠B:=fun h e=>h (by subst e;rfl)
    have ei:=D2 hlt hm
    generalize A[i]=x at *
    generalize B[i]=y at *
    by_cases e:ba=bb
    ·subst e
     rw [a3] at b3
     cases b3
     replace hs:=hs.AG a3 (by simp)
     refine dr [] hs (k:=?_);intro hX w hs
     refine tks 0 2 ?_
     refine tk 2 hX (hr:=fun w' hH=>BG AI rfl rfl rfl om om) (k:=?_)
     refine tk 3 hX (hr:=fun w' hH=>r_load AI rfl rfl (hH rfl) At.head (by cases ga;assumption)) (k:=?_)
     refine tks 4 2 ?_
     refine tk 6 hX (hr:=fun w' hH=>BG AI rfl rfl rfl om om) (k:=?_)
     refine tk 7 hX (hr:=fun w' hH=>r_load AI rfl rfl (hH rfl) At.head (by cases gb;assumption)) (k:=?_)
     refine tk 8 hX (k:=?_)
     refine en (k:=?_)
     repeat' (first|refine Sa ?_|refine xc_cond rfl (fun hc=>?_) fun hc=>?_|fail)
     ·refine AF ?_
      exact ⟨congrArg Value.bool (decide_eq_false (Ij (by simpa using hc))).symm,ho.step (hs.AB [] (by simp [a3]) (by simp [D0])) (by simp)⟩
     ·exact A2 (i+1) om (by (repeat (first | exact Ac | (apply A5;first | exact rfl | exact congrArg (Value.int .i64) ei)))) ⟨by omega,key (by simpa using hc),ho.step (hs.AB [] (by simp [a3]) (by simp [D0])) (by simp)⟩
    ·replace hs:=(hs.AG a3 (by simp)).AG b3 (by simpa using Ne.symm e)
     refine dr [] hs (k:=?_);intro hX w hs
     refine tks 0 2 ?_
     refine tk 2 hX (hr:=fun w' hH=>BG AI rfl rfl rfl om om) (k:=?_)
     refine tk 3 hX (hr:=fun w' hH=>r_load AI rfl rfl (hH rfl) (At.tail At.head) (by cases ga;assumption)) (k:=?_)
     refine tks 4 2 ?_
     refine tk 6 hX (hr:=fun w' hH=>BG AI rfl rfl rfl om om) (k:=?_)
     refine tk 7 hX (hr:=fun w' hH=>r_load AI rfl rfl (hH rfl) At.head (by cases gb;assumption)) (k:=?_)
     refine tk 8 hX (k:=?_)
     refine en (k:=?_)
     repeat' (first|refine Sa ?_|refine xc_cond rfl (fun hc=>?_) fun hc=>?_|fail)
     ·refine AF ?_
      exact ⟨congrArg Value.bool (decide_eq_false (Ij (by simpa using hc))).symm,ho.step (hs.AB [] (by simp [a3,b3]) (by simp [D0])) (by simp)⟩
     ·exact A2 (i+1) om (by (repeat (first | exact Ac | (apply A5;first | exact rfl | exact congrArg (Value.int .i64) ei)))) ⟨by omega,key (by simpa using hc),ho.step (hs.AB [] (by simp [a3,b3]) (by simp [D0])) (by simp)⟩
   ·have e:i=A.length:=by omega
    have SP:A=B:=by
     have h1:A.take i=A:=List.take_of_length_le om
     have h2:B.take i=B:=List.take_of_length_le om
     rw [← h1,ht,h2]
    exact Ar () Ab ⟨SP,ho.step (hs.AD rfl) (by simp)⟩
  ·rintro _ env w ⟨rfl,ho⟩
   clear hs
   have hs:=St.nil w
   refine Ja ?_
   refine AF ?_
   exact ⟨congrArg Value.bool (decide_eq_true rfl).symm,ho.step (hs.AD rfl) (by simp)⟩
def Pc:Cf:=⟨1,2,9,9,0⟩
def Qv:Sy:=(FG (JC Pc) ((Br ⟨JC Pc,[]⟩ 0 1 5).1,(Br ⟨JC Pc,[]⟩ 0 1 5).2.2)).2
def MC:Sy:=(FG Qv ((Br ⟨Qv,[]⟩ 0 1 5).1,(Br ⟨Qv,[]⟩ 0 1 5).2.2)).2
def mG:Sy:=(FG MC (GF ⟨MC,[]⟩ 5)).2
theorem yA:Pc.In:=by unfold Pc;exact ⟨by decide,by decide,by decide,by decide,by decide⟩
theorem zF:FK Pc=0:=by decide
theorem qK:(Br ⟨JC Pc,[]⟩ 0 1 5).1=0:=by kernel_rfl
theorem yV:(Br ⟨JC Pc,[]⟩ 0 1 5).2.1=1:=by kernel_rfl
theorem pK:(Br ⟨Qv,[]⟩ 0 1 5).1=0:=by kernel_rfl
theorem zH:(Br ⟨Qv,[]⟩ 0 1 5).2.1=2:=by kernel_rfl
theorem y7:(GF ⟨MC,[]⟩ 5).1=0:=by kernel_rfl
theorem zN:(FG MC (GF ⟨MC,[]⟩ 5)).1=[⟨0,1,5,true,false⟩]:=by kernel_rfl
theorem zU:mG.k.map Cs.run=[2]:=by kernel_rfl
theorem zE:MC.k.length=1:=by kernel_rfl
theorem zT:(Aq (AS MC 0) 5).2.2.p.length=1:=by kernel_rfl
theorem X1 (w0:World) (ht:DF w0):AM Tryz.prog 28 #[] w0 fun v w'=>v = .bool true∧AA [] w0 w':=by
 have hs:=St.nil w0
 refine AQ Tryz.func28 Tryz.ntmps28 (k:=?_)
 refine Ja ?_
 refine AY hs (h:=by exact X9 _ (tab_only ht (hs.AD rfl))) (k:=?_);intro w' ho hs;refine Jc ?_
 refine AF ?_
 exact ⟨rfl,hs.AD rfl⟩
theorem XR (w0:World) (ht:DF w0):AM Tryz.prog 7 #[] w0 fun v w'=>v = .bool true∧AA [] w0 w':=by
 have hs:=St.nil w0
 refine AQ Tryz.func7 Tryz.ntmps7 (k:=?_)
 refine Ja ?_
 refine cl (h:=by exact T8 Pc yA _) (k:=?_)
 rintro v w1 ⟨h | ⟨-,sb,F0,rfl,hS,Dm⟩,AJ⟩
 ·exact absurd zF h.1
 have Aw:=(hs.AD rfl).trans AJ
 have mK:∀ k∈F0,w0.heap.size≤k:=fun k hk=>by have:=Dm k hk;have:=(hs.AD rfl).size;omega
 have hcb:w0.heap.size≤sb:=mK sb hS.mem
 clear hs
 have hs:=St.nil w1
 refine Jd ?_
 refine cl (h:=by exact K7 sb (JC Pc) F0 0 1 5 _ (hS.only (hs.AD rfl)) (by decide) (by decide) (by decide)) (k:=?_)
 rw [qK,yV]
 rintro v w2 ⟨ve,rfl,T⟩
 obtain ⟨ae,ce,rfl⟩:=T.form
 obtain ⟨-,⟨F1,EK,Ck⟩,AN⟩:=T
 rw [← qK] at EK
 have EK:CS w2 sb Qv F1:=EK
 have B8:AA [] w0 w2:=(Aw.trans (hs.AD rfl)).step AN (fun k hk => .inr (by obtain rfl:=List.mem_singleton.1 hk;exact hcb))
 clear hs
 have hs:=St.nil w2
 refine Ja ?_
 refine cl (h:=by exact K7 sb Qv F1 0 1 5 _ (EK.only (hs.AD rfl)) (by decide) (by decide) (by decide)) (k:=?_)
 rw [pK,zH]
 rintro v w3 ⟨ve,rfl,T⟩
 obtain ⟨ae,ce,rfl⟩:=T.form
 obtain ⟨-,⟨F2,Di,DQ⟩,AT⟩:=T
 rw [← pK] at Di
 have Di:CS w3 sb MC F2:=Di
 have EH:AA [] w0 w3:=(B8.trans (hs.AD rfl)).step AT (fun k hk => .inr (by obtain rfl:=List.mem_singleton.1 hk;exact hcb))
 clear hs
 have hs:=St.nil w3
 refine Ja ?_
 refine cl (h:=by exact Nj sb MC F2 5 _ (Di.only (hs.AD rfl)) (by decide) (fun _ k hk=>by rw [zE] at hk;obtain rfl:k=0:=(by omega);have e:=zT;show (Aq (AS MC ((0:Nat):Int)) 5).2.2.p.length≤1000000;rw [show ((0:Nat):Int)=0 from rfl,e];decide)) (k:=?_)
 rw [y7]
 rintro v w4 ⟨ve,rfl,T⟩
 obtain ⟨⟨Ge,hE⟩,⟨F3,I8,MQ⟩,Ao⟩:=T
 have I8:CS w4 sb mG F3:=I8
 rw [zN] at hE
 obtain ⟨ae,ce,rfl⟩:=BO hE
 have CE:AA [] w0 w4:=(EH.trans (hs.AD rfl)).step Ao (fun k hk => .inr (by obtain rfl:=List.mem_singleton.1 hk;exact hcb))
 clear hs
 have hs:=St.nil w4
 refine Ja ?_
 have Ed:=CE.trans (hs.AD rfl)
 refine AY hs (h:=by exact X1 _ (tab_only ht Ed)) (k:=?_);intro w' ho hs;repeat' (first|refine vs (k:=?_)|(refine bs hs (k:=?_);intro b w hz hs)|fail)
 have mJ:=lit_ls (xs:=[Ev.cells ⟨0,1,5,true,false⟩]) (k:=5) (hs.get At.head) rfl (by decide) rfl
 have hE':Cn w4 41 5 (.slice ae 1 ce) ([⟨0,1,5,true,false⟩].map Ev.cells):=Ba.ls hE rfl (by simp) (fun x hx=>by obtain ⟨p,_,rfl⟩:=List.mem_map.1 hx;rfl)
 refine cl (h:=by exact lQ _ _ [⟨0,1,5,true,false⟩] [⟨0,1,5,true,false⟩] (by decide) _ (hE'.only (hs.AD rfl)) mJ) (k:=?_)
 rw [show decide ([(⟨0,1,5,true,false⟩:Ev)]=[⟨0,1,5,true,false⟩])=true by decide]
 rintro v w' ⟨rfl,ho⟩;replace hs:=hs.AK ho;refine Jf ?_
 refine cl (h:=by exact nO sb mG F3 _ (I8.only (hs.AD rfl))) (k:=?_)
 rw [zU]
 rintro v w5 ⟨⟨G5,hR,hG5⟩,BK⟩
 obtain ⟨ar,cr,rfl⟩:=BO hR
 have hoF:=(CE.trans (hs.AD rfl)).trans BK
 clear hs
 have hs:=St.nil w5
 repeat' (first|(refine bs hs (k:=?_);intro b w hz hs)|fail)
 have y8:=lit_ls (xs:=[O7 2]) (k:=1) (hs.get At.head) rfl (by decide) rfl
 have hR':Cn w5 3 1 (.slice ar 1 cr) ([(2:Int)].map O7):=Ba.ls (xs:=[(2:Int)].map O7) hR rfl (by simp) (fun x hx=>by obtain ⟨p,_,rfl⟩:=List.mem_map.1 hx;rfl)
 refine cl (h:=by exact sO _ _ [2] [2] (by decide) _ (hR'.only (hs.AD rfl)) y8) (k:=?_)
 rw [show decide ([(2:Int)]=[2])=true by decide]
 rintro v w' ⟨rfl,ho⟩;replace hs:=hs.AK ho;refine Jc ?_
 refine AF ?_
 exact ⟨rfl,hoF.trans (hs.AD rfl)⟩
theorem bU (p q:Rq):(By (.int .u64 p.i.p.t) (.int .u64 q.i.p.t) && (By (.int .u32 p.i.p.r) (.int .u32 q.i.p.r) && (By (.int .u32 p.i.p.w) (.int .u32 q.i.p.w) && (By (.int .i64 p.i.id) (.int .i64 q.i.id) && (By (.int .u64 p.i.d.t) (.int .u64 q.i.d.t) && (By (.int .u32 p.i.d.r) (.int .u32 q.i.d.r) && (By (.int .u32 p.i.d.w) (.int .u32 q.i.d.w) && (By (.int .u64 p.left) (.int .u64 q.left) && (By (.int .u64 p.slice) (.int .u64 q.slice) && By (.bool p.asleep) (.bool q.asleep))))))))))=decide (p=q):=by
 show ((p.i.p.t == q.i.p.t) && ((p.i.p.r == q.i.p.r) && ((p.i.p.w == q.i.p.w) && ((p.i.id == q.i.id) && ((p.i.d.t == q.i.d.t) && ((p.i.d.r == q.i.d.r) && ((p.i.d.w == q.i.d.w) && ((p.left == q.left) && ((p.slice == q.slice) && (p.asleep == q.asleep))))))))))=_
 obtain ⟨⟨⟨a,b,c⟩,d,⟨e,f,g⟩⟩,h,i,j⟩:=p
 obtain ⟨⟨⟨a',b',c'⟩,d',⟨e',f',g'⟩⟩,h',i',j'⟩:=q
 rw [Bool.eq_iff_iff,decide_eq_true_iff]
 simp only [Bool.and_eq_true,beq_iff_eq,Rq.mk.injEq,It.mk.injEq,Pt.mk.injEq,and_assoc]
theorem SX (va vb:Value) (A B:List Rq) (hm:A.length≤9223372036854775807) (w0:World) (hA:Cn w0 66 10 va (A.map Rq.cells)) (hB:Cn w0 66 10 vb (B.map Rq.cells)) :
 AM Tryz.prog 16 #[va,vb] w0 fun v w'=>v = .bool (decide (A=B))∧AA [] w0 w':=by
 obtain ⟨SD,ca,rfl,hA⟩:=hA
 obtain ⟨SU,cb,rfl,hB⟩:=hB
 rw [List.length_map] at *
 rw [List.length_map] at *
 have hs:=St.nil w0
 refine AQ Tryz.func16 Tryz.ntmps16 (k:=?_)
 repeat' (first|refine Sa ?_|refine xc_cond rfl (fun hc=>?_) fun hc=>?_|fail)
 ·refine AF ?_
  refine ⟨congrArg Value.bool ?_,hs.AD rfl⟩
  have hne:A≠B:=fun e=>by subst e;simp at hc
  exact (decide_eq_false hne).symm
 ·have IX:A.length=B.length:=by
   have h:((A.length:Nat):Int)=B.length:=by simpa using hc
   omega
  refine BN (fun _:Unit=>[]) (fun _ w=>A=B∧AA [] w0 w) ?_ ?_
  ·refine BD (fun (i:Nat)=>[(0,.slice SD A.length ca),(1,.slice SU B.length cb),(12,.int .i64 (A.length:Nat)),(13,.int .i64 (i:Nat))])
    (fun i w=>i≤A.length∧A.take i=B.take i∧AA [] w0 w)
    (fun i=>A.length - i) 0 Ab ⟨Nat.zero_le _,by simp,hs.AD rfl⟩ fun i env w ⟨hi,ht,ho⟩=>?_
   clear hs
   have hs:=St.nil w
   repeat' (first|refine Sa ?_|refine Au rfl (fun hc=>?_) fun hc=>?_|fail)
   ·have hlt:i < A.length:=by omega
    have IA:i < B.length:=by omega
    obtain ⟨ba,oa,gJ,fa,rfl,a2,a3,a4⟩:=hA (fun h=>by have:=congrArg List.length h;rw [List.length_map,List.length_nil] at this;omega)
    obtain ⟨bb,ob,fH,fb,rfl,b2,b3,b4⟩:=hB (fun h=>by have:=congrArg List.length h;rw [List.length_map,List.length_nil] at this;omega)
    have ga:=a4 i _ (by rw [List.getElem?_map,List.getElem?_eq_getElem hlt];rfl)
    have gb:=b4 i _ (by rw [List.getElem?_map,List.getElem?_eq_getElem IA];rfl)
    have a3:=ho.block a3 (by simp)
    have b3:=ho.block b3 (by simp)
    have key:A[i]=B[i]→A.take (i+1)=B.take (i+1):=fun he=>by rw [List.take_add_one,List.take_add_one,ht,List.getElem?_eq_getElem hlt,List.getElem?_eq_getElem IA,he]
    have Ij:A[i]≠B[i]→A≠B:=fun h e=>h (by subst e;rfl)
    have ei:=D2 hlt hm
    generalize A[i]=x at *
    generalize B[i]=y at *
    by_cases e:ba=bb
    ·subst e
     rw [a3] at b3
     cases b3
     replace hs:=hs.AG a3 (by simp)
     refine dr [] hs (k:=?_);intro hX w hs
     refine tks 0 2 ?_
     refine tk 2 hX (hr:=fun w' hH=>BG AI rfl rfl rfl om om) (k:=?_)
     refine tk 3 hX (hr:=fun w' hH=>Dy AI rfl rfl (hH rfl) At.head ga) (k:=?_)
     refine tks 4 2 ?_
     refine tk 6 hX (hr:=fun w' hH=>BG AI rfl rfl rfl om om) (k:=?_)
     refine tk 7 hX (hr:=fun w' hH=>Dy AI rfl rfl (hH rfl) At.head gb) (k:=?_)
     refine tk 8 hX (k:=?_)
     refine en (k:=?_)
     repeat' (first|refine Sa ?_|refine xc_cond rfl (fun hc=>?_) fun hc=>?_|fail)
     ·rw [bU] at hc
      refine AF ?_
      exact ⟨congrArg Value.bool (decide_eq_false (Ij (by simpa using hc))).symm,ho.step (hs.AB [] (by simp [a3]) (by simp [D0])) (by simp)⟩
     ·rw [bU] at hc
      exact A2 (i+1) om (by (repeat (first | exact Ac | (apply A5;first | exact rfl | exact congrArg (Value.int .i64) ei)))) ⟨by omega,key (by simpa using hc),ho.step (hs.AB [] (by simp [a3]) (by simp [D0])) (by simp)⟩
    ·replace hs:=(hs.AG a3 (by simp)).AG b3 (by simpa using Ne.symm e)
     refine dr [] hs (k:=?_);intro hX w hs
     refine tks 0 2 ?_
     refine tk 2 hX (hr:=fun w' hH=>BG AI rfl rfl rfl om om) (k:=?_)
     refine tk 3 hX (hr:=fun w' hH=>Dy AI rfl rfl (hH rfl) (At.tail At.head) ga) (k:=?_)
     refine tks 4 2 ?_
     refine tk 6 hX (hr:=fun w' hH=>BG AI rfl rfl rfl om om) (k:=?_)
     refine tk 7 hX (hr:=fun w' hH=>Dy AI rfl rfl (hH rfl) At.head gb) (k:=?_)
     refine tk 8 hX (k:=?_)
     refine en (k:=?_)
     repeat' (first|refine Sa ?_|refine xc_cond rfl (fun hc=>?_) fun hc=>?_|fail)
     ·rw [bU] at hc
      refine AF ?_
      exact ⟨congrArg Value.bool (decide_eq_false (Ij (by simpa using hc))).symm,ho.step (hs.AB [] (by simp [a3,b3]) (by simp [D0])) (by simp)⟩
     ·rw [bU] at hc
      exact A2 (i+1) om (by (repeat (first | exact Ac | (apply A5;first | exact rfl | exact congrArg (Value.int .i64) ei)))) ⟨by omega,key (by simpa using hc),ho.step (hs.AB [] (by simp [a3,b3]) (by simp [D0])) (by simp)⟩
   ·have e:i=A.length:=by omega
    have SP:A=B:=by
     have h1:A.take i=A:=List.take_of_length_le om
     have h2:B.take i=B:=List.take_of_length_le om
     rw [← h1,ht,h2]
    exact Ar () Ab ⟨SP,ho.step (hs.AD rfl) (by simp)⟩
  ·rintro _ env w ⟨rfl,ho⟩
   clear hs
   have hs:=St.nil w
   refine Ja ?_
   refine AF ?_
   exact ⟨congrArg Value.bool (decide_eq_true rfl).symm,ho.step (hs.AD rfl) (by simp)⟩
theorem rq_ls {w:World} {v:Value} {l:List RT} {G:List Nat} (h:Ba w 66 10 v l.length (HP l) G):Cn w 66 10 v ((l.map Subtype.val).map Rq.cells):=by
 rw [List.map_map]
 exact aL h
theorem ZT (x:Int):(!(By (.int .i64 (x / 18446744073709551616)) (.int .i64 (x / 18446744073709551616)) && By (.int .u64 (x % 18446744073709551616)) (.int .u64 (x % 18446744073709551616))))=false:=by
 show (!((x / 18446744073709551616 == x / 18446744073709551616) && (x % 18446744073709551616 == x % 18446744073709551616)))=false
 simp
theorem QH {c:Cf} {k:Int} (h0:0≤k) (h:k < c.cores):Bx c k=0:=by unfold Bx;rw [if_neg om]
end Go.Proofs.Q0
namespace Go.Proofs.Q0
open Go Go.RowKit
def F8 (s:Sy) (a:C2):Sy:=(FG s (D9 s a)).2
theorem Sn {s:Sy} {a:C2} (h:(D9 s a).1=0):F8 s a=(D9 s a).2.s:=by unfold F8 FG;rw [if_pos h]
theorem SY {s:Sy} {a:C2} (h:(D9 s a).1≠0):F8 s a=s:=by unfold F8 FG;rw [if_neg h]
structure Good (m:Int) (s:Sy):Prop where
 inv:Co s
 least:Bg m s.t
theorem Good.next {m:Int} {s:Sy} (h:Good m s) {a:C2} (ha:a.In) (hm:ZR m a):Good m (F8 s a):=by
 by_cases e:(D9 s a).1=0
 ·rw [Sn e];exact ⟨sM h.inv ha e,jX h.inv.ids h.least hm⟩
 ·rw [SY e];exact h
theorem Good.new {m:Int} {c:Cf} (hc:c.In) (h:FK c=0):Good m (JC c):=⟨inv_new hc h,fun x hx=>by
 obtain ⟨h1,j,hj⟩:=GD hx
 have:=List.mem_of_getElem? hj
 rw [List.eq_of_mem_replicate this] at h1
 exact absurd h1 (by decide)⟩
theorem Good.few {m:Int} {s:Sy} (h:Good m s) {a:C2} (hm:1≤m) (ha:a.In) (ht:9 < a.d % 12→a.ns≤1099511627776→a.ns / m≤300):lM s a:=uS h.inv h.least hm ha ht
theorem Vv (ns:Int):∀ (n k:Nat) (s:Ch),(Du n k s ns).2.s.cf=s.s.cf
 | 0,_,_=>rfl
 | n+1,k,s=>by
   unfold Du
   dsimp only
   split
   ·exact (Vv ns n (k+1) _).trans (absorb_k _ _ _).2
   ·rfl
theorem next_cf {s:Sy} (h:Co s) (a:C2):(F8 s a).cf=s.cf:=by
 by_cases e:(D9 s a).1=0
 ·rw [Sn e]
  by_cases hd:a.d % 12 < 10
  ·exact (VO h.ok h.ids hd (K:=[a.core,(BF s.t a.id).core]) (by simp) (fun _ _=>by simp)).cf
  ·unfold D9
   rw [if_neg om,if_neg om,if_neg om,if_neg om,if_neg om,if_neg om,if_neg om]
   unfold GF
   split
   ·rfl
   ·exact Vv a.ns s.k.length 0 ⟨s,[]⟩
 ·rw [SY e]
theorem NB {s:Sy} (h:Co s) {a:C2} (hd:a.d % 12 < 10) {k:Nat} (h1:(k:Int)≠a.core) (h2:Dd (BI s.t a.id)=0→1 < a.d % 12→(BF s.t a.id).core≠k):AS (F8 s a) k=AS s k:=by
 by_cases e:(D9 s a).1=0
 ·rw [Sn e]
  refine (VO h.ok h.ids hd (K:=a.core :: if Dd (BI s.t a.id)=0∧1 < a.d % 12 then [(BF s.t a.id).core] else []) List.mem_cons_self (fun p q=>by rw [if_pos ⟨p,q⟩];simp)).k k ?_
  intro hm
  rcases List.mem_cons.1 hm with q | q
  ·exact h1 q
  ·split at q
   ·rename_i z
    exact h2 z.1 z.2 (List.mem_singleton.1 q).symm
   ·cases q
 ·rw [SY e]
structure Kw (w0:World) (sa sb:Nat) (s t:Sy) (F G:List Nat) (w:World):Prop where
 a:CS w sa s F
 b:CS w sb t G
 d:∀ k∈F,k∉G
 f:∀ k∈F,w0.heap.size≤k
 g:∀ k∈G,w0.heap.size≤k
 o:AA [] w0 w
section
variable {w0 w w' : World} {sa sb : Nat} {s t : Sy} {F G : List Nat}
theorem Kw.keep (h:Kw w0 sa sb s t F G w) (ho:AA [] w w'):Kw w0 sa sb s t F G w':=⟨h.a.only ho,h.b.only ho,h.d,h.f,h.g,h.o.trans ho⟩
theorem Kw.left {ve:Value} {l:Int × Ch} (h:Kw w0 sa sb s t F G w) (T:Dt w sa F [] ve s l w'):∃ F',Kw w0 sa sb (FG s l).2 t F' G w':=by
 obtain ⟨_,⟨F',hC,hF⟩,ho⟩:=T
 have hz:=h.o.size
 refine ⟨F',hC,h.b.Ae ho (fun k hk hm=>?_),fun k hk hm=>?_,fun k hk=>?_,h.g,h.o.step ho (fun k hk=>?_)⟩
 ·obtain rfl:=List.mem_singleton.1 hm
  exact h.d _ h.a.mem hk
 ·rcases hF k hk with q | q
  ·exact h.d k q hm
  ·have:=h.b.lt k hm;omega
 ·rcases hF k hk with q | q
  ·exact h.f k q
  ·omega
 ·obtain rfl:=List.mem_singleton.1 hk
  exact .inr (h.f _ h.a.mem)
end
theorem Kw.clone {w0 w w':World} {sa sb:Nat} {s:Sy} {F G:List Nat} (h:CS w sa s F) (hF:∀ k∈F,w0.heap.size≤k) (ho:AA [] w0 w) (hd:CS w' sb s G) (hG:∀ k∈G,w.heap.size≤k) (ho':AA [] w w'):Kw w0 sa sb s s F G w' :=
 ⟨h.only ho',hd,fun k hk hm=>by have:=h.lt k hk;have:=hG k hm;omega,hF,fun k hk=>by have:=hG k hk;have:=ho.size;omega,ho.trans ho'⟩
end Go.Proofs.Q0
namespace Go.Proofs.YtjiiakjheghcoaaGreatDoor
open Go
theorem q8:laidOutB Tryz.prog=true:=by kernel_rfl
theorem rV:mapsRowed Tryz.prog=true:=by kernel_rfl
theorem sX:(true == Tryz.prog.plainKeys)=true:=by kernel_rfl
theorem mS:Tryz.prog.stopsHeard=true:=by kernel_rfl
theorem kN:Tryz.prog.mayEnter=true:=by kernel_rfl
theorem sC:(false == Tryz.prog.liftsFinal)=true:=by kernel_rfl
theorem rD:(Tryz.prog.make == some .cut)=true:=by kernel_rfl
theorem and_mk {a b:Bool} (h:a=true) (k:b=true):(a && b)=true:=by rw [h,k];rfl
end Go.Proofs.YtjiiakjheghcoaaGreatDoor
namespace Go.Proofs.Q0
open Go
theorem door_met (os : Os) (args : Array Value) : laidMetH Tryz.prog [("math/bits.deBruijn32tab", YtjiiakjheghcoaaGreatDoor.Rows.laid_math_bits_deBruijn32tab), ("math/bits.deBruijn64tab", YtjiiakjheghcoaaGreatDoor.Rows.laid_math_bits_deBruijn64tab), ("internal/strconv.uint64pow10", YtjiiakjheghcoaaGreatDoor.Rows.laid_internal_strconv_uint64pow10)] ((World.doorLaid Tryz.prog 24 os).forCall (fun _ _ => 0) ⟨#[], args, []⟩).memory :=
 laidMetH_of_parts3 (fuel:=8) (laidMet_of_run' 8 (by kernel_rfl) (by kernel_rfl)) (by kernel_rfl) (by kernel_rfl)
theorem rH {W : World} (h : laidMetH Tryz.prog [("math/bits.deBruijn32tab", YtjiiakjheghcoaaGreatDoor.Rows.laid_math_bits_deBruijn32tab), ("math/bits.deBruijn64tab", YtjiiakjheghcoaaGreatDoor.Rows.laid_math_bits_deBruijn64tab), ("internal/strconv.uint64pow10", YtjiiakjheghcoaaGreatDoor.Rows.laid_internal_strconv_uint64pow10)] W) : DF W := by
 rw [MakeChecks.laidMetH_plain _ _ _ (by kernel_rfl)] at h
 have h2:=h.tail.tail
 exact Lib.tabIs_of_head (g := (Tryz.prog.globalNamed "internal/strconv.uint64pow10").getD 0) (t := 315) (e := 22) (n := 20) (by kernel_rfl) (by kernel_rfl) (by kernel_rfl) (by kernel_rfl) (by kernel_rfl) (by kernel_rfl) h2
end Go.Proofs.Q0
namespace Go.Proofs.Q0
open Go Go.RowKit
attribute [local irreducible] XS XC XA AX AO A7 A0 AZ A8 Aa AV SE
theorem TX (c:Cf) (xs:List C2) (sl:Value) (hc0:c.In) (hx:∀ a∈xs,a.In) (w0:World) (hL:R6 w0 5 sl (xs.map C2.cells)) (ht:DF w0):AM Tryz.prog 4 #[QC c,sl] w0 fun v w'=>v = .bool true∧AA [] w0 w':=by
 have hL0:=hL
 obtain ⟨ad,cap,rfl,hD⟩:=hL
 rw [List.length_map] at hL0 ⊢
 have hs:=St.nil w0
 refine AQ Tryz.func4 Tryz.ntmps4 (k:=?_)
 refine Ag ?_
 refine Al ?_
 refine bx hs (k:=?_);clear hs;intro b2 w9 xX hs
 refine Ja ?_
 refine AY hs (h:=by exact XR _ (tab_only ht (hs.AD rfl))) (k:=?_);intro w' ho hs;refine Jd ?_
 refine cl (h:=by exact XT c xs _ hx _ (hL0.only (hs.AD rfl))) (k:=?_)
 rintro v w1 ⟨⟨bl,rfl,JN⟩,AJ⟩;replace hs:=hs.AK AJ
 cases bl with
 | false =>
   refine Je ?_
   refine AF ?_
   exact ⟨rfl,hs.AD rfl⟩
 | true =>
 obtain ⟨hm,m,hm1,aAB,hfew⟩:=JN rfl
 refine Jd ?_
 have B8:=hs.AD rfl
 have k2:=hs.get (b:=b2) (by repeat (first | exact At.head | (with_reducible apply At.tail)))
 refine cl (h:=by exact T8 c hc0 _) (k:=?_)
 rintro v w2 ⟨⟨h0,rfl⟩ | ⟨h0,sb,F1,rfl,EK,Ck⟩,AN⟩
 ·replace hs:=hs.AK AN
  generalize FK c=e at *
  repeat' (first|refine Sa ?_|refine xc_cond rfl (fun hc=>?_) fun hc=>?_|fail)
  ·refine AF ?_
   exact ⟨rfl,hs.AD rfl⟩
  ·exact absurd (by simpa using hc) h0
 have Aw:=B8.trans AN
 have pO:=B8.size
 have QN:∀ k∈F1,w0.heap.size≤k:=fun k hk=>by have:=Ck k hk;omega
 replace k2:=AN.block k2 (by simp)
 clear hs
 have hs:=(St.nil w2).AE k2
 refine Jd ?_
 have EH:=hs.AB [] (by simp [k2]) (by simp [D0])
 generalize hcv:(Obj.cells #[.int .i64 c.cores,.int .i64 c.tasks,.int .u64 c.tick,.int .u64 c.slice,.int .u64 c.origin] 24 (0,0))=cO at *
 refine BN (fun (_:Unit)=>[]) (fun _ w=>AA [] w0 w) ?_ ?_
 ·refine BD (fun (x:Nat × Sy × List Nat)=>[(2,.pointer (some ⟨b2,0,none⟩)),(5,.pointer (some ⟨sb,0,none⟩)),(32,.slice ad xs.length cap),(33,.int .i64 (xs.length:Nat)),(34,.int .i64 (x.1:Nat))])
   (fun x w=>x.1≤xs.length∧Good m x.2.1∧x.2.1.cf=c∧CS w sb x.2.1 x.2.2∧(∀ k∈x.2.2,w0.heap.size≤k)∧w.heap[b2]?=some cO∧AA [] w0 w) (fun x=>xs.length - x.1) (0,JC c,F1) Ab ⟨Nat.zero_le _,Good.new hc0 h0,rfl,EK.only EH,QN,EH.block k2 (by simp),Aw.trans EH⟩ fun x env wl ⟨hi,hG,UK,hS,hF,k2,ho⟩=>?_
  obtain ⟨i,s,F⟩:=x
  simp only at hi hG hS hF UK
  subst hcv
  clear hs
  have hs:=(St.nil wl).AE k2
  repeat' (first|refine Sa ?_|refine Au rfl (fun hc=>?_) fun hc=>?_|fail)
  ·have hlt:i < xs.length:=by omega
   obtain ⟨b0,off,cs,E,fz,rfl,hb,hcs⟩:=hD (fun h=>by have:=congrArg List.length h;rw [List.length_map,List.length_nil] at this;omega)
   have hpk:=hcs i (C2.cells xs[i]) (by rw [List.getElem?_map,List.getElem?_eq_getElem hlt];rfl)
   have ei:=D2 (m:=xs.length) hlt om
   have hq:=hx xs[i] (List.getElem_mem hlt)
   have iY:=aAB xs[i] (List.getElem_mem hlt)
   have hqt:=hfew xs[i] (List.getElem_mem hlt)
   generalize xs[i]=q at *
   have JF:=hG.next hq iY
   have hfw:=hG.few hm1 hq hqt
   refine ix (h0:=(by omega)) (h1:=(by omega)) (k:=?_)
   refine KH (vs:=q.cells) (ho.block hb (by simp)) hpk (k:=?_)
   refine al hs (k:=?_);clear hs;intro b7 w3 N2 hs
   refine AU hs (k:=?_);clear hs;intro w4 hs
   refine Ja ?_
   have Ao:=hs.AB [] (by simp [k2]) (by simp [D0])
   have Rz:=hS.only Ao
   have h7:=hs.get (b:=b7) (by repeat (first | exact At.head | (with_reducible apply At.tail)))
   have k4:=Ao.block k2 (by simp)
   have yI:b7≠b2:=AW h7 k4 (by decide)
   refine cl (h:=by exact P6 sb s F _ Rz) (k:=?_)
   rintro v w5 ⟨⟨sd,G,rfl,hD5,hG5⟩,BK⟩
   have T0:Kw w0 sb sd s s F G w5:=Kw.clone Rz hF (ho.trans Ao) hD5 hG5 BK
   have k7:=BK.block h7 (by simp)
   have k5:=BK.block k4 (by simp)
   clear hs
   have hs:=((St.nil w5).AE k5).AG k7 (by simp [yI])
   refine Ja ?_
   have Ak:=hs.AB [] (by simp [k7,k5]) (by simp [D0])
   have T1:=T0.keep Ak
   have k7:=Ak.block k7 (by simp)
   have k6:=Ak.block k5 (by simp)
   refine cl (h:=by exact fE sb s F q hq _ T1.a hfw) (k:=?_)
   rintro v w7 ⟨ve,rfl,T⟩
   obtain ⟨F',MY⟩:=T1.left T
   have n7:b7∉F:=T1.a.not k7 rfl
   have n2:b2∉F:=T1.a.not k6 rfl
   have k8:=T.2.2.block k7 (fun h=>n7 (List.mem_singleton.1 h ▸ T1.a.mem))
   have k9:=T.2.2.block k6 (fun h=>n2 (List.mem_singleton.1 h ▸ T1.a.mem))
   obtain ⟨ae,ce,rfl⟩:=T.form
   have MY:Kw w0 sb sd (F8 s q) s F' G w7:=MY
   clear T
   obtain ⟨tb,rb,vb,Lb,Gb,eG,OB⟩:=MY.b
   have ks:=OB.o
   have s7:sd≠b7:=fun e=>by have:=MY.b.not k8 rfl;exact this (e ▸ MY.b.mem)
   have s2:sd≠b2:=fun e=>by have:=MY.b.not k9 rfl;exact this (e ▸ MY.b.mem)
   clear hs
   have hs:=(((St.nil w7).AE k9).AG k8 (by simp [yI])).AG ks (by simp [s7,s2])
   refine Ja ?_
   refine aD (b:=12) hq.1.1 (by decide) (k:=?_)
   repeat' (first|refine Sa ?_|refine Au rfl (fun hc=>?_) fun hc=>?_|fail)
   ·have KQ:=hs.AB [] (by simp [k8,k9,ks]) (by simp [D0])
    exact A2 (i+1,F8 s q,F') (by show xs.length - (i+1) < xs.length - i;omega) (by (repeat (first | exact Ac | (apply A5;first | exact rfl | exact congrArg (Value.int .i64) ei)))) ⟨by show i+1≤_;omega,JF,(next_cf hG.inv q).trans UK,MY.a.only KQ,MY.f,KQ.block k9 (by simp),MY.o.trans KQ⟩
   have nK:q.d % 12 < 10:=by have:¬ (q.d % 12 > 9):=(by simpa using hc);omega
   refine dr [] hs (k:=?_);intro hX w hs
   refine tks 0 6 ?_
   refine GS 10 10 hs (k:=?_);intro f X w hp;have hs:=hp.st
   apply BH 6 10 (f:=f) (X:=X) hX hp;exact rfl;exact rfl;(apply AR AI;exact rfl);kernel_rfl;kernel_rfl;kernel_rfl;kernel_rfl;(intro X Y;(repeat (first | exact A4 | refine A3 ?_ (by exact rfl))));(intro w' hs;first|exact AH hs.hold|exact AH hs.hold.tail|exact A6 rfl);intro f X w hp;have hs:=hp.st
   have J0:=hs.AB [] (by simp [k8,k9,ks]) (by simp [D0])
   refine cl (h:=by exact Od tb rb s.t q.id _ (OB.t.only J0) hq.2.1) (k:=?_)
   generalize hxx:BF s.t q.id=x at *
   generalize hee:Dd (BI s.t q.id)=e at *
   rintro v w' ⟨rfl,ho⟩;replace hp:=hp.only ho;replace hs:=hp.st;refine Jb ?_
   refine dn (k:=?_)
   refine tk 7 hX (hc:=by cases f <;> kernel_rfl) (k:=?_)
   refine tk 8 hX (hc:=by cases f <;> kernel_rfl) (k:=?_)
   refine tk 9 hX (hc:=by cases f <;> kernel_rfl) (k:=?_)
   apply B9 10 (f:=f) (X:=X) hX hp;exact rfl;(apply AR AI;exact rfl);kernel_rfl;kernel_rfl;(intro X Y;(repeat (first | exact A4 | refine A3 ?_ (by exact rfl))));(intro w' hs;first|exact AH hs.hold|exact AH hs.hold.tail|exact A6 rfl);intro b w hI hs
   refine dt 11 hX (k:=?_)
   repeat' (first|refine Nx.h ?_|(refine AU hs (k:=?_);intro w hs)|fail)
   refine dn (k:=?_)
   refine tk 12 hX (k:=?_)
   refine en (k:=?_)
   refine Ja ?_
   have t10:=hs.get (b:=b) (by repeat (first | exact At.head | (with_reducible apply At.tail)))
   have xJ:=hs.AB [] (by simp [k8,k9,ks]) (by simp [D0])
   have u7:=xJ.block k8 (by simp)
   have u2:=xJ.block k9 (by simp)
   have TI:=MY.keep xJ
   have Ia:s.cf.cores=c.cores:=by rw [UK]
   have aBi:=MY.b.ok.lo
   have aBV:=MY.b.ok.hi
   refine BN (fun (_:Unit)=>[(2,.pointer (some ⟨b2,0,none⟩)),(5,.pointer (some ⟨sb,0,none⟩)),(32,.slice (some ⟨b0,off,none⟩) xs.length cap),(33,.int .i64 (xs.length:Nat)),(34,.int .i64 (i:Nat))]) (fun _ w'=>AA [] w w') ?_ ?_
   ·refine BD (fun (k:Nat)=>[(2,.pointer (some ⟨b2,0,none⟩)),(5,.pointer (some ⟨sb,0,none⟩)),(32,.slice (some ⟨b0,off,none⟩) xs.length cap),(33,.int .i64 (xs.length:Nat)),(34,.int .i64 (i:Nat)),(8,.pointer (some ⟨b7,0,none⟩)),(9,.pointer (some ⟨sd,0,none⟩)),(10,.pointer (some ⟨b,0,none⟩)),(11,.int .i64 e),(58,.int .i64 c.cores),(59,.int .i64 (k:Nat))])
     (fun k w'=>(k:Int)≤c.cores∧AA [] w w') (fun k=>c.cores.toNat - k) 0 Ab ⟨by show ((0:Nat):Int)≤_;omega,AA.refl _ _⟩ fun k env wl ⟨hk,Jy⟩=>?_
    clear hs
    have v2:=Jy.block u2 (by simp)
    have v7:=Jy.block u7 (by simp)
    have v10:=Jy.block t10 (by simp)
    have m1:b≠b7:=AW v10 v7 (by decide)
    have m2:b≠b2:=AW v10 v2 (by decide)
    have hs:=(((St.nil wl).AE v2).AG v7 (by simp [yI])).AG v10 (by simp [m1,m2])
    have ek:k < 9→IntKind.i64.wrap ((k:Int)+1)=((k+1:Nat):Int):=fun h=>D2 (m:=9) h (by decide)
    repeat' (first|refine vs (k:=?_)|refine ps (k:=?_)|refine Al ?_|refine Nx.h ?_|refine Ew ?_|refine ES ?_|((with_reducible apply BM);exact rfl;exact rfl;intro c hc;(fail_if_success have:true=c:=hc);(fail_if_success have:false=c:=hc);cases c)|refine Au rfl (fun hc=>?_) fun hc=>?_|fail)
    ·have p8:(k:Int)≠q.core:=by simpa using (by assumption:((k:Int) == q.core)=false)
     have Wg:e≠0:=by simpa using hc
     have hlc:(k:Int) < c.cores:=by omega
     have hlk:k < 9:=by omega
     have eC:=QH (c:=s.cf) (k:=(k:Int)) om om
     have eN:=next_cf hG.inv q
     have cD:Bx (F8 s q).cf (k:Int)=0:=by rw [eN];exact eC
     have eA:=NB hG.inv nK (k:=k) p8 (fun z=>absurd (hee.symm.trans z) Wg)
     have M9:=hs.AB [] (by simp [v2,v7,v10]) (by simp [D0])
     have TL:=(TI.keep Jy).keep M9
     refine cl (h:=by exact I4 sd s _ k _ TL.b (by unfold In64;omega)) (k:=?_)
     rintro v20 KE ⟨h | ⟨-,ca,A1,rfl,Dr,oH⟩,Dk⟩
     ·exact absurd eC h.1
     have T4:=Dr.lt
     have Aw:=M9.trans Dk
     clear hs
     have hs:=St.nil KE
     refine Ja ?_
     have hoq:=hs.AD rfl
     refine cl (h:=by exact I4 sb (F8 s q) _ k _ ((TI.a.only Jy).only (Aw.trans hoq)) (by unfold In64;omega)) (k:=?_)
     rintro v21 GP ⟨h | ⟨-,cb,B1,rfl,E5,hB1⟩,CG⟩
     ·exact absurd cD h.1
     rw [eA] at E5
     have Dr:=Dr.only CG
     have B8:=(Aw.trans hoq).trans CG
     obtain ⟨sx,qx,mx,Xs,eX,x1,x2,EK,N1,ms1⟩:=Dr.EB
     obtain ⟨sy,qy,my,Ys,eY,y1,y2,Di,K1,ms2⟩:=E5.EB
     have n1:cb≠ca:=fun e=>by have:=hB1 cb E5.mem;have:=T4 ca Dr.mem;omega
     have n3:sy≠sx:=fun e=>by have:=hB1 sy (by rw [eY];simp [ms2]);have:=T4 sx (by rw [eX];simp [ms1]);omega
     have d1:cb≠sx:=AW y1 x2 (by decide)
     have d2:sy≠ca:=AW y2 x1 (by decide)
     have d3:sy≠cb:=AW y2 y1 (by decide)
     have tE:(AS s k).A.l.length≤32:=by obtain ⟨q,h⟩:=EK.rep;exact h.le
     have IX:((AS s k).A.l.map Subtype.val).length≤9223372036854775807:=by rw [List.length_map];omega
     generalize AS s k=cc at *
     clear hs
     have hs:=(((St.nil GP).AE x1).AE x2).AG y1 (by simp [n1,d1])
     replace hs:=hs.AG y2 (by simp [n3,d2,d3])
     refine Jc ?_
     refine dr [] hs (k:=?_);intro hX w hs
     refine tks 0 4 ?_
     refine tks 5 4 ?_
     refine dt 4 hX (k:=?_)
     have CP:=hs.AB [] (by simp [x1,x2,y1,y2]) (by simp [D0])
     refine cl (h:=by exact IY sx cc.A Xs _ (EK.only CP)) (k:=?_)
     rintro v12 w12 ⟨⟨Ga1,c9,_⟩,DE⟩;replace hs:=hs.AK DE
     refine XS.nil ?_
     refine dn (k:=?_)
     refine dt 9 hX (k:=?_)
     have CP:=hs.AB [] (by simp [x1,x2,y1,y2]) (by simp [D0])
     refine cl (h:=by exact IY sy cc.A Ys _ (Di.only CP)) (k:=?_)
     rintro v13 I5 ⟨⟨Gb1,cM,_⟩,Av⟩;replace hs:=hs.AK Av
     refine XS.nil ?_
     refine dn (k:=?_)
     refine dt 10 hX (k:=?_)
     refine cl (h:=by exact SX _ _ (cc.A.l.map Subtype.val) (cc.A.l.map Subtype.val) IX _ (rq_ls (c9.keep Av (by simp))) (rq_ls cM)) (k:=?_)
     rintro v8 w8 ⟨rfl,DE⟩;replace hs:=hs.AK DE
     refine XS.nil ?_
     refine dn (k:=?_)
     refine E4 104 (v := .bool true) (congrArg Value.bool (decide_eq_true rfl)) ?_
     refine tks 11 3 ?_
     refine tk 15 hX (k:=?_)
     refine dt 14 hX (k:=?_)
     have CP:=hs.AB [] (by simp [x1,x2,y1,y2]) (by simp [D0])
     refine cl (h:=by exact IG ca cc _ _ (Dr.only CP)) (k:=?_)
     rintro v8 w8 ⟨rfl,DE⟩;replace hs:=hs.AK DE
     refine XS.nil ?_
     refine dn (k:=?_)
     refine dt 16 hX (k:=?_)
     have CP:=hs.AB [] (by simp [x1,x2,y1,y2]) (by simp [D0])
     refine cl (h:=by exact IG cb cc _ _ (E5.only CP)) (k:=?_)
     rintro v8 w8 ⟨rfl,DE⟩;replace hs:=hs.AK DE
     refine XS.nil ?_
     refine dn (k:=?_)
     refine tk 17 hX (k:=?_)
     refine E4 111 (v := .bool false) (congrArg Value.bool (show (cc.run != cc.run)=false by simp)) ?_
     refine tks 18 3 ?_
     refine tk 22 hX (k:=?_)
     refine dt 21 hX (k:=?_)
     have CP:=hs.AB [] (by simp [x1,x2,y1,y2]) (by simp [D0])
     refine cl (h:=by exact Fo ca cc _ _ (Dr.only CP)) (k:=?_)
     rintro v8 w8 ⟨rfl,DE⟩;replace hs:=hs.AK DE
     refine XS.nil ?_
     refine dn (k:=?_)
     refine dt 23 hX (k:=?_)
     have CP:=hs.AB [] (by simp [x1,x2,y1,y2]) (by simp [D0])
     refine cl (h:=by exact Fo cb cc _ _ (E5.only CP)) (k:=?_)
     rintro v8 w8 ⟨rfl,DE⟩;replace hs:=hs.AK DE
     refine XS.nil ?_
     refine dn (k:=?_)
     refine tk 24 hX (k:=?_)
     refine E4 118 (v := .bool false) (congrArg Value.bool (ZT cc.carr)) ?_
     refine tks 25 9 ?_
     refine tks 35 7 ?_
     refine dt 34 hX (k:=?_)
     have CP:=hs.AB [] (by simp [x1,x2,y1,y2]) (by simp [D0])
     refine cl (h:=by exact II qx cc.A _ (N1.only CP)) (k:=?_)
     rintro v8 w8 ⟨rfl,DE⟩;replace hs:=hs.AK DE
     refine XS.nil ?_
     refine dn (k:=?_)
     refine dt 42 hX (k:=?_)
     have CP:=hs.AB [] (by simp [x1,x2,y1,y2]) (by simp [D0])
     refine cl (h:=by exact II qy cc.A _ (K1.only CP)) (k:=?_)
     rintro v8 w8 ⟨rfl,DE⟩;replace hs:=hs.AK DE
     refine XS.nil ?_
     refine dn (k:=?_)
     refine tk 43 hX (k:=?_)
     refine E4 137 (v := .bool false) (congrArg Value.bool (show (HA cc.A != HA cc.A)=false by simp)) ?_
     refine tk 44 hX (k:=?_)
     refine en (k:=?_)
     refine Jd ?_
     have KQ:=hs.AB [] (by simp [x1,x2,y1,y2]) (by simp [D0])
     exact A2 (k+1) (by show c.cores.toNat - (k+1) < c.cores.toNat - k;omega) (by (repeat (first | exact Ac | (apply A5;first | exact rfl | exact congrArg (Value.int .i64) (ek hlk))))) ⟨by show ((k+1:Nat):Int)≤_;omega,(Jy.trans B8).trans KQ⟩
    ·have p8:(k:Int)≠q.core:=by simpa using (by assumption:((k:Int) == q.core)=false)
     have ek2:=ek
     refine aD (b:=12) hq.1.1 (by decide) (k:=?_)
     repeat' (first|refine vs (k:=?_)|refine ps (k:=?_)|refine Al ?_|refine Nx.h ?_|refine ES ?_|((with_reducible apply BM);exact rfl;exact rfl;intro c hc;(fail_if_success have:true=c:=hc);(fail_if_success have:false=c:=hc);cases c)|refine Au rfl (fun hc=>?_) fun hc=>?_|fail)
     ·have p9:¬ (1 < q.d % 12):=by simpa using hc
      have hlc:(k:Int) < c.cores:=by omega
      have hlk:k < 9:=by omega
      have eC:=QH (c:=s.cf) (k:=(k:Int)) om om
      have eN:=next_cf hG.inv q
      have cD:Bx (F8 s q).cf (k:Int)=0:=by rw [eN];exact eC
      have eA:=NB hG.inv nK (k:=k) p8 (fun _ z=>absurd z p9)
      have M9:=hs.AB [] (by simp [v2,v7,v10]) (by simp [D0])
      have TL:=(TI.keep Jy).keep M9
      refine cl (h:=by exact I4 sd s _ k _ TL.b (by unfold In64;omega)) (k:=?_)
      rintro v20 KE ⟨h | ⟨-,ca,A1,rfl,Dr,oH⟩,Dk⟩
      ·exact absurd eC h.1
      have T4:=Dr.lt
      have Aw:=M9.trans Dk
      clear hs
      have hs:=St.nil KE
      refine Ja ?_
      have hoq:=hs.AD rfl
      refine cl (h:=by exact I4 sb (F8 s q) _ k _ ((TI.a.only Jy).only (Aw.trans hoq)) (by unfold In64;omega)) (k:=?_)
      rintro v21 GP ⟨h | ⟨-,cb,B1,rfl,E5,hB1⟩,CG⟩
      ·exact absurd cD h.1
      rw [eA] at E5
      have Dr:=Dr.only CG
      have B8:=(Aw.trans hoq).trans CG
      obtain ⟨sx,qx,mx,Xs,eX,x1,x2,EK,N1,ms1⟩:=Dr.EB
      obtain ⟨sy,qy,my,Ys,eY,y1,y2,Di,K1,ms2⟩:=E5.EB
      have n1:cb≠ca:=fun e=>by have:=hB1 cb E5.mem;have:=T4 ca Dr.mem;omega
      have n3:sy≠sx:=fun e=>by have:=hB1 sy (by rw [eY];simp [ms2]);have:=T4 sx (by rw [eX];simp [ms1]);omega
      have d1:cb≠sx:=AW y1 x2 (by decide)
      have d2:sy≠ca:=AW y2 x1 (by decide)
      have d3:sy≠cb:=AW y2 y1 (by decide)
      have tE:(AS s k).A.l.length≤32:=by obtain ⟨q,h⟩:=EK.rep;exact h.le
      have IX:((AS s k).A.l.map Subtype.val).length≤9223372036854775807:=by rw [List.length_map];omega
      generalize AS s k=cc at *
      clear hs
      have hs:=(((St.nil GP).AE x1).AE x2).AG y1 (by simp [n1,d1])
      replace hs:=hs.AG y2 (by simp [n3,d2,d3])
      refine Jc ?_
      refine dr [] hs (k:=?_);intro hX w hs
      refine tks 0 4 ?_
      refine tks 5 4 ?_
      refine dt 4 hX (k:=?_)
      have CP:=hs.AB [] (by simp [x1,x2,y1,y2]) (by simp [D0])
      refine cl (h:=by exact IY sx cc.A Xs _ (EK.only CP)) (k:=?_)
      rintro v12 w12 ⟨⟨Ga1,c9,_⟩,DE⟩;replace hs:=hs.AK DE
      refine XS.nil ?_
      refine dn (k:=?_)
      refine dt 9 hX (k:=?_)
      have CP:=hs.AB [] (by simp [x1,x2,y1,y2]) (by simp [D0])
      refine cl (h:=by exact IY sy cc.A Ys _ (Di.only CP)) (k:=?_)
      rintro v13 I5 ⟨⟨Gb1,cM,_⟩,Av⟩;replace hs:=hs.AK Av
      refine XS.nil ?_
      refine dn (k:=?_)
      refine dt 10 hX (k:=?_)
      refine cl (h:=by exact SX _ _ (cc.A.l.map Subtype.val) (cc.A.l.map Subtype.val) IX _ (rq_ls (c9.keep Av (by simp))) (rq_ls cM)) (k:=?_)
      rintro v8 w8 ⟨rfl,DE⟩;replace hs:=hs.AK DE
      refine XS.nil ?_
      refine dn (k:=?_)
      refine E4 104 (v := .bool true) (congrArg Value.bool (decide_eq_true rfl)) ?_
      refine tks 11 3 ?_
      refine tk 15 hX (k:=?_)
      refine dt 14 hX (k:=?_)
      have CP:=hs.AB [] (by simp [x1,x2,y1,y2]) (by simp [D0])
      refine cl (h:=by exact IG ca cc _ _ (Dr.only CP)) (k:=?_)
      rintro v8 w8 ⟨rfl,DE⟩;replace hs:=hs.AK DE
      refine XS.nil ?_
      refine dn (k:=?_)
      refine dt 16 hX (k:=?_)
      have CP:=hs.AB [] (by simp [x1,x2,y1,y2]) (by simp [D0])
      refine cl (h:=by exact IG cb cc _ _ (E5.only CP)) (k:=?_)
      rintro v8 w8 ⟨rfl,DE⟩;replace hs:=hs.AK DE
      refine XS.nil ?_
      refine dn (k:=?_)
      refine tk 17 hX (k:=?_)
      refine E4 111 (v := .bool false) (congrArg Value.bool (show (cc.run != cc.run)=false by simp)) ?_
      refine tks 18 3 ?_
      refine tk 22 hX (k:=?_)
      refine dt 21 hX (k:=?_)
      have CP:=hs.AB [] (by simp [x1,x2,y1,y2]) (by simp [D0])
      refine cl (h:=by exact Fo ca cc _ _ (Dr.only CP)) (k:=?_)
      rintro v8 w8 ⟨rfl,DE⟩;replace hs:=hs.AK DE
      refine XS.nil ?_
      refine dn (k:=?_)
      refine dt 23 hX (k:=?_)
      have CP:=hs.AB [] (by simp [x1,x2,y1,y2]) (by simp [D0])
      refine cl (h:=by exact Fo cb cc _ _ (E5.only CP)) (k:=?_)
      rintro v8 w8 ⟨rfl,DE⟩;replace hs:=hs.AK DE
      refine XS.nil ?_
      refine dn (k:=?_)
      refine tk 24 hX (k:=?_)
      refine E4 118 (v := .bool false) (congrArg Value.bool (ZT cc.carr)) ?_
      refine tks 25 9 ?_
      refine tks 35 7 ?_
      refine dt 34 hX (k:=?_)
      have CP:=hs.AB [] (by simp [x1,x2,y1,y2]) (by simp [D0])
      refine cl (h:=by exact II qx cc.A _ (N1.only CP)) (k:=?_)
      rintro v8 w8 ⟨rfl,DE⟩;replace hs:=hs.AK DE
      refine XS.nil ?_
      refine dn (k:=?_)
      refine dt 42 hX (k:=?_)
      have CP:=hs.AB [] (by simp [x1,x2,y1,y2]) (by simp [D0])
      refine cl (h:=by exact II qy cc.A _ (K1.only CP)) (k:=?_)
      rintro v8 w8 ⟨rfl,DE⟩;replace hs:=hs.AK DE
      refine XS.nil ?_
      refine dn (k:=?_)
      refine tk 43 hX (k:=?_)
      refine E4 137 (v := .bool false) (congrArg Value.bool (show (HA cc.A != HA cc.A)=false by simp)) ?_
      refine tk 44 hX (k:=?_)
      refine en (k:=?_)
      refine Jd ?_
      have KQ:=hs.AB [] (by simp [x1,x2,y1,y2]) (by simp [D0])
      exact A2 (k+1) (by show c.cores.toNat - (k+1) < c.cores.toNat - k;omega) (by (repeat (first | exact Ac | (apply A5;first | exact rfl | exact congrArg (Value.int .i64) (ek hlk))))) ⟨by show ((k+1:Nat):Int)≤_;omega,(Jy.trans B8).trans KQ⟩
     ·have hlc:(k:Int) < c.cores:=by assumption
      have hlk:k < 9:=by omega
      have KQ:=hs.AB [] (by simp [v2,v7,v10]) (by simp [D0])
      exact A2 (k+1) (by show c.cores.toNat - (k+1) < c.cores.toNat - k;omega) (by (repeat (first | exact Ac | (apply A5;first | exact rfl | exact congrArg (Value.int .i64) (ek hlk))))) ⟨by show ((k+1:Nat):Int)≤_;omega,Jy.trans KQ⟩
     ·have Yh:x.core≠k:=by simpa using hc
      have hlc:(k:Int) < c.cores:=by omega
      have hlk:k < 9:=by omega
      have eC:=QH (c:=s.cf) (k:=(k:Int)) om om
      have eN:=next_cf hG.inv q
      have cD:Bx (F8 s q).cf (k:Int)=0:=by rw [eN];exact eC
      have eA:=NB hG.inv nK (k:=k) p8 (fun _ _=>by rw [hxx];exact Yh)
      have M9:=hs.AB [] (by simp [v2,v7,v10]) (by simp [D0])
      have TL:=(TI.keep Jy).keep M9
      refine cl (h:=by exact I4 sd s _ k _ TL.b (by unfold In64;omega)) (k:=?_)
      rintro v20 KE ⟨h | ⟨-,ca,A1,rfl,Dr,oH⟩,Dk⟩
      ·exact absurd eC h.1
      have T4:=Dr.lt
      have Aw:=M9.trans Dk
      clear hs
      have hs:=St.nil KE
      refine Ja ?_
      have hoq:=hs.AD rfl
      refine cl (h:=by exact I4 sb (F8 s q) _ k _ ((TI.a.only Jy).only (Aw.trans hoq)) (by unfold In64;omega)) (k:=?_)
      rintro v21 GP ⟨h | ⟨-,cb,B1,rfl,E5,hB1⟩,CG⟩
      ·exact absurd cD h.1
      rw [eA] at E5
      have Dr:=Dr.only CG
      have B8:=(Aw.trans hoq).trans CG
      obtain ⟨sx,qx,mx,Xs,eX,x1,x2,EK,N1,ms1⟩:=Dr.EB
      obtain ⟨sy,qy,my,Ys,eY,y1,y2,Di,K1,ms2⟩:=E5.EB
      have n1:cb≠ca:=fun e=>by have:=hB1 cb E5.mem;have:=T4 ca Dr.mem;omega
      have n3:sy≠sx:=fun e=>by have:=hB1 sy (by rw [eY];simp [ms2]);have:=T4 sx (by rw [eX];simp [ms1]);omega
      have d1:cb≠sx:=AW y1 x2 (by decide)
      have d2:sy≠ca:=AW y2 x1 (by decide)
      have d3:sy≠cb:=AW y2 y1 (by decide)
      have tE:(AS s k).A.l.length≤32:=by obtain ⟨q,h⟩:=EK.rep;exact h.le
      have IX:((AS s k).A.l.map Subtype.val).length≤9223372036854775807:=by rw [List.length_map];omega
      generalize AS s k=cc at *
      clear hs
      have hs:=(((St.nil GP).AE x1).AE x2).AG y1 (by simp [n1,d1])
      replace hs:=hs.AG y2 (by simp [n3,d2,d3])
      refine Jc ?_
      refine dr [] hs (k:=?_);intro hX w hs
      refine tks 0 4 ?_
      refine tks 5 4 ?_
      refine dt 4 hX (k:=?_)
      have CP:=hs.AB [] (by simp [x1,x2,y1,y2]) (by simp [D0])
      refine cl (h:=by exact IY sx cc.A Xs _ (EK.only CP)) (k:=?_)
      rintro v12 w12 ⟨⟨Ga1,c9,_⟩,DE⟩;replace hs:=hs.AK DE
      refine XS.nil ?_
      refine dn (k:=?_)
      refine dt 9 hX (k:=?_)
      have CP:=hs.AB [] (by simp [x1,x2,y1,y2]) (by simp [D0])
      refine cl (h:=by exact IY sy cc.A Ys _ (Di.only CP)) (k:=?_)
      rintro v13 I5 ⟨⟨Gb1,cM,_⟩,Av⟩;replace hs:=hs.AK Av
      refine XS.nil ?_
      refine dn (k:=?_)
      refine dt 10 hX (k:=?_)
      refine cl (h:=by exact SX _ _ (cc.A.l.map Subtype.val) (cc.A.l.map Subtype.val) IX _ (rq_ls (c9.keep Av (by simp))) (rq_ls cM)) (k:=?_)
      rintro v8 w8 ⟨rfl,DE⟩;replace hs:=hs.AK DE
      refine XS.nil ?_
      refine dn (k:=?_)
      refine E4 104 (v := .bool true) (congrArg Value.bool (decide_eq_true rfl)) ?_
      refine tks 11 3 ?_
      refine tk 15 hX (k:=?_)
      refine dt 14 hX (k:=?_)
      have CP:=hs.AB [] (by simp [x1,x2,y1,y2]) (by simp [D0])
      refine cl (h:=by exact IG ca cc _ _ (Dr.only CP)) (k:=?_)
      rintro v8 w8 ⟨rfl,DE⟩;replace hs:=hs.AK DE
      refine XS.nil ?_
      refine dn (k:=?_)
      refine dt 16 hX (k:=?_)
      have CP:=hs.AB [] (by simp [x1,x2,y1,y2]) (by simp [D0])
      refine cl (h:=by exact IG cb cc _ _ (E5.only CP)) (k:=?_)
      rintro v8 w8 ⟨rfl,DE⟩;replace hs:=hs.AK DE
      refine XS.nil ?_
      refine dn (k:=?_)
      refine tk 17 hX (k:=?_)
      refine E4 111 (v := .bool false) (congrArg Value.bool (show (cc.run != cc.run)=false by simp)) ?_
      refine tks 18 3 ?_
      refine tk 22 hX (k:=?_)
      refine dt 21 hX (k:=?_)
      have CP:=hs.AB [] (by simp [x1,x2,y1,y2]) (by simp [D0])
      refine cl (h:=by exact Fo ca cc _ _ (Dr.only CP)) (k:=?_)
      rintro v8 w8 ⟨rfl,DE⟩;replace hs:=hs.AK DE
      refine XS.nil ?_
      refine dn (k:=?_)
      refine dt 23 hX (k:=?_)
      have CP:=hs.AB [] (by simp [x1,x2,y1,y2]) (by simp [D0])
      refine cl (h:=by exact Fo cb cc _ _ (E5.only CP)) (k:=?_)
      rintro v8 w8 ⟨rfl,DE⟩;replace hs:=hs.AK DE
      refine XS.nil ?_
      refine dn (k:=?_)
      refine tk 24 hX (k:=?_)
      refine E4 118 (v := .bool false) (congrArg Value.bool (ZT cc.carr)) ?_
      refine tks 25 9 ?_
      refine tks 35 7 ?_
      refine dt 34 hX (k:=?_)
      have CP:=hs.AB [] (by simp [x1,x2,y1,y2]) (by simp [D0])
      refine cl (h:=by exact II qx cc.A _ (N1.only CP)) (k:=?_)
      rintro v8 w8 ⟨rfl,DE⟩;replace hs:=hs.AK DE
      refine XS.nil ?_
      refine dn (k:=?_)
      refine dt 42 hX (k:=?_)
      have CP:=hs.AB [] (by simp [x1,x2,y1,y2]) (by simp [D0])
      refine cl (h:=by exact II qy cc.A _ (K1.only CP)) (k:=?_)
      rintro v8 w8 ⟨rfl,DE⟩;replace hs:=hs.AK DE
      refine XS.nil ?_
      refine dn (k:=?_)
      refine tk 43 hX (k:=?_)
      refine E4 137 (v := .bool false) (congrArg Value.bool (show (HA cc.A != HA cc.A)=false by simp)) ?_
      refine tk 44 hX (k:=?_)
      refine en (k:=?_)
      refine Jd ?_
      have KQ:=hs.AB [] (by simp [x1,x2,y1,y2]) (by simp [D0])
      exact A2 (k+1) (by show c.cores.toNat - (k+1) < c.cores.toNat - k;omega) (by (repeat (first | exact Ac | (apply A5;first | exact rfl | exact congrArg (Value.int .i64) (ek hlk))))) ⟨by show ((k+1:Nat):Int)≤_;omega,(Jy.trans B8).trans KQ⟩
    ·have hlk:k < 9:=by omega
     have hlc:(k:Int) < c.cores:=by assumption
     have KQ:=hs.AB [] (by simp [v2,v7,v10]) (by simp [D0])
     exact A2 (k+1) (by show c.cores.toNat - (k+1) < c.cores.toNat - k;omega) (by (repeat (first | exact Ac | (apply A5;first | exact rfl | exact congrArg (Value.int .i64) (ek hlk))))) ⟨by show ((k+1:Nat):Int)≤_;omega,Jy.trans KQ⟩
    ·exact Ar () Ab Jy
   ·rintro _ env w' Jy
    clear hs
    have hs:=St.nil w'
    refine Ja ?_
    have KQ:=Jy.trans (hs.AD rfl)
    exact A2 (i+1,F8 s q,F') (by show xs.length - (i+1) < xs.length - i;omega) (by (repeat (first | exact Ac | (apply A5;first | exact rfl | exact congrArg (Value.int .i64) ei)))) ⟨by show i+1≤_;omega,JF,(next_cf hG.inv q).trans UK,TI.a.only KQ,TI.f,KQ.block u2 (by simp),TI.o.trans KQ⟩
  ·exact Ar () Ab ho
 ·rintro _ env w ho
  clear hs
  have hs:=St.nil w
  refine Ja ?_
  refine AF ?_
  exact ⟨rfl,ho.trans (hs.AD rfl)⟩
end Go.Proofs.Q0
namespace Go.Proofs.Q0
open Go Go.RowKit Go.ChangeShapes Go.WideShapes Go.ChangeAt
theorem PS (os:Os) (started:os.Started) (H:Type) (enc:TypeId × Value→H) :
 ReturnsInHanded {} Tryz.checked os 4 .any (fun w args => (YtjiiakjheghcoaaGreatDoor.Rows.schedApartSpec.pre enc Tryz.prog Tryz.f4 [] false w args ∧ laidMetH Tryz.prog [("math/bits.deBruijn32tab", YtjiiakjheghcoaaGreatDoor.Rows.laid_math_bits_deBruijn32tab), ("math/bits.deBruijn64tab", YtjiiakjheghcoaaGreatDoor.Rows.laid_math_bits_deBruijn64tab), ("internal/strconv.uint64pow10", YtjiiakjheghcoaaGreatDoor.Rows.laid_internal_strconv_uint64pow10)] w) ∧ sizedMet enc Tryz.prog Tryz.f4 (OpenSpec.ofChange YtjiiakjheghcoaaGreatDoor.Rows.schedApartSpec) false w args) (YtjiiakjheghcoaaGreatDoor.Rows.schedApartSpec.post enc Tryz.prog Tryz.f4 false true false false) := by
 refine returnsInHanded_of_change_and (C := Tryz.checked) (X := fun w _ => laidMetH Tryz.prog [("math/bits.deBruijn32tab", YtjiiakjheghcoaaGreatDoor.Rows.laid_math_bits_deBruijn32tab), ("math/bits.deBruijn64tab", YtjiiakjheghcoaaGreatDoor.Rows.laid_math_bits_deBruijn64tab), ("internal/strconv.uint64pow10", YtjiiakjheghcoaaGreatDoor.Rows.laid_internal_strconv_uint64pow10)] w) (fun _ _ _ hh h => h.of_heap hh) own started (by kernel_rfl) Tryz.func4
  (ChangeSpec.witness_shaped (enc := enc) (C := Tryz.checked) (os := os) (X := fun w _ => laidMetH Tryz.prog [("math/bits.deBruijn32tab", YtjiiakjheghcoaaGreatDoor.Rows.laid_math_bits_deBruijn32tab), ("math/bits.deBruijn64tab", YtjiiakjheghcoaaGreatDoor.Rows.laid_math_bits_deBruijn64tab), ("internal/strconv.uint64pow10", YtjiiakjheghcoaaGreatDoor.Rows.laid_internal_strconv_uint64pow10)] w) false (World.doorLaid Tryz.prog 24 os) #[.agg #[.int .i64 0, .int .i64 0, .int .u64 0, .int .u64 0, .int .u64 0], .slice none 0 0] 8 rfl (World.shaped_of_RefB (by kernel_rfl) (by kernel_rfl)) (by kernel_rfl) (by kernel_rfl) (by kernel_rfl) (door_met os _)) ?_
 intro W base args ds gs before pN hW aBZ aAq hL _
 have hP:=rH hL
 have hval:∀ (j:Nat) t v,Tryz.f4.params[j]?=some t→args[j]?=some v→Value.okWide Tryz.prog W .any base t v:=pN
 have hW':=hW
 obtain ⟨p,q,gM,hV,rfl,hfz,hnd⟩:=hW
 have hA:DataW.TrodAll enc Tryz.prog W 0 (fun _=>true) true Tryz.f4.params.toList args.toList ds p:=gM
 rw [Tryz.params4] at hA hval
 obtain ⟨v0,vs0,d0,ds0,p0,q0,hargs,rfl,rfl,h0,r0⟩:=trodAll_cons hA
 obtain ⟨v1,vs1,d1,ds1,p1,q1,rfl,rfl,rfl,h1,r1⟩:=trodAll_cons r0
 obtain ⟨rfl,rfl,rfl⟩:=trodAll_nil r1
 obtain rfl:args=#[v0,v1]:=by cases args;simp_all
 obtain ⟨rfl,rfl⟩:=trodVars_none hV
 have lt0:∀ x∈p0,x.block < W.heap.size:=by obtain ⟨m,hm⟩:=h0;exact DataW.trod_lt m _ _ _ hm
 have k0:=h0
 obtain ⟨x0,hx0,rfl⟩:=kX (hval 0 _ v0 rfl rfl) k0
 have Wd:∀ x∈p1,x.block < W.heap.size:=by obtain ⟨m,hm⟩:=h1;exact DataW.trod_lt m _ _ _ hm
 have k1:=h1
 obtain ⟨x1,hw1,hx1⟩:=Xu (hval 1 _ v1 rfl rfl) k1
 clear gM pN aAq
 refine (ret_calls (by kernel_rfl) (TX x0 x1 _ hx0 hx1 W hw1 hP)).mono fun e W' ⟨v,he,hv,ho⟩=>?_
 subst he hv
 have tS:=ho.below
 exact ⟨_,rfl,_,_,_,[],_,[],hW',trodAll_mk1 (shut_bool (by kernel_rfl) _),(trodAll_cons_mk (Below.trod laidOut (by kernel_rfl) (of_decide_eq_true (by kernel_rfl)) h0 tS lt0) (trodAll_cons_mk (Below.trod laidOut (by kernel_rfl) (of_decide_eq_true (by kernel_rfl)) h1 tS Wd) trodAll_mk0)),rfl,tS.frame _,fun h=>by cases h⟩
end Go.Proofs.Q0
namespace Go.Proofs.YtjiiakjheghcoaaGreatDoor
open Go Go.RowKit Go.ChangeShapes Go.WideShapes Go.ChangeAt
theorem N3 : Tryz.prog.funcNamed "turnstone/turnstonelaw21.SchedApart" = some 4 := by kernel_rfl
theorem Ua:(Rows.schedApartRow.inPlace == Tryz.prog.inPlace 4)=true:=by kernel_rfl
theorem Uc:(Rows.schedApartRow.unfollowed == Tryz.prog.unfollowed 4)=true:=by kernel_rfl
theorem Ue:(Rows.schedApartRow.recurses == Tryz.prog.recurses 4)=true:=by kernel_rfl
theorem Ug:(Rows.schedApartRow.named == Tryz.prog.varsNamed 4)=true:=by kernel_rfl
theorem Q3:Rows.SchedApartSaid :=
 OpenClaim.holds_of_wide 4 Tryz.f4 rfl rfl rfl rfl rfl rfl rfl ⟨rfl,rfl,rfl,rfl,rfl⟩ rfl rfl rfl rfl rfl N3 Tryz.func4
  (by unfold joinedFacts;exact (and_mk (and_mk (and_mk (and_mk (and_mk (and_mk (and_mk (and_mk (and_mk (and_mk (and_mk (and_mk (and_mk (and_mk (and_mk (and_mk (and_mk (and_mk (and_mk (and_mk (and_mk (and_mk (and_mk (and_mk (and_mk (and_mk (and_mk (and_mk (and_mk (and_mk (and_mk (by kernel_rfl) q8) rV) (by kernel_rfl)) (by kernel_rfl)) (by kernel_rfl)) (by kernel_rfl)) (by kernel_rfl)) (by kernel_rfl)) Ua) Uc) Ue) Ug) (by kernel_rfl)) (by kernel_rfl)) (by kernel_rfl)) (by kernel_rfl)) (by kernel_rfl)) (by kernel_rfl)) (by kernel_rfl)) (by kernel_rfl)) (by kernel_rfl)) sX) (by kernel_rfl)) mS) kN) sC) rD) (by kernel_rfl)) (by kernel_rfl)) (by kernel_rfl)) (by kernel_rfl)))
  (of_decide_eq_true (by kernel_rfl)) (by unfold Func.isWrapper;first | (rw [if_pos (by decide +kernel)];kernel_rfl) | (rw [if_neg (by decide +kernel)];exact ⟨rfl,rfl⟩))
  (fun os started H enc _=>Q0.PS os started H enc)
theorem XG:Rows.schedApartRow.wfByText (OpenSpec.ofChange Rows.schedApartSpec)=true:=by kernel_rfl
theorem Ub:Tryz.prog.mainIs=some (Rows.schedApartCard.stood.harness.1,Rows.schedApartCard.stood.harness.2.toList):=by kernel_rfl
theorem U7:Rows.schedApartCard.stood.looks=Tryz.prog.looks []:=by kernel_rfl
theorem Ud:false=Rows.schedApartRow.goesBy Tryz.prog:=by kernel_rfl
theorem schedApart_card:Rows.SchedApartCardSaid :=
 Claim7.holds_tied_plain_at .later [] [.data,.data,.data] true Rows.schedApartCard.stood.harness Rows.schedApartCard.stood.looks
  Q3 (fun _ h=>by cases h) XG (fun _ h=>by cases h) schedApart_row_tie rfl ⟨rfl,rfl⟩ Ub rfl
  (fun f fn hf hfn=>by
   obtain rfl:f=4:=Option.some.inj (N3.symm.trans hf) |>.symm
   obtain rfl:fn=Tryz.f4:=(Option.some.inj (Tryz.func4.symm.trans hfn)).symm
   exact ⟨U7,fun j t ht=>by
    rw [Tryz.params4] at ht
    have hm:t∈[24,25]:=by simpa using Array.mem_of_getElem? ht
    have hall:([24,25].all fun u=>!Tryz.prog.wantsStandIn u)=true:=by kernel_rfl
    exact (show Tryz.prog.wantsStandIn t=false by simpa using List.all_eq_true.1 hall t hm)⟩)
  Ud
end Go.Proofs.YtjiiakjheghcoaaGreatDoor
