/- Proved: a call that is refused changes nothing, and tells no event; a clone goes on by itself -/
import Derived.Test.YtjiiakjheghcoaaGreatDoorGa10
import Derived.Test.YtjiiakjheghcoaaGreatDoorRows
import Derived.JoinedOf
import Derived.Test.YtjiiakjheghcoaaGreatDoorTie
import Derived.Lib.LaidTab
import Derived.Stop.LaidErr
import Derived.MakeChecks
import Derived.LaidMore
import Derived.LaidLaws
import Derived.Test.YtjiiakjheghcoaaGreatDoorCards
import Derived.SevenTiedAt
set_option linter.unusedVariables false
set_option linter.unusedSimpArgs false
set_option maxRecDepth 100000
set_option maxHeartbeats 64000000
set_option linter.unusedSectionVars false
namespace Go.Proofs.Q0
open Go Go.RowKit
attribute [local irreducible] XS XC XA AX AO A6 AZ AY A7 Ab AV SE
abbrev Wx (x:Int):Obj := .cells #[.int .i64 x] 3 (0,0)
theorem s6 {l:List Tk} (h:l.length≤32) (x:Tk):In64 (Ea l x):=by
 unfold Ea
 cases BZ x with
 | false=>exact (by decide:In64 0)
 | true =>
   cases e:D2 l with
   | none=>exact (by decide:In64 0)
   | some i =>
     have:=Ky e
     show In64 ((i:Int)+1)
     unfold In64;omega
theorem Xx (b1 b2 b3 b4 hb:Nat) (s:Sy) (core q ns:Int) (wb w0:World) (F8:In64 core) (hq:BV q) (D3:BV ns) (hw0:AA [] wb w0) (n14:b1≠b4) (n23:b2≠b3)
 (xV:wb.heap[b1]?=some (Wx core)) (B2w:wb.heap[b2]?=some (.cells #[.int .u64 q] 22 (0,0))) (B3w:wb.heap[b3]?=some (.cells #[.int .u64 ns] 22 (0,0))) (B4w:wb.heap[b4]?=some (Wx 0)) :
 oX wb w0 51 [.pointer (some ⟨b1,0,none⟩),.pointer (some ⟨b2,0,none⟩),.pointer (some ⟨b3,0,none⟩),.pointer (some ⟨b4,0,none⟩)] [b4] (fun w=>w.heap[b4]?=some (Wx (Bk ⟨s,[]⟩ core q ns).2.1)) s ((Bk ⟨s,[]⟩ core q ns).1,(Bk ⟨s,[]⟩ core q ns).2.2):=by
 intro hb F h hF
 have B1:=hw0.block xV (by simp)
 have B2:=hw0.block B2w (by simp)
 have B3:=hw0.block B3w (by simp)
 have B4:=hw0.block B4w (by simp)
 have l4:=lt_of_block B4w
 have zw:=hw0.size
 have Es:=h
 have V5:=h.lt
 have Q8:EG s:=by obtain ⟨_,_,_,_,_,_,_,_,_,hO⟩:=h.E4;exact hO.s.ok
 obtain ⟨sb,tb,rb,v,ve,L,G,Ge,eF,hO⟩:=h.E4
 have ZA:=hO.s.t.RN.2
 have ZF:b4∉F:=fun hm=>by have:=hF _ hm;omega
 have hh:=hO.h
 have os:=hO.s.o
 have hs:=((((St.nil w0).AE B1).AE B2).AG B3 (by
  have:=A0 B3 B1 (by decide)
  simp;exact ⟨Ne.symm n23,this⟩)).AE os |>.AE hh
 refine AQ Tryz.func51 Tryz.ntmps51 (k:=?_)
 refine Ja ?_
 refine IG [] hs (k:=?_);clear hs;intro hX w CF hs
 refine tks 0 8 ?_
 refine tks 9 8 ?_
 refine tks 18 8 ?_
 refine dt 8 hX (k:=?_)
 refine cl (h:=by exact KP s.cf core _) (k:=?_)
 rintro v2 w2 ⟨rfl,AN⟩
 replace hs:=hs.JD AN
 refine XS.nil ?_
 refine dn (k:=?_)
 refine dt 17 hX (k:=?_)
 refine cl (h:=by exact O5 s.cf q _) (k:=?_)
 rintro v3 w3 ⟨rfl,AS⟩
 replace hs:=hs.JD AS
 refine XS.nil ?_
 refine dn (k:=?_)
 refine dt 26 hX (k:=?_)
 refine cl (h:=by exact Nl s.cf ns _) (k:=?_)
 rintro v4 w4 ⟨rfl,Al⟩
 replace hs:=hs.JD Al
 refine XS.nil ?_
 refine dn (k:=?_)
 refine dt 27 hX (k:=?_)
 refine bs1 hs (k:=?_);clear hs;intro b27 w5 BJ z5 hs
 refine XS.nil ?_
 refine dn (k:=?_)
 refine dt 28 hX (k:=?_)
 refine cl (h:=by exact YV [CP s.cf core,BB q 1048576,BB ns (Dd s.cf.slice)] _ (by simp) _ (lit_ls (n:=3) (hs.get At.head) rfl (fun x hx=>by obtain ⟨e,_,rfl⟩:=List.mem_map.1 hx;rfl) rfl).x) (k:=?_)
 rintro v6 w6 ⟨rfl,Ak⟩
 replace hs:=hs.JD Ak
 refine XS.nil ?_
 refine dn (k:=?_)
 refine tk 29 hX (k:=?_)
 refine en (k:=?_)
 have Ay:=((((CF.trans AN).trans AS).trans Al).trans BJ).trans Ak
 have zA:=Ay.size
 rw [show GF [CP s.cf core,BB q 1048576,BB ns (Dd s.cf.slice)]=DP s core q ns from rfl]
 by_cases c1:DP s core q ns≠0
 ·rw [NM (s:=⟨s,[]⟩) c1]
  generalize DP s core q ns=ee at *
  repeat' (first|refine Sa ?_|(refine AU hs (k:=?_);intro w hs)|(refine al hs (k:=?_);intro b w hz hs)|refine xc_cond rfl (fun hc=>?_) fun hc=>?_|fail)
  ·refine AF ?_
   have CQ:=hs.AB [] (fun e he => .inr (.inr (hs.hold e he))) (by simp [D0])
   exact ⟨rfl,(Ay.trans CQ).block B4 (by simp),fun z=>absurd z c1,(Ay.trans CQ).weaken (by simp)⟩
  ·exact absurd (by simpa using hc) c1
 have q8:DP s core q ns=0:=by
  rcases Classical.em (DP s core q ns=0) with z | z
  ·exact z
  ·exact absurd z c1
 rw [q8]
 have JS:0≤core∧core < s.cf.cores:=by
  unfold DP GF CP at q8
  by_cases k:core < 0∨core≥s.cf.cores
  ·rw [if_pos k] at q8;cases q8
  ·omega
 have HC:CN s.cf.cores (B6 core q ns):=⟨(by decide:In64 0),(by decide:(0:Int)≤1∧(1:Int) < 256),F8,M7 _,D3,(by decide:In64 0),fun _=>JS⟩
 have k1:=hs.get (b:=b1) (by repeat (first | exact At.head | (with_reducible apply At.tail)))
 have k2:=hs.get (b:=b2) (by repeat (first | exact At.head | (with_reducible apply At.tail)))
 have k3:=hs.get (b:=b3) (by repeat (first | exact At.head | (with_reducible apply At.tail)))
 have wT:=hO.only Ay
 have o6h:=wT.h
 have o6s:=wT.s.o
 clear hs
 have hs:=((((St.nil w6).AE k1).AE k2).AG k3 (by
  have:=A0 k3 k1 (by decide)
  simp;exact ⟨Ne.symm n23,this⟩)).AE o6s |>.AE o6h
 have hH:=hs.hold
 repeat' (first|refine Sd ?_|(refine AU hs (k:=?_);intro w hs)|(refine al hs (k:=?_);intro b w hz hs)|fail)
 obtain ⟨b8,rfl⟩:∃ z,z=b:=⟨_,rfl⟩
 have z8:w6.heap.size≤b8:=hs.new (b8,true) (by simp) rfl
 have CQ:=hs.AB [] (fun e he=>by
  rcases List.mem_cons.1 he with rfl | he
  ·exact .inl rfl
  ·exact .inr (.inr (hH e he))) (by simp [D0])
 replace hs:=hs.Eh
 simp only [List.map_cons,List.map_nil] at hs
 have hO7:=wT.only CQ
 have Fo:b8≠rb:=by omega
 have Aj:=(Ay.trans CQ).weaken (G:=F) (by simp)
 refine IG [] hs (k:=?_);clear hs;intro hX w E3 hs
 have xQ:=hO7.only E3
 replace Aj:=Aj.step E3 (by simp)
 refine tks 0 8 ?_
 refine dt 8 hX (k:=?_)
 refine cl (h:=by exact L2 tb rb s.t (B6 core q ns) _ xQ.s.t) (k:=?_)
 rintro v8 w8 ⟨rfl,hT8,Da⟩
 have IF:=xQ.s.t
 obtain ⟨Jw,IA,ME,EY,_⟩:=IF
 replace hs:=hs.Df Da (fun k hk=>by obtain rfl:=List.mem_singleton.1 hk;exact hs.Hx Fo EY)
 have hO9:=xQ.Im hT8 Da (Q8.rows (Ya Q8.row Q8.tl HC) (Ww _ _))
 replace Aj:=Aj.step Da (fun k hk => .inl (by obtain rfl:=List.mem_singleton.1 hk;rw [eF];simp [CA]))
 have B48:w8.heap[b4]?=some (Wx 0):=Aj.block B4 ZF
 refine XS.nil ?_
 refine dn (k:=?_)
 refine tks 9 5 ?_
 refine en (k:=?_)
 by_cases c2:En s.t (B6 core q ns)≠0
 ·rw [NS (s:=⟨s,[]⟩) c1 c2]
  have Va:En (Ch.s ⟨s,[]⟩).t (B6 core q ns)≠0:=c2
  generalize En (Ch.s ⟨s,[]⟩).t (B6 core q ns)=ee at *
  generalize En s.t (B6 core q ns)=ee2 at *
  repeat' (first|refine Sa ?_|(refine st hs (k:=?_);intro w hs)|refine xc_cond rfl (fun hc=>?_) fun hc=>?_|fail)
  ·refine AF ?_
   have CQ:=hs.AB [] (fun e he => .inr (.inr (hs.hold e he))) (by simp [D0])
   exact ⟨rfl,CQ.block B48 (by simp),fun z=>absurd z c2,(Aj.step CQ (by simp)).weaken (by intro k hk;exact List.mem_append_left _ hk)⟩
  ·exact absurd (by simpa using hc) c2
 have Va:En s.t (B6 core q ns)=0:=by
  rcases Classical.em (En s.t (B6 core q ns)=0) with z | z
  ·exact z
  ·exact absurd z c2
 rw [QV (s:=⟨s,[]⟩) c1 c2,Va]
 have hn:=s6 Q8.tl (B6 core q ns)
 have eJ:KD ⟨s,[]⟩ core q ns=FD ⟨{ s with t:=D4 s.t (B6 core q ns) },[]⟩ { B6 core q ns with id:=Ea s.t (B6 core q ns) } 0:=rfl
 have eN:Ea (Ch.s ⟨s,[]⟩).t (B6 core q ns)=Ea s.t (B6 core q ns):=rfl
 rw [eN]
 have hy2:CN s.cf.cores { B6 core q ns with id:=Ea s.t (B6 core q ns) }:=⟨hn,HC.2⟩
 generalize KD ⟨s,[]⟩ core q ns=J at *
 generalize Ea s.t (B6 core q ns)=n at *
 have hH:=hs.hold
 have EL:=hs.get At.head
 repeat' (first|refine Sd ?_|(refine st hs (k:=?_);intro w hs)|fail)
 have JL:=hs.AB [b8] (fun e he=>by
  rcases List.mem_cons.1 he with rfl | he
  ·exact .inr (.inl (by simp))
  ·exact .inr (.inr (hH e (List.mem_cons_of_mem _ he)))) (by simp [D0])
 have aAU:=hO9.Ek JL EL Fo
 have vK:b4≠b8:=by omega
 replace Aj:=Aj.step JL (fun k hk => .inr (by obtain rfl:=List.mem_singleton.1 hk;omega))
 have aAb:=JL.block B48 (by simpa using vK)
 refine cl (h:=by exact Oz hb ⟨{ s with t:=D4 s.t (B6 core q ns) },[]⟩ _ { B6 core q ns with id:=n } 0 _ aAU.at hy2 (by decide:(1:Int)≠0) (by decide:In64 0) (by simp)) (k:=?_)
 rw [← eJ]
 rintro v11 pS ⟨rfl,aAL,Gx⟩
 have qA:=Aj.size
 have ZZ:=Gx.block aAb (by rw [← eF];exact ZF)
 replace Aj:=Aj.step Gx (fun k hk => .inl (by rw [eF];exact hk))
 clear hs
 have hs:=(St.nil pS).AE ZZ
 by_cases c3:J.1=0
 ·rw [if_pos c3]
  have hL:=aAL c3
  rw [c3]
  repeat' (first|refine Sd ?_|(refine st hs (k:=?_);intro w hs)|fail)
  refine AF ?_
  have Bq:=hs.AB [b4] (by simp) (by simp [D0])
  obtain ⟨F',h1,h2⟩:=hL
  refine ⟨rfl,hs.get (b:=b4) (by repeat (first | exact At.head | (with_reducible apply At.tail))),fun _=>⟨F',h1.Ae Bq (fun k hk hm=>by obtain rfl:=List.mem_singleton.1 hm;exact h1.not ZZ rfl hk),fun k hk=>?_⟩,(Aj.weaken (by intro k hk;exact List.mem_append_left _ hk)).step Bq (fun k hk => .inl (List.mem_append_right _ hk))⟩
  rcases h2 k hk with q | q
  ·exact .inl (by rw [eF];exact q)
  ·exact .inr om
 ·rw [if_neg c3]
  generalize J.1=ee at *
  repeat' (first|refine Sa ?_|(refine st hs (k:=?_);intro w hs)|refine xc_cond rfl (fun hc=>?_) fun hc=>?_|fail)
  ·refine AF ?_
   have CQ:=hs.AB [] (by simp [ZZ]) (by simp [D0])
   exact ⟨rfl,CQ.block ZZ (by simp),fun z=>absurd z c3,(Aj.step CQ (by simp)).weaken (by intro k hk;exact List.mem_append_left _ hk)⟩
  ·exact absurd (by simpa using hc) c3
theorem Dm.fin {w0 w1 w2 w3:World} {sb:Nat} {F:List Nat} {ve:Value} {s:Sy} {l:Int × Ch} (T:Dm w1 sb F [] ve s l w2) (ho:AA [] w0 w1) (AS:AA [] w2 w3):Dm w0 sb F [] ve s l w3:=by
 obtain ⟨⟨G,hG⟩,⟨F',hS,hF⟩,hT⟩:=T
 have hz:=ho.size
 exact ⟨⟨G,hG.keep AS (by simp)⟩,⟨F',hS.only AS,fun k hk=>by
  rcases hF k hk with q | q
  ·exact .inl q
  ·exact .inr om⟩,((ho.weaken (by simp)).step hT (fun k hk => .inl hk)).step AS (by simp)⟩
theorem Dm.form {w0 w1:World} {sb:Nat} {F E:List Nat} {ve:Value} {s:Sy} {l:Int × Ch} (T:Dm w0 sb F E ve s l w1):∃ a c,ve = .slice a (Db s l).1.length c:=by
 obtain ⟨⟨G,hG⟩,_⟩:=T
 exact BO hG
theorem j0 (sb:Nat) (s:Sy) (F:List Nat) (id:Int) (w0:World) (h:CM w0 sb s F) (hid:In64 id) :
 AM Tryz.prog 32 #[.pointer (some ⟨sb,0,none⟩),.int .i64 id] w0 fun v w'=>∃ ve,v = .tuple #[ve,.int .i64 (CJ ⟨s,[]⟩ id (fun s x=>Gd s x id)).1]∧Dm w0 sb F [] ve s (CJ ⟨s,[]⟩ id (fun s x=>Gd s x id)) w':=by
 have hs:=St.nil w0
 refine AQ Tryz.func32 Tryz.ntmps32 (k:=?_)
 refine Ag ?_
 refine Aq ?_
 refine Gl hs (k:=?_);clear hs;intro b3 w3 AS z3 hs
 refine Ja ?_
 have k3:=hs.get (b:=b3) (by repeat (first | exact At.head | (with_reducible apply At.tail)))
 have Bd:=AS
 refine cl (h:=by exact I6 sb s F id 65 [.pointer (some ⟨b3,0,none⟩)] (fun s x=>Gd s x id) _ (h.only Bd) hid (fun wb w h1 h2=>QK.of fun hb F' hC he hx hn=>jF b3 hb s F' (Bi s.t id) id w hC hid ((h1.trans h2).block k3 (by simp)) hx hn)) (k:=?_)
 rintro v w9 ⟨ve,rfl,T⟩
 obtain ⟨ae,ce,rfl⟩:=T.form
 clear hs
 have hs:=St.nil w9
 refine Jc ?_
 refine AF ?_
 exact ⟨_,rfl,T.fin Bd (hs.AD rfl)⟩
theorem S6 (sb:Nat) (s:Sy) (F:List Nat) (id:Int) (w0:World) (h:CM w0 sb s F) (hid:In64 id) :
 AM Tryz.prog 33 #[.pointer (some ⟨sb,0,none⟩),.int .i64 id] w0 fun v w'=>∃ ve,v = .tuple #[ve,.int .i64 (CJ ⟨s,[]⟩ id (fun s x=>Hj s x id)).1]∧Dm w0 sb F [] ve s (CJ ⟨s,[]⟩ id (fun s x=>Hj s x id)) w':=by
 have hs:=St.nil w0
 refine AQ Tryz.func33 Tryz.ntmps33 (k:=?_)
 refine Ag ?_
 refine Aq ?_
 refine Gl hs (k:=?_);clear hs;intro b3 w3 AS z3 hs
 refine Ja ?_
 have k3:=hs.get (b:=b3) (by repeat (first | exact At.head | (with_reducible apply At.tail)))
 have Bd:=AS
 refine cl (h:=by exact I6 sb s F id 68 [.pointer (some ⟨b3,0,none⟩)] (fun s x=>Hj s x id) _ (h.only Bd) hid (fun wb w h1 h2=>QK.of fun hb F' hC he hx hn=>YI b3 hb s F' (Bi s.t id) id w hC hid ((h1.trans h2).block k3 (by simp)) hx hn)) (k:=?_)
 rintro v w9 ⟨ve,rfl,T⟩
 obtain ⟨ae,ce,rfl⟩:=T.form
 clear hs
 have hs:=St.nil w9
 refine Jc ?_
 refine AF ?_
 exact ⟨_,rfl,T.fin Bd (hs.AD rfl)⟩
theorem UE (sb:Nat) (s:Sy) (F:List Nat) (id:Int) (w0:World) (h:CM w0 sb s F) (hid:In64 id) :
 AM Tryz.prog 34 #[.pointer (some ⟨sb,0,none⟩),.int .i64 id] w0 fun v w'=>∃ ve,v = .tuple #[ve,.int .i64 (CJ ⟨s,[]⟩ id (fun s x=>F7 s x id)).1]∧Dm w0 sb F [] ve s (CJ ⟨s,[]⟩ id (fun s x=>F7 s x id)) w':=by
 have hs:=St.nil w0
 refine AQ Tryz.func34 Tryz.ntmps34 (k:=?_)
 refine Ag ?_
 refine Aq ?_
 refine Gl hs (k:=?_);clear hs;intro b3 w3 AS z3 hs
 refine Ja ?_
 have k3:=hs.get (b:=b3) (by repeat (first | exact At.head | (with_reducible apply At.tail)))
 have Bd:=AS
 refine cl (h:=by exact I6 sb s F id 72 [.pointer (some ⟨b3,0,none⟩)] (fun s x=>F7 s x id) _ (h.only Bd) hid (fun wb w h1 h2=>QK.of fun hb F' hC he hx hn=>aZ b3 hb s F' (Bi s.t id) id w hC hid ((h1.trans h2).block k3 (by simp)) hx hn)) (k:=?_)
 rintro v w9 ⟨ve,rfl,T⟩
 obtain ⟨ae,ce,rfl⟩:=T.form
 clear hs
 have hs:=St.nil w9
 refine Jc ?_
 refine AF ?_
 exact ⟨_,rfl,T.fin Bd (hs.AD rfl)⟩
theorem Xz (sb:Nat) (s:Sy) (F:List Nat) (id q:Int) (w0:World) (h:CM w0 sb s F) (hid:In64 id) :
 AM Tryz.prog 35 #[.pointer (some ⟨sb,0,none⟩),.int .i64 id,.int .u64 q] w0 fun v w'=>∃ ve,v = .tuple #[ve,.int .i64 (CJ ⟨s,[]⟩ id (fun s x=>Du s x id q)).1]∧Dm w0 sb F [] ve s (CJ ⟨s,[]⟩ id (fun s x=>Du s x id q)) w':=by
 have hs:=St.nil w0
 refine AQ Tryz.func35 Tryz.ntmps35 (k:=?_)
 refine Ag ?_
 refine Aq ?_
 refine Gl hs (k:=?_);clear hs;intro b4 w4 Al z4 hs
 refine Gl hs (k:=?_);clear hs;intro b5 w5 BJ z5 hs
 refine Ja ?_
 have k4:=hs.get (b:=b4) (by repeat (first | exact At.head | (with_reducible apply At.tail)))
 have k5:=hs.get (b:=b5) (by repeat (first | exact At.head | (with_reducible apply At.tail)))
 have Bd:=(Al.trans BJ)
 refine cl (h:=by exact I6 sb s F id 74 [.pointer (some ⟨b5,0,none⟩),.pointer (some ⟨b4,0,none⟩)] (fun s x=>Du s x id q) _ (h.only Bd) hid (fun wb w h1 h2=>QK.of fun hb F' hC he hx hn=>YR b5 b4 hb s F' (Bi s.t id) id q w hC hid ((h1.trans h2).block k5 (by simp)) ((h1.trans h2).block k4 (by simp)) hx hn)) (k:=?_)
 rintro v w9 ⟨ve,rfl,T⟩
 obtain ⟨ae,ce,rfl⟩:=T.form
 clear hs
 have hs:=St.nil w9
 refine Jc ?_
 refine AF ?_
 exact ⟨_,rfl,T.fin Bd (hs.AD rfl)⟩
theorem cD (sb:Nat) (s:Sy) (F:List Nat) (id q:Int) (w0:World) (h:CM w0 sb s F) (hid:In64 id) (hq:BV q) :
 AM Tryz.prog 36 #[.pointer (some ⟨sb,0,none⟩),.int .i64 id,.int .u64 q] w0 fun v w'=>∃ ve,v = .tuple #[ve,.int .i64 (CJ ⟨s,[]⟩ id (fun s x=>El s x id q)).1]∧Dm w0 sb F [] ve s (CJ ⟨s,[]⟩ id (fun s x=>El s x id q)) w':=by
 have hs:=St.nil w0
 refine AQ Tryz.func36 Tryz.ntmps36 (k:=?_)
 refine Ag ?_
 refine Aq ?_
 refine Gl hs (k:=?_);clear hs;intro b4 w4 Al z4 hs
 refine Gl hs (k:=?_);clear hs;intro b5 w5 BJ z5 hs
 refine Ja ?_
 have k4:=hs.get (b:=b4) (by repeat (first | exact At.head | (with_reducible apply At.tail)))
 have k5:=hs.get (b:=b5) (by repeat (first | exact At.head | (with_reducible apply At.tail)))
 have Bd:=(Al.trans BJ)
 refine cl (h:=by exact I6 sb s F id 76 [.pointer (some ⟨b5,0,none⟩),.pointer (some ⟨b4,0,none⟩)] (fun s x=>El s x id q) _ (h.only Bd) hid (fun wb w h1 h2=>QK.of fun hb F' hC he hx hn=>YH b5 b4 hb s F' (Bi s.t id) id q w hC hid hq ((h1.trans h2).block k5 (by simp)) ((h1.trans h2).block k4 (by simp)) hx hn)) (k:=?_)
 rintro v w9 ⟨ve,rfl,T⟩
 obtain ⟨ae,ce,rfl⟩:=T.form
 clear hs
 have hs:=St.nil w9
 refine Jc ?_
 refine AF ?_
 exact ⟨_,rfl,T.fin Bd (hs.AD rfl)⟩
theorem XL (sb:Nat) (s:Sy) (F:List Nat) (id core:Int) (w0:World) (h:CM w0 sb s F) (hid:In64 id) (F8:In64 core) :
 AM Tryz.prog 37 #[.pointer (some ⟨sb,0,none⟩),.int .i64 id,.int .i64 core] w0 fun v w'=>∃ ve,v = .tuple #[ve,.int .i64 (CJ ⟨s,[]⟩ id (fun s x=>Ci s x core)).1]∧Dm w0 sb F [] ve s (CJ ⟨s,[]⟩ id (fun s x=>Ci s x core)) w':=by
 have hs:=St.nil w0
 refine AQ Tryz.func37 Tryz.ntmps37 (k:=?_)
 refine Ag ?_
 refine Aq ?_
 refine Gl hs (k:=?_);clear hs;intro b5 w5 BJ z5 hs
 refine Ja ?_
 have k5:=hs.get (b:=b5) (by repeat (first | exact At.head | (with_reducible apply At.tail)))
 have Bd:=BJ
 refine cl (h:=by exact I6 sb s F id 78 [.pointer (some ⟨b5,0,none⟩)] (fun s x=>Ci s x core) _ (h.only Bd) hid (fun wb w h1 h2=>QK.of fun hb F' hC he hx hn=>cR b5 hb s F' (Bi s.t id) core w hC F8 ((h1.trans h2).block k5 (by simp)) hx hn)) (k:=?_)
 rintro v w9 ⟨ve,rfl,T⟩
 obtain ⟨ae,ce,rfl⟩:=T.form
 clear hs
 have hs:=St.nil w9
 refine Jc ?_
 refine AF ?_
 exact ⟨_,rfl,T.fin Bd (hs.AD rfl)⟩
theorem Nj (sb:Nat) (s:Sy) (F:List Nat) (ns:Int) (w0:World) (h:CM w0 sb s F) (D3:BV ns) (hbd:ns≤1099511627776→∀ k:Nat,k < s.k.length→(Ao (AT s k) ns).2.2.p.length≤1000000) :
 AM Tryz.prog 27 #[.pointer (some ⟨sb,0,none⟩),.int .u64 ns] w0 fun v w'=>∃ ve,v = .tuple #[ve,.int .i64 (FZ ⟨s,[]⟩ ns).1]∧Dm w0 sb F [] ve s (FZ ⟨s,[]⟩ ns) w':=by
 have hs:=St.nil w0
 refine AQ Tryz.func27 Tryz.ntmps27 (k:=?_)
 refine Ag ?_
 refine Aq ?_
 refine Gl hs (k:=?_);clear hs;intro b3 w3 AS z3 hs
 refine Ja ?_
 have k3:=hs.get (b:=b3) (by repeat (first | exact At.head | (with_reducible apply At.tail)))
 refine cl (h:=by exact Qw sb s F _ (h.only AS) 57 [.pointer (some ⟨b3,0,none⟩)] [] (fun _=>True) (FZ ⟨s,[]⟩ ns) (fun _ _ _ _ _ _=>trivial) (by simp) (fun w hw hb F' hC CV=>aF b3 hb s ns _ w D3 hw k3 hbd hb F' hC CV)) (k:=?_)
 rintro v w9 ⟨ve,rfl,_,T⟩
 obtain ⟨ae,ce,rfl⟩:=T.form
 clear hs
 have hs:=St.nil w9
 refine Jc ?_
 refine AF ?_
 exact ⟨_,rfl,T.fin AS (hs.AD rfl)⟩
theorem Kj (sb:Nat) (s:Sy) (F:List Nat) (core q ns:Int) (w0:World) (h:CM w0 sb s F) (F8:In64 core) (hq:BV q) (D3:BV ns) :
 AM Tryz.prog 26 #[.pointer (some ⟨sb,0,none⟩),.int .i64 core,.int .u64 q,.int .u64 ns] w0 fun v w'=>∃ ve,v = .tuple #[.int .i64 (Bk ⟨s,[]⟩ core q ns).2.1,ve,.int .i64 (Bk ⟨s,[]⟩ core q ns).1]∧Dm w0 sb F [] ve s ((Bk ⟨s,[]⟩ core q ns).1,(Bk ⟨s,[]⟩ core q ns).2.2) w':=by
 have V5:=h.lt
 have hs:=St.nil w0
 refine AQ Tryz.func26 Tryz.ntmps26 (k:=?_)
 refine Ag ?_
 refine Aq ?_
 refine Gl hs (k:=?_);clear hs;intro b5 w5 BJ z5 hs
 refine Gl hs (k:=?_);clear hs;intro b6 w6 Ak z6 hs
 refine Gl hs (k:=?_);clear hs;intro b7 w7 CQ z7 hs
 iterate 3 refine vs (k:=?_)
 refine XS.nil ?_
 refine Dt ?_
 refine Ag ?_
 refine Aq ?_
 refine FA hs (k:=?_);clear hs;intro I7 w8 Da z8 hs
 refine cP hs (k:=?_);clear hs;intro w9 LZ hs
 refine Ja ?_
 have k5:=hs.get (b:=b5) (by repeat (first | exact At.head | (with_reducible apply At.tail)))
 have k6:=hs.get (b:=b6) (by repeat (first | exact At.head | (with_reducible apply At.tail)))
 have k7:=hs.get (b:=b7) (by repeat (first | exact At.head | (with_reducible apply At.tail)))
 have qC:=hs.get (b:=I7) (by repeat (first | exact At.head | (with_reducible apply At.tail)))
 have e5:=BJ.size
 have e6:=Ak.size
 have e7:=CQ.size
 have e8:=Da.size
 have l5:=lt_of_block k5
 have Ay:AA [] w0 w9:=(((BJ.trans Ak).trans CQ).trans Da).step LZ (fun k hk => .inr (by obtain rfl:=List.mem_singleton.1 hk;simp at *;omega))
 have n57:b5≠I7:=by
  have:=hs.nd
  simp only [List.map_cons,List.map_nil,List.nodup_cons,List.mem_cons,not_or] at this
  exact fun e=>this.1.2.2.1 e.symm
 have n67:b6≠b7:=by
  have:=hs.nd
  simp only [List.map_cons,List.map_nil,List.nodup_cons,List.mem_cons,not_or] at this
  exact fun e=>this.2.1.1 e.symm
 refine cl (h:=by exact Qw sb s F _ (h.only Ay) 51 [.pointer (some ⟨b5,0,none⟩),.pointer (some ⟨b6,0,none⟩),.pointer (some ⟨b7,0,none⟩),.pointer (some ⟨I7,0,none⟩)] [I7] (fun w=>w.heap[I7]?=some (Wx (Bk ⟨s,[]⟩ core q ns).2.1)) ((Bk ⟨s,[]⟩ core q ns).1,(Bk ⟨s,[]⟩ core q ns).2.2) (fun w w' G hq ho hG=>ho.block hq (hG _ (by simp))) (fun k hk=>by obtain rfl:=List.mem_singleton.1 hk;exact ⟨fun hm=>by have:=V5 _ hm;simp at *;omega,lt_of_block qC⟩) (fun w hw hb F' hC CV=>Xx b5 b6 b7 I7 hb s core q ns _ w F8 hq D3 hw n57 n67 k5 k6 k7 qC hb F' hC CV)) (k:=?_)
 rintro v Wa ⟨ve,rfl,hQ,T⟩
 obtain ⟨ae,ce,rfl⟩:=T.form
 clear hs
 have hs:=(St.nil Wa).AE hQ
 obtain ⟨⟨Gt,oN⟩,⟨F',xS,CV⟩,Vo⟩:=T
 refine Ja ?_
 refine AF ?_
 have Gx:=hs.AB [] (by simp [hQ]) (by simp [D0])
 have zA:=Ay.size
 refine ⟨_,rfl,⟨Gt,oN.keep Gx (by simp)⟩,⟨F',xS.only Gx,fun k hk=>?_⟩,((Ay.weaken (by simp)).step Vo (fun k hk=>?_)).step Gx (by simp)⟩
 ·rcases CV k hk with z | z
  ·exact .inl z
  ·exact .inr om
 ·simp only [List.mem_cons,List.not_mem_nil,or_false] at hk
  rcases hk with rfl | rfl
  ·exact .inl (by simp)
  ·exact .inr (by simp at *;omega)
abbrev aBJ (a:C0):Value := .agg #[.int .u8 a.d,.int .i64 a.id,.int .i64 a.core,.int .u64 a.w,.int .u64 a.ns]
def Wq (s:Sy) (a:C0):Prop:=9 < a.d % 12→a.ns≤1099511627776→∀ k:Nat,k < s.k.length→(Ao (AT s k) a.ns).2.2.p.length≤1000000
theorem Oq (sb:Nat) (s:Sy) (F:List Nat) (a:C0) (ha:a.In) (w0:World) (h:CM w0 sb s F) (hfew:Wq s a) :
 AM Tryz.prog 11 #[.pointer (some ⟨sb,0,none⟩),aBJ a] w0 fun v w'=>∃ ve,v = .tuple #[.int .i64 (Hg s a),ve,.int .i64 (Cc s a).1]∧Dm w0 sb F [] ve s (Cc s a) w':=by
 have hs:=St.nil w0
 obtain ⟨d0,hid,F8,hw,D3⟩:=ha
 refine AQ Tryz.func11 Tryz.ntmps11 (k:=?_)
 refine Ag ?_
 refine Aq ?_
 refine Gl hs (k:=?_);clear hs;intro b3 w1 AJ z1 hs
 refine Ja ?_
 refine vG (b:=12) d0.1 (by decide) (k:=?_)
 have aBf:0≤a.d % 12∧a.d % 12 < 12:=by omega
 by_cases k0:a.d % 12=0
 ·rw [k0]
  have eD:Cc s a=((Bk ⟨s,[]⟩ a.core a.w a.ns).1,(Bk ⟨s,[]⟩ a.core a.w a.ns).2.2):=by unfold Cc;rw [if_pos (show a.d % 12 < 2 by omega)]
  have eI:Hg s a=(Bk ⟨s,[]⟩ a.core a.w a.ns).2.1:=if_pos (show a.d % 12 < 2 by omega)
  rw [eD,eI]
  refine Je ?_
  have ho:=AJ.trans (hs.AB [] (fun e he => .inr (.inr (hs.hold e he))) (by simp [D0]))
  refine cl (h:=by exact Kj sb s F a.core a.w a.ns _ (h.only ho) F8 hw D3) (k:=?_)
  rintro v w5 ⟨ve,rfl,T⟩
  obtain ⟨ae,ce,rfl⟩:=T.form
  clear hs
  have hs:=St.nil w5
  refine Jc ?_
  refine AF ?_
  exact ⟨_,rfl,T.fin ho (hs.AD rfl)⟩
 by_cases k1:a.d % 12=1
 ·rw [k1]
  have eD:Cc s a=((Bk ⟨s,[]⟩ a.core a.w a.ns).1,(Bk ⟨s,[]⟩ a.core a.w a.ns).2.2):=by unfold Cc;rw [if_pos (show a.d % 12 < 2 by omega)]
  have eI:Hg s a=(Bk ⟨s,[]⟩ a.core a.w a.ns).2.1:=if_pos (show a.d % 12 < 2 by omega)
  rw [eD,eI]
  repeat' (first|refine vs (k:=?_)|refine Aq ?_|refine Nx.h ?_|refine Et ?_|refine EJ ?_|fail)
  have ho:=AJ.trans (hs.AB [] (fun e he => .inr (.inr (hs.hold e he))) (by simp [D0]))
  refine cl (h:=by exact Kj sb s F a.core a.w a.ns _ (h.only ho) F8 hw D3) (k:=?_)
  rintro v w5 ⟨ve,rfl,T⟩
  obtain ⟨ae,ce,rfl⟩:=T.form
  clear hs
  have hs:=St.nil w5
  refine Jc ?_
  refine AF ?_
  exact ⟨_,rfl,T.fin ho (hs.AD rfl)⟩
 by_cases k2:a.d % 12=2
 ·rw [k2]
  have eD:Cc s a=CJ ⟨s,[]⟩ a.id fun s x=>Gd s x a.id:=by unfold Cc;rw [if_neg (show ¬ a.d % 12 < 2 by omega),if_pos (show a.d % 12=2 by omega)]
  have eI:Hg s a=0:=if_neg (show ¬ a.d % 12 < 2 by omega)
  rw [eD,eI]
  repeat' (first|refine vs (k:=?_)|refine Aq ?_|refine Nx.h ?_|refine Et ?_|refine EJ ?_|fail)
  have ho:=AJ.trans (hs.AB [] (fun e he => .inr (.inr (hs.hold e he))) (by simp [D0]))
  refine cl (h:=by exact j0 sb s F a.id _ (h.only ho) hid) (k:=?_)
  rintro v w5 ⟨ve,rfl,T⟩
  obtain ⟨ae,ce,rfl⟩:=T.form
  clear hs
  have hs:=St.nil w5
  refine Ja ?_
  refine AF ?_
  exact ⟨_,rfl,T.fin ho (hs.AD rfl)⟩
 by_cases k3:a.d % 12=3
 ·rw [k3]
  have eD:Cc s a=CJ ⟨s,[]⟩ a.id fun s x=>Hj s x a.id:=by unfold Cc;rw [if_neg (show ¬ a.d % 12 < 2 by omega),if_neg (show ¬ a.d % 12=2 by omega),if_pos (show a.d % 12 < 5 by omega)]
  have eI:Hg s a=0:=if_neg (show ¬ a.d % 12 < 2 by omega)
  rw [eD,eI]
  repeat' (first|refine vs (k:=?_)|refine Aq ?_|refine Nx.h ?_|refine Et ?_|refine EJ ?_|fail)
  have ho:=AJ.trans (hs.AB [] (fun e he => .inr (.inr (hs.hold e he))) (by simp [D0]))
  refine cl (h:=by exact S6 sb s F a.id _ (h.only ho) hid) (k:=?_)
  rintro v w5 ⟨ve,rfl,T⟩
  obtain ⟨ae,ce,rfl⟩:=T.form
  clear hs
  have hs:=St.nil w5
  refine Ja ?_
  refine AF ?_
  exact ⟨_,rfl,T.fin ho (hs.AD rfl)⟩
 by_cases k4:a.d % 12=4
 ·rw [k4]
  have eD:Cc s a=CJ ⟨s,[]⟩ a.id fun s x=>Hj s x a.id:=by unfold Cc;rw [if_neg (show ¬ a.d % 12 < 2 by omega),if_neg (show ¬ a.d % 12=2 by omega),if_pos (show a.d % 12 < 5 by omega)]
  have eI:Hg s a=0:=if_neg (show ¬ a.d % 12 < 2 by omega)
  rw [eD,eI]
  repeat' (first|refine vs (k:=?_)|refine Aq ?_|refine Nx.h ?_|refine Et ?_|refine EJ ?_|fail)
  have ho:=AJ.trans (hs.AB [] (fun e he => .inr (.inr (hs.hold e he))) (by simp [D0]))
  refine cl (h:=by exact S6 sb s F a.id _ (h.only ho) hid) (k:=?_)
  rintro v w5 ⟨ve,rfl,T⟩
  obtain ⟨ae,ce,rfl⟩:=T.form
  clear hs
  have hs:=St.nil w5
  refine Ja ?_
  refine AF ?_
  exact ⟨_,rfl,T.fin ho (hs.AD rfl)⟩
 by_cases k5:a.d % 12=5
 ·rw [k5]
  have eD:Cc s a=CJ ⟨s,[]⟩ a.id fun s x=>F7 s x a.id:=by unfold Cc;rw [if_neg (show ¬ a.d % 12 < 2 by omega),if_neg (show ¬ a.d % 12=2 by omega),if_neg (show ¬ a.d % 12 < 5 by omega),if_pos (show a.d % 12 < 7 by omega)]
  have eI:Hg s a=0:=if_neg (show ¬ a.d % 12 < 2 by omega)
  rw [eD,eI]
  repeat' (first|refine vs (k:=?_)|refine Aq ?_|refine Nx.h ?_|refine Et ?_|refine EJ ?_|fail)
  have ho:=AJ.trans (hs.AB [] (fun e he => .inr (.inr (hs.hold e he))) (by simp [D0]))
  refine cl (h:=by exact UE sb s F a.id _ (h.only ho) hid) (k:=?_)
  rintro v w5 ⟨ve,rfl,T⟩
  obtain ⟨ae,ce,rfl⟩:=T.form
  clear hs
  have hs:=St.nil w5
  refine Ja ?_
  refine AF ?_
  exact ⟨_,rfl,T.fin ho (hs.AD rfl)⟩
 by_cases k6:a.d % 12=6
 ·rw [k6]
  have eD:Cc s a=CJ ⟨s,[]⟩ a.id fun s x=>F7 s x a.id:=by unfold Cc;rw [if_neg (show ¬ a.d % 12 < 2 by omega),if_neg (show ¬ a.d % 12=2 by omega),if_neg (show ¬ a.d % 12 < 5 by omega),if_pos (show a.d % 12 < 7 by omega)]
  have eI:Hg s a=0:=if_neg (show ¬ a.d % 12 < 2 by omega)
  rw [eD,eI]
  repeat' (first|refine vs (k:=?_)|refine Aq ?_|refine Nx.h ?_|refine Et ?_|refine EJ ?_|fail)
  have ho:=AJ.trans (hs.AB [] (fun e he => .inr (.inr (hs.hold e he))) (by simp [D0]))
  refine cl (h:=by exact UE sb s F a.id _ (h.only ho) hid) (k:=?_)
  rintro v w5 ⟨ve,rfl,T⟩
  obtain ⟨ae,ce,rfl⟩:=T.form
  clear hs
  have hs:=St.nil w5
  refine Ja ?_
  refine AF ?_
  exact ⟨_,rfl,T.fin ho (hs.AD rfl)⟩
 by_cases k7:a.d % 12=7
 ·rw [k7]
  have eD:Cc s a=CJ ⟨s,[]⟩ a.id fun s x=>Du s x a.id a.w:=by unfold Cc;rw [if_neg (show ¬ a.d % 12 < 2 by omega),if_neg (show ¬ a.d % 12=2 by omega),if_neg (show ¬ a.d % 12 < 5 by omega),if_neg (show ¬ a.d % 12 < 7 by omega),if_pos (show a.d % 12=7 by omega)]
  have eI:Hg s a=0:=if_neg (show ¬ a.d % 12 < 2 by omega)
  rw [eD,eI]
  repeat' (first|refine vs (k:=?_)|refine Aq ?_|refine Nx.h ?_|refine Et ?_|refine EJ ?_|fail)
  have ho:=AJ.trans (hs.AB [] (fun e he => .inr (.inr (hs.hold e he))) (by simp [D0]))
  refine cl (h:=by exact Xz sb s F a.id a.w _ (h.only ho) hid) (k:=?_)
  rintro v w5 ⟨ve,rfl,T⟩
  obtain ⟨ae,ce,rfl⟩:=T.form
  clear hs
  have hs:=St.nil w5
  refine Ja ?_
  refine AF ?_
  exact ⟨_,rfl,T.fin ho (hs.AD rfl)⟩
 by_cases k8:a.d % 12=8
 ·rw [k8]
  have eD:Cc s a=CJ ⟨s,[]⟩ a.id fun s x=>El s x a.id a.ns:=by unfold Cc;rw [if_neg (show ¬ a.d % 12 < 2 by omega),if_neg (show ¬ a.d % 12=2 by omega),if_neg (show ¬ a.d % 12 < 5 by omega),if_neg (show ¬ a.d % 12 < 7 by omega),if_neg (show ¬ a.d % 12=7 by omega),if_pos (show a.d % 12=8 by omega)]
  have eI:Hg s a=0:=if_neg (show ¬ a.d % 12 < 2 by omega)
  rw [eD,eI]
  repeat' (first|refine vs (k:=?_)|refine Aq ?_|refine Nx.h ?_|refine Et ?_|refine EJ ?_|fail)
  have ho:=AJ.trans (hs.AB [] (fun e he => .inr (.inr (hs.hold e he))) (by simp [D0]))
  refine cl (h:=by exact cD sb s F a.id a.ns _ (h.only ho) hid D3) (k:=?_)
  rintro v w5 ⟨ve,rfl,T⟩
  obtain ⟨ae,ce,rfl⟩:=T.form
  clear hs
  have hs:=St.nil w5
  refine Ja ?_
  refine AF ?_
  exact ⟨_,rfl,T.fin ho (hs.AD rfl)⟩
 by_cases k9:a.d % 12=9
 ·rw [k9]
  have eD:Cc s a=CJ ⟨s,[]⟩ a.id fun s x=>Ci s x a.core:=by unfold Cc;rw [if_neg (show ¬ a.d % 12 < 2 by omega),if_neg (show ¬ a.d % 12=2 by omega),if_neg (show ¬ a.d % 12 < 5 by omega),if_neg (show ¬ a.d % 12 < 7 by omega),if_neg (show ¬ a.d % 12=7 by omega),if_neg (show ¬ a.d % 12=8 by omega),if_pos (show a.d % 12=9 by omega)]
  have eI:Hg s a=0:=if_neg (show ¬ a.d % 12 < 2 by omega)
  rw [eD,eI]
  repeat' (first|refine vs (k:=?_)|refine Aq ?_|refine Nx.h ?_|refine Et ?_|refine EJ ?_|fail)
  have ho:=AJ.trans (hs.AB [] (fun e he => .inr (.inr (hs.hold e he))) (by simp [D0]))
  refine cl (h:=by exact XL sb s F a.id a.core _ (h.only ho) hid F8) (k:=?_)
  rintro v w5 ⟨ve,rfl,T⟩
  obtain ⟨ae,ce,rfl⟩:=T.form
  clear hs
  have hs:=St.nil w5
  refine Ja ?_
  refine AF ?_
  exact ⟨_,rfl,T.fin ho (hs.AD rfl)⟩
 by_cases pF:a.d % 12=10
 ·rw [pF]
  have eD:Cc s a=FZ ⟨s,[]⟩ a.ns:=by unfold Cc;rw [if_neg (show ¬ a.d % 12 < 2 by omega),if_neg (show ¬ a.d % 12=2 by omega),if_neg (show ¬ a.d % 12 < 5 by omega),if_neg (show ¬ a.d % 12 < 7 by omega),if_neg (show ¬ a.d % 12=7 by omega),if_neg (show ¬ a.d % 12=8 by omega),if_neg (show ¬ a.d % 12=9 by omega)]
  have eI:Hg s a=0:=if_neg (show ¬ a.d % 12 < 2 by omega)
  rw [eD,eI]
  refine Jd ?_
  have ho:=AJ.trans (hs.AB [] (fun e he => .inr (.inr (hs.hold e he))) (by simp [D0]))
  refine cl (h:=by exact Nj sb s F a.ns _ (h.only ho) D3 (hfew om)) (k:=?_)
  rintro v w5 ⟨ve,rfl,T⟩
  obtain ⟨ae,ce,rfl⟩:=T.form
  clear hs
  have hs:=St.nil w5
  refine Ja ?_
  refine AF ?_
  exact ⟨_,rfl,T.fin ho (hs.AD rfl)⟩
 by_cases qC:a.d % 12=11
 ·rw [qC]
  have eD:Cc s a=FZ ⟨s,[]⟩ a.ns:=by unfold Cc;rw [if_neg (show ¬ a.d % 12 < 2 by omega),if_neg (show ¬ a.d % 12=2 by omega),if_neg (show ¬ a.d % 12 < 5 by omega),if_neg (show ¬ a.d % 12 < 7 by omega),if_neg (show ¬ a.d % 12=7 by omega),if_neg (show ¬ a.d % 12=8 by omega),if_neg (show ¬ a.d % 12=9 by omega)]
  have eI:Hg s a=0:=if_neg (show ¬ a.d % 12 < 2 by omega)
  rw [eD,eI]
  refine Jd ?_
  have ho:=AJ.trans (hs.AB [] (fun e he => .inr (.inr (hs.hold e he))) (by simp [D0]))
  refine cl (h:=by exact Nj sb s F a.ns _ (h.only ho) D3 (hfew om)) (k:=?_)
  rintro v w5 ⟨ve,rfl,T⟩
  obtain ⟨ae,ce,rfl⟩:=T.form
  clear hs
  have hs:=St.nil w5
  refine Ja ?_
  refine AF ?_
  exact ⟨_,rfl,T.fin ho (hs.AD rfl)⟩
 omega
theorem Zc (p q:Ev):(Ba (.int .i64 p.core) (.int .i64 q.core) && (Ba (.int .i64 p.id) (.int .i64 q.id) && (Ba (.int .u64 p.ns) (.int .u64 q.ns) && (Ba (.bool p.done) (.bool q.done) && Ba (.bool p.gone) (.bool q.gone)))))=decide (p=q):=by
 obtain ⟨a,b,c,d,e⟩:=p
 obtain ⟨a',b',c',d',e'⟩:=q
 show ((a == a') && ((b == b') && ((c == c') && ((d == d') && (e == e')))))=_
 rw [Bool.eq_iff_iff]
 simp
theorem QZ (va vb:Value) (A B:List Ev) (hm:A.length≤9223372036854775807) (w0:World) (hA:C1 w0 41 5 va (A.map Ev.cells)) (hB:C1 w0 41 5 vb (B.map Ev.cells)) :
 AM Tryz.prog 22 #[va,vb] w0 fun v w'=>v = .bool (decide (A=B))∧AA [] w0 w':=by
 obtain ⟨Oe,ca,rfl,hA⟩:=hA
 obtain ⟨Nt,cb,rfl,hB⟩:=hB
 rw [List.length_map] at *
 rw [List.length_map] at *
 have hs:=St.nil w0
 refine AQ Tryz.func22 Tryz.ntmps22 (k:=?_)
 repeat' (first|refine Sa ?_|refine xc_cond rfl (fun hc=>?_) fun hc=>?_|fail)
 ·refine AF ?_
  refine ⟨congrArg Value.bool ?_,hs.AD rfl⟩
  have hne:A≠B:=fun e=>by subst e;simp at hc
  exact (decide_eq_false hne).symm
 ·have KI:A.length=B.length:=by
   have h:((A.length:Nat):Int)=B.length:=by simpa using hc
   omega
  refine BH (fun _:Unit=>[]) (fun _ w=>A=B∧AA [] w0 w) ?_ ?_
  ·refine BF (fun (i:Nat)=>[(0,.slice Oe A.length ca),(1,.slice Nt B.length cb),(12,.int .i64 (A.length:Nat)),(13,.int .i64 (i:Nat))])
    (fun i w=>i≤A.length∧A.take i=B.take i∧AA [] w0 w)
    (fun i=>A.length - i) 0 Aa ⟨Nat.zero_le _,by simp,hs.AD rfl⟩ fun i env w ⟨hi,ht,ho⟩=>?_
   clear hs
   have hs:=St.nil w
   repeat' (first|refine Sa ?_|refine Av rfl (fun hc=>?_) fun hc=>?_|fail)
   ·have hlt:i < A.length:=by omega
    have GW:i < B.length:=by omega
    obtain ⟨ba,oa,Yc,fa,rfl,a2,a3,a4⟩:=hA (fun h=>by have:=congrArg List.length h;rw [List.length_map,List.length_nil] at this;omega)
    obtain ⟨bb,ob,Y6,fb,rfl,b2,b3,b4⟩:=hB (fun h=>by have:=congrArg List.length h;rw [List.length_map,List.length_nil] at this;omega)
    have ga:=a4 i _ (by rw [List.getElem?_map,List.getElem?_eq_getElem hlt];rfl)
    have gb:=b4 i _ (by rw [List.getElem?_map,List.getElem?_eq_getElem GW];rfl)
    have a3:=ho.block a3 (by simp)
    have b3:=ho.block b3 (by simp)
    have key:A[i]=B[i]→A.take (i+1)=B.take (i+1):=fun he=>by rw [List.take_add_one,List.take_add_one,ht,List.getElem?_eq_getElem hlt,List.getElem?_eq_getElem GW,he]
    have HJ:A[i]≠B[i]→A≠B:=fun h e=>h (by subst e;rfl)
    have ei:=DH hlt hm
    generalize A[i]=x at *
    generalize B[i]=y at *
    by_cases e:ba=bb
    ·subst e
     rw [a3] at b3
     cases b3
     replace hs:=hs.AG a3 (by simp)
     refine dr [] hs (k:=?_);intro hX w hs
     refine tks 0 2 ?_
     refine tk 2 hX (hr:=fun w' hH=>BE AI rfl rfl rfl om om) (k:=?_)
     refine tk 3 hX (hr:=fun w' hH=>DF AI rfl rfl (hH rfl) At.head ga) (k:=?_)
     refine tks 4 2 ?_
     refine tk 6 hX (hr:=fun w' hH=>BE AI rfl rfl rfl om om) (k:=?_)
     refine tk 7 hX (hr:=fun w' hH=>DF AI rfl rfl (hH rfl) At.head gb) (k:=?_)
     refine tk 8 hX (k:=?_)
     refine en (k:=?_)
     repeat' (first|refine Sa ?_|refine xc_cond rfl (fun hc=>?_) fun hc=>?_|fail)
     ·rw [Zc] at hc
      refine AF ?_
      exact ⟨congrArg Value.bool (decide_eq_false (HJ (by simpa using hc))).symm,ho.step (hs.AB [] (by simp [a3]) (by simp [D0])) (by simp)⟩
     ·rw [Zc] at hc
      exact A2 (i+1) om (by (repeat (first | exact Ac | (apply A5;first | exact rfl | exact congrArg (Value.int .i64) ei)))) ⟨by omega,key (by simpa using hc),ho.step (hs.AB [] (by simp [a3]) (by simp [D0])) (by simp)⟩
    ·replace hs:=(hs.AG a3 (by simp)).AG b3 (by simpa using Ne.symm e)
     refine dr [] hs (k:=?_);intro hX w hs
     refine tks 0 2 ?_
     refine tk 2 hX (hr:=fun w' hH=>BE AI rfl rfl rfl om om) (k:=?_)
     refine tk 3 hX (hr:=fun w' hH=>DF AI rfl rfl (hH rfl) (At.tail At.head) ga) (k:=?_)
     refine tks 4 2 ?_
     refine tk 6 hX (hr:=fun w' hH=>BE AI rfl rfl rfl om om) (k:=?_)
     refine tk 7 hX (hr:=fun w' hH=>DF AI rfl rfl (hH rfl) At.head gb) (k:=?_)
     refine tk 8 hX (k:=?_)
     refine en (k:=?_)
     repeat' (first|refine Sa ?_|refine xc_cond rfl (fun hc=>?_) fun hc=>?_|fail)
     ·rw [Zc] at hc
      refine AF ?_
      exact ⟨congrArg Value.bool (decide_eq_false (HJ (by simpa using hc))).symm,ho.step (hs.AB [] (by simp [a3,b3]) (by simp [D0])) (by simp)⟩
     ·rw [Zc] at hc
      exact A2 (i+1) om (by (repeat (first | exact Ac | (apply A5;first | exact rfl | exact congrArg (Value.int .i64) ei)))) ⟨by omega,key (by simpa using hc),ho.step (hs.AB [] (by simp [a3,b3]) (by simp [D0])) (by simp)⟩
   ·have e:i=A.length:=by omega
    have Ox:A=B:=by
     have h1:A.take i=A:=List.take_of_length_le om
     have h2:B.take i=B:=List.take_of_length_le om
     rw [← h1,ht,h2]
    exact Am () Aa ⟨Ox,ho.step (hs.AD rfl) (by simp)⟩
  ·rintro _ env w ⟨rfl,ho⟩
   clear hs
   have hs:=St.nil w
   refine Ja ?_
   refine AF ?_
   exact ⟨congrArg Value.bool (decide_eq_true rfl).symm,ho.step (hs.AD rfl) (by simp)⟩
def zU (m:Int) (a:C0):Prop:=9 < a.d % 12→a.ns≤1099511627776→a.ns≤m
structure HG (least ticks:Int) (A:List C0):Prop where
 l1:1≤least
 l2:least≤1099511627776
 t1:0≤ticks
 t2:ticks≤A.length*1099511627776
 a:∀ x∈A,ZQ least x
 t:∀ x∈A,zU ticks x
theorem HG.tick {l t:Int} {A:List C0} (h:HG l t A) {q:C0} (h0:0≤q.ns) (h1:9 < q.d % 12) (h2:q.ns≤1099511627776):HG l (t+q.ns) (A ++ [q]):=by
 have hl:((A ++ [q]).length:Int)=A.length+1:=by simp
 refine ⟨h.l1,h.l2,by have:=h.t1;omega,by rw [hl];have:=h.t2;omega,fun x hx=>?_,fun x hx=>?_⟩
 ·rcases List.mem_append.1 hx with k | k
  ·exact h.a x k
  ·obtain rfl:=List.mem_singleton.1 k
   intro z;omega
 ·rcases List.mem_append.1 hx with k | k
  ·intro a b;have:=h.t x k a b;omega
  ·obtain rfl:=List.mem_singleton.1 k
   intro _ _;have:=h.t1;omega
theorem mG (a b:Int):EC a b≤a∧EC a b≤b∧(EC a b=a∨EC a b=b):=by unfold EC;split <;> omega
theorem HG.ask {l t:Int} {A:List C0} (h:HG l t A) {q:C0} (h1:¬ (9 < q.d % 12∧q.ns≤1099511627776)) (h2:1≤q.ns):HG (EC l q.ns) t (A ++ [q]):=by
 have hl:((A ++ [q]).length:Int)=A.length+1:=by simp
 obtain ⟨k1,k2,k3⟩:=mG l q.ns
 refine ⟨by have:=h.l1;omega,by have:=h.l2;omega,h.t1,by rw [hl];have:=h.t2;omega,fun x hx=>?_,fun x hx=>?_⟩
 ·rcases List.mem_append.1 hx with k | k
  ·intro a b;have:=h.a x k a b;omega
  ·obtain rfl:=List.mem_singleton.1 k
   intro _ _;omega
 ·rcases List.mem_append.1 hx with k | k
  ·exact h.t x k
  ·obtain rfl:=List.mem_singleton.1 k
   intro a b;exact absurd ⟨a,b⟩ h1
theorem HG.skip {l t:Int} {A:List C0} (h:HG l t A) {q:C0} (h1:¬ (9 < q.d % 12∧q.ns≤1099511627776)) (h2:¬ ((q.d % 12 < 2∨q.d % 12=8)∧1≤q.ns)):HG l t (A ++ [q]):=by
 have hl:((A ++ [q]).length:Int)=A.length+1:=by simp
 refine ⟨h.l1,h.l2,h.t1,by rw [hl];have:=h.t2;omega,fun x hx=>?_,fun x hx=>?_⟩
 ·rcases List.mem_append.1 hx with k | k
  ·exact h.a x k
  ·obtain rfl:=List.mem_singleton.1 k
   intro a b;exact absurd ⟨a,b⟩ h2
 ·rcases List.mem_append.1 hx with k | k
  ·exact h.t x k
  ·obtain rfl:=List.mem_singleton.1 k
   intro a b;exact absurd ⟨a,b⟩ h1
def xG (xs:List C0):Prop:=xs.length≤40∧∃ m,1≤m∧(∀ a∈xs,ZQ m a)∧∀ a∈xs,9 < a.d % 12→a.ns≤1099511627776→a.ns / m≤300
theorem Xg (c:Cf) (xs:List C0) (sl:Value) (hx:∀ a∈xs,a.In) (w0:World) (hL:RU w0 5 sl (xs.map C0.cells)):AM Tryz.prog 8 #[Pd c,sl] w0 fun v w'=>(∃ b,v = .bool b∧(b=true→xG xs))∧AA [] w0 w':=by
 obtain ⟨ad,cap,rfl,hD⟩:=hL
 rw [List.length_map]
 have hs:=St.nil w0
 refine AQ Tryz.func8 Tryz.ntmps8 (k:=?_)
 repeat' (first|refine Sa ?_|(refine bx hs (k:=?_);intro b w hz hs)|refine Av rfl (fun hc=>?_) fun hc=>?_|fail)
 ·refine AF ?_
  exact ⟨⟨false,rfl,fun h=>by cases h⟩,hs.AD rfl⟩
 have hm:xs.length≤40:=by omega
 have BL:=hs.AD rfl
 refine BH (fun (x:Int × Int)=>[(5,.int .u64 x.1),(6,.int .u64 x.2)]) (fun x w=>HG x.1 x.2 xs∧AA [] w0 w) ?_ ?_
 ·refine BF (fun (x:Nat × Int × Int)=>[(5,.int .u64 x.2.1),(6,.int .u64 x.2.2),(13,.slice ad xs.length cap),(14,.int .i64 (xs.length:Nat)),(15,.int .i64 (x.1:Nat))])
   (fun x w=>x.1≤xs.length∧HG x.2.1 x.2.2 (xs.take x.1)∧AA [] w0 w) (fun x=>xs.length - x.1) (0,1099511627776,0) Aa ⟨Nat.zero_le _,⟨by decide,by decide,by decide,by simp,by simp,by simp⟩,BL⟩ fun x env wl ⟨hi,hI,ho⟩=>?_
  obtain ⟨i,least,ticks⟩:=x
  simp only at hi hI
  clear hs
  have hs:=St.nil wl
  repeat' (first|refine Sa ?_|refine Av rfl (fun hc=>?_) fun hc=>?_|fail)
  ·have hlt:i < xs.length:=by omega
   obtain ⟨b,off,cs,E,fz,rfl,hb,hcs⟩:=hD (fun h=>by have:=congrArg List.length h;rw [List.length_map,List.length_nil] at this;omega)
   have hpk:=hcs i (C0.cells xs[i]) (by rw [List.getElem?_map,List.getElem?_eq_getElem hlt];rfl)
   have ei:=DH (m:=xs.length) hlt om
   have et:xs.take (i+1)=xs.take i ++ [xs[i]]:=CS hlt
   have KI:((xs.take i).length:Int)≤40:=by rw [List.length_take];omega
   obtain ⟨d0,hid,F8,hw,D3⟩:=hx xs[i] (List.getElem_mem hlt)
   generalize xs[i]=q at *
   have aAW:0≤q.ns∧q.ns < 18446744073709551616:=D3
   have ht2:=hI.t2
   have ht1:=hI.t1
   have LJ:=hI.l1
   have hl2:=hI.l2
   have ew:q.ns≤1099511627776→IntKind.u64.wrap (ticks+q.ns)=ticks+q.ns:=fun h=>by rw [wrap_u64];omega
   have nA:=fun h1 h2=>hI.tick (q:=q) aAW.1 h1 h2
   have nB:=fun h1 h2=>hI.ask (q:=q) h1 h2
   have nC:=fun h1 h2=>hI.skip (q:=q) h1 h2
   rw [← et] at nA nB nC
   refine ix (h0:=(by omega)) (h1:=(by omega)) (k:=?_)
   refine JQ (vs:=q.cells) (ho.block hb (by simp)) hpk (k:=?_)
   refine al hs (k:=?_);clear hs;intro I7 w3 Nc hs
   refine AU hs (k:=?_);clear hs;intro w4 hs
   refine Ja ?_
   refine vG (b:=12) d0.1 (by decide) (k:=?_)
   generalize q.d % 12=m at *
   repeat' (first|refine vs (k:=?_)|refine ps (k:=?_)|refine Aq ?_|refine Nx.h ?_|refine EJ ?_|((with_reducible apply BI);exact rfl;exact rfl;intro c hc;(fail_if_success have:true=c:=hc);(fail_if_success have:false=c:=hc);cases c)|refine Av rfl (fun hc=>?_) fun hc=>?_|fail)
   all_goals (first
    | (have hq : m > 9 ∧ q.ns ≤ 1099511627776 := (by simp only [decide_eq_true_eq, decide_eq_false_iff_not, ge_iff_le, beq_iff_eq, beq_eq_false_iff_ne, ne_eq] at *; omega)
       refine A2 (i+1,least,ticks+q.ns) (by show xs.length - (i+1) < xs.length - i;omega) ?_ ⟨by show i+1≤_;omega,nA om hq.2,ho.trans (hs.AD rfl)⟩;(repeat (first | exact Ac | (apply A5;first | exact rfl | exact congrArg (Value.int .i64) ei | exact congrArg (Value.int .u64) (ew hq.2) | exact congrArg (Value.int .u64) (ew hq.2))));done)
    | (have hq : ¬ (9 < m ∧ q.ns ≤ 1099511627776) ∧ 1 ≤ q.ns := (by simp only [decide_eq_true_eq, decide_eq_false_iff_not, ge_iff_le, beq_iff_eq, beq_eq_false_iff_ne, ne_eq] at *; omega)
       refine A2 (i+1,EC least q.ns,ticks) (by show xs.length - (i+1) < xs.length - i;omega) ?_ ⟨by show i+1≤_;omega,nB hq.1 hq.2,ho.trans (hs.AD rfl)⟩;(repeat (first | exact Ac | (apply A5;first | exact rfl | exact congrArg (Value.int .i64) ei)));done)
    | (have hq : ¬ (9 < m ∧ q.ns ≤ 1099511627776) ∧ ¬ ((m < 2 ∨ m = 8) ∧ 1 ≤ q.ns) := (by simp only [decide_eq_true_eq, decide_eq_false_iff_not, ge_iff_le, beq_iff_eq, beq_eq_false_iff_ne, ne_eq] at *; omega)
       refine A2 (i+1,least,ticks) (by show xs.length - (i+1) < xs.length - i;omega) ?_ ⟨by show i+1≤_;omega,nC hq.1 hq.2,ho.trans (hs.AD rfl)⟩;(repeat (first | exact Ac | (apply A5;first | exact rfl | exact congrArg (Value.int .i64) ei)));done))
  ·have e:i=xs.length:=by omega
   subst e
   rw [List.take_length] at hI
   exact Am (least,ticks) Aa ⟨hI,ho⟩
 ·rintro ⟨least,ticks⟩ env w ⟨hI,ho⟩
  simp only at hI
  have LJ:=hI.l1
  have hl2:=hI.l2
  have ht1:=hI.t1
  have ht2:=hI.t2
  clear hs
  have hs:=St.nil w
  refine Ja ?_
  refine AF ?_
  refine ⟨⟨_,rfl,fun hb=>⟨hm,least,LJ,hI.a,fun a ha h1 h2=>?_⟩⟩,ho.trans (hs.AD rfl)⟩
  have hq:ticks / least≤300:=by simpa using hb
  have:=Int.ediv_le_ediv (show 0 < least by omega) (hI.t a ha h1 h2)
  omega
theorem yI {s:Sy} {a:C0} {m:Int} (hI:Cu s) (hl:Bh m s.t) (hm:1≤m) (ha:a.In) (ht:9 < a.d % 12→a.ns≤1099511627776→a.ns / m≤300):Wq s a:=fun h1 h2 k hk=>by
 have:=iZ hI hl hm ha.2.2.2.2.1 (ht h1 h2) hk
 omega
theorem ZG (va vb:Value) (A B:List Int) (hm:A.length≤9223372036854775807) (w0:World) (hA:C1 w0 3 1 va (A.map LX)) (hB:C1 w0 3 1 vb (B.map LX)) :
 AM Tryz.prog 23 #[va,vb] w0 fun v w'=>v = .bool (decide (A=B))∧AA [] w0 w':=by
 obtain ⟨Oe,ca,rfl,hA⟩:=hA
 obtain ⟨Nt,cb,rfl,hB⟩:=hB
 rw [List.length_map] at *
 rw [List.length_map] at *
 have hs:=St.nil w0
 refine AQ Tryz.func23 Tryz.ntmps23 (k:=?_)
 repeat' (first|refine Sa ?_|refine xc_cond rfl (fun hc=>?_) fun hc=>?_|fail)
 ·refine AF ?_
  refine ⟨congrArg Value.bool ?_,hs.AD rfl⟩
  have hne:A≠B:=fun e=>by subst e;simp at hc
  exact (decide_eq_false hne).symm
 ·have KI:A.length=B.length:=by
   have h:((A.length:Nat):Int)=B.length:=by simpa using hc
   omega
  refine BH (fun _:Unit=>[]) (fun _ w=>A=B∧AA [] w0 w) ?_ ?_
  ·refine BF (fun (i:Nat)=>[(0,.slice Oe A.length ca),(1,.slice Nt B.length cb),(12,.int .i64 (A.length:Nat)),(13,.int .i64 (i:Nat))])
    (fun i w=>i≤A.length∧A.take i=B.take i∧AA [] w0 w)
    (fun i=>A.length - i) 0 Aa ⟨Nat.zero_le _,by simp,hs.AD rfl⟩ fun i env w ⟨hi,ht,ho⟩=>?_
   clear hs
   have hs:=St.nil w
   repeat' (first|refine Sa ?_|refine Av rfl (fun hc=>?_) fun hc=>?_|fail)
   ·have hlt:i < A.length:=by omega
    have GW:i < B.length:=by omega
    obtain ⟨ba,oa,Yc,fa,rfl,a2,a3,a4⟩:=hA (fun h=>by have:=congrArg List.length h;rw [List.length_map,List.length_nil] at this;omega)
    obtain ⟨bb,ob,Y6,fb,rfl,b2,b3,b4⟩:=hB (fun h=>by have:=congrArg List.length h;rw [List.length_map,List.length_nil] at this;omega)
    have ga:=a4 i _ (by rw [List.getElem?_map,List.getElem?_eq_getElem hlt];rfl)
    have gb:=b4 i _ (by rw [List.getElem?_map,List.getElem?_eq_getElem GW];rfl)
    have a3:=ho.block a3 (by simp)
    have b3:=ho.block b3 (by simp)
    have key:A[i]=B[i]→A.take (i+1)=B.take (i+1):=fun he=>by rw [List.take_add_one,List.take_add_one,ht,List.getElem?_eq_getElem hlt,List.getElem?_eq_getElem GW,he]
    have HJ:A[i]≠B[i]→A≠B:=fun h e=>h (by subst e;rfl)
    have ei:=DH hlt hm
    generalize A[i]=x at *
    generalize B[i]=y at *
    by_cases e:ba=bb
    ·subst e
     rw [a3] at b3
     cases b3
     replace hs:=hs.AG a3 (by simp)
     refine dr [] hs (k:=?_);intro hX w hs
     refine tks 0 2 ?_
     refine tk 2 hX (hr:=fun w' hH=>BE AI rfl rfl rfl om om) (k:=?_)
     refine tk 3 hX (hr:=fun w' hH=>r_load AI rfl rfl (hH rfl) At.head (by cases ga;assumption)) (k:=?_)
     refine tks 4 2 ?_
     refine tk 6 hX (hr:=fun w' hH=>BE AI rfl rfl rfl om om) (k:=?_)
     refine tk 7 hX (hr:=fun w' hH=>r_load AI rfl rfl (hH rfl) At.head (by cases gb;assumption)) (k:=?_)
     refine tk 8 hX (k:=?_)
     refine en (k:=?_)
     repeat' (first|refine Sa ?_|refine xc_cond rfl (fun hc=>?_) fun hc=>?_|fail)
     ·refine AF ?_
      exact ⟨congrArg Value.bool (decide_eq_false (HJ (by simpa using hc))).symm,ho.step (hs.AB [] (by simp [a3]) (by simp [D0])) (by simp)⟩
     ·exact A2 (i+1) om (by (repeat (first | exact Ac | (apply A5;first | exact rfl | exact congrArg (Value.int .i64) ei)))) ⟨by omega,key (by simpa using hc),ho.step (hs.AB [] (by simp [a3]) (by simp [D0])) (by simp)⟩
    ·replace hs:=(hs.AG a3 (by simp)).AG b3 (by simpa using Ne.symm e)
     refine dr [] hs (k:=?_);intro hX w hs
     refine tks 0 2 ?_
     refine tk 2 hX (hr:=fun w' hH=>BE AI rfl rfl rfl om om) (k:=?_)
     refine tk 3 hX (hr:=fun w' hH=>r_load AI rfl rfl (hH rfl) (At.tail At.head) (by cases ga;assumption)) (k:=?_)
     refine tks 4 2 ?_
     refine tk 6 hX (hr:=fun w' hH=>BE AI rfl rfl rfl om om) (k:=?_)
     refine tk 7 hX (hr:=fun w' hH=>r_load AI rfl rfl (hH rfl) At.head (by cases gb;assumption)) (k:=?_)
     refine tk 8 hX (k:=?_)
     refine en (k:=?_)
     repeat' (first|refine Sa ?_|refine xc_cond rfl (fun hc=>?_) fun hc=>?_|fail)
     ·refine AF ?_
      exact ⟨congrArg Value.bool (decide_eq_false (HJ (by simpa using hc))).symm,ho.step (hs.AB [] (by simp [a3,b3]) (by simp [D0])) (by simp)⟩
     ·exact A2 (i+1) om (by (repeat (first | exact Ac | (apply A5;first | exact rfl | exact congrArg (Value.int .i64) ei)))) ⟨by omega,key (by simpa using hc),ho.step (hs.AB [] (by simp [a3,b3]) (by simp [D0])) (by simp)⟩
   ·have e:i=A.length:=by omega
    have Ox:A=B:=by
     have h1:A.take i=A:=List.take_of_length_le om
     have h2:B.take i=B:=List.take_of_length_le om
     rw [← h1,ht,h2]
    exact Am () Aa ⟨Ox,ho.step (hs.AD rfl) (by simp)⟩
  ·rintro _ env w ⟨rfl,ho⟩
   clear hs
   have hs:=St.nil w
   refine Ja ?_
   refine AF ?_
   exact ⟨congrArg Value.bool (decide_eq_true rfl).symm,ho.step (hs.AD rfl) (by simp)⟩
def QD:Cf:=⟨1,2,9,9,0⟩
def Q0:Sy:=(Db (Ic QD) ((Bk ⟨Ic QD,[]⟩ 0 1 5).1,(Bk ⟨Ic QD,[]⟩ 0 1 5).2.2)).2
def MG:Sy:=(Db Q0 ((Bk ⟨Q0,[]⟩ 0 1 5).1,(Bk ⟨Q0,[]⟩ 0 1 5).2.2)).2
def lS:Sy:=(Db MG (FZ ⟨MG,[]⟩ 5)).2
theorem yV:QD.In:=by unfold QD;exact ⟨by decide,by decide,by decide,by decide,by decide⟩
theorem aAE:EV QD=0:=by decide
theorem pY:(Bk ⟨Ic QD,[]⟩ 0 1 5).1=0:=by kernel_rfl
theorem zH:(Bk ⟨Ic QD,[]⟩ 0 1 5).2.1=1:=by kernel_rfl
theorem qZ:(Bk ⟨Q0,[]⟩ 0 1 5).1=0:=by kernel_rfl
theorem zR:(Bk ⟨Q0,[]⟩ 0 1 5).2.1=2:=by kernel_rfl
theorem zP:(FZ ⟨MG,[]⟩ 5).1=0:=by kernel_rfl
theorem zI:(Db MG (FZ ⟨MG,[]⟩ 5)).1=[⟨0,1,5,true,false⟩]:=by kernel_rfl
theorem zW:lS.k.map Cs.run=[2]:=by kernel_rfl
theorem zL:MG.k.length=1:=by kernel_rfl
theorem zY:(Ao (AT MG 0) 5).2.2.p.length=1:=by kernel_rfl
theorem YE (w0:World) (ht:DE w0):AM Tryz.prog 28 #[] w0 fun v w'=>v = .bool true∧AA [] w0 w':=by
 have hs:=St.nil w0
 refine AQ Tryz.func28 Tryz.ntmps28 (k:=?_)
 refine Ja ?_
 refine AW hs (h:=by exact Xt _ (tab_only ht (hs.AD rfl))) (k:=?_);intro w' ho hs;refine Jc ?_
 refine AF ?_
 exact ⟨rfl,hs.AD rfl⟩
theorem YB (w0:World) (ht:DE w0):AM Tryz.prog 7 #[] w0 fun v w'=>v = .bool true∧AA [] w0 w':=by
 have hs:=St.nil w0
 refine AQ Tryz.func7 Tryz.ntmps7 (k:=?_)
 refine Ja ?_
 refine cl (h:=by exact Uf QD yV _) (k:=?_)
 rintro v w1 ⟨h | ⟨-,sb,F0,rfl,hS,Dp⟩,AJ⟩
 ·exact absurd aAE h.1
 have Ay:=(hs.AD rfl).trans AJ
 have nJ:∀ k∈F0,w0.heap.size≤k:=fun k hk=>by have:=Dp k hk;have:=(hs.AD rfl).size;omega
 have hcb:w0.heap.size≤sb:=nJ sb hS.mem
 clear hs
 have hs:=St.nil w1
 refine Jd ?_
 refine cl (h:=by exact Kj sb (Ic QD) F0 0 1 5 _ (hS.only (hs.AD rfl)) (by decide) (by decide) (by decide)) (k:=?_)
 rw [pY,zH]
 rintro v w2 ⟨ve,rfl,T⟩
 obtain ⟨ae,ce,rfl⟩:=T.form
 obtain ⟨-,⟨F1,FC,Cl⟩,AN⟩:=T
 rw [← pY] at FC
 have FC:CM w2 sb Q0 F1:=FC
 have Bd:AA [] w0 w2:=(Ay.trans (hs.AD rfl)).step AN (fun k hk => .inr (by obtain rfl:=List.mem_singleton.1 hk;exact hcb))
 clear hs
 have hs:=St.nil w2
 refine Ja ?_
 refine cl (h:=by exact Kj sb Q0 F1 0 1 5 _ (FC.only (hs.AD rfl)) (by decide) (by decide) (by decide)) (k:=?_)
 rw [qZ,zR]
 rintro v w3 ⟨ve,rfl,T⟩
 obtain ⟨ae,ce,rfl⟩:=T.form
 obtain ⟨-,⟨F2,EH,DW⟩,AS⟩:=T
 rw [← qZ] at EH
 have EH:CM w3 sb MG F2:=EH
 have Ec:AA [] w0 w3:=(Bd.trans (hs.AD rfl)).step AS (fun k hk => .inr (by obtain rfl:=List.mem_singleton.1 hk;exact hcb))
 clear hs
 have hs:=St.nil w3
 refine Ja ?_
 refine cl (h:=by exact Nj sb MG F2 5 _ (EH.only (hs.AD rfl)) (by decide) (fun _ k hk=>by rw [zL] at hk;obtain rfl:k=0:=(by omega);have e:=zY;show (Ao (AT MG ((0:Nat):Int)) 5).2.2.p.length≤1000000;rw [show ((0:Nat):Int)=0 from rfl,e];decide)) (k:=?_)
 rw [zP]
 rintro v w4 ⟨ve,rfl,T⟩
 obtain ⟨⟨Ge,hE⟩,⟨F3,Ig,MX⟩,Al⟩:=T
 have Ig:CM w4 sb lS F3:=Ig
 rw [zI] at hE
 obtain ⟨ae,ce,rfl⟩:=BO hE
 have CF:AA [] w0 w4:=(Ec.trans (hs.AD rfl)).step Al (fun k hk => .inr (by obtain rfl:=List.mem_singleton.1 hk;exact hcb))
 clear hs
 have hs:=St.nil w4
 refine Ja ?_
 have E3:=CF.trans (hs.AD rfl)
 refine AW hs (h:=by exact YE _ (tab_only ht E3)) (k:=?_);intro w' ho hs;repeat' (first|refine vs (k:=?_)|(refine bs hs (k:=?_);intro b w hz hs)|fail)
 have lG:=lit_ls (xs:=[Ev.cells ⟨0,1,5,true,false⟩]) (k:=5) (hs.get At.head) rfl (by decide) rfl
 have hE':C1 w4 41 5 (.slice ae 1 ce) ([⟨0,1,5,true,false⟩].map Ev.cells):=BS.ls hE rfl (by simp) (fun x hx=>by obtain ⟨p,_,rfl⟩:=List.mem_map.1 hx;rfl)
 refine cl (h:=by exact QZ _ _ [⟨0,1,5,true,false⟩] [⟨0,1,5,true,false⟩] (by decide) _ (hE'.only (hs.AD rfl)) lG) (k:=?_)
 rw [show decide ([(⟨0,1,5,true,false⟩:Ev)]=[⟨0,1,5,true,false⟩])=true by decide]
 rintro v w' ⟨rfl,ho⟩;replace hs:=hs.AL ho;refine Jf ?_
 refine cl (h:=by exact NU sb lS F3 _ (Ig.only (hs.AD rfl))) (k:=?_)
 rw [zW]
 rintro v w5 ⟨⟨G5,hR,hG5⟩,BJ⟩
 obtain ⟨ar,cr,rfl⟩:=BO hR
 have hoF:=(CF.trans (hs.AD rfl)).trans BJ
 clear hs
 have hs:=St.nil w5
 repeat' (first|(refine bs hs (k:=?_);intro b w hz hs)|fail)
 have zZ:=lit_ls (xs:=[LX 2]) (k:=1) (hs.get At.head) rfl (by decide) rfl
 have hR':C1 w5 3 1 (.slice ar 1 cr) ([(2:Int)].map LX):=BS.ls (xs:=[(2:Int)].map LX) hR rfl (by simp) (fun x hx=>by obtain ⟨p,_,rfl⟩:=List.mem_map.1 hx;rfl)
 refine cl (h:=by exact ZG _ _ [2] [2] (by decide) _ (hR'.only (hs.AD rfl)) zZ) (k:=?_)
 rw [show decide ([(2:Int)]=[2])=true by decide]
 rintro v w' ⟨rfl,ho⟩;replace hs:=hs.AL ho;refine Jc ?_
 refine AF ?_
 exact ⟨rfl,hoF.trans (hs.AD rfl)⟩
theorem Z0 (p q:Rq):(Ba (.int .u64 p.i.p.t) (.int .u64 q.i.p.t) && (Ba (.int .u32 p.i.p.r) (.int .u32 q.i.p.r) && (Ba (.int .u32 p.i.p.w) (.int .u32 q.i.p.w) && (Ba (.int .i64 p.i.id) (.int .i64 q.i.id) && (Ba (.int .u64 p.i.d.t) (.int .u64 q.i.d.t) && (Ba (.int .u32 p.i.d.r) (.int .u32 q.i.d.r) && (Ba (.int .u32 p.i.d.w) (.int .u32 q.i.d.w) && (Ba (.int .u64 p.left) (.int .u64 q.left) && (Ba (.int .u64 p.slice) (.int .u64 q.slice) && Ba (.bool p.asleep) (.bool q.asleep))))))))))=decide (p=q):=by
 show ((p.i.p.t == q.i.p.t) && ((p.i.p.r == q.i.p.r) && ((p.i.p.w == q.i.p.w) && ((p.i.id == q.i.id) && ((p.i.d.t == q.i.d.t) && ((p.i.d.r == q.i.d.r) && ((p.i.d.w == q.i.d.w) && ((p.left == q.left) && ((p.slice == q.slice) && (p.asleep == q.asleep))))))))))=_
 obtain ⟨⟨⟨a,b,c⟩,d,⟨e,f,g⟩⟩,h,i,j⟩:=p
 obtain ⟨⟨⟨a',b',c'⟩,d',⟨e',f',g'⟩⟩,h',i',j'⟩:=q
 rw [Bool.eq_iff_iff,decide_eq_true_iff]
 simp only [Bool.and_eq_true,beq_iff_eq,Rq.mk.injEq,It.mk.injEq,Pt.mk.injEq,and_assoc]
theorem s5 (va vb:Value) (A B:List Rq) (hm:A.length≤9223372036854775807) (w0:World) (hA:C1 w0 66 10 va (A.map Rq.cells)) (hB:C1 w0 66 10 vb (B.map Rq.cells)) :
 AM Tryz.prog 16 #[va,vb] w0 fun v w'=>v = .bool (decide (A=B))∧AA [] w0 w':=by
 obtain ⟨Oe,ca,rfl,hA⟩:=hA
 obtain ⟨Nt,cb,rfl,hB⟩:=hB
 rw [List.length_map] at *
 rw [List.length_map] at *
 have hs:=St.nil w0
 refine AQ Tryz.func16 Tryz.ntmps16 (k:=?_)
 repeat' (first|refine Sa ?_|refine xc_cond rfl (fun hc=>?_) fun hc=>?_|fail)
 ·refine AF ?_
  refine ⟨congrArg Value.bool ?_,hs.AD rfl⟩
  have hne:A≠B:=fun e=>by subst e;simp at hc
  exact (decide_eq_false hne).symm
 ·have KI:A.length=B.length:=by
   have h:((A.length:Nat):Int)=B.length:=by simpa using hc
   omega
  refine BH (fun _:Unit=>[]) (fun _ w=>A=B∧AA [] w0 w) ?_ ?_
  ·refine BF (fun (i:Nat)=>[(0,.slice Oe A.length ca),(1,.slice Nt B.length cb),(12,.int .i64 (A.length:Nat)),(13,.int .i64 (i:Nat))])
    (fun i w=>i≤A.length∧A.take i=B.take i∧AA [] w0 w)
    (fun i=>A.length - i) 0 Aa ⟨Nat.zero_le _,by simp,hs.AD rfl⟩ fun i env w ⟨hi,ht,ho⟩=>?_
   clear hs
   have hs:=St.nil w
   repeat' (first|refine Sa ?_|refine Av rfl (fun hc=>?_) fun hc=>?_|fail)
   ·have hlt:i < A.length:=by omega
    have GW:i < B.length:=by omega
    obtain ⟨ba,oa,Yc,fa,rfl,a2,a3,a4⟩:=hA (fun h=>by have:=congrArg List.length h;rw [List.length_map,List.length_nil] at this;omega)
    obtain ⟨bb,ob,Y6,fb,rfl,b2,b3,b4⟩:=hB (fun h=>by have:=congrArg List.length h;rw [List.length_map,List.length_nil] at this;omega)
    have ga:=a4 i _ (by rw [List.getElem?_map,List.getElem?_eq_getElem hlt];rfl)
    have gb:=b4 i _ (by rw [List.getElem?_map,List.getElem?_eq_getElem GW];rfl)
    have a3:=ho.block a3 (by simp)
    have b3:=ho.block b3 (by simp)
    have key:A[i]=B[i]→A.take (i+1)=B.take (i+1):=fun he=>by rw [List.take_add_one,List.take_add_one,ht,List.getElem?_eq_getElem hlt,List.getElem?_eq_getElem GW,he]
    have HJ:A[i]≠B[i]→A≠B:=fun h e=>h (by subst e;rfl)
    have ei:=DH hlt hm
    generalize A[i]=x at *
    generalize B[i]=y at *
    by_cases e:ba=bb
    ·subst e
     rw [a3] at b3
     cases b3
     replace hs:=hs.AG a3 (by simp)
     refine dr [] hs (k:=?_);intro hX w hs
     refine tks 0 2 ?_
     refine tk 2 hX (hr:=fun w' hH=>BE AI rfl rfl rfl om om) (k:=?_)
     refine tk 3 hX (hr:=fun w' hH=>DF AI rfl rfl (hH rfl) At.head ga) (k:=?_)
     refine tks 4 2 ?_
     refine tk 6 hX (hr:=fun w' hH=>BE AI rfl rfl rfl om om) (k:=?_)
     refine tk 7 hX (hr:=fun w' hH=>DF AI rfl rfl (hH rfl) At.head gb) (k:=?_)
     refine tk 8 hX (k:=?_)
     refine en (k:=?_)
     repeat' (first|refine Sa ?_|refine xc_cond rfl (fun hc=>?_) fun hc=>?_|fail)
     ·rw [Z0] at hc
      refine AF ?_
      exact ⟨congrArg Value.bool (decide_eq_false (HJ (by simpa using hc))).symm,ho.step (hs.AB [] (by simp [a3]) (by simp [D0])) (by simp)⟩
     ·rw [Z0] at hc
      exact A2 (i+1) om (by (repeat (first | exact Ac | (apply A5;first | exact rfl | exact congrArg (Value.int .i64) ei)))) ⟨by omega,key (by simpa using hc),ho.step (hs.AB [] (by simp [a3]) (by simp [D0])) (by simp)⟩
    ·replace hs:=(hs.AG a3 (by simp)).AG b3 (by simpa using Ne.symm e)
     refine dr [] hs (k:=?_);intro hX w hs
     refine tks 0 2 ?_
     refine tk 2 hX (hr:=fun w' hH=>BE AI rfl rfl rfl om om) (k:=?_)
     refine tk 3 hX (hr:=fun w' hH=>DF AI rfl rfl (hH rfl) (At.tail At.head) ga) (k:=?_)
     refine tks 4 2 ?_
     refine tk 6 hX (hr:=fun w' hH=>BE AI rfl rfl rfl om om) (k:=?_)
     refine tk 7 hX (hr:=fun w' hH=>DF AI rfl rfl (hH rfl) At.head gb) (k:=?_)
     refine tk 8 hX (k:=?_)
     refine en (k:=?_)
     repeat' (first|refine Sa ?_|refine xc_cond rfl (fun hc=>?_) fun hc=>?_|fail)
     ·rw [Z0] at hc
      refine AF ?_
      exact ⟨congrArg Value.bool (decide_eq_false (HJ (by simpa using hc))).symm,ho.step (hs.AB [] (by simp [a3,b3]) (by simp [D0])) (by simp)⟩
     ·rw [Z0] at hc
      exact A2 (i+1) om (by (repeat (first | exact Ac | (apply A5;first | exact rfl | exact congrArg (Value.int .i64) ei)))) ⟨by omega,key (by simpa using hc),ho.step (hs.AB [] (by simp [a3,b3]) (by simp [D0])) (by simp)⟩
   ·have e:i=A.length:=by omega
    have Ox:A=B:=by
     have h1:A.take i=A:=List.take_of_length_le om
     have h2:B.take i=B:=List.take_of_length_le om
     rw [← h1,ht,h2]
    exact Am () Aa ⟨Ox,ho.step (hs.AD rfl) (by simp)⟩
  ·rintro _ env w ⟨rfl,ho⟩
   clear hs
   have hs:=St.nil w
   refine Ja ?_
   refine AF ?_
   exact ⟨congrArg Value.bool (decide_eq_true rfl).symm,ho.step (hs.AD rfl) (by simp)⟩
theorem bC (p q:Tk):(Ba (.int .i64 p.id) (.int .i64 q.id) && (Ba (.int .u8 p.st) (.int .u8 q.st) && (Ba (.int .i64 p.core) (.int .i64 q.core) && (Ba (.int .u32 p.w) (.int .u32 q.w) && (Ba (.int .u64 p.slice) (.int .u64 q.slice) && Ba (.int .i64 p.lag) (.int .i64 q.lag))))))=decide (p=q):=by
 obtain ⟨a,b,c,d,e,f⟩:=p
 obtain ⟨a',b',c',d',e',f'⟩:=q
 show ((a == a') && ((b == b') && ((c == c') && ((d == d') && ((e == e') && (f == f'))))))=_
 rw [Bool.eq_iff_iff]
 simp
theorem mK (va vb:Value) (A B:List Tk) (hm:A.length≤9223372036854775807) (w0:World) (hA:C1 w0 51 6 va (A.map Tk.cells)) (hB:C1 w0 51 6 vb (B.map Tk.cells)) :
 AM Tryz.prog 24 #[va,vb] w0 fun v w'=>v = .bool (decide (A=B))∧AA [] w0 w':=by
 obtain ⟨Oe,ca,rfl,hA⟩:=hA
 obtain ⟨Nt,cb,rfl,hB⟩:=hB
 rw [List.length_map] at *
 rw [List.length_map] at *
 have hs:=St.nil w0
 refine AQ Tryz.func24 Tryz.ntmps24 (k:=?_)
 repeat' (first|refine Sa ?_|refine xc_cond rfl (fun hc=>?_) fun hc=>?_|fail)
 ·refine AF ?_
  refine ⟨congrArg Value.bool ?_,hs.AD rfl⟩
  have hne:A≠B:=fun e=>by subst e;simp at hc
  exact (decide_eq_false hne).symm
 ·have KI:A.length=B.length:=by
   have h:((A.length:Nat):Int)=B.length:=by simpa using hc
   omega
  refine BH (fun _:Unit=>[]) (fun _ w=>A=B∧AA [] w0 w) ?_ ?_
  ·refine BF (fun (i:Nat)=>[(0,.slice Oe A.length ca),(1,.slice Nt B.length cb),(12,.int .i64 (A.length:Nat)),(13,.int .i64 (i:Nat))])
    (fun i w=>i≤A.length∧A.take i=B.take i∧AA [] w0 w)
    (fun i=>A.length - i) 0 Aa ⟨Nat.zero_le _,by simp,hs.AD rfl⟩ fun i env w ⟨hi,ht,ho⟩=>?_
   clear hs
   have hs:=St.nil w
   repeat' (first|refine Sa ?_|refine Av rfl (fun hc=>?_) fun hc=>?_|fail)
   ·have hlt:i < A.length:=by omega
    have GW:i < B.length:=by omega
    obtain ⟨ba,oa,Yc,fa,rfl,a2,a3,a4⟩:=hA (fun h=>by have:=congrArg List.length h;rw [List.length_map,List.length_nil] at this;omega)
    obtain ⟨bb,ob,Y6,fb,rfl,b2,b3,b4⟩:=hB (fun h=>by have:=congrArg List.length h;rw [List.length_map,List.length_nil] at this;omega)
    have ga:=a4 i _ (by rw [List.getElem?_map,List.getElem?_eq_getElem hlt];rfl)
    have gb:=b4 i _ (by rw [List.getElem?_map,List.getElem?_eq_getElem GW];rfl)
    have a3:=ho.block a3 (by simp)
    have b3:=ho.block b3 (by simp)
    have key:A[i]=B[i]→A.take (i+1)=B.take (i+1):=fun he=>by rw [List.take_add_one,List.take_add_one,ht,List.getElem?_eq_getElem hlt,List.getElem?_eq_getElem GW,he]
    have HJ:A[i]≠B[i]→A≠B:=fun h e=>h (by subst e;rfl)
    have ei:=DH hlt hm
    generalize A[i]=x at *
    generalize B[i]=y at *
    by_cases e:ba=bb
    ·subst e
     rw [a3] at b3
     cases b3
     replace hs:=hs.AG a3 (by simp)
     refine dr [] hs (k:=?_);intro hX w hs
     refine tks 0 2 ?_
     refine tk 2 hX (hr:=fun w' hH=>BE AI rfl rfl rfl om om) (k:=?_)
     refine tk 3 hX (hr:=fun w' hH=>DF AI rfl rfl (hH rfl) At.head ga) (k:=?_)
     refine tks 4 2 ?_
     refine tk 6 hX (hr:=fun w' hH=>BE AI rfl rfl rfl om om) (k:=?_)
     refine tk 7 hX (hr:=fun w' hH=>DF AI rfl rfl (hH rfl) At.head gb) (k:=?_)
     refine tk 8 hX (k:=?_)
     refine en (k:=?_)
     repeat' (first|refine Sa ?_|refine xc_cond rfl (fun hc=>?_) fun hc=>?_|fail)
     ·rw [bC] at hc
      refine AF ?_
      exact ⟨congrArg Value.bool (decide_eq_false (HJ (by simpa using hc))).symm,ho.step (hs.AB [] (by simp [a3]) (by simp [D0])) (by simp)⟩
     ·rw [bC] at hc
      exact A2 (i+1) om (by (repeat (first | exact Ac | (apply A5;first | exact rfl | exact congrArg (Value.int .i64) ei)))) ⟨by omega,key (by simpa using hc),ho.step (hs.AB [] (by simp [a3]) (by simp [D0])) (by simp)⟩
    ·replace hs:=(hs.AG a3 (by simp)).AG b3 (by simpa using Ne.symm e)
     refine dr [] hs (k:=?_);intro hX w hs
     refine tks 0 2 ?_
     refine tk 2 hX (hr:=fun w' hH=>BE AI rfl rfl rfl om om) (k:=?_)
     refine tk 3 hX (hr:=fun w' hH=>DF AI rfl rfl (hH rfl) (At.tail At.head) ga) (k:=?_)
     refine tks 4 2 ?_
     refine tk 6 hX (hr:=fun w' hH=>BE AI rfl rfl rfl om om) (k:=?_)
     refine tk 7 hX (hr:=fun w' hH=>DF AI rfl rfl (hH rfl) At.head gb) (k:=?_)
     refine tk 8 hX (k:=?_)
     refine en (k:=?_)
     repeat' (first|refine Sa ?_|refine xc_cond rfl (fun hc=>?_) fun hc=>?_|fail)
     ·rw [bC] at hc
      refine AF ?_
      exact ⟨congrArg Value.bool (decide_eq_false (HJ (by simpa using hc))).symm,ho.step (hs.AB [] (by simp [a3,b3]) (by simp [D0])) (by simp)⟩
     ·rw [bC] at hc
      exact A2 (i+1) om (by (repeat (first | exact Ac | (apply A5;first | exact rfl | exact congrArg (Value.int .i64) ei)))) ⟨by omega,key (by simpa using hc),ho.step (hs.AB [] (by simp [a3,b3]) (by simp [D0])) (by simp)⟩
   ·have e:i=A.length:=by omega
    have Ox:A=B:=by
     have h1:A.take i=A:=List.take_of_length_le om
     have h2:B.take i=B:=List.take_of_length_le om
     rw [← h1,ht,h2]
    exact Am () Aa ⟨Ox,ho.step (hs.AD rfl) (by simp)⟩
  ·rintro _ env w ⟨rfl,ho⟩
   clear hs
   have hs:=St.nil w
   refine Ja ?_
   refine AF ?_
   exact ⟨congrArg Value.bool (decide_eq_true rfl).symm,ho.step (hs.AD rfl) (by simp)⟩
theorem ints_flat:∀ l:List Int,ints l=(l.map LX).flatten
 | []=>rfl
 | a :: l=>congrArg (Value.int .i64 a :: ·) (ints_flat l)
theorem ls_int {w:World} {v:Value} {l:List Int} {G:List Nat} (h:BS w 3 1 v l.length (ints l) G):C1 w 3 1 v (l.map LX):=BS.ls (xs:=l.map LX) h (ints_flat l) (by simp) (fun x hx=>by obtain ⟨p,_,rfl⟩:=List.mem_map.1 hx;rfl)
theorem ls_tk {w:World} {v:Value} {l:List Tk} {G:List Nat} (h:BS w 51 6 v l.length (CO l) G):C1 w 51 6 v (l.map Tk.cells):=BS.ls (xs:=l.map Tk.cells) h rfl (by simp) (fun x hx=>by obtain ⟨p,_,rfl⟩:=List.mem_map.1 hx;rfl)
theorem rq_ls {w:World} {v:Value} {l:List RT} {G:List Nat} (h:BS w 66 10 v l.length (HY l) G):C1 w 66 10 v ((l.map Subtype.val).map Rq.cells):=by
 rw [List.map_map]
 exact bG h
theorem zQ (x:Int):(!(Ba (.int .i64 (x / 18446744073709551616)) (.int .i64 (x / 18446744073709551616)) && Ba (.int .u64 (x % 18446744073709551616)) (.int .u64 (x % 18446744073709551616))))=false:=by
 show (!((x / 18446744073709551616 == x / 18446744073709551616) && (x % 18446744073709551616 == x % 18446744073709551616)))=false
 simp
theorem kJ {c:Cf} {k:Int} (h0:0≤k) (h:k < c.cores):CP c k=0:=by unfold CP;rw [if_neg om]
theorem QO (sa sb:Nat) (s:Sy) (Fa Fb:List Nat) (w0:World) (h1:CM w0 sa s Fa) (h2:CM w0 sb s Fb) (hd:∀ k∈Fa,k∉Fb):AM Tryz.prog 21 #[.pointer (some ⟨sa,0,none⟩),.pointer (some ⟨sb,0,none⟩)] w0 fun v w'=>v = .bool true∧AA [] w0 w':=by
 have hok:=h1.ok
 have hlen:=hok.len
 have hhi:=hok.hi
 have hlo:=hok.lo
 have hl8:s.k.length≤8:=by omega
 have kY:(Ap s.t).length≤32:=Nat.le_trans (List.length_filter_le _ _) hok.tl
 have hne:sb≠sa:=fun e=>hd sa h1.mem (e ▸ h2.mem)
 have g1:=h1
 have g2:=h2
 obtain ⟨ta,ra,va,La,Ga,rfl,O1⟩:=g1
 obtain ⟨tb,rb,vb,Lb,Gb,rfl,O2⟩:=g2
 have p1:=O1.o
 have p2:=O2.o
 have hs:=((St.nil w0).AE p1).AG p2 (by simp [hne])
 refine AQ Tryz.func21 Tryz.ntmps21 (k:=?_)
 refine Ja ?_
 refine dr [] hs (k:=?_);intro hX w hs
 refine tk 0 hX (k:=?_)
 refine tk 2 hX (k:=?_)
 refine dt 1 hX (k:=?_)
 have Fp:=hs.AB [] (by simp [p1,p2]) (by simp [D0])
 refine cl (h:=by exact NU sa s _ _ (h1.only Fp)) (k:=?_)
 rintro v3 w3 ⟨⟨G3,Ib,Mo⟩,AS⟩;replace hs:=hs.AL AS
 refine XS.nil ?_
 refine dn (k:=?_)
 refine dt 3 hX (k:=?_)
 have Mc:=hs.AB [] (by simp [p1,p2]) (by simp [D0])
 have Lz:=hs
 refine cl (h:=by exact NU sb s _ _ (h2.only Mc)) (k:=?_)
 rintro v4 w4 ⟨⟨G4,JT,hG4⟩,Al⟩;replace hs:=hs.AL Al
 refine XS.nil ?_
 refine dn (k:=?_)
 refine dt 4 hX (k:=?_)
 have aAx:=(Ib.keep Al (by simp))
 rw [show (s.k.map Cs.run).length=(s.k.map Cs.run).length from rfl] at JT
 have hrl:(s.k.map Cs.run).length≤9223372036854775807:=by rw [List.length_map];omega
 refine cl (h:=by exact ZG _ _ (s.k.map Cs.run) (s.k.map Cs.run) hrl _ (ls_int aAx) (ls_int JT)) (k:=?_)
 rintro v5 w5 ⟨rfl,BJ⟩;replace hs:=hs.AL BJ
 refine XS.nil ?_
 refine dn (k:=?_)
 refine Iv 14 (v := .bool true) (congrArg Value.bool (decide_eq_true rfl)) ?_
 refine tks 5 6 ?_
 refine tks 12 4 ?_
 refine dt 11 hX (k:=?_)
 have Aw:=hs.AB [] (by simp [p1,p2]) (by simp [D0])
 refine cl (h:=by exact U8 ta ra s.t _ (O1.t.only Aw)) (k:=?_)
 rintro v6 w6 ⟨⟨G6,Bl,hG6⟩,Ak⟩;replace hs:=hs.AL Ak
 refine XS.nil ?_
 refine dn (k:=?_)
 refine dt 16 hX (k:=?_)
 have hod:=hs.AB [] (by simp [p1,p2]) (by simp [D0])
 refine cl (h:=by exact U8 tb rb s.t _ (O2.t.only hod)) (k:=?_)
 rintro v7 w7 ⟨⟨G7,K5,hG7⟩,CQ⟩;replace hs:=hs.AL CQ
 refine XS.nil ?_
 refine dn (k:=?_)
 refine dt 17 hX (k:=?_)
 have aAu:=(Bl.keep CQ (by simp))
 refine cl (h:=by exact mK _ _ (Ap s.t) (Ap s.t) om _ (ls_tk aAu) (ls_tk K5)) (k:=?_)
 rintro v8 w8 ⟨rfl,Da⟩;replace hs:=hs.AL Da
 refine XS.nil ?_
 refine dn (k:=?_)
 refine Iv 27 (v := .bool true) (congrArg Value.bool (decide_eq_true rfl)) ?_
 refine tks 18 2 ?_
 refine en (k:=?_)
 refine Jd ?_
 have Yl:=hs.AB [] (by simp [p1,p2]) (by simp [D0])
 refine cl (h:=by exact NU sa s _ _ (h1.only Yl)) (k:=?_)
 rintro v9 w9 ⟨⟨G9,xE,hG9⟩,LZ⟩
 have hof:=Yl.trans LZ
 have aBT:=ls_int xE
 obtain ⟨a9,c9,rfl,-⟩:=aBT
 rw [List.length_map,show (s.k.map Cs.run).length=s.k.length from List.length_map _]
 clear hs
 have hs:=St.nil w9
 refine Jc ?_
 refine BH (fun (_:Unit)=>[]) (fun _ w=>AA [] w0 w) ?_ ?_
 ·refine BF (fun (i:Nat)=>[(0,.pointer (some ⟨sa,0,none⟩)),(1,.pointer (some ⟨sb,0,none⟩)),(32,.int .i64 (s.k.length:Nat)),(33,.int .i64 (i:Nat))]) (fun i w=>i≤s.k.length∧AA [] w0 w) (fun i=>s.k.length - i) 0 Aa ⟨Nat.zero_le _,hof.trans (hs.AD rfl)⟩ fun i env wl ⟨hi,ho⟩=>?_
  clear hs
  have hs:=St.nil wl
  repeat' (first|refine Sa ?_|refine Av rfl (fun hc=>?_) fun hc=>?_|fail)
  ·have hlt:i < s.k.length:=by omega
   have ei:=DH (m:=s.k.length) hlt om
   have eC:=kJ (c:=s.cf) (k:=(i:Int)) om om
   refine cl (h:=by exact UA sa s _ i _ (h1.only (ho.trans (hs.AD rfl))) (by unfold In64;omega)) (k:=?_)
   rintro v10 Wa ⟨h | ⟨-,ca,A1,rfl,IZ,hA1⟩,JL⟩
   ·exact absurd eC h.1
   have tY:=JL.size
   have AJ:=((hs.AD rfl).trans JL)
   have lA1:=IZ.lt
   clear hs
   have hs:=St.nil Wa
   refine Ja ?_
   have hoq:=hs.AD rfl
   refine cl (h:=by exact UA sb s _ i _ (h2.only ((ho.trans AJ).trans hoq)) (by unfold In64;omega)) (k:=?_)
   rintro v11 pS ⟨h | ⟨-,cb,B1,rfl,Iy,hB1⟩,Gx⟩
   ·exact absurd eC h.1
   have IZ:=IZ.only Gx
   have Ay:=(AJ.trans hoq).trans Gx
   obtain ⟨sx,qx,mx,Xs,eX,x1,x2,FC,UK,ms1⟩:=IZ.E4
   obtain ⟨sy,qy,my,Ys,eY,y1,y2,EH,Nb,ms2⟩:=Iy.E4
   have n1:cb≠ca:=fun e=>by have:=hB1 cb Iy.mem;have:=lA1 ca IZ.mem;omega
   have n2:sy≠sx:=fun e=>by have:=hB1 sy (by rw [eY];simp [ms2]);have:=lA1 sx (by rw [eX];simp [ms1]);omega
   have d1:cb≠sx:=A0 y1 x2 (by decide)
   have d2:sy≠ca:=A0 y2 x1 (by decide)
   have d3:sy≠cb:=A0 y2 y1 (by decide)
   have aBh:(AT s i).A.l.length≤32:=by obtain ⟨q,h⟩:=FC.rep;exact h.le
   have KI:((AT s i).A.l.map Subtype.val).length≤9223372036854775807:=by rw [List.length_map];omega
   generalize AT s i=c at *
   clear hs
   have hs:=(((St.nil pS).AE x1).AE x2).AG y1 (by simp [n1,d1])
   replace hs:=hs.AG y2 (by simp [n2,d2,d3])
   refine Jc ?_
   refine dr [] hs (k:=?_);intro hX w hs
   refine tks 0 7 ?_
   refine tks 8 7 ?_
   refine dt 7 hX (k:=?_)
   have Fp:=hs.AB [] (by simp [x1,x2,y1,y2]) (by simp [D0])
   refine cl (h:=by exact Q5 qx c.A _ (UK.only Fp)) (k:=?_)
   rintro v8 w8 ⟨rfl,Mc⟩;replace hs:=hs.AL Mc
   refine XS.nil ?_
   refine dn (k:=?_)
   refine dt 15 hX (k:=?_)
   have Fp:=hs.AB [] (by simp [x1,x2,y1,y2]) (by simp [D0])
   refine cl (h:=by exact Q5 qy c.A _ (Nb.only Fp)) (k:=?_)
   rintro v8 w8 ⟨rfl,Mc⟩;replace hs:=hs.AL Mc
   refine XS.nil ?_
   refine dn (k:=?_)
   refine tk 16 hX (k:=?_)
   refine Iv 64 (v := .bool false) (congrArg Value.bool (show (Js c.A != Js c.A)=false by simp)) ?_
   refine tks 17 2 ?_
   refine tk 20 hX (k:=?_)
   refine dt 19 hX (k:=?_)
   have Fp:=hs.AB [] (by simp [x1,x2,y1,y2]) (by simp [D0])
   refine cl (h:=by exact Nz ca c _ _ (IZ.only Fp)) (k:=?_)
   rintro v8 w8 ⟨rfl,Mc⟩;replace hs:=hs.AL Mc
   refine XS.nil ?_
   refine dn (k:=?_)
   refine dt 21 hX (k:=?_)
   have Fp:=hs.AB [] (by simp [x1,x2,y1,y2]) (by simp [D0])
   refine cl (h:=by exact Nz cb c _ _ (Iy.only Fp)) (k:=?_)
   rintro v8 w8 ⟨rfl,Mc⟩;replace hs:=hs.AL Mc
   refine XS.nil ?_
   refine dn (k:=?_)
   refine tk 22 hX (k:=?_)
   refine Iv 70 (v := .bool false) (congrArg Value.bool (zQ c.carr)) ?_
   refine tks 23 6 ?_
   refine tks 30 4 ?_
   refine dt 29 hX (k:=?_)
   have Fp:=hs.AB [] (by simp [x1,x2,y1,y2]) (by simp [D0])
   refine cl (h:=by exact UY sx c.A Xs _ (FC.only Fp)) (k:=?_)
   rintro v12 w12 ⟨⟨Ga1,hGa,_⟩,Mc⟩;replace hs:=hs.AL Mc
   refine XS.nil ?_
   refine dn (k:=?_)
   refine dt 34 hX (k:=?_)
   have Fp:=hs.AB [] (by simp [x1,x2,y1,y2]) (by simp [D0])
   refine cl (h:=by exact UY sy c.A Ys _ (EH.only Fp)) (k:=?_)
   rintro v13 JU ⟨⟨Gb1,hGb,_⟩,Aw⟩;replace hs:=hs.AL Aw
   refine XS.nil ?_
   refine dn (k:=?_)
   refine dt 35 hX (k:=?_)
   refine cl (h:=by exact s5 _ _ (c.A.l.map Subtype.val) (c.A.l.map Subtype.val) KI _ (rq_ls (hGa.keep Aw (by simp))) (rq_ls hGb)) (k:=?_)
   rintro v8 w8 ⟨rfl,Mc⟩;replace hs:=hs.AL Mc
   refine XS.nil ?_
   refine dn (k:=?_)
   refine Iv 83 (v := .bool true) (congrArg Value.bool (decide_eq_true rfl)) ?_
   refine tks 36 2 ?_
   refine en (k:=?_)
   refine Jd ?_
   have WC:=hs.AB [] (by simp [x1,x2,y1,y2]) (by simp [D0])
   exact A2 (i+1) (by show s.k.length - (i+1) < s.k.length - i;omega) (by (repeat (first | exact Ac | (apply A5;first | exact rfl | exact congrArg (Value.int .i64) ei)))) ⟨by show i+1≤_;omega,(ho.trans Ay).trans WC⟩
  ·exact Am () Aa ho
 ·rintro _ env w ho
  clear hs
  have hs:=St.nil w
  refine Ja ?_
  refine AF ?_
  exact ⟨rfl,ho.trans (hs.AD rfl)⟩
end Go.Proofs.Q0
namespace Go.Proofs.Q0
open Go Go.RowKit
structure Dn (B:Nat) (s s':Ch):Prop where
 l:s'.ev.length≤s.ev.length+B
 r:Ho s.s→Ho s'.s
theorem Dn.refl (s:Ch):Dn 0 s s:=⟨Nat.le_refl _,id⟩
theorem Dn.trans {B B':Nat} {s s1 s2:Ch} (h:Dn B s s1) (h':Dn B' s1 s2):Dn (B+B') s s2:=⟨by have:=h.l;have:=h'.l;omega,fun e=>h'.r (h.r e)⟩
theorem Dn.mono {B B':Nat} {s s':Ch} (h:Dn B s s') (k:B≤B'):Dn B' s s':=⟨by have:=h.l;omega,h.r⟩
theorem evl_rows {s:Ch} (t:List Tk):Dn 0 s ⟨{ s.s with t:=t },s.ev⟩:=⟨Nat.le_refl _,id⟩
theorem nK {s:Sy} (h:Ho s) (k:Int) {c:Cs} (hc:Bx c) (t:List Tk):Ho (B7 { s with t:=t } k c):=fun x hx=>by
 rcases List.mem_or_eq_of_mem_set hx with q | rfl
 ·exact h x q
 ·exact hc
theorem mV {c c1:Cs} {e:Int} (h:Bx c) (h1:Bx c1):Bx (Cb c e c1):=by
 unfold Cb
 split
 ·exact Kw h1
 ·exact h
theorem cB (s:Ch) (k:Int) (r:Rp):(BQ s k r).ev.length=s.ev.length+r.p.length+r.g.length:=by rw [Nk,List.length_append,List.length_append,List.length_map,List.length_map]
theorem tV {s s':Sy} (h:s'.k=s.k) (hr:Ho s):Ho s':=fun c hc=>hr c (h ▸ hc)
theorem evl_try {s:Ch} (hR:Ho s.s) (t:List Tk) (k:Int) {e:Int} {c1:Cs} {r1:Rp} (hc:Bx c1) {g:Nat} (hg:r1.g.length≤g):Dn (r1.p.length+g+32) s (BQ ⟨B7 { s.s with t:=t } k (Cb (AT s.s k) e c1),s.ev⟩ k (BR e c1 r1)):=by
 obtain ⟨h1,h2⟩:=HO (e:=e) (r1:=r1) hc
 refine ⟨?_,fun _=>tV (absorb_k _ _ _).1 (nK hR k (mV (hR.at k) hc) t)⟩
 rw [cB]
 show s.ev.length+_+_≤_
 omega
theorem Iw {s:Ch} (hR:Ho s.s) (k:Int) (l:Int × Cs) (h:Bx l.2):Dn 32 s (EK s k (l.1,l.2,.none)).2:=by
 unfold EK
 split
 ·exact (evl_try hR s.s.t k (r1 := .none) h (g:=0) (Nat.le_refl _)).mono (by decide)
 ·exact (Dn.refl s).mono om
theorem S4 {s:Ch} (hR:Ho s.s) (y:Tk) (l:Int × Cs) (h:Bx l.2):Dn 32 s (EI s y (l.1,l.2,.none)).2:=by
 unfold EI
 split
 ·exact (evl_try hR (Ei s.s.t y) y.core (r1 := .none) h (g:=0) (Nat.le_refl _)).mono (by decide)
 ·exact (Dn.refl s).mono om
theorem evl_leave {s:Ch} (hR:Ho s.s) (x:Tk):Dn 32 s (B0 s x).2:=(evl_try hR s.s.t x.core (r1 := .none) (FB (hR.at x.core) x.id) (g:=0) (Nat.le_refl _)).mono (by decide)
theorem evl_with {s:Ch} {B:Nat} (id:Int) (f:Ch→Tk→Int × Ch) (hf:∀ x,Dn B s (f s x).2):Dn B s (CJ s id f).2:=by
 unfold CJ
 split
 ·exact (Dn.refl s).mono om
 ·exact hf _
theorem UR {ns:Int} {P:Nat}:∀ (n k:Nat) (s:Ch),Ho s.s→(∀ j:Nat,k≤j→j < k+n→(Ao (AT s.s j) ns).2.2.p.length≤P)→Dn (n*(P+64)) s (Ds n k s ns).2
 | 0,k,s,h,_=>(Dn.refl s).mono om
 | n+1,k,s,h,hp=>by
   unfold Ds
   dsimp only
   split
   ·have e1:=evl_try h s.s.t k (e:=(Ao (AT s.s k) ns).1) (r1:=(Ao (AT s.s k) ns).2.2) (Ot (h.at k) ns) (g:=32) (by obtain ⟨s1,hs1⟩:=h.at k;exact (tick_bounds hs1 ns).2)
    have e2:=UR n (k+1) _ (e1.r h) (P:=P) (ns:=ns) (fun j h1 h2=>by
     rw [Y3 (absorb_k _ _ _).1,V3 om om]
     exact hp j om om)
    refine (e1.trans e2).mono ?_
    have:=hp k (Nat.le_refl _) om
    rw [Nat.succ_mul]
    omega
   ·exact (Dn.refl s).mono (Nat.zero_le _)
theorem sR {s:Sy} (hR:Ho s) {a:C0} (hf:Wq s a) (hk:s.k.length≤8) (ht:9 < a.d % 12→(Cc s a).1=0→a.ns≤1099511627776) (h0:(Cc s a).1=0):(Cc s a).2.ev.length≤100000000:=by
 have key:Dn 64 ⟨s,[]⟩ (Cc s a).2∨9 < a.d % 12:=by
  unfold Cc
  by_cases c1:a.d % 12 < 2
  ·rw [if_pos c1]
   left
   show Dn 64 ⟨s,[]⟩ (Bk ⟨s,[]⟩ a.core a.w a.ns).2.2
   unfold Bk
   dsimp only
   split
   ·exact (Dn.refl _).mono om
   split
   ·exact (Dn.refl _).mono om
   split
   ·exact ((evl_rows (s:=⟨s,[]⟩) _).trans (Iw hR _ _ (I0 (hR.at _) _ _ _ _))).mono om
   ·exact (Dn.refl _).mono om
  rw [if_neg c1]
  by_cases c2:a.d % 12=2
  ·rw [if_pos c2]
   refine .inl (evl_with (s:=⟨s,[]⟩) a.id _ fun x=>?_)
   unfold Gd
   dsimp only
   split
   ·exact ((evl_leave (s:=⟨s,[]⟩) hR x).trans (evl_rows _)).mono om
   ·exact (evl_rows (s:=⟨s,[]⟩) _).mono om
  rw [if_neg c2]
  by_cases c3:a.d % 12 < 5
  ·rw [if_pos c3]
   refine .inl (evl_with (s:=⟨s,[]⟩) a.id _ fun x=>?_)
   unfold Hj
   split
   ·exact (Dn.refl _).mono om
   ·exact (S4 (s:=⟨s,[]⟩) hR _ _ (Kg (hR.at _) _)).mono om
  rw [if_neg c3]
  by_cases c4:a.d % 12 < 7
  ·rw [if_pos c4]
   refine .inl (evl_with (s:=⟨s,[]⟩) a.id _ fun x=>?_)
   unfold F7
   split
   ·exact (Dn.refl _).mono om
   split
   ·exact ((evl_rows (s:=⟨s,[]⟩) _).trans (Iw hR _ _ (I0 (hR.at _) _ _ _ _))).mono om
   ·exact (S4 (s:=⟨s,[]⟩) hR _ _ (L8 (hR.at _) _)).mono om
  rw [if_neg c4]
  by_cases c5:a.d % 12=7
  ·rw [if_pos c5]
   refine .inl (evl_with (s:=⟨s,[]⟩) a.id _ fun x=>?_)
   unfold Du
   split
   ·exact (Dn.refl _).mono om
   dsimp only
   split
   ·exact (evl_rows (s:=⟨s,[]⟩) _).mono om
   ·exact ((evl_rows (s:=⟨s,[]⟩) _).trans (Iw hR _ _ (Kl (hR.at _) _ _))).mono om
  rw [if_neg c5]
  by_cases c6:a.d % 12=8
  ·rw [if_pos c6]
   refine .inl (evl_with (s:=⟨s,[]⟩) a.id _ fun x=>?_)
   unfold El
   split
   ·exact (Dn.refl _).mono om
   dsimp only
   split
   ·exact (evl_rows (s:=⟨s,[]⟩) _).mono om
   ·exact ((evl_rows (s:=⟨s,[]⟩) _).trans (Iw hR _ _ (Kf (hR.at _) _ _))).mono om
  rw [if_neg c6]
  by_cases c7:a.d % 12=9
  ·rw [if_pos c7]
   refine .inl (evl_with (s:=⟨s,[]⟩) a.id _ fun x=>?_)
   show Dn 64 ⟨s,[]⟩ (Ci ⟨s,[]⟩ x a.core).2
   by_cases q:CP s.cf a.core≠0∨a.core=x.core
   ·rw [Ju (s:=⟨s,[]⟩) q];exact (Dn.refl _).mono om
   rw [Kb (s:=⟨s,[]⟩) q]
   have fin:∀ (u:Ch) (lag:Int),Dn 32 ⟨s,[]⟩ u→Dn 64 ⟨s,[]⟩ (GO u x a.core lag).2:=fun u lag hu=>by
    have JP:=hu.r hR
    unfold GO
    split
    ·exact Dn.mono (B:=32+0+32) ((hu.trans (evl_rows (Ei u.s.t (EB x a.core lag)))).trans (Iw (s:=⟨{ u.s with t:=Ei u.s.t (EB x a.core lag) },u.ev⟩) JP a.core _ (I0 (JP.at _) _ _ _ _))) om
    ·exact Dn.mono (B:=32+0) (hu.trans (evl_rows (Ei u.s.t (EB x a.core lag)))) om
   split
   ·exact fin _ _ (evl_leave (s:=⟨s,[]⟩) hR x)
   ·exact fin _ _ ((Dn.refl _).mono om)
  ·exact .inr om
 rcases key with q | q
 ·have:=q.l
  have e:([]:List Ev).length=0:=rfl
  simp only at this
  omega
 ·have hn:=ht q h0
  have hp:=hf q hn
  unfold Cc at h0 ⊢
  rw [if_neg om,if_neg om,if_neg om,if_neg om,if_neg om,if_neg om,if_neg om] at h0 ⊢
  unfold FZ at h0 ⊢
  dsimp only at h0 ⊢
  split
  ·exact Nat.zero_le _
  have:=(UR (P:=1000000) s.k.length 0 ⟨s,[]⟩ hR (fun j _ h2=>hp j (by simpa using h2)) (ns:=a.ns)).l
  have e:([]:List Ev).length=0:=rfl
  have h8:s.k.length*(1000000+64)≤8*(1000000+64):=Nat.mul_le_mul_right _ hk
  simp only at this
  omega
theorem tA {s:Sy} {a:C0} (h:9 < a.d % 12) (h0:(Cc s a).1=0) (hd:a.d % 12 < 12):a.ns≤1099511627776:=by
 unfold Cc at h0
 rw [if_neg om,if_neg om,if_neg om,if_neg om,if_neg om,if_neg om,if_neg om] at h0
 unfold FZ at h0
 dsimp only at h0
 split at h0
 ·rename_i k;exact absurd h0 k
 ·rename_i k
  have k1:BB a.ns (Dd s.cf.tick)=0:=by simpa using k
  unfold BB at k1
  split at k1
  ·cases k1
  ·unfold Dd at *
   split at * <;> omega
def HX (s:Sy) (a:C0):Sy:=(Db s (Cc s a)).2
theorem s7 {s:Sy} {a:C0} (h:(Cc s a).1=0):HX s a=(Cc s a).2.s:=by unfold HX Db;rw [if_pos h]
theorem rE {s:Sy} {a:C0} (h:(Cc s a).1≠0):HX s a=s:=by unfold HX Db;rw [if_neg h]
structure Good (m:Int) (s:Sy):Prop where
 inv:Cu s
 least:Bh m s.t
theorem Good.next {m:Int} {s:Sy} (h:Good m s) {a:C0} (ha:a.In) (hm:ZQ m a):Good m (HX s a):=by
 by_cases e:(Cc s a).1=0
 ·rw [s7 e];exact ⟨s8 h.inv ha e,gI h.inv.ids h.least hm⟩
 ·rw [rE e];exact h
theorem Good.new {m:Int} {c:Cf} (hc:c.In) (h:EV c=0):Good m (Ic c):=⟨inv_new hc h,fun x hx=>by
 obtain ⟨h1,j,hj⟩:=Fy hx
 have:=List.mem_of_getElem? hj
 rw [List.eq_of_mem_replicate this] at h1
 exact absurd h1 (by decide)⟩
theorem Good.few {m:Int} {s:Sy} (h:Good m s) {a:C0} (hm:1≤m) (ha:a.In) (ht:9 < a.d % 12→a.ns≤1099511627776→a.ns / m≤300):Wq s a:=yI h.inv h.least hm ha ht
theorem qP {s:Sy} {a:C0} (h:(Cc s a).1≠0):Hg s a=0:=by
 unfold Hg
 by_cases c:a.d % 12 < 2
 ·rw [if_pos c]
  unfold Cc at h
  rw [if_pos c] at h
  unfold Bk at h ⊢
  dsimp only at h ⊢
  split
  ·rfl
  ·rename_i c1
   rw [if_neg c1] at h
   split
   ·rfl
   ·rename_i c2
    rw [if_neg c2] at h
    split
    ·rename_i c3
     rw [if_pos c3] at h
     exact absurd rfl h
    ·rfl
 ·rw [if_neg c]
theorem sP {s:Sy} (h:Cu s) {a:C0} (hf:Wq s a):(Db s (Cc s a)).1.length≤100000000:=by
 unfold Db
 split
 ·rename_i e
  exact sR h.rep hf (by have:=h.ok.len;have:=h.ok.hi;omega) (fun q e=>tA q e om) e
 ·exact Nat.zero_le _
theorem SL {w:World} {v:Value} {l:List Ev} {G:List Nat} (h:BS w 41 5 v l.length (Md l) G):C1 w 41 5 v (l.map Ev.cells):=BS.ls (xs:=l.map Ev.cells) h rfl (by simp) (fun x hx=>by obtain ⟨p,_,rfl⟩:=List.mem_map.1 hx;rfl)
structure GD (w0:World) (sa sb:Nat) (s t:Sy) (F G:List Nat) (w:World):Prop where
 a:CM w sa s F
 b:CM w sb t G
 d:∀ k∈F,k∉G
 f:∀ k∈F,w0.heap.size≤k
 g:∀ k∈G,w0.heap.size≤k
 o:AA [] w0 w
section
variable {w0 w w' : World} {sa sb : Nat} {s t : Sy} {F G : List Nat}
theorem GD.keep (h:GD w0 sa sb s t F G w) (ho:AA [] w w'):GD w0 sa sb s t F G w':=⟨h.a.only ho,h.b.only ho,h.d,h.f,h.g,h.o.trans ho⟩
theorem GD.left {ve:Value} {l:Int × Ch} (h:GD w0 sa sb s t F G w) (T:Dm w sa F [] ve s l w'):∃ F',GD w0 sa sb (Db s l).2 t F' G w':=by
 obtain ⟨_,⟨F',hC,hF⟩,ho⟩:=T
 have hz:=h.o.size
 refine ⟨F',hC,h.b.Ae ho (fun k hk hm=>?_),fun k hk hm=>?_,fun k hk=>?_,h.g,h.o.step ho (fun k hk=>?_)⟩
 ·obtain rfl:=List.mem_singleton.1 hm
  exact h.d _ h.a.mem hk
 ·rcases hF k hk with q | q
  ·exact h.d k q hm
  ·have:=h.b.lt k hm;omega
 ·rcases hF k hk with q | q
  ·exact h.f k q
  ·omega
 ·obtain rfl:=List.mem_singleton.1 hk
  exact .inr (h.f _ h.a.mem)
theorem GD.swap (h:GD w0 sa sb s t F G w):GD w0 sb sa t s G F w:=⟨h.b,h.a,fun k h1 h2=>h.d k h2 h1,h.g,h.f,h.o⟩
theorem GD.right {ve:Value} {l:Int × Ch} (h:GD w0 sa sb s t F G w) (T:Dm w sb G [] ve t l w'):∃ G',GD w0 sa sb s (Db t l).2 F G' w':=by
 obtain ⟨G',h'⟩:=h.swap.left T
 exact ⟨G',h'.swap⟩
end
theorem GD.clone {w0 w w':World} {sa sb:Nat} {s:Sy} {F G:List Nat} (h:CM w sa s F) (hF:∀ k∈F,w0.heap.size≤k) (ho:AA [] w0 w) (hd:CM w' sb s G) (hG:∀ k∈G,w.heap.size≤k) (ho':AA [] w w'):GD w0 sa sb s s F G w' :=
 ⟨h.only ho',hd,fun k hk hm=>by have:=h.lt k hk;have:=hG k hm;omega,hF,fun k hk=>by have:=hG k hk;have:=ho.size;omega,ho.trans ho'⟩
end Go.Proofs.Q0
namespace Go.Proofs.Q0
open Go Go.RowKit
attribute [local irreducible] XS XC XA AX AO A6 AZ AY A7 Ab AV SE
theorem Qy (c:Cf) (xs:List C0) (sl:Value) (hc0:c.In) (hx:∀ a∈xs,a.In) (w0:World) (hL:RU w0 5 sl (xs.map C0.cells)) (ht:DE w0):AM Tryz.prog 5 #[Pd c,sl] w0 fun v w'=>v = .bool true∧AA [] w0 w':=by
 have hL0:=hL
 obtain ⟨ad,cap,rfl,hD⟩:=hL
 rw [List.length_map] at hL0 ⊢
 have hs:=St.nil w0
 refine AQ Tryz.func5 Tryz.ntmps5 (k:=?_)
 repeat' (first|refine Sa ?_|(refine bx hs (k:=?_);intro b w hz hs)|fail)
 refine AW hs (h:=by exact YB _ (tab_only ht (hs.AD rfl))) (k:=?_);intro w' ho hs;refine Jd ?_
 refine cl (h:=by exact Xg c xs _ hx _ (hL0.only (hs.AD rfl))) (k:=?_)
 rintro v w1 ⟨⟨bl,rfl,JW⟩,AJ⟩;replace hs:=hs.AL AJ
 cases bl with
 | false =>
   refine Je ?_
   refine AF ?_
   exact ⟨rfl,hs.AD rfl⟩
 | true =>
 obtain ⟨hm,m,hm1,aBS,hfew⟩:=JW rfl
 refine Jd ?_
 have Bd:=hs.AD rfl
 refine cl (h:=by exact Uf c hc0 _) (k:=?_)
 rintro v w2 ⟨⟨h0,rfl⟩ | ⟨h0,sb,F1,rfl,FC,Cl⟩,AN⟩
 ·replace hs:=hs.AL AN
  rw [show (Value.int .i64 (EV c)) = .int .i64 (EV c) from rfl]
  generalize EV c=e at *
  repeat' (first|refine Sa ?_|refine xc_cond rfl (fun hc=>?_) fun hc=>?_|fail)
  ·refine AF ?_
   exact ⟨rfl,hs.AD rfl⟩
  ·exact absurd (by simpa using hc) h0
 have Ay:=Bd.trans AN
 have pP:=Bd.size
 have Qr:∀ k∈F1,w0.heap.size≤k:=fun k hk=>by have:=Cl k hk;omega
 clear hs
 have hs:=St.nil w2
 refine Jd ?_
 refine BH (fun (_:Unit)=>[]) (fun _ w=>AA [] w0 w) ?_ ?_
 ·refine BF (fun (x:Nat × Sy × List Nat)=>[(5,.pointer (some ⟨sb,0,none⟩)),(31,.slice ad xs.length cap),(32,.int .i64 (xs.length:Nat)),(33,.int .i64 (x.1:Nat))])
   (fun x w=>x.1≤xs.length∧Good m x.2.1∧CM w sb x.2.1 x.2.2∧(∀ k∈x.2.2,w0.heap.size≤k)∧AA [] w0 w) (fun x=>xs.length - x.1) (0,Ic c,F1) Aa ⟨Nat.zero_le _,Good.new hc0 h0,FC.only (hs.AD rfl),Qr,Ay.trans (hs.AD rfl)⟩ fun x env wl ⟨hi,hG,hS,hF,ho⟩=>?_
  obtain ⟨i,s,F⟩:=x
  simp only at hi hG hS hF
  clear hs
  have hs:=St.nil wl
  repeat' (first|refine Sa ?_|refine Av rfl (fun hc=>?_) fun hc=>?_|fail)
  ·have hlt:i < xs.length:=by omega
   obtain ⟨b0,off,cs,E,fz,rfl,hb,hcs⟩:=hD (fun h=>by have:=congrArg List.length h;rw [List.length_map,List.length_nil] at this;omega)
   have hpk:=hcs i (C0.cells xs[i]) (by rw [List.getElem?_map,List.getElem?_eq_getElem hlt];rfl)
   have ei:=DH (m:=xs.length) hlt om
   have hq:=hx xs[i] (List.getElem_mem hlt)
   have jU:=aBS xs[i] (List.getElem_mem hlt)
   have hqt:=hfew xs[i] (List.getElem_mem hlt)
   generalize xs[i]=q at *
   have IE:=hG.next hq jU
   have qU:=hG.few hm1 hq hqt
   refine ix (h0:=(by omega)) (h1:=(by omega)) (k:=?_)
   refine JQ (vs:=q.cells) (ho.block hb (by simp)) hpk (k:=?_)
   refine al hs (k:=?_);clear hs;intro b7 w3 Nc hs
   refine AU hs (k:=?_);clear hs;intro w4 hs
   refine Ja ?_
   have Al:=hs.AD rfl
   have SG:=hS.only Al
   have h7:=hs.get (b:=b7) (by repeat (first | exact At.head | (with_reducible apply At.tail)))
   refine cl (h:=by exact QH sb s F _ SG) (k:=?_)
   rintro v w5 ⟨⟨sd,G,rfl,hD5,hG5⟩,BJ⟩
   have T0:GD w0 sb sd s s F G w5:=GD.clone SG hF (ho.trans Al) hD5 hG5 BJ
   have k7:=BJ.block h7 (by simp)
   clear hs
   have hs:=(St.nil w5).AE k7
   refine Ja ?_
   have Ak:=hs.AB [] (by simp [k7]) (by simp [D0])
   have T1:=T0.keep Ak
   have k7:=Ak.block k7 (by simp)
   refine cl (h:=by exact Oq sb s F q hq _ T1.a qU) (k:=?_)
   rintro v w7 ⟨ve,rfl,T⟩
   obtain ⟨F',Ye⟩:=T1.left T
   have n7:b7∉F:=T1.a.not k7 rfl
   have k8:=T.2.2.block k7 (fun h=>n7 (List.mem_singleton.1 h ▸ T1.a.mem))
   have hE:=T.1
   obtain ⟨ae,ce,rfl⟩:=T.form
   obtain ⟨Ge,hE⟩:=hE
   clear hs
   have hs:=(St.nil w7).AE k8
   have YS:=sP hG.inv qU
   by_cases he:(Cc s q).1=0
   ·rw [he]
    repeat' (first|refine vs (k:=?_)|refine ps (k:=?_)|refine Aq ?_|refine Nx.h ?_|refine EJ ?_|fail)
    have Da:=hs.AB [] (by simp [k8]) (by simp [D0])
    have T8:=Ye.keep Da
    refine cl (h:=by exact Oq sd s G q hq _ T8.b qU) (k:=?_)
    rintro v w9 ⟨ve,rfl,T'⟩
    obtain ⟨G',KG⟩:=T8.right T'
    obtain ⟨a2,c2,rfl⟩:=T'.form
    obtain ⟨Ge2,K9⟩:=T'.1
    have WZ:=hE.keep Da (by simp)
    obtain ⟨tb8,rb8,vb8,Lb8,Gb8,-,O8⟩:=T8.b
    have W7:=WZ.keep T'.2.2 (fun k hk hm=>by obtain rfl:=List.mem_singleton.1 hm;exact BM WZ O8.o (by decide) hk)
    have W7:=SL W7
    have K9:=SL K9
    have KG:GD w0 sb sd (HX s q) (HX s q) F' G' w9:=KG
    clear WZ O8 T' hE T8 Ye T1 T0 T
    clear hs
    have hs:=St.nil w9
    rw [he]
    generalize Hg s q=n at *
    generalize (Db s (Cc s q)).1=Hv at *
    repeat' (first|refine Se ?_|((with_reducible apply BI);exact rfl;exact rfl;intro c hc;(fail_if_success have:true=c:=hc);(fail_if_success have:false=c:=hc);cases c)|fail)
    ·refine cl (h:=by exact QZ _ _ Hv Hv om _ (W7.only (hs.AD rfl)) (K9.only (hs.AD rfl))) (k:=?_)
     rw [decide_eq_true (rfl:Hv=Hv)]
     rintro v w' ⟨rfl,ho⟩;replace hs:=hs.AL ho;refine Jf ?_
     refine AW hs (h:=by exact QO sb sd (HX s q) F' G' _ (KG.keep (hs.AD rfl)).a (KG.keep (hs.AD rfl)).b KG.d) (k:=?_);intro w' ho hs;refine Jd ?_
     have WC:=hs.AD rfl
     exact A2 (i+1,HX s q,F') (by show xs.length - (i+1) < xs.length - i;omega) (by (repeat (first | exact Ac | (apply A5;first | exact rfl | exact congrArg (Value.int .i64) ei)))) ⟨by show i+1≤_;omega,IE,KG.a.only WC,KG.f,KG.o.trans WC⟩
    ·simp at hc
   ·have e2:Db s (Cc s q)=([],s):=if_neg he
    have nX:GD w0 sb sd s s F' G w7:=by rw [e2] at Ye;exact Ye
    have e3:(Db s (Cc s q)).1.length=0:=by rw [e2];rfl
    rw [qP he]
    repeat' (first|refine vs (k:=?_)|refine ps (k:=?_)|refine Aq ?_|refine Nx.h ?_|refine Et ?_|refine EJ ?_|((with_reducible apply BI);exact rfl;exact rfl;intro c hc;(fail_if_success have:true=c:=hc);(fail_if_success have:false=c:=hc);cases c)|fail)
    ·exact absurd (by simpa using hc) he
    ·have Yl:=hs.AB [] (by simp [k8]) (by simp [D0])
     refine AW hs (h:=by exact QO sb sd s F' G _ (nX.keep Yl).a (nX.keep Yl).b nX.d) (k:=?_);intro w' ho hs;refine Jd ?_
     have Da:=hs.AB [] (by simp [k8]) (by simp [D0])
     have T8:=Ye.keep Da
     refine cl (h:=by exact Oq sd s G q hq _ T8.b qU) (k:=?_)
     rintro v w9 ⟨ve,rfl,T'⟩
     obtain ⟨G',KG⟩:=T8.right T'
     obtain ⟨a2,c2,rfl⟩:=T'.form
     obtain ⟨Ge2,K9⟩:=T'.1
     have WZ:=hE.keep Da (by simp)
     obtain ⟨tb8,rb8,vb8,Lb8,Gb8,-,O8⟩:=T8.b
     have W7:=WZ.keep T'.2.2 (fun k hk hm=>by obtain rfl:=List.mem_singleton.1 hm;exact BM WZ O8.o (by decide) hk)
     have W7:=SL W7
     have K9:=SL K9
     have KG:GD w0 sb sd (HX s q) (HX s q) F' G' w9:=KG
     clear WZ O8 T' hE T8 Ye T1 T0 T
     clear hs
     have hs:=St.nil w9
     rw [qP he]
     generalize (Cc s q).1=n at *
     generalize (Db s (Cc s q)).1=Hv at *
     repeat' (first|refine Se ?_|((with_reducible apply BI);exact rfl;exact rfl;intro c hc;(fail_if_success have:true=c:=hc);(fail_if_success have:false=c:=hc);cases c)|fail)
     ·refine cl (h:=by exact QZ _ _ Hv Hv om _ (W7.only (hs.AD rfl)) (K9.only (hs.AD rfl))) (k:=?_)
      rw [decide_eq_true (rfl:Hv=Hv)]
      rintro v w' ⟨rfl,ho⟩;replace hs:=hs.AL ho;refine Jf ?_
      refine AW hs (h:=by exact QO sb sd (HX s q) F' G' _ (KG.keep (hs.AD rfl)).a (KG.keep (hs.AD rfl)).b KG.d) (k:=?_);intro w' ho hs;refine Jd ?_
      have WC:=hs.AD rfl
      exact A2 (i+1,HX s q,F') (by show xs.length - (i+1) < xs.length - i;omega) (by (repeat (first | exact Ac | (apply A5;first | exact rfl | exact congrArg (Value.int .i64) ei)))) ⟨by show i+1≤_;omega,IE,KG.a.only WC,KG.f,KG.o.trans WC⟩
     ·simp at hc
    ·exact absurd hc (by rw [e3];simp)
  ·exact Am () Aa ho
 ·rintro _ env w ho
  clear hs
  have hs:=St.nil w
  refine Ja ?_
  refine AF ?_
  exact ⟨rfl,ho.trans (hs.AD rfl)⟩
end Go.Proofs.Q0
namespace Go.Proofs.YtjiiakjheghcoaaGreatDoor
open Go
theorem r8:laidOutB Tryz.prog=true:=by kernel_rfl
theorem rL:mapsRowed Tryz.prog=true:=by kernel_rfl
theorem rK:(true == Tryz.prog.plainKeys)=true:=by kernel_rfl
theorem kO:Tryz.prog.stopsHeard=true:=by kernel_rfl
theorem mO:Tryz.prog.mayEnter=true:=by kernel_rfl
theorem tC:(false == Tryz.prog.liftsFinal)=true:=by kernel_rfl
theorem sQ:(Tryz.prog.make == some .cut)=true:=by kernel_rfl
theorem and_mk {a b:Bool} (h:a=true) (k:b=true):(a && b)=true:=by rw [h,k];rfl
end Go.Proofs.YtjiiakjheghcoaaGreatDoor
namespace Go.Proofs.Q0
open Go
theorem door_met (os : Os) (args : Array Value) : laidMetH Tryz.prog [("math/bits.deBruijn32tab", YtjiiakjheghcoaaGreatDoor.Rows.laid_math_bits_deBruijn32tab), ("math/bits.deBruijn64tab", YtjiiakjheghcoaaGreatDoor.Rows.laid_math_bits_deBruijn64tab), ("internal/strconv.uint64pow10", YtjiiakjheghcoaaGreatDoor.Rows.laid_internal_strconv_uint64pow10)] ((World.doorLaid Tryz.prog 24 os).forCall (fun _ _ => 0) ⟨#[], args, []⟩).memory :=
 laidMetH_of_parts3 (fuel:=8) (laidMet_of_run' 8 (by kernel_rfl) (by kernel_rfl)) (by kernel_rfl) (by kernel_rfl)
theorem rX {W : World} (h : laidMetH Tryz.prog [("math/bits.deBruijn32tab", YtjiiakjheghcoaaGreatDoor.Rows.laid_math_bits_deBruijn32tab), ("math/bits.deBruijn64tab", YtjiiakjheghcoaaGreatDoor.Rows.laid_math_bits_deBruijn64tab), ("internal/strconv.uint64pow10", YtjiiakjheghcoaaGreatDoor.Rows.laid_internal_strconv_uint64pow10)] W) : DE W := by
 rw [MakeChecks.laidMetH_plain _ _ _ (by kernel_rfl)] at h
 have h2:=h.tail.tail
 exact Lib.tabIs_of_head (g := (Tryz.prog.globalNamed "internal/strconv.uint64pow10").getD 0) (t := 315) (e := 22) (n := 20) (by kernel_rfl) (by kernel_rfl) (by kernel_rfl) (by kernel_rfl) (by kernel_rfl) (by kernel_rfl) h2
end Go.Proofs.Q0
namespace Go.Proofs.Q0
open Go Go.RowKit Go.ChangeShapes Go.WideShapes Go.ChangeAt
theorem Nf (os:Os) (started:os.Started) (H:Type) (enc:TypeId × Value→H) :
 ReturnsInHanded {} Tryz.checked os 5 .any (fun w args => (YtjiiakjheghcoaaGreatDoor.Rows.schedRefusesSpec.pre enc Tryz.prog Tryz.f5 [] false w args ∧ laidMetH Tryz.prog [("math/bits.deBruijn32tab", YtjiiakjheghcoaaGreatDoor.Rows.laid_math_bits_deBruijn32tab), ("math/bits.deBruijn64tab", YtjiiakjheghcoaaGreatDoor.Rows.laid_math_bits_deBruijn64tab), ("internal/strconv.uint64pow10", YtjiiakjheghcoaaGreatDoor.Rows.laid_internal_strconv_uint64pow10)] w) ∧ sizedMet enc Tryz.prog Tryz.f5 (OpenSpec.ofChange YtjiiakjheghcoaaGreatDoor.Rows.schedRefusesSpec) false w args) (YtjiiakjheghcoaaGreatDoor.Rows.schedRefusesSpec.post enc Tryz.prog Tryz.f5 false true false false) := by
 refine returnsInHanded_of_change_and (C := Tryz.checked) (X := fun w _ => laidMetH Tryz.prog [("math/bits.deBruijn32tab", YtjiiakjheghcoaaGreatDoor.Rows.laid_math_bits_deBruijn32tab), ("math/bits.deBruijn64tab", YtjiiakjheghcoaaGreatDoor.Rows.laid_math_bits_deBruijn64tab), ("internal/strconv.uint64pow10", YtjiiakjheghcoaaGreatDoor.Rows.laid_internal_strconv_uint64pow10)] w) (fun _ _ _ hh h => h.of_heap hh) own started (by kernel_rfl) Tryz.func5
  (ChangeSpec.witness_shaped (enc := enc) (C := Tryz.checked) (os := os) (X := fun w _ => laidMetH Tryz.prog [("math/bits.deBruijn32tab", YtjiiakjheghcoaaGreatDoor.Rows.laid_math_bits_deBruijn32tab), ("math/bits.deBruijn64tab", YtjiiakjheghcoaaGreatDoor.Rows.laid_math_bits_deBruijn64tab), ("internal/strconv.uint64pow10", YtjiiakjheghcoaaGreatDoor.Rows.laid_internal_strconv_uint64pow10)] w) false (World.doorLaid Tryz.prog 24 os) #[.agg #[.int .i64 0, .int .i64 0, .int .u64 0, .int .u64 0, .int .u64 0], .slice none 0 0] 8 rfl (World.shaped_of_RefB (by kernel_rfl) (by kernel_rfl)) (by kernel_rfl) (by kernel_rfl) (by kernel_rfl) (door_met os _)) ?_
 intro W base args ds gs before pH hW aBr aBU hL _
 have hP:=rX hL
 have hval:∀ (j:Nat) t v,Tryz.f5.params[j]?=some t→args[j]?=some v→Value.okWide Tryz.prog W .any base t v:=pH
 have hW':=hW
 obtain ⟨p,q,fQ,hV,rfl,hfz,hnd⟩:=hW
 have hA:DataW.TrodAll enc Tryz.prog W 0 (fun _=>true) true Tryz.f5.params.toList args.toList ds p:=fQ
 rw [Tryz.params5] at hA hval
 obtain ⟨v0,vs0,d0,ds0,p0,q0,hargs,rfl,rfl,h0,r0⟩:=trodAll_cons hA
 obtain ⟨v1,vs1,d1,ds1,p1,q1,rfl,rfl,rfl,h1,r1⟩:=trodAll_cons r0
 obtain ⟨rfl,rfl,rfl⟩:=trodAll_nil r1
 obtain rfl:args=#[v0,v1]:=by cases args;simp_all
 obtain ⟨rfl,rfl⟩:=trodVars_none hV
 have lt0:∀ x∈p0,x.block < W.heap.size:=by obtain ⟨m,hm⟩:=h0;exact DataW.trod_lt m _ _ _ hm
 have k0:=h0
 obtain ⟨x0,hx0,rfl⟩:=lW (hval 0 _ v0 rfl rfl) k0
 have Vd:∀ x∈p1,x.block < W.heap.size:=by obtain ⟨m,hm⟩:=h1;exact DataW.trod_lt m _ _ _ hm
 have k1:=h1
 obtain ⟨x1,hw1,hx1⟩:=X5 (hval 1 _ v1 rfl rfl) k1
 clear fQ pH aBU
 refine (ret_calls (by kernel_rfl) (Qy x0 x1 _ hx0 hx1 W hw1 hP)).mono fun e W' ⟨v,he,hv,ho⟩=>?_
 subst he hv
 have uY:=ho.below
 exact ⟨_,rfl,_,_,_,[],_,[],hW',trodAll_mk1 (shut_bool (by kernel_rfl) _),(trodAll_cons_mk (Below.trod laidOut (by kernel_rfl) (of_decide_eq_true (by kernel_rfl)) h0 uY lt0) (trodAll_cons_mk (Below.trod laidOut (by kernel_rfl) (of_decide_eq_true (by kernel_rfl)) h1 uY Vd) trodAll_mk0)),rfl,uY.frame _,fun h=>by cases h⟩
end Go.Proofs.Q0
namespace Go.Proofs.YtjiiakjheghcoaaGreatDoor
open Go Go.RowKit Go.ChangeShapes Go.WideShapes Go.ChangeAt
theorem MB : Tryz.prog.funcNamed "turnstone/turnstonelaw21.SchedRefuses" = some 5 := by kernel_rfl
theorem RK:(Rows.schedRefusesRow.inPlace == Tryz.prog.inPlace 5)=true:=by kernel_rfl
theorem Rv:(Rows.schedRefusesRow.unfollowed == Tryz.prog.unfollowed 5)=true:=by kernel_rfl
theorem Rm:(Rows.schedRefusesRow.recurses == Tryz.prog.recurses 5)=true:=by kernel_rfl
theorem Rw:(Rows.schedRefusesRow.named == Tryz.prog.varsNamed 5)=true:=by kernel_rfl
theorem OX:Rows.SchedRefusesSaid :=
 OpenClaim.holds_of_wide 5 Tryz.f5 rfl rfl rfl rfl rfl rfl rfl ⟨rfl,rfl,rfl,rfl,rfl⟩ rfl rfl rfl rfl rfl MB Tryz.func5
  (by unfold joinedFacts;exact (and_mk (and_mk (and_mk (and_mk (and_mk (and_mk (and_mk (and_mk (and_mk (and_mk (and_mk (and_mk (and_mk (and_mk (and_mk (and_mk (and_mk (and_mk (and_mk (and_mk (and_mk (and_mk (and_mk (and_mk (and_mk (and_mk (and_mk (and_mk (and_mk (and_mk (and_mk (by kernel_rfl) r8) rL) (by kernel_rfl)) (by kernel_rfl)) (by kernel_rfl)) (by kernel_rfl)) (by kernel_rfl)) (by kernel_rfl)) RK) Rv) Rm) Rw) (by kernel_rfl)) (by kernel_rfl)) (by kernel_rfl)) (by kernel_rfl)) (by kernel_rfl)) (by kernel_rfl)) (by kernel_rfl)) (by kernel_rfl)) (by kernel_rfl)) rK) (by kernel_rfl)) kO) mO) tC) sQ) (by kernel_rfl)) (by kernel_rfl)) (by kernel_rfl)) (by kernel_rfl)))
  (of_decide_eq_true (by kernel_rfl)) (by unfold Func.isWrapper;first | (rw [if_pos (by decide +kernel)];kernel_rfl) | (rw [if_neg (by decide +kernel)];exact ⟨rfl,rfl⟩))
  (fun os started H enc _=>Q0.Nf os started H enc)
theorem Sw:Rows.schedRefusesRow.wfByText (OpenSpec.ofChange Rows.schedRefusesSpec)=true:=by kernel_rfl
theorem Rx:Tryz.prog.mainIs=some (Rows.schedRefusesCard.stood.harness.1,Rows.schedRefusesCard.stood.harness.2.toList):=by kernel_rfl
theorem SH:Rows.schedRefusesCard.stood.looks=Tryz.prog.looks []:=by kernel_rfl
theorem SM:false=Rows.schedRefusesRow.goesBy Tryz.prog:=by kernel_rfl
theorem schedRefuses_card:Rows.SchedRefusesCardSaid :=
 Claim7.holds_tied_plain_at .later [] [.data,.data,.data] true Rows.schedRefusesCard.stood.harness Rows.schedRefusesCard.stood.looks
  OX (fun _ h=>by cases h) Sw (fun _ h=>by cases h) schedRefuses_row_tie rfl ⟨rfl,rfl⟩ Rx rfl
  (fun f fn hf hfn=>by
   obtain rfl:f=5:=Option.some.inj (MB.symm.trans hf) |>.symm
   obtain rfl:fn=Tryz.f5:=(Option.some.inj (Tryz.func5.symm.trans hfn)).symm
   exact ⟨SH,fun j t ht=>by
    rw [Tryz.params5] at ht
    have hm:t∈[24,25]:=by simpa using Array.mem_of_getElem? ht
    have hall:([24,25].all fun u=>!Tryz.prog.wantsStandIn u)=true:=by kernel_rfl
    exact (show Tryz.prog.wantsStandIn t=false by simpa using List.all_eq_true.1 hall t hm)⟩)
  SM
end Go.Proofs.YtjiiakjheghcoaaGreatDoor
