/- A part of the proof: what its functions compute. -/
import Derived.Test.YtjiiakjheghcoaaGreatDoorGa9
set_option linter.unusedVariables false
set_option linter.unusedSimpArgs false
set_option maxRecDepth 100000
set_option maxHeartbeats 64000000
set_option linter.unusedSectionVars false
namespace Go.Proofs.Q0
open Go Go.RowKit
attribute [local irreducible] XS XC XA AX AO A6 AZ AY A7 Ab AV SE
structure Af (w0 w:World) (hb sb tb rb:Nat) (v ve:Value) (s':Ch) (L L':List Ce) (G Ge:List Nat) (rv:Value) (rp:Rp):Prop where
 p:MP w rv rp
 c:CU w hb sb tb rb v ve s' L' G Ge
 f:∀ k∈CA hb sb tb rb L' G Ge,k∈CA hb sb tb rb L G Ge∨w0.heap.size≤k
 o:AA (CA hb sb tb rb L G Ge) w0 w
theorem MP.FY {w w':World} {rv:Value} {r:Rp} {F:List Nat} (h:MP w rv r) (ho:AA F w w') (hF:∀ b∈F,∃ cs ty fz,w.heap[b]?=some (.cells cs ty fz)∧ty≠170∧ty≠168):MP w' rv r:=by
 obtain ⟨vg,vp,Gg,Gp,rfl,p1,p2⟩:=h
 exact ⟨vg,vp,Gg,Gp,rfl,p1.keep ho (fun k hk hm=>by obtain ⟨cs,ty,fz,a,b,c⟩:=hF k hm;exact BM p1 a b hk),p2.keep ho (fun k hk hm=>by obtain ⟨cs,ty,fz,a,b,c⟩:=hF k hm;exact BM p2 a c hk)⟩
theorem Af.keep {w0 w w':World} {hb sb tb rb:Nat} {v ve:Value} {s':Ch} {L L':List Ce} {G Ge:List Nat} {rv:Value} {rp:Rp} (h:Af w0 w hb sb tb rb v ve s' L L' G Ge rv rp) (ho:AA [] w w'):Af w0 w' hb sb tb rb v ve s' L L' G Ge rv rp :=
 ⟨h.p.FY ho (by simp),h.c.only ho,h.f,h.o.step ho (by simp)⟩
theorem CU.zT {w w':World} {hb sb tb rb:Nat} {v ve:Value} {s:Ch} {L:List Ce} {G Ge F:List Nat} (h:CU w hb sb tb rb v ve s L G Ge) (ho:AA F w w') (hF:∀ b∈F,∃ cs ty fz,w.heap[b]?=some (.cells cs ty fz)∧o7 (.cells cs ty fz)=true):CU w' hb sb tb rb v ve s L G Ge:=by
 have hd:∀ k∈CA hb sb tb rb L G Ge,k∉F:=fun k hk hm=>by
  obtain ⟨cs,ty,fz,a,b⟩:=hF k hm
  exact h.at.not a b hk
 exact ⟨ho.block h.h (hd _ (by simp [CA])),h.s.Ae ho (fun k hk=>hd k (by simp only [CA,List.mem_cons,List.mem_append] at hk ⊢;exact .inr (.inl hk))),h.e.keep ho (fun k hk=>hd k (by simp [CA,hk]))⟩
theorem Af.store {w0 w w':World} {hb sb tb rb:Nat} {v ve:Value} {s':Ch} {L L':List Ce} {G Ge:List Nat} {rv:Value} {rp:Rp} (h:Af w0 w hb sb tb rb v ve s' L L' G Ge rv rp) {b:Nat} {cs:Array Value} {ty:Nat} {fz:Nat × Nat} (ho:AA [b] w w') (hb':w.heap[b]?=some (.cells cs ty fz)) (h1:o7 (.cells cs ty fz)=true) (h2:ty≠170) (h3:ty≠168) (h4:w0.heap.size≤b):Af w0 w' hb sb tb rb v ve s' L L' G Ge rv rp :=
 ⟨h.p.FY ho (fun k hk=>by obtain rfl:=List.mem_singleton.1 hk;exact ⟨cs,ty,fz,hb',h2,h3⟩),h.c.zT ho (fun k hk=>by obtain rfl:=List.mem_singleton.1 hk;exact ⟨cs,ty,fz,hb',h1⟩),h.f,h.o.step ho (fun k hk => .inr (by obtain rfl:=List.mem_singleton.1 hk;exact h4))⟩
theorem CT {w0 w w':World} {hb sb tb rb:Nat} {v ve:Value} {s:Ch} {L:List Ce} {G Ge:List Nat} {n:Nat} {e:Ce} {rv:Value} {er:Int} {c1:Cs} {r1:Rp} (hO:CU w hb sb tb rb v ve s L G Ge) (he:L[n]?=some e) (T:HF w e.cb e.F rv er e.c c1 r1 w') (hw:AA [] w0 w) :
 ∃ L',Af w0 w' hb sb tb rb v ve ⟨B7 s.s n (Cb e.c er c1),s.ev⟩ L L' G Ge rv (BR er c1 r1):=by
 obtain ⟨Hy,⟨F',hC',CV⟩,WR⟩:=T
 obtain ⟨_,_,_,_,_,hcb,_⟩:=(hO.s.c.c e (List.mem_of_getElem? he)).E4
 obtain ⟨L',h1,h2⟩:=CM.put hO.s (k:=(n:Int)) (by rw [Int.toNat_natCast];exact he) hC' CV WR
 have n1:hb≠e.cb:=A0 hO.h hcb (by decide)
 have hz:=hw.size
 have hcm:e.cb∈sb :: tb :: rb :: (G ++ EE L):=by
  simp only [List.mem_cons,List.mem_append]
  exact .inr (.inr (.inr (.inr (Di.2 ⟨e,List.mem_of_getElem? he,(hO.s.c.c e (List.mem_of_getElem? he)).mem⟩))))
 refine ⟨L',Hy,⟨WR.block hO.h (by simpa using n1),h1,hO.e.keep WR fun k hk hm=>by obtain rfl:=List.mem_singleton.1 hm;exact BM hO.e hcb (by decide) hk⟩,fun k hk=>?_,(hw.weaken (by simp)).step WR fun k hk => .inl ?_⟩
 ·simp only [CA,List.mem_cons,List.mem_append] at hk ⊢
  rcases hk with hk | hk | hk
  ·exact .inl (.inl hk)
  ·rcases h2 k (by simp only [List.mem_cons,List.mem_append];exact hk) with q | q
   ·simp only [List.mem_cons,List.mem_append] at q
    exact .inl (.inr (.inl q))
   ·exact .inr om
  ·exact .inl (.inr (.inr hk))
 ·obtain rfl:=List.mem_singleton.1 hk
  simp only [CA,List.mem_cons,List.mem_append] at hcm ⊢
  exact .inr (.inl hcm)
theorem CU.wZ {w:World} {hb sb tb rb:Nat} {v ve:Value} {s:Ch} {L:List Ce} {G Ge:List Nat} (h:CU w hb sb tb rb v ve s L G Ge) {b:Nat} {cs:Array Value} {fz:Nat × Nat} (h1:w.heap[b]?=some (.cells cs 51 fz)) (hne:b≠rb):b∉CA hb sb tb rb L G Ge:=fun hm=>by
 obtain ⟨cap,rest,a1,a2,_⟩:=h.s.t
 simp only [CA,List.mem_cons,List.mem_append] at hm
 rcases hm with rfl | (rfl | rfl | rfl | hm | hm) | hm
 ·exact A0 h1 h.h (by decide) rfl
 ·exact A0 h1 h.s.o (by decide) rfl
 ·exact A0 h1 a1 (by decide) rfl
 ·exact hne rfl
 ·exact BM h.s.c.a h1 (by decide) hm
 ·obtain ⟨x,hx,hk⟩:=Di.1 hm
  exact (h.s.c.c x hx).not h1 rfl hk
 ·exact BM h.e h1 (by decide) hm
theorem IY {w0 w1:World} {F F1 F2:List Nat} (h:∀ k∈F1,k∈F∨w0.heap.size≤k) (h2:∀ k∈F2,k∈F1∨w1.heap.size≤k) (hz:w0.heap.size≤w1.heap.size):∀ k∈F2,k∈F∨w0.heap.size≤k:=fun k hk=>by
 rcases h2 k hk with q | q
 ·exact h k q
 ·exact .inr om
abbrev NV (x:Tk):Obj := .cells #[.int .i64 x.id,.int .u8 x.st,.int .i64 x.core,.int .u32 x.w,.int .u64 x.slice,.int .i64 x.lag] 51 (0,0)
theorem RV (hb:Nat) (s:Ch) (F:List Nat) (x:Tk) (w0:World) (h:D5 w0 hb s F) (hx:CN s.s.cf.cores x) (hn:x.st≠0) (hl:s.ev.length≤1000000) :
 AM Tryz.prog 66 #[.pointer (some ⟨hb,0,none⟩),KT x] w0 fun v w'=>v = .int .i64 (B0 s x).1∧oG w0 hb (B0 s x).2 F w':=by
 obtain ⟨sb,tb,rb,v,ve,L,G,Ge,rfl,hO⟩:=h.E4
 obtain ⟨n,FT,hlt⟩:=hO.s.ok.at hx hn
 obtain ⟨e,he,hC,hce⟩:=hO.s.c.at hlt
 obtain ⟨g,cap,cur,rfl,hg,FH⟩:=hO.s.c.ptr he
 have Uw:=hO.s.c.len
 have QB:=hx.1
 have hxs:=hx.2.2.2.2.1
 have hR:Bx e.c:=hC.Zb
 obtain ⟨_,_,_,_,_,hcb,_⟩:=hC.E4
 have eL:B0 s x=(Fu s.s.cf (CX (AT s.s x.core).A x.id) x.slice,BQ ⟨B7 s.s x.core (Cb (AT s.s x.core) (Ax (AT s.s x.core) x.id).1 (Ax (AT s.s x.core) x.id).2),s.ev⟩ x.core (BR (Ax (AT s.s x.core) x.id).1 (Ax (AT s.s x.core) x.id).2 .none)):=rfl
 rw [FT,show AT s.s n=e.c from hce.symm] at eL
 rw [eL]
 obtain ⟨xi,xt,xc,xw,C6,xl⟩:=x
 simp only at FT QB hxs
 subst FT
 simp only
 have hs:=(((St.nil w0).AE hg).AE hO.s.o).AE hO.h
 refine AQ Tryz.func66 Tryz.ntmps66 (k:=?_)
 refine Ag ?_
 refine Aq ?_
 refine Gl hs (k:=?_);clear hs;intro b3 w1 AJ z1 hs
 refine Jc ?_
 have Hs:Cd (BR (Ax e.c xi).1 (Ax e.c xi).2 .none):=Cd.none.try (FB hR xi)
 have hkn:=HO (e:=(Ax e.c xi).1) (r1 := .none) (FB hR xi)
 generalize hrp:BR (Ax e.c xi).1 (Ax e.c xi).2 .none=rp at Hs hkn
 refine B8 (fun (y:Nat × Nat × Value × Value × List Ce)=>[(0,.pointer (some ⟨hb,0,none⟩)),(3,.pointer (some ⟨b3,0,none⟩)),(5,.pointer (some ⟨y.1,0,none⟩)),(6,.pointer (some ⟨y.2.1,0,none⟩))])
  (fun y w=>w.heap[b3]?=some (NV ⟨xi,xt,n,xw,C6,xl⟩)∧w.heap[y.1]?=some (Gf (CX e.c.A xi))∧w.heap[y.2.1]?=some (K2 y.2.2.1 y.2.2.2.1)∧Af w0 w hb sb tb rb (.slice (some ⟨g,0,none⟩) L.length cap) ve ⟨B7 s.s n (Cb e.c (Ax e.c xi).1 (Ax e.c xi).2),s.ev⟩ L y.2.2.2.2 G Ge (.agg #[y.2.2.1,y.2.2.2.1]) rp) ?_ ?_
 ·refine IG [] hs (k:=?_);clear hs;intro hX w CF hs
  have Aw:=AJ.trans CF
  refine tks 0 9 ?_
  refine tk 9 hX (hr:=fun w' hH=>BE AI rfl rfl rfl (by show (0:Int)≤(n:Int);omega) (by show (n:Int) < _;omega)) (k:=?_)
  refine tk 10 hX (hr:=fun w' hH=>r_load AI rfl rfl (hH rfl) (by repeat (first | exact At.head | (with_reducible apply At.tail))) (by simpa using FH)) (k:=?_)
  refine tks 11 2 ?_
  have fin:∀ (b5 b6:Nat) (H:List Bp),True:=fun _ _ _=>trivial
  refine eH 13 18 19 hX (h1:=?_) (h2:=?_) (h3:=?_)
  ·skip
   refine cl (h:=by exact JB e.cb e.c e.F xi _ (hC.only Aw) QB) (k:=?_)
   rintro v1 w2 ⟨rv,rfl,T⟩
   have hf:=T.form
   rw [hrp] at hf
   obtain ⟨ag,cg,ap,cp,rfl⟩:=hf
   obtain ⟨L',hA⟩:=CT (hO.only Aw) he T Aw
   rw [hrp] at hA
   replace hs:=hs.Df T.2.2 (fun k hk=>by obtain rfl:=List.mem_singleton.1 hk;exact hs.EX (Aw.block hcb (by simp)))
   refine XS.nil ?_
   refine dn (k:=?_)
   refine tks 14 4 ?_
   refine Gu 18 19 hX (h1:=?_) (h2:=?_)
   ·skip
    refine FA hs (k:=?_);clear hs;intro b5 w5 BJ z5 hs
    have y5:w0.heap.size≤b5:=Nat.le_trans (AA.size hA.o) z5
    replace hA:=hA.keep BJ
    refine XS.nil ?_
    refine dn (k:=?_)
    refine dt 19 hX (k:=?_)
    refine FA hs (k:=?_);clear hs;intro b6 w6 Ak z6 hs
    have y6:w0.heap.size≤b6:=Nat.le_trans (AA.size hA.o) z6
    replace hA:=hA.keep Ak
    refine XS.nil ?_
    refine dn (k:=?_)
    refine dt 20 hX (k:=?_)
    have q5:=hs.get (b:=b5) (by repeat (first | exact At.head | (with_reducible apply At.tail)))
    refine DQ hs (k:=?_);clear hs;intro OU Eo hs
    replace hA:=hA.store Eo q5 rfl (by decide) (by decide) y5
    refine XS.nil ?_
    refine dn (k:=?_)
    refine dt 21 hX (k:=?_)
    have q6:=hs.get (b:=b6) (by repeat (first | exact At.head | (with_reducible apply At.tail)))
    refine DQ hs (k:=?_);clear hs;intro Il Ck hs
    replace hA:=hA.store Ck q6 rfl (by decide) (by decide) y6
    refine XS.nil ?_
    refine dn (k:=?_)
    refine tk 22 hX (k:=?_)
    refine en (k:=?_)
    have r3:=hs.get (b:=b3) (by repeat (first | exact At.head | (with_reducible apply At.tail)))
    have r5:=hs.get (b:=b5) (by repeat (first | exact At.head | (with_reducible apply At.tail)))
    have r6:=hs.get (b:=b6) (by repeat (first | exact At.head | (with_reducible apply At.tail)))
    exact AP (b5,b6,.slice ag rp.g.length cg,.slice ap rp.p.length cp,L') Aa ⟨r3,r5,r6,hA⟩
   ·skip
    refine FA hs (k:=?_);clear hs;intro b6 w6 Ak z6 hs
    have y6:w0.heap.size≤b6:=Nat.le_trans (AA.size hA.o) z6
    replace hA:=hA.keep Ak
    refine XS.nil ?_
    refine dn (k:=?_)
    refine dt 18 hX (k:=?_)
    refine FA hs (k:=?_);clear hs;intro b5 w5 BJ z5 hs
    have y5:w0.heap.size≤b5:=Nat.le_trans (AA.size hA.o) z5
    replace hA:=hA.keep BJ
    refine XS.nil ?_
    refine dn (k:=?_)
    refine dt 20 hX (k:=?_)
    have q5:=hs.get (b:=b5) (by repeat (first | exact At.head | (with_reducible apply At.tail)))
    refine DQ hs (k:=?_);clear hs;intro OU Eo hs
    replace hA:=hA.store Eo q5 rfl (by decide) (by decide) y5
    refine XS.nil ?_
    refine dn (k:=?_)
    refine dt 21 hX (k:=?_)
    have q6:=hs.get (b:=b6) (by repeat (first | exact At.head | (with_reducible apply At.tail)))
    refine DQ hs (k:=?_);clear hs;intro Il Ck hs
    replace hA:=hA.store Ck q6 rfl (by decide) (by decide) y6
    refine XS.nil ?_
    refine dn (k:=?_)
    refine tk 22 hX (k:=?_)
    refine en (k:=?_)
    have r3:=hs.get (b:=b3) (by repeat (first | exact At.head | (with_reducible apply At.tail)))
    have r5:=hs.get (b:=b5) (by repeat (first | exact At.head | (with_reducible apply At.tail)))
    have r6:=hs.get (b:=b6) (by repeat (first | exact At.head | (with_reducible apply At.tail)))
    exact AP (b5,b6,.slice ag rp.g.length cg,.slice ap rp.p.length cp,L') Aa ⟨r3,r5,r6,hA⟩
  ·skip
   refine FA hs (k:=?_);clear hs;intro b5 w5 BJ z5 hs
   have y5:w0.heap.size≤b5:=Nat.le_trans (AA.size Aw) z5
   replace Aw:=Aw.trans BJ
   refine XS.nil ?_
   refine dn (k:=?_)
   refine Gu 13 19 hX (h1:=?_) (h2:=?_)
   ·skip
    refine cl (h:=by exact JB e.cb e.c e.F xi _ (hC.only Aw) QB) (k:=?_)
    rintro v1 w2 ⟨rv,rfl,T⟩
    have hf:=T.form
    rw [hrp] at hf
    obtain ⟨ag,cg,ap,cp,rfl⟩:=hf
    obtain ⟨L',hA⟩:=CT (hO.only Aw) he T Aw
    rw [hrp] at hA
    replace hs:=hs.Df T.2.2 (fun k hk=>by obtain rfl:=List.mem_singleton.1 hk;exact hs.EX (Aw.block hcb (by simp)))
    refine XS.nil ?_
    refine dn (k:=?_)
    refine tks 14 4 ?_
    refine dt 19 hX (k:=?_)
    refine FA hs (k:=?_);clear hs;intro b6 w6 Ak z6 hs
    have y6:w0.heap.size≤b6:=Nat.le_trans (AA.size hA.o) z6
    replace hA:=hA.keep Ak
    refine XS.nil ?_
    refine dn (k:=?_)
    refine dt 20 hX (k:=?_)
    have q5:=hs.get (b:=b5) (by repeat (first | exact At.head | (with_reducible apply At.tail)))
    refine DQ hs (k:=?_);clear hs;intro OU Eo hs
    replace hA:=hA.store Eo q5 rfl (by decide) (by decide) y5
    refine XS.nil ?_
    refine dn (k:=?_)
    refine dt 21 hX (k:=?_)
    have q6:=hs.get (b:=b6) (by repeat (first | exact At.head | (with_reducible apply At.tail)))
    refine DQ hs (k:=?_);clear hs;intro Il Ck hs
    replace hA:=hA.store Ck q6 rfl (by decide) (by decide) y6
    refine XS.nil ?_
    refine dn (k:=?_)
    refine tk 22 hX (k:=?_)
    refine en (k:=?_)
    have r3:=hs.get (b:=b3) (by repeat (first | exact At.head | (with_reducible apply At.tail)))
    have r5:=hs.get (b:=b5) (by repeat (first | exact At.head | (with_reducible apply At.tail)))
    have r6:=hs.get (b:=b6) (by repeat (first | exact At.head | (with_reducible apply At.tail)))
    exact AP (b5,b6,.slice ag rp.g.length cg,.slice ap rp.p.length cp,L') Aa ⟨r3,r5,r6,hA⟩
   ·skip
    refine FA hs (k:=?_);clear hs;intro b6 w6 Ak z6 hs
    have y6:w0.heap.size≤b6:=Nat.le_trans (AA.size Aw) z6
    replace Aw:=Aw.trans Ak
    refine XS.nil ?_
    refine dn (k:=?_)
    refine dt 13 hX (k:=?_)
    refine cl (h:=by exact JB e.cb e.c e.F xi _ (hC.only Aw) QB) (k:=?_)
    rintro v1 w2 ⟨rv,rfl,T⟩
    have hf:=T.form
    rw [hrp] at hf
    obtain ⟨ag,cg,ap,cp,rfl⟩:=hf
    obtain ⟨L',hA⟩:=CT (hO.only Aw) he T Aw
    rw [hrp] at hA
    replace hs:=hs.Df T.2.2 (fun k hk=>by obtain rfl:=List.mem_singleton.1 hk;exact hs.EX (Aw.block hcb (by simp)))
    refine XS.nil ?_
    refine dn (k:=?_)
    refine tks 14 4 ?_
    refine dt 20 hX (k:=?_)
    have q5:=hs.get (b:=b5) (by repeat (first | exact At.head | (with_reducible apply At.tail)))
    refine DQ hs (k:=?_);clear hs;intro OU Eo hs
    replace hA:=hA.store Eo q5 rfl (by decide) (by decide) y5
    refine XS.nil ?_
    refine dn (k:=?_)
    refine dt 21 hX (k:=?_)
    have q6:=hs.get (b:=b6) (by repeat (first | exact At.head | (with_reducible apply At.tail)))
    refine DQ hs (k:=?_);clear hs;intro Il Ck hs
    replace hA:=hA.store Ck q6 rfl (by decide) (by decide) y6
    refine XS.nil ?_
    refine dn (k:=?_)
    refine tk 22 hX (k:=?_)
    refine en (k:=?_)
    have r3:=hs.get (b:=b3) (by repeat (first | exact At.head | (with_reducible apply At.tail)))
    have r5:=hs.get (b:=b5) (by repeat (first | exact At.head | (with_reducible apply At.tail)))
    have r6:=hs.get (b:=b6) (by repeat (first | exact At.head | (with_reducible apply At.tail)))
    exact AP (b5,b6,.slice ag rp.g.length cg,.slice ap rp.p.length cp,L') Aa ⟨r3,r5,r6,hA⟩
  ·skip
   refine FA hs (k:=?_);clear hs;intro b6 w6 Ak z6 hs
   have y6:w0.heap.size≤b6:=Nat.le_trans (AA.size Aw) z6
   replace Aw:=Aw.trans Ak
   refine XS.nil ?_
   refine dn (k:=?_)
   refine Gu 13 18 hX (h1:=?_) (h2:=?_)
   ·skip
    refine cl (h:=by exact JB e.cb e.c e.F xi _ (hC.only Aw) QB) (k:=?_)
    rintro v1 w2 ⟨rv,rfl,T⟩
    have hf:=T.form
    rw [hrp] at hf
    obtain ⟨ag,cg,ap,cp,rfl⟩:=hf
    obtain ⟨L',hA⟩:=CT (hO.only Aw) he T Aw
    rw [hrp] at hA
    replace hs:=hs.Df T.2.2 (fun k hk=>by obtain rfl:=List.mem_singleton.1 hk;exact hs.EX (Aw.block hcb (by simp)))
    refine XS.nil ?_
    refine dn (k:=?_)
    refine tks 14 4 ?_
    refine dt 18 hX (k:=?_)
    refine FA hs (k:=?_);clear hs;intro b5 w5 BJ z5 hs
    have y5:w0.heap.size≤b5:=Nat.le_trans (AA.size hA.o) z5
    replace hA:=hA.keep BJ
    refine XS.nil ?_
    refine dn (k:=?_)
    refine dt 20 hX (k:=?_)
    have q5:=hs.get (b:=b5) (by repeat (first | exact At.head | (with_reducible apply At.tail)))
    refine DQ hs (k:=?_);clear hs;intro OU Eo hs
    replace hA:=hA.store Eo q5 rfl (by decide) (by decide) y5
    refine XS.nil ?_
    refine dn (k:=?_)
    refine dt 21 hX (k:=?_)
    have q6:=hs.get (b:=b6) (by repeat (first | exact At.head | (with_reducible apply At.tail)))
    refine DQ hs (k:=?_);clear hs;intro Il Ck hs
    replace hA:=hA.store Ck q6 rfl (by decide) (by decide) y6
    refine XS.nil ?_
    refine dn (k:=?_)
    refine tk 22 hX (k:=?_)
    refine en (k:=?_)
    have r3:=hs.get (b:=b3) (by repeat (first | exact At.head | (with_reducible apply At.tail)))
    have r5:=hs.get (b:=b5) (by repeat (first | exact At.head | (with_reducible apply At.tail)))
    have r6:=hs.get (b:=b6) (by repeat (first | exact At.head | (with_reducible apply At.tail)))
    exact AP (b5,b6,.slice ag rp.g.length cg,.slice ap rp.p.length cp,L') Aa ⟨r3,r5,r6,hA⟩
   ·skip
    refine FA hs (k:=?_);clear hs;intro b5 w5 BJ z5 hs
    have y5:w0.heap.size≤b5:=Nat.le_trans (AA.size Aw) z5
    replace Aw:=Aw.trans BJ
    refine XS.nil ?_
    refine dn (k:=?_)
    refine dt 13 hX (k:=?_)
    refine cl (h:=by exact JB e.cb e.c e.F xi _ (hC.only Aw) QB) (k:=?_)
    rintro v1 w2 ⟨rv,rfl,T⟩
    have hf:=T.form
    rw [hrp] at hf
    obtain ⟨ag,cg,ap,cp,rfl⟩:=hf
    obtain ⟨L',hA⟩:=CT (hO.only Aw) he T Aw
    rw [hrp] at hA
    replace hs:=hs.Df T.2.2 (fun k hk=>by obtain rfl:=List.mem_singleton.1 hk;exact hs.EX (Aw.block hcb (by simp)))
    refine XS.nil ?_
    refine dn (k:=?_)
    refine tks 14 4 ?_
    refine dt 20 hX (k:=?_)
    have q5:=hs.get (b:=b5) (by repeat (first | exact At.head | (with_reducible apply At.tail)))
    refine DQ hs (k:=?_);clear hs;intro OU Eo hs
    replace hA:=hA.store Eo q5 rfl (by decide) (by decide) y5
    refine XS.nil ?_
    refine dn (k:=?_)
    refine dt 21 hX (k:=?_)
    have q6:=hs.get (b:=b6) (by repeat (first | exact At.head | (with_reducible apply At.tail)))
    refine DQ hs (k:=?_);clear hs;intro Il Ck hs
    replace hA:=hA.store Ck q6 rfl (by decide) (by decide) y6
    refine XS.nil ?_
    refine dn (k:=?_)
    refine tk 22 hX (k:=?_)
    refine en (k:=?_)
    have r3:=hs.get (b:=b3) (by repeat (first | exact At.head | (with_reducible apply At.tail)))
    have r5:=hs.get (b:=b5) (by repeat (first | exact At.head | (with_reducible apply At.tail)))
    have r6:=hs.get (b:=b6) (by repeat (first | exact At.head | (with_reducible apply At.tail)))
    exact AP (b5,b6,.slice ag rp.g.length cg,.slice ap rp.p.length cp,L') Aa ⟨r3,r5,r6,hA⟩
 ·rintro ⟨b5,b6,vg,vp,L'⟩ env w4 ⟨k3,k5,k6,hA⟩
  simp only at k5 k6 hA
  clear hs
  have L6:=hA.c.h
  have hs:=((((St.nil w4).AE k3).AE k5).AE k6).AE L6
  have Ws:=hA.p
  obtain ⟨_,_,_,_,Hv,_,_⟩:=hA.p
  cases Hv
  refine Ja ?_
  have hoq:=hs.AB [] (by simp [k3,k5,k6,L6]) (by simp [D0])
  refine cl (h:=by exact Fw hb _ _ n _ rp _ (hA.c.only hoq).at (Ws.FY hoq (by simp)) Hs (by show s.ev.length+rp.p.length+rp.g.length≤_;have:=hkn.1;have:=hkn.2;have e1:Rp.none.p.length=0:=rfl;have e2:Rp.none.g.length=0:=rfl;omega)) (k:=?_)
  rintro v5 w5 ⟨F5,Ov,dJ,BJ⟩
  have Ln:=hoq.size
  have OB:=hA.o.size
  have ZA:=hO.s.t.RN.2
  have hAq:=hA.c.only hoq
  have OM:=BJ.block (hoq.block k3 (by simp)) (hAq.wZ (hoq.block k3 (by simp)) om)
  have k5':=BJ.block (hoq.block k5 (by simp)) (hAq.at.not (hoq.block k5 (by simp)) rfl)
  have E3:AA (CA hb sb tb rb L G Ge) w0 w5:=(hA.o.step hoq (by simp)).step BJ hA.f
  have M5:=IY hA.f dJ (show w0.heap.size≤_ by omega)
  have ecf:=(absorb_k ⟨B7 s.s n (Cb e.c (Ax e.c xi).1 (Ax e.c xi).2),s.ev⟩ n rp).2
  obtain ⟨sb5,tb5,rb5,MV,ve5,L5,G5,Ge5,rfl,wH⟩:=Ov.E4
  have uD:=wH.s.o
  have o5h:=wH.h
  have ok5:=wH.s.ok.cf
  obtain ⟨s1,hs1⟩:=hR
  have Hl:=Mg hs1 xi
  rw [show (BQ ⟨B7 s.s n (Cb e.c (Ax e.c xi).1 (Ax e.c xi).2),s.ev⟩ n rp).s.cf=s.s.cf from ecf] at uD ok5
  clear hs
  have hs:=(((St.nil w5).AE k5').AE OM).AE o5h |>.AE uD
  refine Jb ?_
  refine dr [] hs (k:=?_);intro hX w hs
  refine tks 0 10 ?_
  refine dt 10 hX (k:=?_)
  refine AW hs (h:=by exact Qe s.s.cf (CX e.c.A xi) C6 ok5 Hl hxs _) (k:=?_);intro w' ho hs;refine Jb ?_
  refine dn (k:=?_)
  refine tk 11 hX (k:=?_)
  refine en (k:=?_)
  refine Jb ?_
  refine AF ?_
  have Ak:=hs.AB [] (by simp [k5',OM,o5h,uD]) (by simp [D0])
  exact ⟨rfl,_,Ov.only Ak,M5,E3.step Ak (by simp)⟩
def Jt (w0:World) (hb:Nat) (e:Int) (s:Ch) (F:List Nat) (w':World):Prop:=(e=0→∃ F',D5 w' hb s F'∧∀ k∈F',k∈F∨w0.heap.size≤k)∧AA F w0 w'
theorem SD (cb:Nat) (c:Cs) (F:List Nat) (id q ns lag:Int) (w0:World) (h:Bb w0 cb c F) (hid:In64 id) (hq:FW q) (D3:BV ns) (Hl:In64 lag) :
 AM Tryz.prog 93 #[.pointer (some ⟨cb,0,none⟩),.int .i64 id,.int .u32 q,.int .u64 ns,.int .i64 lag] w0 fun v w'=>∃ rv,v = .tuple #[rv,.int .i64 (Bj c id q ns lag).1]∧HF w0 cb F rv (Bj c id q ns lag).1 c (Bj c id q ns lag).2 .none w':=QT cb c F id q ns lag w0 h hid hq D3 Hl
theorem CU.place {w:World} {hb sb tb rb:Nat} {v ve:Value} {s:Ch} {L:List Ce} {G Ge:List Nat} (hO:CU w hb sb tb rb v ve s L G Ge) {x:Tk} (hx:CN s.s.cf.cores x) (hn:x.st≠0):∃ (n:Nat) (e:Ce) (g cap:Nat) (cur:List Value),x.core=n∧n < s.s.k.length∧L[n]?=some e∧Bb w e.cb e.c e.F∧AT s.s n=e.c∧v = .slice (some ⟨g,0,none⟩) L.length cap∧w.heap[g]?=some (.cells cur.toArray Sl (0,0))∧cur[n]?=some (.pointer (some ⟨e.cb,0,none⟩))∧L.length=s.s.k.length∧Bx e.c∧∃ a r k,w.heap[e.cb]?=some (Ep a r k):=by
 obtain ⟨n,FT,hlt⟩:=hO.s.ok.at hx hn
 obtain ⟨e,he,hC,hce⟩:=hO.s.c.at hlt
 obtain ⟨g,cap,cur,hv,hg,FH⟩:=hO.s.c.ptr he
 obtain ⟨_,_,_,_,_,hcb,_⟩:=hC.E4
 exact ⟨n,e,g,cap,cur,FT,hlt,he,hC,hce.symm,hv,hg,FH,hO.s.c.len,hC.Zb,_,_,_,hcb⟩
theorem Oz (hb:Nat) (s:Ch) (F:List Nat) (x:Tk) (lag:Int) (w0:World) (h:D5 w0 hb s F) (hx:CN s.s.cf.cores x) (hn:x.st≠0) (Hl:In64 lag) (hl:s.ev.length≤1000000) :
 AM Tryz.prog 56 #[.pointer (some ⟨hb,0,none⟩),KT x,.int .i64 lag] w0 fun v w'=>v = .int .i64 (FD s x lag).1∧Jt w0 hb (FD s x lag).1 (FD s x lag).2 F w':=by
 obtain ⟨sb,tb,rb,v,ve,L,G,Ge,rfl,hO⟩:=h.E4
 obtain ⟨n,e,g,cap,cur,FT,hlt,he,hC,hce,rfl,hg,FH,Uw,hR,_,_,_,hcb⟩:=hO.place hx hn
 have QB:=hx.1
 have vD:=hx.2.2.2.1
 have hxs:=hx.2.2.2.2.1
 have eL:FD s x lag=if (Bj (AT s.s x.core) x.id x.w x.slice lag).1=0 then (0,BQ ⟨B7 s.s x.core (Cb (AT s.s x.core) (Bj (AT s.s x.core) x.id x.w x.slice lag).1 (Bj (AT s.s x.core) x.id x.w x.slice lag).2),s.ev⟩ x.core (BR (Bj (AT s.s x.core) x.id x.w x.slice lag).1 (Bj (AT s.s x.core) x.id x.w x.slice lag).2 .none)) else ((Bj (AT s.s x.core) x.id x.w x.slice lag).1,s):=rfl
 rw [FT,hce] at eL
 rw [eL]
 obtain ⟨xi,xt,xc,xw,C6,xl⟩:=x
 simp only at FT QB hxs vD
 subst FT
 simp only
 have hs:=(((St.nil w0).AE hg).AE hO.s.o).AE hO.h
 refine AQ Tryz.func56 Tryz.ntmps56 (k:=?_)
 refine Ag ?_
 refine Aq ?_
 refine Gl hs (k:=?_);clear hs;intro b3 w1 AJ z1 hs
 refine Jc ?_
 have Hs:Cd (BR (Bj e.c xi xw C6 lag).1 (Bj e.c xi xw C6 lag).2 .none):=Cd.none.try (I0 hR xi xw C6 lag)
 have hkn:=HO (e:=(Bj e.c xi xw C6 lag).1) (r1 := .none) (I0 hR xi xw C6 lag)
 generalize hrp:BR (Bj e.c xi xw C6 lag).1 (Bj e.c xi xw C6 lag).2 .none=rp at Hs hkn
 refine B8 (fun (y:Nat × Value × Value × List Ce)=>[(0,.pointer (some ⟨hb,0,none⟩)),(4,.pointer (some ⟨b3,0,none⟩)),(7,.pointer (some ⟨y.1,0,none⟩)),(8,.int .i64 (Bj e.c xi xw C6 lag).1)])
  (fun y w=>w.heap[b3]?=some (NV ⟨xi,xt,n,xw,C6,xl⟩)∧w.heap[y.1]?=some (K2 y.2.1 y.2.2.1)∧Af w0 w hb sb tb rb (.slice (some ⟨g,0,none⟩) L.length cap) ve ⟨B7 s.s n (Cb e.c (Bj e.c xi xw C6 lag).1 (Bj e.c xi xw C6 lag).2),s.ev⟩ L y.2.2.2 G Ge (.agg #[y.2.1,y.2.2.1]) rp) ?_ ?_
 ·refine IG [] hs (k:=?_);clear hs;intro hX w CF hs
  have Aw:=AJ.trans CF
  refine tks 0 9 ?_
  refine tk 9 hX (hr:=fun w' hH=>BE AI rfl rfl rfl (by show (0:Int)≤(n:Int);omega) (by show (n:Int) < _;omega)) (k:=?_)
  refine tk 10 hX (hr:=fun w' hH=>r_load AI rfl rfl (hH rfl) (by repeat (first | exact At.head | (with_reducible apply At.tail))) (by simpa using FH)) (k:=?_)
  refine tks 11 7 ?_
  refine Gu 18 22 hX (h1:=?_) (h2:=?_)
  ·skip
   refine cl (h:=by exact SD e.cb e.c e.F xi xw C6 lag _ (hC.only Aw) QB vD hxs Hl) (k:=?_)
   rintro v1 w2 ⟨rv,rfl,T⟩
   have hf:=T.form
   rw [hrp] at hf
   obtain ⟨ag,cg,ap,cp,rfl⟩:=hf
   obtain ⟨L',hA⟩:=CT (hO.only Aw) he T Aw
   rw [hrp] at hA
   replace hs:=hs.Df T.2.2 (fun k hk=>by obtain rfl:=List.mem_singleton.1 hk;exact hs.EX (Aw.block hcb (by simp)))
   refine XS.nil ?_
   refine dn (k:=?_)
   refine tks 19 3 ?_
   refine dt 22 hX (k:=?_)
   refine FA hs (k:=?_);clear hs;intro b6 w6 Ak z6 hs
   have y6:w0.heap.size≤b6:=Nat.le_trans (AA.size hA.o) z6
   replace hA:=hA.keep Ak
   refine XS.nil ?_
   refine dn (k:=?_)
   refine dt 23 hX (k:=?_)
   have q6:=hs.get (b:=b6) (by repeat (first | exact At.head | (with_reducible apply At.tail)))
   refine DQ hs (k:=?_);clear hs;intro Il Ck hs
   replace hA:=hA.store Ck q6 rfl (by decide) (by decide) y6
   refine XS.nil ?_
   refine dn (k:=?_)
   refine tk 24 hX (k:=?_)
   refine en (k:=?_)
   have r3:=hs.get (b:=b3) (by repeat (first | exact At.head | (with_reducible apply At.tail)))
   have r6:=hs.get (b:=b6) (by repeat (first | exact At.head | (with_reducible apply At.tail)))
   exact AP (b6,.slice ag rp.g.length cg,.slice ap rp.p.length cp,L') Aa ⟨r3,r6,hA⟩
  ·skip
   refine FA hs (k:=?_);clear hs;intro b6 w6 Ak z6 hs
   have y6:w0.heap.size≤b6:=Nat.le_trans (AA.size Aw) z6
   replace Aw:=Aw.trans Ak
   refine XS.nil ?_
   refine dn (k:=?_)
   refine dt 18 hX (k:=?_)
   refine cl (h:=by exact SD e.cb e.c e.F xi xw C6 lag _ (hC.only Aw) QB vD hxs Hl) (k:=?_)
   rintro v1 w2 ⟨rv,rfl,T⟩
   have hf:=T.form
   rw [hrp] at hf
   obtain ⟨ag,cg,ap,cp,rfl⟩:=hf
   obtain ⟨L',hA⟩:=CT (hO.only Aw) he T Aw
   rw [hrp] at hA
   replace hs:=hs.Df T.2.2 (fun k hk=>by obtain rfl:=List.mem_singleton.1 hk;exact hs.EX (Aw.block hcb (by simp)))
   refine XS.nil ?_
   refine dn (k:=?_)
   refine tks 19 3 ?_
   refine dt 23 hX (k:=?_)
   have q6:=hs.get (b:=b6) (by repeat (first | exact At.head | (with_reducible apply At.tail)))
   refine DQ hs (k:=?_);clear hs;intro Il Ck hs
   replace hA:=hA.store Ck q6 rfl (by decide) (by decide) y6
   refine XS.nil ?_
   refine dn (k:=?_)
   refine tk 24 hX (k:=?_)
   refine en (k:=?_)
   have r3:=hs.get (b:=b3) (by repeat (first | exact At.head | (with_reducible apply At.tail)))
   have r6:=hs.get (b:=b6) (by repeat (first | exact At.head | (with_reducible apply At.tail)))
   exact AP (b6,.slice ag rp.g.length cg,.slice ap rp.p.length cp,L') Aa ⟨r3,r6,hA⟩
 ·rintro ⟨b6,vg,vp,L'⟩ env w4 ⟨k3,k6,hA⟩
  simp only at k6 hA
  clear hs
  have L6:=hA.c.h
  have hs:=(((St.nil w4).AE k3).AE k6).AE L6
  have Ws:=hA.p
  obtain ⟨_,_,_,_,Hv,_,_⟩:=hA.p
  cases Hv
  generalize Bj e.c xi xw C6 lag=J at *
  by_cases hJ:J.1=0
  ·rw [if_pos hJ]
   rw [hJ] at hA ⊢
   refine Je ?_
   have hoq:=hs.AB [] (by simp [k3,k6,L6]) (by simp [D0])
   refine cl (h:=by exact Fw hb _ _ n _ rp _ (hA.c.only hoq).at (Ws.FY hoq (by simp)) Hs (by show s.ev.length+rp.p.length+rp.g.length≤_;have:=hkn.1;have:=hkn.2;have e1:Rp.none.p.length=0:=rfl;have e2:Rp.none.g.length=0:=rfl;omega)) (k:=?_)
   rintro v5 w5 ⟨F5,Ov,dJ,BJ⟩
   have OB:=hA.o.size
   have E3:AA (CA hb sb tb rb L G Ge) w0 w5:=(hA.o.step hoq (by simp)).step BJ hA.f
   have M5:=IY hA.f dJ (show w0.heap.size≤_ by omega)
   clear hs
   have hs:=St.nil w5
   refine Ja ?_
   refine AF ?_
   have Ak:=hs.AD rfl
   exact ⟨rfl,fun _=>⟨_,Ov.only Ak,M5⟩,E3.step Ak (by simp)⟩
  ·rw [if_neg hJ]
   repeat' (first|refine Sa ?_|refine Av rfl (fun hc=>?_) fun hc=>?_|fail)
   ·exact absurd (by simpa using hc) hJ
   ·refine AF ?_
    have Ak:=hs.AB [] (by simp [k3,k6,L6]) (by simp [D0])
    exact ⟨rfl,fun q=>absurd q hJ,hA.o.step Ak (by simp)⟩
theorem kE (L:List Ce) (e:Ce):ptrs (L ++ [e])=ptrs L ++ [.pointer (some ⟨e.cb,0,none⟩)]:=by simp [ptrs]
theorem gE (L:List Ce) (e:Ce):EE (L ++ [e])=EE L ++ e.F:=by simp [EE]
theorem CR.none (w:World):CR w (.slice none 0 0) [] [] []:=⟨.inl ⟨rfl,rfl,rfl,rfl⟩,rfl,fun x hx=>(by cases hx),fun i j x y hx=>(by simp at hx)⟩
theorem CR.lt {w:World} {v:Value} {l:List Cs} {L:List Ce} {G:List Nat} (h:CR w v l L G):∀ k∈G ++ EE L,k < w.heap.size:=fun k hk=>by
 rcases List.mem_append.1 hk with q | q
 ·exact h.a.lt k q
 ·obtain ⟨x,hx,q⟩:=Di.1 q
  exact (h.c x hx).lt k q
theorem CR.ap {w:World} {v:Value} {l:List Cs} {L:List Ce} {G:List Nat} (h:CR w v l L G):∀ k∈EE L,k∉G:=fun k hk hm=>by
 obtain ⟨x,hx,q⟩:=Di.1 hk
 obtain ⟨cs,hc⟩:=Kz h.a k hm
 exact (h.c x hx).not hc rfl q
structure EU (w0 w:World) (sb tb rb:Nat) (cf:Cf) (t:List Tk) (l:List Cs) (v:Value) (L:List Ce) (G:List Nat):Prop where
 o:w.heap[sb]?=some (Sr tb cf v)
 t:DL w tb rb t
 c:CR w v l L G
 f:∀ k∈sb :: tb :: rb :: (G ++ EE L),w0.heap.size≤k
 w:AA [] w0 w
theorem EU.keep {w0 w w':World} {sb tb rb:Nat} {cf:Cf} {t:List Tk} {l:List Cs} {v:Value} {L:List Ce} {G:List Nat} (h:EU w0 w sb tb rb cf t l v L G) (ho:AA [] w w'):EU w0 w' sb tb rb cf t l v L G :=
 ⟨ho.block h.o (by simp),h.t.only ho,h.c.Ae ho (by simp),h.f,h.w.trans ho⟩
theorem EU.grow {w0 w w1 w2:World} {sb tb rb:Nat} {cf:Cf} {t:List Tk} {l:List Cs} {v v':Value} {L:List Ce} {G G':List Nat} (h:EU w0 w sb tb rb cf t l v L G) {e:Ce} (hc:Bb w e.cb e.c e.F) (hd:∀ k∈e.F,k∉EE L) (hf:∀ k∈e.F,w0.heap.size≤k)
 (ha:BS w1 Sl 1 v' (L.length+1) (ptrs L ++ [.pointer (some ⟨e.cb,0,none⟩)]) G') (hG:∀ k∈G',k∈G∨w.heap.size≤k) (ho:AA G w w1) (AN:AA [sb] w1 w2) (wU:w2.heap[sb]?=some (Sr tb cf v')):EU w0 w2 sb tb rb cf t (l ++ [e.c]) v' (L ++ [e]) G':=by
 obtain ⟨cap,rest,a1,a2,_⟩:=h.t
 have hz:=h.w.size
 have n1:tb∉G:=fun hm=>BM h.c.a a1 (by decide) hm
 have n2:rb∉G:=fun hm=>BM h.c.a a2 (by decide) hm
 have n3:sb∉G:=fun hm=>BM h.c.a h.o (by decide) hm
 have o1:=ho.block h.o n3
 have t1:=h.t.keep ho n1 n2
 have m1:sb≠tb:=A0 h.o a1 (by decide)
 have m2:sb≠rb:=A0 h.o a2 (by decide)
 have yD:∀ x∈L,Bb w1 x.cb x.c x.F:=fun x hx=>(h.c.c x hx).Ae ho fun k hk=>h.c.ap k (Di.2 ⟨x,hx,hk⟩)
 have hce:Bb w1 e.cb e.c e.F:=hc.Ae ho fun k hk hm=>by
  obtain ⟨cs,hcs⟩:=Kz h.c.a k hm
  exact hc.not hcs rfl hk
 have hb:=lt_of_block h.o
 refine ⟨wU,t1.keep AN (by simpa using Ne.symm m1) (by simpa using Ne.symm m2),?_,fun k hk=>?_,(h.w.step ho fun k hk => .inr (h.f k (by simp [hk]))).step AN fun k hk => .inr (by obtain rfl:=List.mem_singleton.1 hk;exact h.f _ (by simp))⟩
 ·have nsb:∀ {x:Ce},Bb w1 x.cb x.c x.F→sb∉x.F:=fun {x} hx=>hx.not o1 rfl
  have c1:CR w2 (.slice Option.none 0 0) l L []∨True := .inr trivial
  have base:CR w2 v' (l ++ [e.c]) (L ++ [e]) G':=by
   refine ⟨?_,by rw [List.map_append,h.c.l];rfl,fun x hx=>?_,fun i j x y hx hy hne k hk hm=>?_⟩
   ·rw [List.length_append,kE]
    exact ha.keep AN fun k hk hm=>by obtain rfl:=List.mem_singleton.1 hm;exact BM ha o1 (by decide) hk
   ·have hx1:Bb w1 x.cb x.c x.F:=by
     rcases List.mem_append.1 hx with q | q
     ·exact yD x q
     ·obtain rfl:=List.mem_singleton.1 q;exact hce
    exact hx1.Ae AN fun k hk hm=>by obtain rfl:=List.mem_singleton.1 hm;exact nsb hx1 hk
   ·rw [List.getElem?_append] at hx hy
    have one:∀ (a:Nat) (z:Ce),([e]:List Ce)[a]?=some z→a=0∧z=e:=fun a z hz=>by
     cases a with
     | zero=>cases hz;exact ⟨rfl,rfl⟩
     | succ a=>simp at hz
    split at hx
    ·split at hy
     ·exact h.c.d i j x y hx hy hne k hk hm
     ·obtain ⟨_,rfl⟩:=one _ _ hy
      exact hd k hm (Di.2 ⟨x,List.mem_of_getElem? hx,hk⟩)
    ·obtain ⟨e1,rfl⟩:=one _ _ hx
     split at hy
     ·exact hd k hk (Di.2 ⟨y,List.mem_of_getElem? hy,hm⟩)
     ·obtain ⟨e2,rfl⟩:=one _ _ hy
      omega
  exact base
 ·have ZD:=h.f
  simp only [List.mem_cons,List.mem_append,gE] at hk ZD
  rcases hk with rfl | rfl | rfl | hk | hk | hk
  ·exact ZD _ (.inl rfl)
  ·exact ZD _ (.inr (.inl rfl))
  ·exact ZD _ (.inr (.inr (.inl rfl)))
  ·rcases hG k hk with q | q
   ·exact ZD k (.inr (.inr (.inr (.inl q))))
   ·omega
  ·exact ZD k (.inr (.inr (.inr (.inr hk))))
  ·exact hf k hk
theorem QH (sb:Nat) (s:Sy) (F:List Nat) (w0:World) (h:CM w0 sb s F):AM Tryz.prog 14 #[.pointer (some ⟨sb,0,none⟩)] w0 fun v w'=>(∃ sb' F',v = .pointer (some ⟨sb',0,none⟩)∧CM w' sb' s F'∧∀ k∈F',w0.heap.size≤k)∧AA [] w0 w':=by
 obtain ⟨tb,rb,vc,L,G,rfl,hO⟩:=h
 have h1:=hO.o
 have hs:=(St.nil w0).AE h1
 have hlen:=hO.ok.len
 have hlo:=hO.ok.lo
 have hhi:=hO.ok.hi
 have hL:=hO.c.len
 have h0:0 < s.k.length:=by omega
 obtain ⟨x0,hx0,_,_⟩:=hO.c.at h0
 obtain ⟨g,cap,cur,rfl,hg,_⟩:=hO.c.ptr hx0
 have FH:∀ (i:Nat) (x:Ce),L[i]?=some x→cur[i]?=some (.pointer (some ⟨x.cb,0,none⟩)):=fun i x hx=>by
  obtain ⟨g',cap',cur',e,hg',MT⟩:=hO.c.ptr hx
  cases e
  rw [hg] at hg'
  simp only [Option.some.injEq,Obj.cells.injEq] at hg'
  have:=congrArg Array.toList hg'.1
  simp only at this
  rw [this];exact MT
 refine AQ Tryz.func14 Tryz.ntmps14 (k:=?_)
 refine Jd ?_
 refine dr [] hs (k:=?_);intro hX w hs
 refine tks 0 4 ?_
 refine tks 5 4 ?_
 refine dt 4 hX (k:=?_)
 have Fp:=hs.AB [] (by simp [h1]) (by simp [D0])
 refine cl (h:=by exact aN tb rb s.t _ (hO.t.only Fp)) (k:=?_)
 rintro v w1 ⟨⟨ES,rb',rfl,Bl,n1,n2,n3⟩,AJ⟩;replace hs:=hs.AL AJ
 have JO:=Fp.size
 have kq:=hs.get (b:=sb) (o:=Sr tb s.cf (.slice (some ⟨g,0,none⟩) L.length cap)) (by repeat (first | exact At.head | (with_reducible apply At.tail)))
 have Ay:=hs.AB [] (by simp [h1]) (by simp [D0])
 have qM:=Ay.size
 clear hs
 have hs:=(St.nil w1).AE kq
 refine Jb ?_
 refine dn (k:=?_)
 refine tk 9 hX (k:=?_)
 refine dt 10 hX (k:=?_)
 refine bx hs (k:=?_);clear hs;intro sb' w2 M6 hs
 refine XS.nil ?_
 have yX:=hs.new _ List.mem_cons_self rfl
 simp only at yX
 refine dn (k:=?_)
 refine tk 11 hX (k:=?_)
 refine en (k:=?_)
 refine Ja ?_
 have Bd:=hs.AB [] (by simp [kq]) (by simp [D0])
 have yW:EU w0 _ sb' ES rb' s.cf s.t [] (.slice none 0 0) [] []:=⟨hs.get (b:=sb') (by repeat (first | exact At.head | (with_reducible apply At.tail))),Bl.only Bd,CR.none _,fun k hk=>by
  simp only [List.mem_cons,List.nil_append,show EE []=[] from rfl,List.not_mem_nil,or_false] at hk
  rcases hk with rfl | rfl | rfl <;> omega,Ay.trans Bd⟩
 refine BH (fun (_:Value × List Ce × List Nat)=>[(3,.pointer (some ⟨sb',0,none⟩))]) (fun y w=>EU w0 w sb' ES rb' s.cf s.t s.k y.1 y.2.1 y.2.2) ?_ ?_
 ·refine BF (fun (x:Nat × Value × List Ce × List Nat)=>[(3,.pointer (some ⟨sb',0,none⟩)),(22,.slice (some ⟨g,0,none⟩) L.length cap),(23,.int .i64 (L.length:Nat)),(24,.int .i64 (x.1:Nat))])
   (fun x w=>x.1≤L.length∧EU w0 w sb' ES rb' s.cf s.t (s.k.take x.1) x.2.1 x.2.2.1 x.2.2.2) (fun x=>L.length - x.1) (0,.slice none 0 0,[],[]) Aa ⟨Nat.zero_le _,yW⟩ fun x env wl ⟨hi,hM⟩=>?_
  obtain ⟨i,v5,L5,G5⟩:=x
  simp only at hi hM
  clear hs
  have fR:=hM.w.block hg (by simp)
  have hs:=((St.nil wl).AE fR).AE hM.o
  repeat' (first|refine Sa ?_|refine Av rfl (fun hc=>?_) fun hc=>?_|fail)
  ·have hlt:i < L.length:=by omega
   have QU:i < s.k.length:=by omega
   obtain ⟨x,hx,hC,hce⟩:=hO.c.at QU
   have ei:=DH (m:=L.length) hlt om
   have et:s.k.take (i+1)=s.k.take i ++ [x.c]:=by
    rw [CS QU,hce,List.getD_eq_getElem?_getD,List.getElem?_eq_getElem QU];rfl
   have wC:=hM.c.len
   rw [List.length_take] at wC
   refine ix (h0:=(by omega)) (h1:=(by omega)) (k:=?_)
   refine lb (hc:=(by simpa using FH i x hx)) (k:=?_)
   refine Jc ?_
   refine dr [11] hs (k:=?_);intro hX w hs
   refine tks 0 6 ?_
   refine dt 6 hX (k:=?_)
   have Aw:=hs.AB [] (by simp [fR,hM.o]) (by simp [D0])
   refine cl (h:=by exact Ms x.cb x.c x.F _ (hC.only (hM.w.trans Aw))) (k:=?_)
   rintro v6 w6 ⟨⟨S8,F6,rfl,cO,Vt⟩,Ak⟩;replace hs:=hs.AL Ak
   have Ph:=hM.keep (hs.AB [] (by simp [fR,hM.o]) (by simp [D0]))
   have dN:=(hM.w.trans Aw).size
   have Wv:=hM.c.lt
   have KO:=Aw.size
   have dZ:=Ph.o
   have tM:=Ph.w.block hg (by simp)
   clear hs
   have hs:=((St.nil w6).AE tM).AE dZ
   refine Jb ?_
   refine dn (k:=?_)
   refine dt 7 hX (k:=?_)
   refine bs hs (k:=?_);clear hs;intro b7 w7 Y7 hs
   refine XS.nil ?_
   refine dn (k:=?_)
   refine dt 8 hX (k:=?_)
   have CQ:=hs.AB [] (by simp [dZ,tM]) (by simp [D0])
   have OI:=Ph.keep CQ
   have aBO:=CQ.size
   refine CE AI rfl rfl rfl rfl rfl rfl rfl (by decide) (lit_cells (news:=[.pointer (some ⟨S8,0,none⟩)]) (hs.get At.head)) (by simp [Value.oneCell']) OI.c.a om om ?_
   intro v8 w8 ⟨G8,fT,kR⟩ Da
   obtain ⟨a8,yA,rfl⟩:=BO fT
   have k8:=Da.block (hs.get (b:=sb') (o:=Sr ES s.cf v5) (by repeat (first | exact At.head | (with_reducible apply At.tail)))) (fun hm=>BM OI.c.a OI.o (by decide) hm)
   have kg8:=Da.block (CQ.block tM (by simp)) (fun hm=>by
    have:=OI.f g (by simp [hm])
    have:=lt_of_block hg
    omega)
   clear hs
   have hs:=((St.nil w8).AE kg8).AE k8
   refine XS.nil ?_
   refine dn (k:=?_)
   refine tks 9 2 ?_
   refine dt 11 hX (k:=?_)
   refine st hs (k:=?_);clear hs;intro w9 hs
   refine XS.nil ?_
   refine dn (k:=?_)
   refine en (k:=?_)
   refine Ja ?_
   have hG:EU w0 _ sb' ES rb' s.cf s.t (s.k.take i ++ [x.c]) _ (L5 ++ [⟨S8,x.c,F6⟩]) G8 :=
    OI.grow (e:=⟨S8,x.c,F6⟩) (cO.only CQ) (fun k hk hm=>by
     have:=Vt k hk
     have:=Wv k (List.mem_append_right _ hm)
     omega) (fun k hk=>by have:=Vt k hk;omega) fT kR Da (hs.AB [sb'] (by simp [kg8]) (by simp [D0])) (hs.get (b:=sb') (by repeat (first | exact At.head | (with_reducible apply At.tail))))
   refine A2 (i+1,.slice a8 (L5.length+1) yA,L5 ++ [⟨S8,x.c,F6⟩],G8) (by show L.length - (i+1) < L.length - i;omega) (by (repeat (first | exact Ac | (apply A5;first | exact rfl | exact congrArg (Value.int .i64) ei)))) ⟨by show i+1≤_;omega,?_⟩
   show EU w0 _ sb' ES rb' s.cf s.t (s.k.take (i+1)) _ _ G8
   rw [et]
   exact hG
  ·have e:i=s.k.length:=by omega
   subst e
   rw [List.take_length] at hM
   exact Am (v5,L5,G5) Aa hM
 ·rintro ⟨v5,L5,G5⟩ env w hM
  simp only at hM
  clear hs
  have hs:=St.nil w
  refine Ja ?_
  refine AF ?_
  have hM2:=hM.keep (hs.AD rfl)
  exact ⟨⟨sb',_,rfl,⟨ES,rb',v5,L5,G5,rfl,hM2.o,hM2.t,hM2.c,hO.ok⟩,hM2.f⟩,hM2.w⟩
theorem Uf (c:Cf) (hc0:c.In) (w0:World):AM Tryz.prog 9 #[Pd c] w0 fun v w'=>((EV c≠0∧v = .tuple #[.pointer none,.int .i64 (EV c)])∨(EV c=0∧∃ sb F,v = .tuple #[.pointer (some ⟨sb,0,none⟩),.int .i64 0]∧CM w' sb (Ic c) F∧∀ k∈F,w0.heap.size≤k))∧AA [] w0 w':=by
 have hs:=St.nil w0
 refine AQ Tryz.func9 Tryz.ntmps9 (k:=?_)
 refine Ag ?_
 refine Aq ?_
 refine bx hs (k:=?_);clear hs;intro b1 w1 JO hs
 refine Ja ?_
 refine cl (h:=by exact Tx c hc0 _) (k:=?_)
 by_cases e0:EV c=0
 ·have hck:=Wr e0
  have aBA:=(inv_new hc0 e0).ok
  rw [e0]
  rintro v w' ⟨rfl,ho⟩;replace hs:=hs.AL ho;refine Jd ?_
  have g1:=hs.new (b1,true) (by simp) rfl
  simp only at g1
  refine dr [] hs (k:=?_);intro hX w hs
  refine tks 0 2 ?_
  refine tk 3 hX (k:=?_)
  refine dt 2 hX (k:=?_)
  have Fp:=hs.AD rfl
  refine cl (h:=by exact XI c.tasks _) (k:=?_)
  rintro v w2 ⟨⟨ES,rb',rfl,Bl,n1,n2,n3⟩,AJ⟩;replace hs:=hs.AL AJ
  have JO:=Fp.size
  have kq:=hs.get (b:=b1) (by repeat (first | exact At.head | (with_reducible apply At.tail)))
  have Ay:=hs.AD rfl
  have qM:=Ay.size
  clear hs
  have hs:=(St.nil w2).AE kq
  refine Jb ?_
  refine dn (k:=?_)
  refine tk 4 hX (k:=?_)
  refine dt 5 hX (k:=?_)
  refine bx hs (k:=?_);clear hs;intro sb' w3 Nc hs
  refine XS.nil ?_
  have yX:=hs.new _ List.mem_cons_self rfl
  simp only at yX
  refine dn (k:=?_)
  refine tk 6 hX (k:=?_)
  refine en (k:=?_)
  refine Ja ?_
  have Bd:=hs.AB [] (by simp [kq]) (by simp [D0])
  have kc:=hs.get (b:=b1) (by repeat (first | exact At.head | (with_reducible apply At.tail)))
  have yW:EU w0 _ sb' ES rb' c (List.replicate (Er c.tasks) .zero) [] (.slice none 0 0) [] []:=⟨hs.get (b:=sb') (by repeat (first | exact At.head | (with_reducible apply At.tail))),Bl.only Bd,CR.none _,fun k hk=>by
   simp only [List.mem_cons,List.nil_append,show EE []=[] from rfl,List.not_mem_nil,or_false] at hk
   rcases hk with rfl | rfl | rfl <;> omega,Ay.trans Bd⟩
  obtain ⟨m,hm⟩:∃ m:Nat,c.cores=m:=⟨c.cores.toNat,by omega⟩
  rw [hm]
  refine BH (fun (_:Value × List Ce × List Nat)=>[(5,.pointer (some ⟨sb',0,none⟩))]) (fun y w=>EU w0 w sb' ES rb' c (List.replicate (Er c.tasks) .zero) (List.replicate m (ER c.origin)) y.1 y.2.1 y.2.2) ?_ ?_
  ·refine BF (fun (x:Nat × Value × List Ce × List Nat)=>[(1,.pointer (some ⟨b1,0,none⟩)),(5,.pointer (some ⟨sb',0,none⟩)),(18,.int .i64 (m:Nat)),(19,.int .i64 (x.1:Nat))])
    (fun x w=>x.1≤m∧w.heap[b1]?=some (.cells #[.int .i64 c.cores,.int .i64 c.tasks,.int .u64 c.tick,.int .u64 c.slice,.int .u64 c.origin] 24 (0,0))∧EU w0 w sb' ES rb' c (List.replicate (Er c.tasks) .zero) (List.replicate x.1 (ER c.origin)) x.2.1 x.2.2.1 x.2.2.2) (fun x=>m - x.1) (0,.slice none 0 0,[],[]) Aa ⟨Nat.zero_le _,kc,yW⟩ fun x env wl ⟨hi,hB,hM⟩=>?_
   obtain ⟨i,v5,L5,G5⟩:=x
   simp only at hi hM
   clear hs
   have hs:=((St.nil wl).AE hB).AE hM.o
   repeat' (first|refine Sa ?_|refine Av rfl (fun hc=>?_) fun hc=>?_|fail)
   ·have hlt:i < m:=by omega
    have ei:=DH (m:=m) hlt om
    have wC:=hM.c.len
    rw [List.length_replicate] at wC
    refine dr [12] hs (k:=?_);intro hX w hs
    refine tks 0 7 ?_
    refine dt 7 hX (k:=?_)
    have Aw:=hs.AB [] (by simp [hB,hM.o]) (by simp [D0])
    refine cl (h:=by exact Ur c.origin hc0.2.2.2.2 _) (k:=?_)
    rintro v6 w6 ⟨⟨S8,F6,rfl,cO,Vt⟩,Ak⟩;replace hs:=hs.AL Ak
    have Ph:=hM.keep (hs.AB [] (by simp [hB,hM.o]) (by simp [D0]))
    have dN:=(hM.w.trans Aw).size
    have Wv:=hM.c.lt
    have KO:=Aw.size
    have dZ:=Ph.o
    have kB:=hs.get (b:=b1) (by repeat (first | exact At.head | (with_reducible apply At.tail)))
    clear hs
    have hs:=((St.nil w6).AE kB).AE dZ
    refine Jb ?_
    refine dn (k:=?_)
    refine dt 8 hX (k:=?_)
    refine bs hs (k:=?_);clear hs;intro b7 w7 Y7 hs
    refine XS.nil ?_
    refine dn (k:=?_)
    refine dt 9 hX (k:=?_)
    have CQ:=hs.AB [] (by simp [dZ,kB]) (by simp [D0])
    have OI:=Ph.keep CQ
    have aBO:=CQ.size
    refine CE AI rfl rfl rfl rfl rfl rfl rfl (by decide) (lit_cells (news:=[.pointer (some ⟨S8,0,none⟩)]) (hs.get At.head)) (by simp [Value.oneCell']) OI.c.a om om ?_
    intro v8 w8 ⟨G8,fT,kR⟩ Da
    obtain ⟨a8,yA,rfl⟩:=BO fT
    have k8:=Da.block (hs.get (b:=sb') (o:=Sr ES c v5) (by repeat (first | exact At.head | (with_reducible apply At.tail)))) (fun hm=>BM OI.c.a OI.o (by decide) hm)
    have k9:=Da.block (hs.get (b:=b1) (by repeat (first | exact At.head | (with_reducible apply At.tail)))) (fun hm=>BM OI.c.a (hs.get (b:=b1) (by repeat (first | exact At.head | (with_reducible apply At.tail)))) (by decide) hm)
    clear hs
    have hs:=((St.nil w8).AE k9).AE k8
    refine XS.nil ?_
    refine dn (k:=?_)
    refine tks 10 2 ?_
    refine dt 12 hX (k:=?_)
    refine st hs (k:=?_);clear hs;intro w9 hs
    refine XS.nil ?_
    refine dn (k:=?_)
    refine en (k:=?_)
    refine Ja ?_
    have hG:EU w0 _ sb' ES rb' c (List.replicate (Er c.tasks) .zero) (List.replicate i (ER c.origin) ++ [ER c.origin]) _ (L5 ++ [⟨S8,ER c.origin,F6⟩]) G8 :=
     OI.grow (e:=⟨S8,ER c.origin,F6⟩) (cO.only CQ) (fun k hk hm=>by
      have:=Vt k hk
      have:=Wv k (List.mem_append_right _ hm)
      omega) (fun k hk=>by have:=Vt k hk;omega) fT kR Da (hs.AB [sb'] (by simp [k9]) (by simp [D0])) (hs.get (b:=sb') (by repeat (first | exact At.head | (with_reducible apply At.tail))))
    refine A2 (i+1,.slice a8 (L5.length+1) yA,L5 ++ [⟨S8,ER c.origin,F6⟩],G8) (by show m - (i+1) < m - i;omega) (by (repeat (first | exact Ac | (apply A5;first | exact rfl | exact congrArg (Value.int .i64) ei)))) ⟨by show i+1≤_;omega,hs.get (b:=b1) (by repeat (first | exact At.head | (with_reducible apply At.tail))),?_⟩
    show EU w0 _ sb' ES rb' c _ (List.replicate (i+1) (ER c.origin)) _ _ G8
    rw [List.replicate_succ']
    exact hG
   ·have e:i=m:=by omega
    subst e
    exact Am (v5,L5,G5) Aa hM
  ·rintro ⟨v5,L5,G5⟩ env w hM
   simp only at hM
   clear hs
   have hs:=St.nil w
   refine Ja ?_
   refine AF ?_
   have hM2:=hM.keep (hs.AD rfl)
   have em:c.cores.toNat=m:=by omega
   exact ⟨.inr ⟨rfl,sb',_,rfl,⟨ES,rb',v5,L5,G5,rfl,hM2.o,hM2.t,by
    show CR _ v5 (List.replicate c.cores.toNat (ER c.origin)) L5 G5
    rw [em];exact hM2.c,aBA⟩,hM2.f⟩,hM2.w⟩
 ·generalize EV c=e at *
  rintro v w' ⟨rfl,ho⟩;replace hs:=hs.AL ho;repeat' (first|refine Sa ?_|refine xc_cond rfl (fun hc=>?_) fun hc=>?_|fail)
  ·refine AF ?_
   exact ⟨.inl ⟨e0,rfl⟩,hs.AD rfl⟩
  ·exact absurd (by simpa using hc) e0
def oX (w0 w:World) (fid:Nat) (caps:List Value) (E:List Nat) (Qx:World→Prop) (s:Sy) (l:Int × Ch):Prop :=
 ∀ hb F,D5 w hb ⟨s,[]⟩ F→(∀ k∈F,w0.heap.size≤k) →
  AM Tryz.prog fid (.pointer (some ⟨hb,0,none⟩) :: caps).toArray w fun v w'=>v = .int .i64 l.1∧Qx w'∧(l.1=0→∃ F',D5 w' hb l.2 F'∧∀ k∈F',k∈F∨w.heap.size≤k)∧AA (F ++ E) w w'
def Dm (w0:World) (sb:Nat) (F E:List Nat) (ve:Value) (s:Sy) (l:Int × Ch) (w':World):Prop :=
 (∃ G,ZH w' ve (Db s l).1 G)∧(∃ F',CM w' sb (Db s l).2 F'∧∀ k∈F',k∈F∨w0.heap.size≤k)∧AA (sb :: E) w0 w'
theorem Qw (sb:Nat) (s:Sy) (F:List Nat) (w0:World) (h:CM w0 sb s F) (fid:Nat) (caps:List Value) (E:List Nat) (Qx:World→Prop) (l:Int × Ch)
 (hQ:∀ w w' G,Qx w→AA G w w'→(∀ k∈E,k∉G)→Qx w') (hE:∀ k∈E,k∉F∧k < w0.heap.size) (WA:∀ w,AA [] w0 w→oX w0 w fid caps E Qx s l) :
 AM Tryz.prog 50 #[.pointer (some ⟨sb,0,none⟩),.func (.func fid) #[] caps.toArray] w0 fun v w'=>∃ ve,v = .tuple #[ve,.int .i64 l.1]∧Qx w'∧Dm w0 sb F E ve s l w':=by
 have hS:=h
 obtain ⟨tb,rb,vc,L,G,rfl,hO⟩:=h
 have h1:=hO.o
 have lsb:=lt_of_block h1
 have hs:=(St.nil w0).AE h1
 refine AQ Tryz.func50 Tryz.ntmps50 (k:=?_)
 refine Jd ?_
 have ho:=hs.AB [] (by simp [h1]) (by simp [D0])
 refine cl (h:=by exact QH sb s _ _ (hS.only ho)) (k:=?_)
 rintro v w1 ⟨⟨sb',F',rfl,FC,CV⟩,AJ⟩;replace hs:=hs.AL AJ
 have Ay:=hs.AB [] (by simp [h1]) (by simp [D0])
 have k1:=hs.get At.head
 have zA:=ho.size
 clear hs
 have hs:=(St.nil w1).AE k1
 refine vs (k:=?_)
 refine Gl hs (k:=?_);clear hs;intro hb w2 AN z2 hs
 refine Ja ?_
 have AS:=hs.AB [] (fun e he => .inr (.inr (hs.hold e he))) (by simp [D0])
 have kh:=hs.get (b:=hb) (by repeat (first | exact At.head | (with_reducible apply At.tail)))
 have EH:=FC.only AN
 have dY:D5 w2 hb ⟨s,[]⟩ (hb :: (F' ++ [])):=⟨sb',F',_,[],rfl,kh,EH,.inl ⟨rfl,rfl,rfl,rfl⟩⟩
 have zB:=Ay.size
 have zC:=AN.size
 have Dp:∀ k∈hb :: (F' ++ []),w0.heap.size≤k:=fun k hk=>by
  simp only [List.append_nil,List.mem_cons] at hk
  rcases hk with rfl | hk
  ·omega
  ·have:=CV k hk;omega
 have Bd:=Ay.trans AN
 refine cl (h:=by exact WA _ Bd hb _ dY Dp) (k:=?_)
 rintro v w3 ⟨rfl,hX,hres,Al⟩
 have m1:sb∉(hb :: (F' ++ [])) ++ E:=fun hm=>by
  rcases List.mem_append.1 hm with q | q
  ·have:=Dp sb q;omega
  ·exact (hE sb q).1 (by simp)
 have j1:=Al.block (hs.get (b:=sb) (by repeat (first | exact At.head | (with_reducible apply At.tail)))) m1
 have Ec:AA (sb :: E) w0 w3:=((Bd.weaken (by simp)).step Al (fun k hk=>by
  rcases List.mem_append.1 hk with q | q
  ·exact .inr (Dp k q)
  ·exact .inl (by simp [q])))
 have zD:=Ec.size
 clear hs
 have zF:Db s l=if l.1=0 then (l.2.ev,l.2.s) else ([],s):=rfl
 obtain ⟨tr,htr⟩:∃ tr,tr=Db s l:=⟨_,rfl⟩
 rw [← htr] at zF
 generalize l.2=s1 at *
 generalize l.1=e at *
 have T0:∀ (ve:Value) (w':World),Dm w0 sb (sb :: tb :: rb :: (G ++ EE L)) E ve s l w'=((∃ G,ZH w' ve (Db s l).1 G)∧(∃ F',CM w' sb (Db s l).2 F'∧∀ k∈F',k∈(sb :: tb :: rb :: (G ++ EE L))∨w0.heap.size≤k)∧AA (sb :: E) w0 w'):=fun _ _=>rfl
 simp only [T0]
 by_cases he:e=0
 ·subst he
  obtain ⟨F3,W8,MX⟩:=hres rfl
  have nR:∀ k∈F3,w0.heap.size≤k:=fun k hk=>by
   rcases MX k hk with q | q
   ·exact Dp k q
   ·have:=Bd.size;omega
  obtain ⟨xN,vX,xW,v3,ve3,L3,G3,Ge3,rfl,HM⟩:=W8.E4
  have wR:=HM.h
  have xU:=HM.s.o
  have n3:xN≠sb:=by have:=nR xN (by simp [CA]);omega
  obtain ⟨ae,ce,rfl⟩:=BO HM.e
  obtain ⟨a3,c3,rfl⟩:=BO HM.s.c.a
  have wR:=HM.h
  have xU:=HM.s.o
  have hs:=(((St.nil w3).AE j1).AG xU (by simpa using n3)).AE wR
  repeat' (first|refine Sd ?_|(refine AU hs (k:=?_);intro w hs)|fail)
  refine AF ?_
  have Ak:AA [sb] w3 _:=hs.AB [sb] (by simp [xU,wR]) (by simp [D0])
  have hd:∀ k∈CA hb xN vX xW L3 G3 Ge3,k∉[sb]:=fun k hk hm=>by
   obtain rfl:=List.mem_singleton.1 hm
   have:=nR _ hk;omega
  have et:Db s l=(s1.ev,s1.s):=by rw [← htr,zF];exact if_pos rfl
  have oL:∀ k∈sb :: vX :: xW :: (G3 ++ EE L3),k∈sb :: tb :: rb :: (G ++ EE L)∨w0.heap.size≤k:=fun k hk=>by
   rcases List.mem_cons.1 hk with rfl | hk
   ·exact .inl (by simp)
   ·exact .inr (nR k (by simp only [CA,List.mem_cons,List.mem_append] at hk ⊢;exact .inr (.inl (.inr hk))))
  have Te:=HM.s
  refine ⟨_,rfl,hQ _ _ _ hX Ak (fun k hk hm=>by obtain rfl:=List.mem_singleton.1 hm;exact (hE _ hk).1 (by simp)),?_,?_,Ec.step Ak (fun k hk => .inl (by obtain rfl:=List.mem_singleton.1 hk;simp))⟩
  ·rw [et]
   exact ⟨Ge3,HM.e.keep Ak (fun k hk=>hd k (by simp [CA,hk]))⟩
  ·rw [et]
   exact ⟨_,⟨vX,xW,_,L3,G3,rfl,hs.get (b:=sb) (by repeat (first | exact At.head | (with_reducible apply At.tail))),Te.t.keep Ak (hd _ (by simp [CA])) (hd _ (by simp [CA])),Te.c.Ae Ak (fun k hk=>hd k (by simp only [CA,List.mem_cons,List.mem_append] at hk ⊢;exact .inr (.inl (.inr (.inr (.inr hk)))))),Te.ok⟩,oL⟩
 ·have hs:=(St.nil w3).AE j1
  have et:Db s l=([],s):=by rw [← htr,zF];exact if_neg he
  repeat' (first|refine Sa ?_|refine xc_cond rfl (fun hc=>?_) fun hc=>?_|fail)
  ·refine AF ?_
   have Ak:=hs.AB [] (by simp [j1]) (by simp [D0])
   refine ⟨_,rfl,hQ _ _ _ hX Ak (by simp),?_,?_,Ec.step Ak (by simp)⟩
   ·rw [et];exact ⟨[],.inl ⟨rfl,rfl,rfl,rfl⟩⟩
   ·rw [et]
    refine ⟨_,((hS.only Bd).Ae Al (fun k hk hm=>?_)).only Ak,fun k hk => .inl hk⟩
    rcases List.mem_append.1 hm with q | q
    ·have:=Dp k q
     have:=hS.lt k hk
     omega
    ·exact (hE k q).1 hk
  ·exact absurd (by simpa using hc) he
def QK (w:World) (E:List Nat) (fid:Nat) (caps:List Value) (Qx:World→Prop) (f:Ch→Tk→Int × Ch) (s:Sy) (id:Int):Prop :=
 ∀ hb F,D5 w hb ⟨s,[]⟩ F→(∀ k∈F,k∉E)→Eb (BU s.t id)=0 →
  AM Tryz.prog fid (.pointer (some ⟨hb,0,none⟩) :: KT (Bi s.t id) :: caps).toArray w fun v w'=>v = .int .i64 (f ⟨s,[]⟩ (Bi s.t id)).1∧Jt w hb (f ⟨s,[]⟩ (Bi s.t id)).1 (f ⟨s,[]⟩ (Bi s.t id)).2 F w'
theorem iW (b1 b2:Nat) (id:Int) (fid:Nat) (caps:List Value) (s:Sy) (fu:Ch→Tk→Int × Ch) (wb w0:World) (hid:In64 id) (hw0:AA [] wb w0) (B1:wb.heap[b1]?=some (.cells #[.int .i64 id] 3 (0,0))) (B2:wb.heap[b2]?=some (.cells #[.func (.func fid) #[] caps.toArray] 139 (0,0)))
 (WA:∀ w,AA [] wb w→QK w (List.range wb.heap.size) fid caps (fun _=>True) fu s id) :
 oX wb w0 99 [.pointer (some ⟨b1,0,none⟩),.pointer (some ⟨b2,0,none⟩)] [] (fun _=>True) s (CJ ⟨s,[]⟩ id fu):=by
 intro hb F hC hF
 have Es:=hC
 obtain ⟨sb,tb,rb,v,ve,L,G,Ge,rfl,hO⟩:=hC.E4
 have oh:=hO.h
 have os:=hO.s.o
 have pK:=hw0.block B1 (by simp)
 have pM:=hw0.block B2 (by simp)
 have eW:CJ ⟨s,[]⟩ id fu=if Eb (BU s.t id)≠0 then (Eb (BU s.t id),⟨s,[]⟩) else fu ⟨s,[]⟩ (Bi s.t id):=rfl
 rw [eW]
 generalize hq:Bi s.t id=q
 have hs:=((((St.nil w0).AE os).AE oh).AE pK).AE pM
 refine AQ Tryz.func99 Tryz.ntmps99 (k:=?_)
 refine Ja ?_
 refine dr [] hs (k:=?_);intro hX w hs
 refine tks 0 8 ?_
 refine GY 12 5 hs (k:=?_);intro f X w hp;have hs:=hp.st
 apply BG 8 12 (f:=f) (X:=X) hX hp;exact rfl;exact rfl;(apply AR AI;exact rfl);kernel_rfl;kernel_rfl;kernel_rfl;kernel_rfl;(intro X Y;(repeat (first | exact A4 | refine A3 ?_ (by exact rfl))));(intro w' hs;first|exact AH hs.hold|exact AH hs.hold.tail|exact A8 rfl);intro f X w hp;have hs:=hp.st
 have ho:=hs.AB [] (by simp [oh,os,pK,pM]) (by simp [D0])
 refine cl (h:=by exact Td tb rb s.t id _ (hO.s.t.only ho) hid) (k:=?_)
 rw [hq]
 rintro v w' ⟨rfl,ho⟩;replace hp:=hp.only ho;replace hs:=hp.st;refine Jb ?_
 refine dn (k:=?_)
 refine tk 9 hX (hc:=by cases f <;> kernel_rfl) (k:=?_)
 refine tk 10 hX (hc:=by cases f <;> kernel_rfl) (k:=?_)
 refine tk 11 hX (hc:=by cases f <;> kernel_rfl) (k:=?_)
 apply B9 12 (f:=f) (X:=X) hX hp;exact rfl;(apply AR AI;exact rfl);kernel_rfl;kernel_rfl;(intro X Y;(repeat (first | exact A4 | refine A3 ?_ (by exact rfl))));(intro w' hs;first|exact AH hs.hold|exact AH hs.hold.tail|exact A8 rfl);intro b w hI hs
 refine dt 13 hX (k:=?_)
 repeat' (first|refine Nx.h ?_|(refine AU hs (k:=?_);intro w hs)|fail)
 refine dn (k:=?_)
 refine tk 14 hX (k:=?_)
 refine en (k:=?_)
 by_cases he:Eb (BU s.t id)=0
 ·rw [he,if_neg (by simp)]
  refine Jd ?_
  have hoq:=hs.AB [] (by simp [oh,os,pK,pM]) (by simp [D0])
  have:=WA _ (hw0.trans hoq) hb _ (Es.only hoq) (fun k hk hm=>by have:=hF k hk;have:=List.mem_range.1 hm;omega) he
  rw [hq] at this
  refine cl (h:=by exact this) (k:=?_)
  rintro v5 w5 ⟨rfl,hL,BJ⟩
  have hz:=hoq.size
  clear hs
  have hs:=St.nil w5
  refine Jc ?_
  refine AF ?_
  have Ak:=hs.AD rfl
  refine ⟨rfl,trivial,fun e0=>?_,((hoq.weaken (by simp)).step BJ (fun k hk => .inl (by simpa using hk))).step Ak (by simp)⟩
  obtain ⟨F',h1,h2⟩:=hL e0
  exact ⟨F',h1.only Ak,fun k hk=>by
   rcases h2 k hk with q | q
   ·exact .inl q
   ·exact .inr om⟩
 ·rw [if_pos he]
  generalize Eb (BU s.t id)=e at *
  repeat' (first|refine Sa ?_|refine xc_cond rfl (fun hc=>?_) fun hc=>?_|fail)
  ·refine AF ?_
   have Ak:=hs.AB [] (by simp [oh,os,pK,pM]) (by simp [D0])
   exact ⟨rfl,trivial,fun z=>absurd z he,Ak.weaken (by simp)⟩
  ·exact absurd (by simpa using hc) he
theorem I6 (sb:Nat) (s:Sy) (F:List Nat) (id:Int) (fid:Nat) (caps:List Value) (f:Ch→Tk→Int × Ch) (w0:World) (h:CM w0 sb s F) (hid:In64 id)
 (WA:∀ wb w,AA [] w0 wb→AA [] wb w→QK w (List.range wb.heap.size) fid caps (fun _=>True) f s id) :
 AM Tryz.prog 64 #[.pointer (some ⟨sb,0,none⟩),.int .i64 id,.func (.func fid) #[] caps.toArray] w0 fun v w'=>∃ ve,v = .tuple #[ve,.int .i64 (CJ ⟨s,[]⟩ id f).1]∧Dm w0 sb F [] ve s (CJ ⟨s,[]⟩ id f) w':=by
 have hs:=St.nil w0
 refine AQ Tryz.func64 Tryz.ntmps64 (k:=?_)
 refine Ag ?_
 refine Aq ?_
 refine Gl hs (k:=?_);clear hs;intro b4 w1 AJ z1 hs
 refine Gl hs (k:=?_);clear hs;intro b5 w2 AN z2 hs
 refine Ja ?_
 have Ay:=AJ.trans AN
 have k4:=hs.get (b:=b4) (by repeat (first | exact At.head | (with_reducible apply At.tail)))
 have k5:=hs.get (b:=b5) (by repeat (first | exact At.head | (with_reducible apply At.tail)))
 refine cl (h:=by exact Qw sb s F _ (h.only Ay) 99 [.pointer (some ⟨b4,0,none⟩),.pointer (some ⟨b5,0,none⟩)] [] (fun _=>True) (CJ ⟨s,[]⟩ id f) (fun _ _ _ _ _ _=>trivial) (by simp) (fun w hw=>iW b4 b5 id fid caps s f _ w hid hw k4 k5 (fun w' hw'=>WA _ w' Ay hw'))) (k:=?_)
 rintro v w3 ⟨ve,rfl,_,⟨Gt,oN⟩,⟨F',xS,CV⟩,AS⟩
 obtain ⟨ae,ce,rfl⟩:=BO oN
 have zA:=Ay.size
 clear hs
 have hs:=St.nil w3
 refine Jc ?_
 refine AF ?_
 have Al:=hs.AD rfl
 exact ⟨_,rfl,⟨Gt,oN.keep Al (by simp)⟩,⟨F',xS.only Al,fun k hk=>by
  rcases CV k hk with q | q
  ·exact .inl q
  ·exact .inr om⟩,((Ay.weaken (by simp)).step AS (fun k hk => .inl hk)).step Al (by simp)⟩
theorem CU.Im {w w':World} {hb sb tb rb:Nat} {v ve:Value} {s:Ch} {L:List Ce} {G Ge:List Nat} (h:CU w hb sb tb rb v ve s L G Ge) {t:List Tk} (ht:DL w' tb rb t) (ho:AA [rb] w w') (hok:EG { s.s with t:=t }):CU w' hb sb tb rb v ve ⟨{ s.s with t:=t },s.ev⟩ L G Ge:=by
 obtain ⟨cap,rest,a1,a2,_⟩:=h.s.t
 exact ⟨ho.block h.h (by simpa using A0 h.h a2 (by decide)),h.s.rows ht ho hok,h.e.keep ho fun k hk hm=>by obtain rfl:=List.mem_singleton.1 hm;exact BM h.e a2 (by decide) hk⟩
theorem St.Hx {wb w:World} {D:Ctx} {b4:Nat} {o:Obj} {nw:Bool} {H:List Bp} (h:St wb D ((b4,o,nw) :: H) w) {b:Nat} {cs:Array Value} {ty:Nat} {fz:Nat × Nat} (hne:b4≠b) (hb:w.heap[b]?=some (.cells cs ty fz)) (hn:(H.all fun e=>T3 ty e.2.1)=true:=by rfl):b∉((b4,o,nw) :: H).map (·.1):=fun hm=>by
 rcases List.mem_cons.1 hm with q | q
 ·exact hne q.symm
 ·obtain ⟨e,he,rfl⟩:=List.mem_map.1 q
  have h1:=List.all_eq_true.1 hn e he
  have h2:=h.at_ e (List.mem_cons_of_mem _ he)
  rw [hb] at h2
  rw [← Option.some.inj h2] at h1
  simp [T3] at h1
theorem QK.of {w:World} {E:List Nat} {fid:Nat} {caps:List Value} {f:Ch→Tk→Int × Ch} {s:Sy} {id:Int} (h:∀ hb F,D5 w hb ⟨s,[]⟩ F→Eb (BU s.t id)=0→CN s.cf.cores (Bi s.t id)→(Bi s.t id).st≠0 →
 AM Tryz.prog fid (.pointer (some ⟨hb,0,none⟩) :: KT (Bi s.t id) :: caps).toArray w fun v w'=>v = .int .i64 (f ⟨s,[]⟩ (Bi s.t id)).1∧Jt w hb (f ⟨s,[]⟩ (Bi s.t id)).1 (f ⟨s,[]⟩ (Bi s.t id)).2 F w'):QK w E fid caps (fun _=>True) f s id:=fun hb F hC _ he=>by
 obtain ⟨sb,tb,rb,v,ve,L,G,Ge,rfl,hO⟩:=hC.E4
 exact h hb _ hC he (ok_task hO.s.ok.row id) (task_st he)
theorem jF (b2 hb:Nat) (s:Sy) (F:List Nat) (x:Tk) (id:Int) (w0:World) (h:D5 w0 hb ⟨s,[]⟩ F) (hid:In64 id) (B2:w0.heap[b2]?=some (.cells #[.int .i64 id] 3 (0,0))) (hx:CN s.cf.cores x) (hn:x.st≠0) :
 AM Tryz.prog 65 #[.pointer (some ⟨hb,0,none⟩),KT x,.pointer (some ⟨b2,0,none⟩)] w0 fun v w'=>v = .int .i64 (Gd ⟨s,[]⟩ x id).1∧Jt w0 hb (Gd ⟨s,[]⟩ x id).1 (Gd ⟨s,[]⟩ x id).2 F w':=by
 have Es:=h
 have eX:Gd ⟨s,[]⟩ x id=(Eb (BU (if BP x=true then (B0 ⟨s,[]⟩ x).2 else ⟨s,[]⟩).s.t id),⟨{ (if BP x=true then (B0 ⟨s,[]⟩ x).2 else ⟨s,[]⟩).s with t:=FG (if BP x=true then (B0 ⟨s,[]⟩ x).2 else ⟨s,[]⟩).s.t id },(if BP x=true then (B0 ⟨s,[]⟩ x).2 else ⟨s,[]⟩).ev⟩):=rfl
 rw [eX]
 have hs:=(St.nil w0).AE B2
 refine AQ Tryz.func65 Tryz.ntmps65 (k:=?_)
 refine Ag ?_
 refine Aq ?_
 refine Gl hs (k:=?_);clear hs;intro b4 w1 AJ z1 hs
 refine Ja ?_
 refine cl (h:=by exact Iz x _) (k:=?_)
 rintro v w2 ⟨rfl,AN⟩
 replace hs:=hs.JD AN
 have Ay:=AJ.trans AN
 have zA:=Ay.size
 refine XS.nil ?_
 refine Dt ?_
 generalize FC:(if BP x=true then (B0 ⟨s,[]⟩ x).2 else (⟨s,[]⟩:Ch))=S1
 refine B8 (fun (_:List Nat)=>[(0,.pointer (some ⟨hb,0,none⟩)),(2,.pointer (some ⟨b2,0,none⟩))]) (fun F1 w=>w.heap[b2]?=some (.cells #[.int .i64 id] 3 (0,0))∧D5 w hb S1 F1∧(∀ k∈F1,k∈F∨w0.heap.size≤k)∧AA F w0 w) ?_ ?_
 ·cases hc:BP x with
  | false =>
    rw [hc,if_neg (by simp)] at FC
    subst FC
    refine Jg ?_
    exact AP F Aa ⟨hs.get (b:=b2) (by repeat (first | exact At.head | (with_reducible apply At.tail))),Es.only Ay,fun k hk => .inl hk,Ay.weaken (by simp)⟩
  | true =>
    rw [hc,if_pos rfl] at FC
    subst FC
    refine Ji ?_
    refine cl (h:=by exact RV hb ⟨s,[]⟩ F x _ (Es.only Ay) hx hn (by simp)) (k:=?_)
    rintro v w3 ⟨rfl,F3,W8,MX,AS⟩
    have k2:=AS.block (hs.get (b:=b2) (by repeat (first | exact At.head | (with_reducible apply At.tail)))) ((Es.only Ay).not (hs.get (b:=b2) (by repeat (first | exact At.head | (with_reducible apply At.tail)))) rfl)
    clear hs
    have hs:=St.nil w3
    refine Jb ?_
    exact AP F3 Aa ⟨k2,W8,fun k hk=>by
     rcases MX k hk with q | q
     ·exact .inl q
     ·exact .inr om,(Ay.weaken (by simp)).step AS (fun k hk => .inl hk)⟩
 ·rintro F1 env w4 ⟨k2,Y1,oL,Al⟩
  obtain ⟨sb,tb,rb,v,ve,L,G,Ge,rfl,hO⟩:=Y1.E4
  clear hs
  have hs:=((St.nil w4).AE k2).AE hO.s.o |>.AE hO.h
  refine Jb ?_
  refine IG [] hs (k:=?_);clear hs;intro hX w CF hs
  replace hO:=hO.only CF
  refine tks 0 8 ?_
  refine dt 8 hX (k:=?_)
  refine cl (h:=by exact UF tb rb S1.s.t id _ hO.s.t hid) (k:=?_)
  rintro v12 w12 ⟨rfl,FN,Bq⟩
  have IF:=hO.s.t
  obtain ⟨Jw,IA,ME,EY,_⟩:=IF
  replace hs:=hs.Df Bq (fun k hk=>by obtain rfl:=List.mem_singleton.1 hk;exact hs.EX EY)
  have KL:=hO.Im FN Bq (hO.s.ok.rows (XR hO.s.ok.row _) (Tu _ _))
  have zD:=CF.size
  have z4:=Al.size
  refine XS.nil ?_
  refine dn (k:=?_)
  refine tk 9 hX (k:=?_)
  refine en (k:=?_)
  refine Jb ?_
  refine AF ?_
  have Ak:=hs.AB [] (fun e he => .inr (.inr (hs.hold e he))) (by simp [D0])
  exact ⟨rfl,fun _=>⟨_,KL.at,oL⟩,((Al.step CF (by simp)).step Bq (fun k hk=>by
   obtain rfl:=List.mem_singleton.1 hk
   exact oL _ (by simp [CA])))⟩
theorem CU.Ek {w w':World} {hb sb tb rb:Nat} {v ve:Value} {s:Ch} {L:List Ce} {G Ge:List Nat} (h:CU w hb sb tb rb v ve s L G Ge) {b:Nat} {cs:Array Value} {fz:Nat × Nat} (ho:AA [b] w w') (hb':w.heap[b]?=some (.cells cs 51 fz)) (hne:b≠rb):CU w' hb sb tb rb v ve s L G Ge:=by
 have hn:=h.wZ hb' hne
 have hd:∀ k∈CA hb sb tb rb L G Ge,k∉[b]:=fun k hk hm=>by obtain rfl:=List.mem_singleton.1 hm;exact hn hk
 exact ⟨ho.block h.h (hd _ (by simp [CA])),h.s.Ae ho (fun k hk=>hd k (by simp only [CA,List.mem_cons,List.mem_append] at hk ⊢;exact .inr (.inl hk))),h.e.keep ho (fun k hk=>hd k (by simp [CA,hk]))⟩
theorem YR (b2 b3 hb:Nat) (s:Sy) (F:List Nat) (x:Tk) (id q:Int) (w0:World) (h:D5 w0 hb ⟨s,[]⟩ F) (hid:In64 id) (B2:w0.heap[b2]?=some (.cells #[.int .u64 q] 22 (0,0))) (B3:w0.heap[b3]?=some (.cells #[.int .i64 id] 3 (0,0))) (hx:CN s.cf.cores x) (hn:x.st≠0) :
 AM Tryz.prog 74 #[.pointer (some ⟨hb,0,none⟩),KT x,.pointer (some ⟨b2,0,none⟩),.pointer (some ⟨b3,0,none⟩)] w0 fun v w'=>v = .int .i64 (Du ⟨s,[]⟩ x id q).1∧Jt w0 hb (Du ⟨s,[]⟩ x id q).1 (Du ⟨s,[]⟩ x id q).2 F w':=by
 obtain ⟨sb,tb,rb,v,ve,L,G,Ge,rfl,hO⟩:=h.E4
 have ZA:=hO.s.t.RN.2
 have eX:Du ⟨s,[]⟩ x id q=if BB q 1048576≠0 then (BB q 1048576,⟨s,[]⟩) else if BP x=false then (0,⟨Bv s { x with w:=IntKind.u32.wrap q },[]⟩) else EK ⟨Bv s { x with w:=IntKind.u32.wrap q },[]⟩ x.core ((Bo (AT s x.core) id (IntKind.u32.wrap q)).1,(Bo (AT s x.core) id (IntKind.u32.wrap q)).2,.none):=rfl
 rw [eX]
 have hs:=(((St.nil w0).AE B2).AE B3).AE hO.s.o |>.AE hO.h
 have Aj:AA (CA hb sb tb rb L G Ge) w0 w0:=(AA.refl [] w0).weaken (by simp)
 refine AQ Tryz.func74 Tryz.ntmps74 (k:=?_)
 refine Ag ?_
 refine Aq ?_
 refine Gl hs (k:=?_);clear hs;intro b5 w1 AJ z1 hs
 replace hO:=hO.only AJ
 replace Aj:=Aj.step AJ (by simp)
 have Fo:b5≠rb:=by omega
 refine Jc ?_
 refine IG [] hs (k:=?_);clear hs;intro hX w CF hs
 replace hO:=hO.only CF
 replace Aj:=Aj.step CF (by simp)
 refine tks 0 8 ?_
 refine dt 8 hX (k:=?_)
 refine cl (h:=by exact O5 s.cf q _) (k:=?_)
 rintro v2 w2 ⟨rfl,AN⟩
 replace hs:=hs.JD AN
 replace hO:=hO.only AN
 replace Aj:=Aj.step AN (by simp)
 refine XS.nil ?_
 refine dn (k:=?_)
 refine tk 9 hX (k:=?_)
 refine en (k:=?_)
 by_cases he:BB q 1048576≠0
 ·rw [if_pos he]
  generalize BB q 1048576=ee at *
  repeat' (first|refine Sa ?_|(refine st hs (k:=?_);intro w hs)|refine xc_cond rfl (fun hc=>?_) fun hc=>?_|fail)
  ·refine AF ?_
   exact ⟨rfl,fun z=>absurd z he,Aj.step (hs.AB [] (fun e he => .inr (.inr (hs.hold e he))) (by simp [D0])) (by simp)⟩
  ·exact absurd (by simpa using hc) he
 have jE:BB q 1048576=0:=by
  rcases Classical.em (BB q 1048576=0) with z | z
  ·exact z
  ·exact absurd z he
 rw [if_neg he,jE]
 have hy:CN s.cf.cores { x with w:=IntKind.u32.wrap q }:=⟨hx.1,hx.2.1,hx.2.2.1,M7 _,hx.2.2.2.2⟩
 have iS:({ x with w:=IntKind.u32.wrap q }:Tk).st≠0:=hn
 have iB:BP { x with w:=IntKind.u32.wrap q }=BP x:=rfl
 have oA:({ x with w:=IntKind.u32.wrap q }:Tk).core=x.core:=rfl
 have hwu:FW (IntKind.u32.wrap q):=M7 _
 have z2:=Aj.size
 have hH:=hs.hold
 have EL:=hs.get At.head
 repeat' (first|refine Sd ?_|(refine st hs (k:=?_);intro w hs)|fail)
 have AS:=hs.AB [b5] (fun e he=>by
  rcases List.mem_cons.1 he with rfl | he
  ·exact .inr (.inl (by simp))
  ·exact .inr (.inr (hH e (List.mem_cons_of_mem _ he)))) (by simp [D0])
 replace hs:=hs.Eh
 simp only [List.map_cons,List.map_nil] at hs
 replace hO:=hO.Ek AS EL Fo
 replace Aj:=Aj.step AS (fun k hk => .inr (by obtain rfl:=List.mem_singleton.1 hk;omega))
 clear hH EL
 refine IG [] hs (k:=?_);clear hs;intro hX w CF hs
 replace hO:=hO.only CF
 replace Aj:=Aj.step CF (by simp)
 refine tks 0 8 ?_
 refine dt 8 hX (k:=?_)
 refine cl (h:=by exact FQ tb rb _ (({ x with w:=IntKind.u32.wrap q })) _ hO.s.t hy.1) (k:=?_)
 rintro v12 w12 ⟨rfl,FN,Bq⟩
 have IF:=hO.s.t
 obtain ⟨Jw,IA,ME,EY,_⟩:=IF
 replace hs:=hs.Df Bq (fun k hk=>by obtain rfl:=List.mem_singleton.1 hk;exact hs.Hx Fo EY)
 replace hO:=hO.Im FN Bq (hO.s.ok.CK hy)
 replace Aj:=Aj.step Bq (fun k hk => .inl (by obtain rfl:=List.mem_singleton.1 hk;simp [CA]))
 refine XS.nil ?_
 refine dn (k:=?_)
 refine en (k:=?_)
 refine Ja ?_
 refine cl (h:=by exact Iz { x with w:=IntKind.u32.wrap q } _) (k:=?_)
 rintro v13 JU ⟨rfl,LP⟩
 replace hs:=hs.JD LP
 replace hO:=hO.only LP
 replace Aj:=Aj.step LP (by simp)
 rw [iB]
 cases YW:BP x with
 | false =>
   rw [if_pos rfl]
   refine Je ?_
   refine AF ?_
   have Ak:=hs.AB [] (fun e he => .inr (.inr (hs.hold e he))) (by simp [D0])
   exact ⟨rfl,fun _=>⟨_,(hO.only Ak).at,fun k hk => .inl hk⟩,Aj.step Ak (by simp)⟩
 | true =>
   rw [if_neg (by simp)]
   have MN:=hO.place (x:={ x with w:=IntKind.u32.wrap q }) hy iS
   obtain ⟨n,e,g,cap,cur,FT,hlt,he,hC,hce,rfl,hg,FH,Uw,hR,_,_,_,hcb⟩:=MN
   rw [oA] at FT
   have J8:AT s n=e.c:=hce
   rw [FT,J8]
   obtain ⟨xi,xt,xc,xw,C6,xl⟩:=x
   simp only at FT
   subst FT
   simp only at hs
   have k5:=hs.get (b:=b5) (by repeat (first | exact At.head | (with_reducible apply At.tail)))
   have k3:=hs.get (b:=b3) (by repeat (first | exact At.head | (with_reducible apply At.tail)))
   clear hs
   have hs:=((((St.nil JU).AE k3).AE hg).AE hO.s.o).AE hO.h |>.AE k5
   refine Jl ?_
   have Hs:Cd (BR (Bo e.c id (IntKind.u32.wrap q)).1 (Bo e.c id (IntKind.u32.wrap q)).2 .none):=Cd.none.try (Kl hR id _)
   have hkn:=HO (e:=(Bo e.c id (IntKind.u32.wrap q)).1) (r1 := .none) (Kl hR id (IntKind.u32.wrap q))
   have eC:EK ⟨Bv s { id:=xi,st:=xt,core:=n,w:=IntKind.u32.wrap q,slice:=C6,lag:=xl },[]⟩ n ((Bo e.c id (IntKind.u32.wrap q)).1,(Bo e.c id (IntKind.u32.wrap q)).2,.none)=if (Bo e.c id (IntKind.u32.wrap q)).1=0 then (0,BQ ⟨B7 (Bv s { id:=xi,st:=xt,core:=n,w:=IntKind.u32.wrap q,slice:=C6,lag:=xl }) n (Cb e.c (Bo e.c id (IntKind.u32.wrap q)).1 (Bo e.c id (IntKind.u32.wrap q)).2),[]⟩ n (BR (Bo e.c id (IntKind.u32.wrap q)).1 (Bo e.c id (IntKind.u32.wrap q)).2 .none)) else ((Bo e.c id (IntKind.u32.wrap q)).1,⟨Bv s { id:=xi,st:=xt,core:=n,w:=IntKind.u32.wrap q,slice:=C6,lag:=xl },[]⟩):=by rw [← J8];rfl
   rw [eC]
   generalize hrp:BR (Bo e.c id (IntKind.u32.wrap q)).1 (Bo e.c id (IntKind.u32.wrap q)).2 .none=rp at Hs hkn
   refine B8 (fun (y:Nat × Value × Value × List Ce)=>[(0,.pointer (some ⟨hb,0,none⟩)),(5,.pointer (some ⟨b5,0,none⟩)),(8,.pointer (some ⟨y.1,0,none⟩)),(9,.int .i64 (Bo e.c id (IntKind.u32.wrap q)).1)])
    (fun y w=>w.heap[b5]?=some (NV { id:=xi,st:=xt,core:=n,w:=IntKind.u32.wrap q,slice:=C6,lag:=xl })∧w.heap[y.1]?=some (K2 y.2.1 y.2.2.1)∧Af JU w hb sb tb rb (.slice (some ⟨g,0,none⟩) L.length cap) ve ⟨B7 (Bv s { id:=xi,st:=xt,core:=n,w:=IntKind.u32.wrap q,slice:=C6,lag:=xl }) n (Cb e.c (Bo e.c id (IntKind.u32.wrap q)).1 (Bo e.c id (IntKind.u32.wrap q)).2),[]⟩ L y.2.2.2 G Ge (.agg #[y.2.1,y.2.2.1]) rp) ?_ ?_
   ·skip
    refine IG [] hs (k:=?_);clear hs;intro hX w Aw hs
    refine tks 0 9 ?_
    refine tk 9 hX (hr:=fun w' hH=>BE AI rfl rfl rfl (by show (0:Int)≤(n:Int);omega) (by show (n:Int) < _;omega)) (k:=?_)
    refine tk 10 hX (hr:=fun w' hH=>r_load AI rfl rfl (hH rfl) (by repeat (first | exact At.head | (with_reducible apply At.tail))) (by simpa using FH)) (k:=?_)
    refine tks 11 3 ?_
    refine Gu 14 18 hX (h1:=?_) (h2:=?_)
    ·skip
     refine cl (h:=by exact SP e.cb e.c e.F id (IntKind.u32.wrap q) _ (hC.only Aw) hid hwu) (k:=?_)
     rintro v1 w2 ⟨rv,rfl,T⟩
     have hf:=T.form
     rw [hrp] at hf
     obtain ⟨ag,cg,ap,cp,rfl⟩:=hf
     obtain ⟨L',hA⟩:=CT (hO.only Aw) he T Aw
     rw [hrp] at hA
     replace hs:=hs.Df T.2.2 (fun k hk=>by obtain rfl:=List.mem_singleton.1 hk;exact hs.EX (Aw.block hcb (by simp)))
     refine XS.nil ?_
     refine dn (k:=?_)
     refine tks 15 3 ?_
     refine dt 18 hX (k:=?_)
     refine FA hs (k:=?_);clear hs;intro b6 w6 Ak z6 hs
     have y6:(JU).heap.size≤b6:=Nat.le_trans (AA.size hA.o) z6
     replace hA:=hA.keep Ak
     refine XS.nil ?_
     refine dn (k:=?_)
     refine dt 19 hX (k:=?_)
     have q6:=hs.get (b:=b6) (by repeat (first | exact At.head | (with_reducible apply At.tail)))
     refine DQ hs (k:=?_);clear hs;intro Il Ck hs
     replace hA:=hA.store Ck q6 rfl (by decide) (by decide) y6
     refine XS.nil ?_
     refine dn (k:=?_)
     refine tk 20 hX (k:=?_)
     refine en (k:=?_)
     have r3:=hs.get (b:=b5) (by repeat (first | exact At.head | (with_reducible apply At.tail)))
     have r6:=hs.get (b:=b6) (by repeat (first | exact At.head | (with_reducible apply At.tail)))
     exact AP (b6,.slice ag rp.g.length cg,.slice ap rp.p.length cp,L') Aa ⟨r3,r6,hA⟩
    ·skip
     refine FA hs (k:=?_);clear hs;intro b6 w6 Ak z6 hs
     have y6:(JU).heap.size≤b6:=Nat.le_trans (AA.size Aw) z6
     replace Aw:=Aw.trans Ak
     refine XS.nil ?_
     refine dn (k:=?_)
     refine dt 14 hX (k:=?_)
     refine cl (h:=by exact SP e.cb e.c e.F id (IntKind.u32.wrap q) _ (hC.only Aw) hid hwu) (k:=?_)
     rintro v1 w2 ⟨rv,rfl,T⟩
     have hf:=T.form
     rw [hrp] at hf
     obtain ⟨ag,cg,ap,cp,rfl⟩:=hf
     obtain ⟨L',hA⟩:=CT (hO.only Aw) he T Aw
     rw [hrp] at hA
     replace hs:=hs.Df T.2.2 (fun k hk=>by obtain rfl:=List.mem_singleton.1 hk;exact hs.EX (Aw.block hcb (by simp)))
     refine XS.nil ?_
     refine dn (k:=?_)
     refine tks 15 3 ?_
     refine dt 19 hX (k:=?_)
     have q6:=hs.get (b:=b6) (by repeat (first | exact At.head | (with_reducible apply At.tail)))
     refine DQ hs (k:=?_);clear hs;intro Il Ck hs
     replace hA:=hA.store Ck q6 rfl (by decide) (by decide) y6
     refine XS.nil ?_
     refine dn (k:=?_)
     refine tk 20 hX (k:=?_)
     refine en (k:=?_)
     have r3:=hs.get (b:=b5) (by repeat (first | exact At.head | (with_reducible apply At.tail)))
     have r6:=hs.get (b:=b6) (by repeat (first | exact At.head | (with_reducible apply At.tail)))
     exact AP (b6,.slice ag rp.g.length cg,.slice ap rp.p.length cp,L') Aa ⟨r3,r6,hA⟩
   ·skip
    rintro ⟨b6,vg,vp,L'⟩ env Me ⟨k3,k6,hA⟩
    simp only at k6 hA
    clear hs
    have L6:=hA.c.h
    have hs:=(((St.nil Me).AE k3).AE k6).AE L6
    have Ws:=hA.p
    obtain ⟨_,_,_,_,Hv,_,_⟩:=hA.p
    cases Hv
    have qA:=Aj.size
    generalize (Bo e.c id (IntKind.u32.wrap q))=J at *
    by_cases hJ:J.1=0
    ·rw [if_pos hJ]
     rw [hJ] at hA ⊢
     refine Je ?_
     have hoq:=hs.AB [] (by simp [k3,k6,L6]) (by simp [D0])
     refine cl (h:=by exact Fw hb _ _ n _ rp _ (hA.c.only hoq).at (Ws.FY hoq (by simp)) Hs (by have:=hkn.1;have:=hkn.2;have e1:Rp.none.p.length=0:=rfl;have e2:Rp.none.g.length=0:=rfl;have e3:([]:List Ev).length=0:=rfl;simp only at *;omega)) (k:=?_)
     rintro v25 w25 ⟨oZ,NL,NW,Jo⟩
     have OB:=hA.o.size
     have E3:=Aj.step ((hA.o.step hoq (by simp)).step Jo hA.f) (fun k hk => .inl hk)
     have M5:=IY hA.f NW (show (JU).heap.size≤_ by omega)
     clear hs
     have hs:=St.nil w25
     refine Ja ?_
     refine AF ?_
     have Cn:=hs.AD rfl
     exact ⟨rfl,fun _=>⟨_,NL.only Cn,fun k hk=>by
      rcases M5 k hk with q | q
      ·exact .inl q
      ·exact .inr om⟩,E3.step Cn (by simp)⟩
    ·rw [if_neg hJ]
     repeat' (first|refine Sa ?_|refine Av rfl (fun hc=>?_) fun hc=>?_|fail)
     ·exact absurd (by simpa using hc) hJ
     ·refine AF ?_
      have Cn:=hs.AB [] (by simp [k3,k6,L6]) (by simp [D0])
      exact ⟨rfl,fun q=>absurd q hJ,(Aj.step (hA.o.step Cn (by simp)) (fun k hk => .inl hk))⟩
theorem YH (b2 b3 hb:Nat) (s:Sy) (F:List Nat) (x:Tk) (id q:Int) (w0:World) (h:D5 w0 hb ⟨s,[]⟩ F) (hid:In64 id) (hq:BV q) (B2:w0.heap[b2]?=some (.cells #[.int .u64 q] 22 (0,0))) (B3:w0.heap[b3]?=some (.cells #[.int .i64 id] 3 (0,0))) (hx:CN s.cf.cores x) (hn:x.st≠0) :
 AM Tryz.prog 76 #[.pointer (some ⟨hb,0,none⟩),KT x,.pointer (some ⟨b2,0,none⟩),.pointer (some ⟨b3,0,none⟩)] w0 fun v w'=>v = .int .i64 (El ⟨s,[]⟩ x id q).1∧Jt w0 hb (El ⟨s,[]⟩ x id q).1 (El ⟨s,[]⟩ x id q).2 F w':=by
 obtain ⟨sb,tb,rb,v,ve,L,G,Ge,rfl,hO⟩:=h.E4
 have ZA:=hO.s.t.RN.2
 have eX:El ⟨s,[]⟩ x id q=if BB q (Dd s.cf.slice)≠0 then (BB q (Dd s.cf.slice),⟨s,[]⟩) else if BP x=false then (0,⟨Bv s { x with slice:=q },[]⟩) else EK ⟨Bv s { x with slice:=q },[]⟩ x.core ((Bn (AT s x.core) id q).1,(Bn (AT s x.core) id q).2,.none):=rfl
 rw [eX]
 have hs:=(((St.nil w0).AE B2).AE B3).AE hO.s.o |>.AE hO.h
 have Aj:AA (CA hb sb tb rb L G Ge) w0 w0:=(AA.refl [] w0).weaken (by simp)
 refine AQ Tryz.func76 Tryz.ntmps76 (k:=?_)
 refine Ag ?_
 refine Aq ?_
 refine Gl hs (k:=?_);clear hs;intro b5 w1 AJ z1 hs
 replace hO:=hO.only AJ
 replace Aj:=Aj.step AJ (by simp)
 have Fo:b5≠rb:=by omega
 refine Jc ?_
 refine IG [] hs (k:=?_);clear hs;intro hX w CF hs
 replace hO:=hO.only CF
 replace Aj:=Aj.step CF (by simp)
 refine tks 0 8 ?_
 refine dt 8 hX (k:=?_)
 refine cl (h:=by exact Nl s.cf q _) (k:=?_)
 rintro v2 w2 ⟨rfl,AN⟩
 replace hs:=hs.JD AN
 replace hO:=hO.only AN
 replace Aj:=Aj.step AN (by simp)
 refine XS.nil ?_
 refine dn (k:=?_)
 refine tk 9 hX (k:=?_)
 refine en (k:=?_)
 by_cases he:BB q (Dd s.cf.slice)≠0
 ·rw [if_pos he]
  generalize BB q (Dd s.cf.slice)=ee at *
  repeat' (first|refine Sa ?_|(refine st hs (k:=?_);intro w hs)|refine xc_cond rfl (fun hc=>?_) fun hc=>?_|fail)
  ·refine AF ?_
   exact ⟨rfl,fun z=>absurd z he,Aj.step (hs.AB [] (fun e he => .inr (.inr (hs.hold e he))) (by simp [D0])) (by simp)⟩
  ·exact absurd (by simpa using hc) he
 have jE:BB q (Dd s.cf.slice)=0:=by
  rcases Classical.em (BB q (Dd s.cf.slice)=0) with z | z
  ·exact z
  ·exact absurd z he
 rw [if_neg he,jE]
 have hy:CN s.cf.cores { x with slice:=q }:=⟨hx.1,hx.2.1,hx.2.2.1,hx.2.2.2.1,hq,hx.2.2.2.2.2⟩
 have iS:({ x with slice:=q }:Tk).st≠0:=hn
 have iB:BP { x with slice:=q }=BP x:=rfl
 have oA:({ x with slice:=q }:Tk).core=x.core:=rfl
 have z2:=Aj.size
 have hH:=hs.hold
 have EL:=hs.get At.head
 repeat' (first|refine Sd ?_|(refine st hs (k:=?_);intro w hs)|fail)
 have AS:=hs.AB [b5] (fun e he=>by
  rcases List.mem_cons.1 he with rfl | he
  ·exact .inr (.inl (by simp))
  ·exact .inr (.inr (hH e (List.mem_cons_of_mem _ he)))) (by simp [D0])
 replace hs:=hs.Eh
 simp only [List.map_cons,List.map_nil] at hs
 replace hO:=hO.Ek AS EL Fo
 replace Aj:=Aj.step AS (fun k hk => .inr (by obtain rfl:=List.mem_singleton.1 hk;omega))
 clear hH EL
 refine IG [] hs (k:=?_);clear hs;intro hX w CF hs
 replace hO:=hO.only CF
 replace Aj:=Aj.step CF (by simp)
 refine tks 0 8 ?_
 refine dt 8 hX (k:=?_)
 refine cl (h:=by exact FQ tb rb _ (({ x with slice:=q })) _ hO.s.t hy.1) (k:=?_)
 rintro v12 w12 ⟨rfl,FN,Bq⟩
 have IF:=hO.s.t
 obtain ⟨Jw,IA,ME,EY,_⟩:=IF
 replace hs:=hs.Df Bq (fun k hk=>by obtain rfl:=List.mem_singleton.1 hk;exact hs.Hx Fo EY)
 replace hO:=hO.Im FN Bq (hO.s.ok.CK hy)
 replace Aj:=Aj.step Bq (fun k hk => .inl (by obtain rfl:=List.mem_singleton.1 hk;simp [CA]))
 refine XS.nil ?_
 refine dn (k:=?_)
 refine en (k:=?_)
 refine Ja ?_
 refine cl (h:=by exact Iz { x with slice:=q } _) (k:=?_)
 rintro v13 JU ⟨rfl,LP⟩
 replace hs:=hs.JD LP
 replace hO:=hO.only LP
 replace Aj:=Aj.step LP (by simp)
 rw [iB]
 cases YW:BP x with
 | false =>
   rw [if_pos rfl]
   refine Je ?_
   refine AF ?_
   have Ak:=hs.AB [] (fun e he => .inr (.inr (hs.hold e he))) (by simp [D0])
   exact ⟨rfl,fun _=>⟨_,(hO.only Ak).at,fun k hk => .inl hk⟩,Aj.step Ak (by simp)⟩
 | true =>
   rw [if_neg (by simp)]
   have MN:=hO.place (x:={ x with slice:=q }) hy iS
   obtain ⟨n,e,g,cap,cur,FT,hlt,he,hC,hce,rfl,hg,FH,Uw,hR,_,_,_,hcb⟩:=MN
   rw [oA] at FT
   have J8:AT s n=e.c:=hce
   rw [FT,J8]
   obtain ⟨xi,xt,xc,xw,C6,xl⟩:=x
   simp only at FT
   subst FT
   simp only at hs
   have k5:=hs.get (b:=b5) (by repeat (first | exact At.head | (with_reducible apply At.tail)))
   have k3:=hs.get (b:=b3) (by repeat (first | exact At.head | (with_reducible apply At.tail)))
   have k2:=hs.get (b:=b2) (by repeat (first | exact At.head | (with_reducible apply At.tail)))
   clear hs
   have hs:=(((((St.nil JU).AE k2).AE k3).AE hg).AE hO.s.o).AE hO.h |>.AE k5
   refine Jl ?_
   have Hs:Cd (BR (Bn e.c id q).1 (Bn e.c id q).2 .none):=Cd.none.try (Kf hR id q)
   have hkn:=HO (e:=(Bn e.c id q).1) (r1 := .none) (Kf hR id q)
   have eC:EK ⟨Bv s { id:=xi,st:=xt,core:=n,w:=xw,slice:=q,lag:=xl },[]⟩ n ((Bn e.c id q).1,(Bn e.c id q).2,.none)=if (Bn e.c id q).1=0 then (0,BQ ⟨B7 (Bv s { id:=xi,st:=xt,core:=n,w:=xw,slice:=q,lag:=xl }) n (Cb e.c (Bn e.c id q).1 (Bn e.c id q).2),[]⟩ n (BR (Bn e.c id q).1 (Bn e.c id q).2 .none)) else ((Bn e.c id q).1,⟨Bv s { id:=xi,st:=xt,core:=n,w:=xw,slice:=q,lag:=xl },[]⟩):=by rw [← J8];rfl
   rw [eC]
   generalize hrp:BR (Bn e.c id q).1 (Bn e.c id q).2 .none=rp at Hs hkn
   refine B8 (fun (y:Nat × Value × Value × List Ce)=>[(0,.pointer (some ⟨hb,0,none⟩)),(5,.pointer (some ⟨b5,0,none⟩)),(8,.pointer (some ⟨y.1,0,none⟩)),(9,.int .i64 (Bn e.c id q).1)])
    (fun y w=>w.heap[b5]?=some (NV { id:=xi,st:=xt,core:=n,w:=xw,slice:=q,lag:=xl })∧w.heap[y.1]?=some (K2 y.2.1 y.2.2.1)∧Af JU w hb sb tb rb (.slice (some ⟨g,0,none⟩) L.length cap) ve ⟨B7 (Bv s { id:=xi,st:=xt,core:=n,w:=xw,slice:=q,lag:=xl }) n (Cb e.c (Bn e.c id q).1 (Bn e.c id q).2),[]⟩ L y.2.2.2 G Ge (.agg #[y.2.1,y.2.2.1]) rp) ?_ ?_
   ·skip
    refine IG [] hs (k:=?_);clear hs;intro hX w Aw hs
    refine tks 0 9 ?_
    refine tk 9 hX (hr:=fun w' hH=>BE AI rfl rfl rfl (by show (0:Int)≤(n:Int);omega) (by show (n:Int) < _;omega)) (k:=?_)
    refine tk 10 hX (hr:=fun w' hH=>r_load AI rfl rfl (hH rfl) (by repeat (first | exact At.head | (with_reducible apply At.tail))) (by simpa using FH)) (k:=?_)
    refine tks 11 2 ?_
    refine Gu 13 17 hX (h1:=?_) (h2:=?_)
    ·skip
     refine cl (h:=by exact U5 e.cb e.c e.F id q _ (hC.only Aw) hid hq) (k:=?_)
     rintro v1 w2 ⟨rv,rfl,T⟩
     have hf:=T.form
     rw [hrp] at hf
     obtain ⟨ag,cg,ap,cp,rfl⟩:=hf
     obtain ⟨L',hA⟩:=CT (hO.only Aw) he T Aw
     rw [hrp] at hA
     replace hs:=hs.Df T.2.2 (fun k hk=>by obtain rfl:=List.mem_singleton.1 hk;exact hs.EX (Aw.block hcb (by simp)))
     refine XS.nil ?_
     refine dn (k:=?_)
     refine tks 14 3 ?_
     refine dt 17 hX (k:=?_)
     refine FA hs (k:=?_);clear hs;intro b6 w6 Ak z6 hs
     have y6:(JU).heap.size≤b6:=Nat.le_trans (AA.size hA.o) z6
     replace hA:=hA.keep Ak
     refine XS.nil ?_
     refine dn (k:=?_)
     refine dt 18 hX (k:=?_)
     have q6:=hs.get (b:=b6) (by repeat (first | exact At.head | (with_reducible apply At.tail)))
     refine DQ hs (k:=?_);clear hs;intro Il Ck hs
     replace hA:=hA.store Ck q6 rfl (by decide) (by decide) y6
     refine XS.nil ?_
     refine dn (k:=?_)
     refine tk 19 hX (k:=?_)
     refine en (k:=?_)
     have r3:=hs.get (b:=b5) (by repeat (first | exact At.head | (with_reducible apply At.tail)))
     have r6:=hs.get (b:=b6) (by repeat (first | exact At.head | (with_reducible apply At.tail)))
     exact AP (b6,.slice ag rp.g.length cg,.slice ap rp.p.length cp,L') Aa ⟨r3,r6,hA⟩
    ·skip
     refine FA hs (k:=?_);clear hs;intro b6 w6 Ak z6 hs
     have y6:(JU).heap.size≤b6:=Nat.le_trans (AA.size Aw) z6
     replace Aw:=Aw.trans Ak
     refine XS.nil ?_
     refine dn (k:=?_)
     refine dt 13 hX (k:=?_)
     refine cl (h:=by exact U5 e.cb e.c e.F id q _ (hC.only Aw) hid hq) (k:=?_)
     rintro v1 w2 ⟨rv,rfl,T⟩
     have hf:=T.form
     rw [hrp] at hf
     obtain ⟨ag,cg,ap,cp,rfl⟩:=hf
     obtain ⟨L',hA⟩:=CT (hO.only Aw) he T Aw
     rw [hrp] at hA
     replace hs:=hs.Df T.2.2 (fun k hk=>by obtain rfl:=List.mem_singleton.1 hk;exact hs.EX (Aw.block hcb (by simp)))
     refine XS.nil ?_
     refine dn (k:=?_)
     refine tks 14 3 ?_
     refine dt 18 hX (k:=?_)
     have q6:=hs.get (b:=b6) (by repeat (first | exact At.head | (with_reducible apply At.tail)))
     refine DQ hs (k:=?_);clear hs;intro Il Ck hs
     replace hA:=hA.store Ck q6 rfl (by decide) (by decide) y6
     refine XS.nil ?_
     refine dn (k:=?_)
     refine tk 19 hX (k:=?_)
     refine en (k:=?_)
     have r3:=hs.get (b:=b5) (by repeat (first | exact At.head | (with_reducible apply At.tail)))
     have r6:=hs.get (b:=b6) (by repeat (first | exact At.head | (with_reducible apply At.tail)))
     exact AP (b6,.slice ag rp.g.length cg,.slice ap rp.p.length cp,L') Aa ⟨r3,r6,hA⟩
   ·skip
    rintro ⟨b6,vg,vp,L'⟩ env Me ⟨k3,k6,hA⟩
    simp only at k6 hA
    clear hs
    have L6:=hA.c.h
    have hs:=(((St.nil Me).AE k3).AE k6).AE L6
    have Ws:=hA.p
    obtain ⟨_,_,_,_,Hv,_,_⟩:=hA.p
    cases Hv
    have qA:=Aj.size
    generalize (Bn e.c id q)=J at *
    by_cases hJ:J.1=0
    ·rw [if_pos hJ]
     rw [hJ] at hA ⊢
     refine Je ?_
     have hoq:=hs.AB [] (by simp [k3,k6,L6]) (by simp [D0])
     refine cl (h:=by exact Fw hb _ _ n _ rp _ (hA.c.only hoq).at (Ws.FY hoq (by simp)) Hs (by have:=hkn.1;have:=hkn.2;have e1:Rp.none.p.length=0:=rfl;have e2:Rp.none.g.length=0:=rfl;have e3:([]:List Ev).length=0:=rfl;simp only at *;omega)) (k:=?_)
     rintro v25 w25 ⟨oZ,NL,NW,Jo⟩
     have OB:=hA.o.size
     have E3:=Aj.step ((hA.o.step hoq (by simp)).step Jo hA.f) (fun k hk => .inl hk)
     have M5:=IY hA.f NW (show (JU).heap.size≤_ by omega)
     clear hs
     have hs:=St.nil w25
     refine Ja ?_
     refine AF ?_
     have Cn:=hs.AD rfl
     exact ⟨rfl,fun _=>⟨_,NL.only Cn,fun k hk=>by
      rcases M5 k hk with q | q
      ·exact .inl q
      ·exact .inr om⟩,E3.step Cn (by simp)⟩
    ·rw [if_neg hJ]
     repeat' (first|refine Sa ?_|refine Av rfl (fun hc=>?_) fun hc=>?_|fail)
     ·exact absurd (by simpa using hc) hJ
     ·refine AF ?_
      have Cn:=hs.AB [] (by simp [k3,k6,L6]) (by simp [D0])
      exact ⟨rfl,fun q=>absurd q hJ,(Aj.step (hA.o.step Cn (by simp)) (fun k hk => .inl hk))⟩
theorem aZ (b2 hb:Nat) (s:Sy) (F:List Nat) (x:Tk) (id:Int) (w0:World) (h:D5 w0 hb ⟨s,[]⟩ F) (hid:In64 id) (B2:w0.heap[b2]?=some (.cells #[.int .i64 id] 3 (0,0))) (hx:CN s.cf.cores x) (hn:x.st≠0) :
 AM Tryz.prog 72 #[.pointer (some ⟨hb,0,none⟩),KT x,.pointer (some ⟨b2,0,none⟩)] w0 fun v w'=>v = .int .i64 (F7 ⟨s,[]⟩ x id).1∧Jt w0 hb (F7 ⟨s,[]⟩ x id).1 (F7 ⟨s,[]⟩ x id).2 F w':=by
 obtain ⟨sb,tb,rb,v,ve,L,G,Ge,rfl,hO⟩:=h.E4
 have ZA:=hO.s.t.RN.2
 have eX:F7 ⟨s,[]⟩ x id=if x.st=1 then (6,⟨s,[]⟩) else if x.st=3 then FD ⟨Bv s { x with st:=1 },[]⟩ { x with st:=1 } x.lag else EI ⟨s,[]⟩ { x with st:=1 } ((CL (AT s x.core) id).1,(CL (AT s x.core) id).2,.none):=rfl
 rw [eX]
 have hs:=((St.nil w0).AE B2).AE hO.s.o |>.AE hO.h
 have Aj:AA (CA hb sb tb rb L G Ge) w0 w0:=(AA.refl [] w0).weaken (by simp)
 refine AQ Tryz.func72 Tryz.ntmps72 (k:=?_)
 refine Ag ?_
 refine Aq ?_
 refine Gl hs (k:=?_);clear hs;intro b4 w1 AJ z1 hs
 replace hO:=hO.only AJ
 replace Aj:=Aj.step AJ (by simp)
 have Fo:b4≠rb:=by omega
 have hy:CN s.cf.cores { x with st:=1 }:=hx.st hn om
 have iS:({ x with st:=1 }:Tk).st≠0:=(by decide:(1:Int)≠0)
 have oA:({ x with st:=1 }:Tk).core=x.core:=rfl
 have hxl:=hx.2.2.2.2.2.1
 have z2:=Aj.size
 have hH:=hs.hold
 have EL:=hs.get At.head
 have stop1:∀ (w':World) (H':List Bp),St w1 D0 ((b4,.cells #[.int .i64 x.id,.int .u8 1,.int .i64 x.core,.int .u32 x.w,.int .u64 x.slice,.int .i64 x.lag] 51 (0,0),false) :: H') w'→(∀ e∈H',w1.heap[e.1]?=some e.2.1)→AA [b4] w1 w':=fun w' H' h hh=>h.AB [b4] (fun e he=>by
  rcases List.mem_cons.1 he with rfl | he
  ·exact .inr (.inl (by simp))
  ·exact .inr (.inr (hh e he))) (by simp [D0])
 by_cases s1:x.st=1
 ·rw [if_pos s1]
  obtain ⟨xi,xt,xc,xw,C6,xl⟩:=x
  simp only at s1
  subst s1
  repeat' (first|refine Sc ?_|(refine st hs (k:=?_);intro w hs)|fail)
  refine AF ?_
  have Ak:=stop1 _ _ hs (fun e he=>hH e (List.mem_cons_of_mem _ he))
  exact ⟨rfl,fun z=>absurd z (show ¬ (6:Int)=0 by decide),Aj.step Ak (fun k hk => .inr (by obtain rfl:=List.mem_singleton.1 hk;omega))⟩
 rw [if_neg s1]
 by_cases s3:x.st=3
 ·rw [if_pos s3]
  obtain ⟨xi,xt,xc,xw,C6,xl⟩:=x
  simp only at s3
  subst s3
  clear hH EL
  have hH:=hs.hold
  have EL:=hs.get At.head
  repeat' (first|refine vs (k:=?_)|refine Aq ?_|refine Nx.h ?_|refine Et ?_|refine EJ ?_|(refine st hs (k:=?_);intro w hs)|fail)
  have AS:=hs.AB [b4] (fun e he=>by
   rcases List.mem_cons.1 he with rfl | he
   ·exact .inr (.inl (by simp))
   ·exact .inr (.inr (hH e (List.mem_cons_of_mem _ he)))) (by simp [D0])
  replace hs:=hs.Eh
  simp only [List.map_cons,List.map_nil] at hs
  replace hO:=hO.Ek AS EL Fo
  replace Aj:=Aj.step AS (fun k hk => .inr (by obtain rfl:=List.mem_singleton.1 hk;omega))
  clear hH EL
  refine IG [] hs (k:=?_);clear hs;intro hX w CF hs
  replace hO:=hO.only CF
  replace Aj:=Aj.step CF (by simp)
  refine tks 0 8 ?_
  refine dt 8 hX (k:=?_)
  refine cl (h:=by exact FQ tb rb _ (({ id:=xi,st:=1,core:=xc,w:=xw,slice:=C6,lag:=xl }:Tk)) _ hO.s.t hy.1) (k:=?_)
  rintro v12 w12 ⟨rfl,FN,Bq⟩
  have IF:=hO.s.t
  obtain ⟨Jw,IA,ME,EY,_⟩:=IF
  replace hs:=hs.Df Bq (fun k hk=>by obtain rfl:=List.mem_singleton.1 hk;exact hs.Hx Fo EY)
  replace hO:=hO.Im FN Bq (hO.s.ok.CK hy)
  replace Aj:=Aj.step Bq (fun k hk => .inl (by obtain rfl:=List.mem_singleton.1 hk;simp [CA]))
  refine XS.nil ?_
  refine dn (k:=?_)
  refine en (k:=?_)
  have Dp:∀ k∈CA hb sb tb rb L G Ge,k∈CA hb sb tb rb L G Ge∨w0.heap.size≤k:=fun k hk => .inl hk
  refine Ja ?_
  refine cl (h:=by exact Oz hb ⟨Bv s { id:=xi,st:=1,core:=xc,w:=xw,slice:=C6,lag:=xl },[]⟩ _ { id:=xi,st:=1,core:=xc,w:=xw,slice:=C6,lag:=xl } xl _ hO.at hy iS hxl (by simp)) (k:=?_)
  rintro v25 w25 ⟨rfl,lB,Jo⟩
  have aBP:=Aj.size
  replace Aj:=Aj.step Jo (fun k hk => .inl hk)
  clear hs
  have hs:=St.nil w25
  refine Jc ?_
  refine AF ?_
  have Cn:=hs.AD rfl
  refine ⟨rfl,fun e0=>?_,Aj.step Cn (by simp)⟩
  obtain ⟨F',h1,h2⟩:=lB e0
  exact ⟨F',h1.only Cn,fun k hk=>by
   rcases h2 k hk with q | q
   ·exact .inl q
   ·exact .inr om⟩
 rw [if_neg s3]
 have MN:=hO.place (x:=x) hx hn
 obtain ⟨n,e,g,cap,cur,FT,hlt,he,hC,hce,rfl,hg,FH,Uw,hR,_,_,_,hcb⟩:=MN
 have J8:AT s n=e.c:=hce
 have eC:∀ y:Tk,y.core=(n:Int)→EI ⟨s,[]⟩ y ((CL e.c id).1,(CL e.c id).2,.none)=if (CL e.c id).1=0 then (0,BQ ⟨Bv (B7 s n (Cb e.c (CL e.c id).1 (CL e.c id).2)) y,[]⟩ n (BR (CL e.c id).1 (CL e.c id).2 .none)) else ((CL e.c id).1,⟨s,[]⟩):=fun y hy=>by
  unfold EI
  rw [hy,← J8]
 rw [FT,J8,eC { id:=x.id,st:=1,core:=(n:Int),w:=x.w,slice:=x.slice,lag:=x.lag } rfl]
 obtain ⟨xi,xt,xc,xw,C6,xl⟩:=x
 simp only at FT s1 s3
 subst FT
 have Hs:Cd (BR (CL e.c id).1 (CL e.c id).2 .none):=Cd.none.try (L8 hR id)
 have hkn:=HO (e:=(CL e.c id).1) (r1 := .none) (L8 hR id)
 generalize hrp:BR (CL e.c id).1 (CL e.c id).2 .none=rp at Hs hkn
 repeat' (first|refine Sa ?_|(refine st hs (k:=?_);intro w hs)|refine Av rfl (fun hc=>?_) fun hc=>?_|fail)
 ·exact absurd (by simpa using hc) s1
 ·exact absurd (by simpa using hc) s3
 have AS:=stop1 _ _ hs (fun e he=>hH e (List.mem_cons_of_mem _ he))
 replace hO:=hO.Ek AS EL Fo
 replace Aj:=Aj.step AS (fun k hk => .inr (by obtain rfl:=List.mem_singleton.1 hk;omega))
 have hnc:∀ k∈e.F,k∉[b4]:=fun k hk hm=>by
  obtain rfl:=List.mem_singleton.1 hm
  have:=hC.lt _ hk
  exact (hC.not EL rfl) hk
 replace hC:=hC.Ae AS hnc
 replace hcb:=AS.block hcb (fun hm=>hnc _ hC.mem hm)
 replace hg:=AS.block hg (by simpa using A0 hg EL (by decide))
 have k5:=hs.get (b:=b4) (by repeat (first | exact At.head | (with_reducible apply At.tail)))
 have k3:=hs.get (b:=b2) (by repeat (first | exact At.head | (with_reducible apply At.tail)))
 clear hs hH EL stop1
 obtain ⟨JU,rfl⟩:∃ z,z=w:=⟨_,rfl⟩
 have hs:=((((St.nil JU).AE k3).AE hg).AE hO.s.o).AE hO.h |>.AE k5
 refine B8 (fun (y:Nat × Value × Value × List Ce)=>[(0,.pointer (some ⟨hb,0,none⟩)),(4,.pointer (some ⟨b4,0,none⟩)),(7,.pointer (some ⟨y.1,0,none⟩)),(8,.int .i64 (CL e.c id).1)])
  (fun y w=>w.heap[b4]?=some (NV { id:=xi,st:=1,core:=n,w:=xw,slice:=C6,lag:=xl })∧w.heap[y.1]?=some (K2 y.2.1 y.2.2.1)∧Af JU w hb sb tb rb (.slice (some ⟨g,0,none⟩) L.length cap) ve ⟨B7 s n (Cb e.c (CL e.c id).1 (CL e.c id).2),[]⟩ L y.2.2.2 G Ge (.agg #[y.2.1,y.2.2.1]) rp) ?_ ?_
 ·skip
  refine IG [] hs (k:=?_);clear hs;intro hX w Aw hs
  refine tks 0 9 ?_
  refine tk 9 hX (hr:=fun w' hH=>BE AI rfl rfl rfl (by show (0:Int)≤(n:Int);omega) (by show (n:Int) < _;omega)) (k:=?_)
  refine tk 10 hX (hr:=fun w' hH=>r_load AI rfl rfl (hH rfl) (by repeat (first | exact At.head | (with_reducible apply At.tail))) (by simpa using FH)) (k:=?_)
  refine tk 11 hX (k:=?_)
  refine Gu 12 16 hX (h1:=?_) (h2:=?_)
  ·skip
   refine cl (h:=by exact V4 e.cb e.c e.F id _ (hC.only Aw) hid) (k:=?_)
   rintro v1 w2 ⟨rv,rfl,T⟩
   have hf:=T.form
   rw [hrp] at hf
   obtain ⟨ag,cg,ap,cp,rfl⟩:=hf
   obtain ⟨L',hA⟩:=CT (hO.only Aw) he T Aw
   rw [hrp] at hA
   replace hs:=hs.Df T.2.2 (fun k hk=>by obtain rfl:=List.mem_singleton.1 hk;exact hs.EX (Aw.block hcb (by simp)))
   refine XS.nil ?_
   refine dn (k:=?_)
   refine tks 13 3 ?_
   refine dt 16 hX (k:=?_)
   refine FA hs (k:=?_);clear hs;intro b6 w6 Ak z6 hs
   have y6:(JU).heap.size≤b6:=Nat.le_trans (AA.size hA.o) z6
   replace hA:=hA.keep Ak
   refine XS.nil ?_
   refine dn (k:=?_)
   refine dt 17 hX (k:=?_)
   have q6:=hs.get (b:=b6) (by repeat (first | exact At.head | (with_reducible apply At.tail)))
   refine DQ hs (k:=?_);clear hs;intro Il Ck hs
   replace hA:=hA.store Ck q6 rfl (by decide) (by decide) y6
   refine XS.nil ?_
   refine dn (k:=?_)
   refine tk 18 hX (k:=?_)
   refine en (k:=?_)
   have r3:=hs.get (b:=b4) (by repeat (first | exact At.head | (with_reducible apply At.tail)))
   have r6:=hs.get (b:=b6) (by repeat (first | exact At.head | (with_reducible apply At.tail)))
   exact AP (b6,.slice ag rp.g.length cg,.slice ap rp.p.length cp,L') Aa ⟨r3,r6,hA⟩
  ·skip
   refine FA hs (k:=?_);clear hs;intro b6 w6 Ak z6 hs
   have y6:(JU).heap.size≤b6:=Nat.le_trans (AA.size Aw) z6
   replace Aw:=Aw.trans Ak
   refine XS.nil ?_
   refine dn (k:=?_)
   refine dt 12 hX (k:=?_)
   refine cl (h:=by exact V4 e.cb e.c e.F id _ (hC.only Aw) hid) (k:=?_)
   rintro v1 w2 ⟨rv,rfl,T⟩
   have hf:=T.form
   rw [hrp] at hf
   obtain ⟨ag,cg,ap,cp,rfl⟩:=hf
   obtain ⟨L',hA⟩:=CT (hO.only Aw) he T Aw
   rw [hrp] at hA
   replace hs:=hs.Df T.2.2 (fun k hk=>by obtain rfl:=List.mem_singleton.1 hk;exact hs.EX (Aw.block hcb (by simp)))
   refine XS.nil ?_
   refine dn (k:=?_)
   refine tks 13 3 ?_
   refine dt 17 hX (k:=?_)
   have q6:=hs.get (b:=b6) (by repeat (first | exact At.head | (with_reducible apply At.tail)))
   refine DQ hs (k:=?_);clear hs;intro Il Ck hs
   replace hA:=hA.store Ck q6 rfl (by decide) (by decide) y6
   refine XS.nil ?_
   refine dn (k:=?_)
   refine tk 18 hX (k:=?_)
   refine en (k:=?_)
   have r3:=hs.get (b:=b4) (by repeat (first | exact At.head | (with_reducible apply At.tail)))
   have r6:=hs.get (b:=b6) (by repeat (first | exact At.head | (with_reducible apply At.tail)))
   exact AP (b6,.slice ag rp.g.length cg,.slice ap rp.p.length cp,L') Aa ⟨r3,r6,hA⟩
 ·rintro ⟨b6,vg,vp,L'⟩ env Me ⟨k3,k6,hA⟩
  simp only at k6 hA
  clear hs hO
  have qA:=Aj.size
  have hp:=hA.p
  obtain ⟨_,_,_,_,Hv,_,_⟩:=hA.p
  cases Hv
  have hO:=hA.c
  replace Aj:=Aj.step hA.o (fun k hk => .inl hk)
  have Vn:∀ k∈CA hb sb tb rb L' G Ge,k∈CA hb sb tb rb L G Ge∨w0.heap.size≤k:=fun k hk=>by
   rcases hA.f k hk with q | q
   ·exact .inl q
   ·exact .inr om
  generalize CL e.c id=J at *
  have hs:=((((St.nil Me).AE k6).AE hO.s.o).AE hO.h).AE k3
  by_cases hJ:J.1=0
  ·rw [if_pos hJ]
   rw [hJ] at hO ⊢
   refine Jd ?_
   refine IG [] hs (k:=?_);clear hs;intro hX w CF hs
   replace hO:=hO.only CF
   replace Aj:=Aj.step CF (by simp)
   refine tks 0 8 ?_
   refine dt 8 hX (k:=?_)
   refine cl (h:=by exact FQ tb rb _ (({ id:=xi,st:=1,core:=n,w:=xw,slice:=C6,lag:=xl }:Tk)) _ hO.s.t hy.1) (k:=?_)
   rintro v12 w12 ⟨rfl,FN,Bq⟩
   have IF:=hO.s.t
   obtain ⟨Jw,IA,ME,EY,_⟩:=IF
   replace hs:=hs.Df Bq (fun k hk=>by obtain rfl:=List.mem_singleton.1 hk;exact hs.Hx Fo EY)
   replace hO:=hO.Im FN Bq (hO.s.ok.CK hy)
   replace Aj:=Aj.step Bq (fun k hk => .inl (by obtain rfl:=List.mem_singleton.1 hk;simp [CA]))
   refine XS.nil ?_
   refine dn (k:=?_)
   refine en (k:=?_)
   replace hp:=(hp.FY CF (by simp)).FY Bq (fun k hk=>⟨_,_,_,by obtain rfl:=List.mem_singleton.1 hk;exact EY,by decide,by decide⟩)
   refine Ja ?_
   have WB:=Aj.size
   refine cl (h:=by exact Fw hb _ _ n _ rp _ hO.at hp Hs (by have:=hkn.1;have:=hkn.2;have e1:Rp.none.p.length=0:=rfl;have e2:Rp.none.g.length=0:=rfl;have e3:([]:List Ev).length=0:=rfl;simp only at *;omega)) (k:=?_)
   rintro v25 w25 ⟨oZ,NL,NW,Jo⟩
   replace Aj:=Aj.step Jo Vn
   have M5:=IY Vn NW WB
   clear hs
   have hs:=St.nil w25
   refine Ja ?_
   refine AF ?_
   have Cn:=hs.AD rfl
   exact ⟨rfl,fun _=>⟨_,NL.only Cn,M5⟩,Aj.step Cn (by simp)⟩
  ·rw [if_neg hJ]
   generalize J.1=ee at *
   repeat' (first|refine Sa ?_|refine xc_cond rfl (fun hc=>?_) fun hc=>?_|fail)
   ·refine AF ?_
    have Cn:=hs.AB [] (fun e he => .inr (.inr (hs.hold e he))) (by simp [D0])
    exact ⟨rfl,fun q=>absurd q hJ,Aj.step Cn (by simp)⟩
   ·exact absurd (by simpa using hc) hJ
theorem iQ {c:Cs} (h:Bx c) (id:Int):A9 (By c id).2:=by
 obtain ⟨s,hs⟩:=h
 have h1:=Mg hs id
 unfold By
 cases Ah c.A.l id with
 | none=>exact Nv
 | some a =>
   show A9 (if a.1.asleep=true then (false,(0:Int)) else if Dk c.A id < 0 then (false,CX c.A id) else (true,CX c.A id)).2
   split
   ·exact Nv
   ·split <;> exact h1
theorem YI (b2 hb:Nat) (s:Sy) (F:List Nat) (x:Tk) (id:Int) (w0:World) (h:D5 w0 hb ⟨s,[]⟩ F) (hid:In64 id) (B2:w0.heap[b2]?=some (.cells #[.int .i64 id] 3 (0,0))) (hx:CN s.cf.cores x) (hn:x.st≠0) :
 AM Tryz.prog 68 #[.pointer (some ⟨hb,0,none⟩),KT x,.pointer (some ⟨b2,0,none⟩)] w0 fun v w'=>v = .int .i64 (Hj ⟨s,[]⟩ x id).1∧Jt w0 hb (Hj ⟨s,[]⟩ x id).1 (Hj ⟨s,[]⟩ x id).2 F w':=by
 obtain ⟨sb,tb,rb,v,ve,L,G,Ge,rfl,hO⟩:=h.E4
 have ZA:=hO.s.t.RN.2
 obtain ⟨n,e,g,cap,cur,FT,hlt,he,hC,hce,rfl,hg,FH,Uw,hR,_,_,_,hcb⟩:=hO.place hx hn
 have J8:AT s n=e.c:=hce
 have eX:Hj ⟨s,[]⟩ x id=if x.st≠1 then (6,⟨s,[]⟩) else EI ⟨s,[]⟩ (if (By (AT s x.core) id).1=true then { x with st:=3,lag:=Fu s.cf (By (AT s x.core) id).2 x.slice } else { x with st:=2 }) ((Bg (AT s x.core) id).1,(Bg (AT s x.core) id).2,.none):=rfl
 rw [eX]
 have eC:∀ y:Tk,y.core=(n:Int)→EI ⟨s,[]⟩ y ((Bg e.c id).1,(Bg e.c id).2,.none)=if (Bg e.c id).1=0 then (0,BQ ⟨Bv (B7 s n (Cb e.c (Bg e.c id).1 (Bg e.c id).2)) y,[]⟩ n (BR (Bg e.c id).1 (Bg e.c id).2 .none)) else ((Bg e.c id).1,⟨s,[]⟩):=fun y hy=>by
  unfold EI
  rw [hy,← J8]
 have hs:=(((St.nil w0).AE B2).AE hg).AE hO.s.o |>.AE hO.h
 have Aj:AA (CA hb sb tb rb L G Ge) w0 w0:=(AA.refl [] w0).weaken (by simp)
 refine AQ Tryz.func68 Tryz.ntmps68 (k:=?_)
 refine Ag ?_
 refine Aq ?_
 refine Gl hs (k:=?_);clear hs;intro b4 w1 AJ z1 hs
 replace hO:=hO.only AJ
 replace Aj:=Aj.step AJ (by simp)
 replace hC:=hC.only AJ
 replace hcb:=AJ.block hcb (by simp)
 have Fo:b4≠rb:=by omega
 obtain ⟨xi,xt,xc,xw,C6,xl⟩:=x
 simp only at FT hn
 subst FT
 simp only
 by_cases s1:xt≠1
 ·rw [if_pos s1]
  repeat' (first|refine Sa ?_|refine xc_cond rfl (fun hc=>?_) fun hc=>?_|fail)
  ·refine AF ?_
   exact ⟨rfl,fun z=>absurd z (show ¬ (6:Int)=0 by decide),Aj.step (hs.AB [] (fun e he => .inr (.inr (hs.hold e he))) (by simp [D0])) (by simp)⟩
  ·exact absurd (by simpa using hc) s1
 obtain rfl:xt=1:=by omega
 rw [if_neg (by simp),J8]
 have Hs:Cd (BR (Bg e.c id).1 (Bg e.c id).2 .none):=Cd.none.try (Kg hR id)
 have hkn:=HO (e:=(Bg e.c id).1) (r1 := .none) (Kg hR id)
 have hsx:=iQ hR id
 rw [eC _ (by split <;> rfl)]
 generalize hrp:BR (Bg e.c id).1 (Bg e.c id).2 .none=rp at Hs hkn
 refine Jd ?_
 refine B8 (fun (y:Nat × Nat × Value × Value × List Ce)=>[(0,.pointer (some ⟨hb,0,none⟩)),(4,.pointer (some ⟨b4,0,none⟩)),(6,.bool (By e.c id).1),(7,.pointer (some ⟨y.1,0,none⟩)),(8,.pointer (some ⟨y.2.1,0,none⟩)),(9,.int .i64 (Bg e.c id).1)])
  (fun y w=>w.heap[b4]?=some (NV ⟨xi,1,n,xw,C6,xl⟩)∧w.heap[y.1]?=some (Gf (By e.c id).2)∧w.heap[y.2.1]?=some (K2 y.2.2.1 y.2.2.2.1)∧Af w1 w hb sb tb rb (.slice (some ⟨g,0,none⟩) L.length cap) ve ⟨B7 s n (Cb e.c (Bg e.c id).1 (Bg e.c id).2),[]⟩ L y.2.2.2.2 G Ge (.agg #[y.2.2.1,y.2.2.2.1]) rp) ?_ ?_
 ·refine IG [] hs (k:=?_);clear hs;intro hX w Aw hs
  refine tks 0 9 ?_
  refine tk 9 hX (hr:=fun w' hH=>BE AI rfl rfl rfl (by show (0:Int)≤(n:Int);omega) (by show (n:Int) < _;omega)) (k:=?_)
  refine tk 10 hX (hr:=fun w' hH=>r_load AI rfl rfl (hH rfl) (by repeat (first | exact At.head | (with_reducible apply At.tail))) (by simpa using FH)) (k:=?_)
  refine tk 11 hX (k:=?_)
  refine eH 12 18 19 hX (h1:=?_) (h2:=?_) (h3:=?_)
  ·skip
   refine cl (h:=by exact JI e.cb e.c e.F id _ (hC.only Aw) hid) (k:=?_)
   rintro v1 w2 ⟨rv,rfl,T⟩
   have hf:=T.form
   rw [hrp] at hf
   obtain ⟨ag,cg,ap,cp,rfl⟩:=hf
   obtain ⟨L',hA⟩:=CT (hO.only Aw) he T Aw
   rw [hrp] at hA
   replace hs:=hs.Df T.2.2 (fun k hk=>by obtain rfl:=List.mem_singleton.1 hk;exact hs.EX (Aw.block hcb (by simp)))
   refine XS.nil ?_
   refine dn (k:=?_)
   refine tks 13 5 ?_
   refine Gu 18 19 hX (h1:=?_) (h2:=?_)
   ·skip
    refine FA hs (k:=?_);clear hs;intro b5 w5 BJ z5 hs
    have y5:(w1).heap.size≤b5:=Nat.le_trans (AA.size hA.o) z5
    replace hA:=hA.keep BJ
    refine XS.nil ?_
    refine dn (k:=?_)
    refine dt 19 hX (k:=?_)
    refine FA hs (k:=?_);clear hs;intro b6 w6 Ak z6 hs
    have y6:(w1).heap.size≤b6:=Nat.le_trans (AA.size hA.o) z6
    replace hA:=hA.keep Ak
    refine XS.nil ?_
    refine dn (k:=?_)
    refine tk 20 hX (k:=?_)
    refine dt 21 hX (k:=?_)
    have q5:=hs.get (b:=b5) (by repeat (first | exact At.head | (with_reducible apply At.tail)))
    refine DQ hs (k:=?_);clear hs;intro OU Eo hs
    replace hA:=hA.store Eo q5 rfl (by decide) (by decide) y5
    refine XS.nil ?_
    refine dn (k:=?_)
    refine dt 22 hX (k:=?_)
    have q6:=hs.get (b:=b6) (by repeat (first | exact At.head | (with_reducible apply At.tail)))
    refine DQ hs (k:=?_);clear hs;intro Il Ck hs
    replace hA:=hA.store Ck q6 rfl (by decide) (by decide) y6
    refine XS.nil ?_
    refine dn (k:=?_)
    refine tk 23 hX (k:=?_)
    refine en (k:=?_)
    have r3:=hs.get (b:=b4) (by repeat (first | exact At.head | (with_reducible apply At.tail)))
    have r5:=hs.get (b:=b5) (by repeat (first | exact At.head | (with_reducible apply At.tail)))
    have r6:=hs.get (b:=b6) (by repeat (first | exact At.head | (with_reducible apply At.tail)))
    exact AP (b5,b6,.slice ag rp.g.length cg,.slice ap rp.p.length cp,L') Aa ⟨r3,r5,r6,hA⟩
   ·skip
    refine FA hs (k:=?_);clear hs;intro b6 w6 Ak z6 hs
    have y6:(w1).heap.size≤b6:=Nat.le_trans (AA.size hA.o) z6
    replace hA:=hA.keep Ak
    refine XS.nil ?_
    refine dn (k:=?_)
    refine dt 18 hX (k:=?_)
    refine FA hs (k:=?_);clear hs;intro b5 w5 BJ z5 hs
    have y5:(w1).heap.size≤b5:=Nat.le_trans (AA.size hA.o) z5
    replace hA:=hA.keep BJ
    refine XS.nil ?_
    refine dn (k:=?_)
    refine tk 20 hX (k:=?_)
    refine dt 21 hX (k:=?_)
    have q5:=hs.get (b:=b5) (by repeat (first | exact At.head | (with_reducible apply At.tail)))
    refine DQ hs (k:=?_);clear hs;intro OU Eo hs
    replace hA:=hA.store Eo q5 rfl (by decide) (by decide) y5
    refine XS.nil ?_
    refine dn (k:=?_)
    refine dt 22 hX (k:=?_)
    have q6:=hs.get (b:=b6) (by repeat (first | exact At.head | (with_reducible apply At.tail)))
    refine DQ hs (k:=?_);clear hs;intro Il Ck hs
    replace hA:=hA.store Ck q6 rfl (by decide) (by decide) y6
    refine XS.nil ?_
    refine dn (k:=?_)
    refine tk 23 hX (k:=?_)
    refine en (k:=?_)
    have r3:=hs.get (b:=b4) (by repeat (first | exact At.head | (with_reducible apply At.tail)))
    have r5:=hs.get (b:=b5) (by repeat (first | exact At.head | (with_reducible apply At.tail)))
    have r6:=hs.get (b:=b6) (by repeat (first | exact At.head | (with_reducible apply At.tail)))
    exact AP (b5,b6,.slice ag rp.g.length cg,.slice ap rp.p.length cp,L') Aa ⟨r3,r5,r6,hA⟩
  ·skip
   refine FA hs (k:=?_);clear hs;intro b5 w5 BJ z5 hs
   have y5:(w1).heap.size≤b5:=Nat.le_trans (AA.size Aw) z5
   replace Aw:=Aw.trans BJ
   refine XS.nil ?_
   refine dn (k:=?_)
   refine Gu 12 19 hX (h1:=?_) (h2:=?_)
   ·skip
    refine cl (h:=by exact JI e.cb e.c e.F id _ (hC.only Aw) hid) (k:=?_)
    rintro v1 w2 ⟨rv,rfl,T⟩
    have hf:=T.form
    rw [hrp] at hf
    obtain ⟨ag,cg,ap,cp,rfl⟩:=hf
    obtain ⟨L',hA⟩:=CT (hO.only Aw) he T Aw
    rw [hrp] at hA
    replace hs:=hs.Df T.2.2 (fun k hk=>by obtain rfl:=List.mem_singleton.1 hk;exact hs.EX (Aw.block hcb (by simp)))
    refine XS.nil ?_
    refine dn (k:=?_)
    refine tks 13 5 ?_
    refine dt 19 hX (k:=?_)
    refine FA hs (k:=?_);clear hs;intro b6 w6 Ak z6 hs
    have y6:(w1).heap.size≤b6:=Nat.le_trans (AA.size hA.o) z6
    replace hA:=hA.keep Ak
    refine XS.nil ?_
    refine dn (k:=?_)
    refine tk 20 hX (k:=?_)
    refine dt 21 hX (k:=?_)
    have q5:=hs.get (b:=b5) (by repeat (first | exact At.head | (with_reducible apply At.tail)))
    refine DQ hs (k:=?_);clear hs;intro OU Eo hs
    replace hA:=hA.store Eo q5 rfl (by decide) (by decide) y5
    refine XS.nil ?_
    refine dn (k:=?_)
    refine dt 22 hX (k:=?_)
    have q6:=hs.get (b:=b6) (by repeat (first | exact At.head | (with_reducible apply At.tail)))
    refine DQ hs (k:=?_);clear hs;intro Il Ck hs
    replace hA:=hA.store Ck q6 rfl (by decide) (by decide) y6
    refine XS.nil ?_
    refine dn (k:=?_)
    refine tk 23 hX (k:=?_)
    refine en (k:=?_)
    have r3:=hs.get (b:=b4) (by repeat (first | exact At.head | (with_reducible apply At.tail)))
    have r5:=hs.get (b:=b5) (by repeat (first | exact At.head | (with_reducible apply At.tail)))
    have r6:=hs.get (b:=b6) (by repeat (first | exact At.head | (with_reducible apply At.tail)))
    exact AP (b5,b6,.slice ag rp.g.length cg,.slice ap rp.p.length cp,L') Aa ⟨r3,r5,r6,hA⟩
   ·skip
    refine FA hs (k:=?_);clear hs;intro b6 w6 Ak z6 hs
    have y6:(w1).heap.size≤b6:=Nat.le_trans (AA.size Aw) z6
    replace Aw:=Aw.trans Ak
    refine XS.nil ?_
    refine dn (k:=?_)
    refine dt 12 hX (k:=?_)
    refine cl (h:=by exact JI e.cb e.c e.F id _ (hC.only Aw) hid) (k:=?_)
    rintro v1 w2 ⟨rv,rfl,T⟩
    have hf:=T.form
    rw [hrp] at hf
    obtain ⟨ag,cg,ap,cp,rfl⟩:=hf
    obtain ⟨L',hA⟩:=CT (hO.only Aw) he T Aw
    rw [hrp] at hA
    replace hs:=hs.Df T.2.2 (fun k hk=>by obtain rfl:=List.mem_singleton.1 hk;exact hs.EX (Aw.block hcb (by simp)))
    refine XS.nil ?_
    refine dn (k:=?_)
    refine tks 13 5 ?_
    refine tk 20 hX (k:=?_)
    refine dt 21 hX (k:=?_)
    have q5:=hs.get (b:=b5) (by repeat (first | exact At.head | (with_reducible apply At.tail)))
    refine DQ hs (k:=?_);clear hs;intro OU Eo hs
    replace hA:=hA.store Eo q5 rfl (by decide) (by decide) y5
    refine XS.nil ?_
    refine dn (k:=?_)
    refine dt 22 hX (k:=?_)
    have q6:=hs.get (b:=b6) (by repeat (first | exact At.head | (with_reducible apply At.tail)))
    refine DQ hs (k:=?_);clear hs;intro Il Ck hs
    replace hA:=hA.store Ck q6 rfl (by decide) (by decide) y6
    refine XS.nil ?_
    refine dn (k:=?_)
    refine tk 23 hX (k:=?_)
    refine en (k:=?_)
    have r3:=hs.get (b:=b4) (by repeat (first | exact At.head | (with_reducible apply At.tail)))
    have r5:=hs.get (b:=b5) (by repeat (first | exact At.head | (with_reducible apply At.tail)))
    have r6:=hs.get (b:=b6) (by repeat (first | exact At.head | (with_reducible apply At.tail)))
    exact AP (b5,b6,.slice ag rp.g.length cg,.slice ap rp.p.length cp,L') Aa ⟨r3,r5,r6,hA⟩
  ·skip
   refine FA hs (k:=?_);clear hs;intro b6 w6 Ak z6 hs
   have y6:(w1).heap.size≤b6:=Nat.le_trans (AA.size Aw) z6
   replace Aw:=Aw.trans Ak
   refine XS.nil ?_
   refine dn (k:=?_)
   refine Gu 12 18 hX (h1:=?_) (h2:=?_)
   ·skip
    refine cl (h:=by exact JI e.cb e.c e.F id _ (hC.only Aw) hid) (k:=?_)
    rintro v1 w2 ⟨rv,rfl,T⟩
    have hf:=T.form
    rw [hrp] at hf
    obtain ⟨ag,cg,ap,cp,rfl⟩:=hf
    obtain ⟨L',hA⟩:=CT (hO.only Aw) he T Aw
    rw [hrp] at hA
    replace hs:=hs.Df T.2.2 (fun k hk=>by obtain rfl:=List.mem_singleton.1 hk;exact hs.EX (Aw.block hcb (by simp)))
    refine XS.nil ?_
    refine dn (k:=?_)
    refine tks 13 5 ?_
    refine dt 18 hX (k:=?_)
    refine FA hs (k:=?_);clear hs;intro b5 w5 BJ z5 hs
    have y5:(w1).heap.size≤b5:=Nat.le_trans (AA.size hA.o) z5
    replace hA:=hA.keep BJ
    refine XS.nil ?_
    refine dn (k:=?_)
    refine tk 20 hX (k:=?_)
    refine dt 21 hX (k:=?_)
    have q5:=hs.get (b:=b5) (by repeat (first | exact At.head | (with_reducible apply At.tail)))
    refine DQ hs (k:=?_);clear hs;intro OU Eo hs
    replace hA:=hA.store Eo q5 rfl (by decide) (by decide) y5
    refine XS.nil ?_
    refine dn (k:=?_)
    refine dt 22 hX (k:=?_)
    have q6:=hs.get (b:=b6) (by repeat (first | exact At.head | (with_reducible apply At.tail)))
    refine DQ hs (k:=?_);clear hs;intro Il Ck hs
    replace hA:=hA.store Ck q6 rfl (by decide) (by decide) y6
    refine XS.nil ?_
    refine dn (k:=?_)
    refine tk 23 hX (k:=?_)
    refine en (k:=?_)
    have r3:=hs.get (b:=b4) (by repeat (first | exact At.head | (with_reducible apply At.tail)))
    have r5:=hs.get (b:=b5) (by repeat (first | exact At.head | (with_reducible apply At.tail)))
    have r6:=hs.get (b:=b6) (by repeat (first | exact At.head | (with_reducible apply At.tail)))
    exact AP (b5,b6,.slice ag rp.g.length cg,.slice ap rp.p.length cp,L') Aa ⟨r3,r5,r6,hA⟩
   ·skip
    refine FA hs (k:=?_);clear hs;intro b5 w5 BJ z5 hs
    have y5:(w1).heap.size≤b5:=Nat.le_trans (AA.size Aw) z5
    replace Aw:=Aw.trans BJ
    refine XS.nil ?_
    refine dn (k:=?_)
    refine dt 12 hX (k:=?_)
    refine cl (h:=by exact JI e.cb e.c e.F id _ (hC.only Aw) hid) (k:=?_)
    rintro v1 w2 ⟨rv,rfl,T⟩
    have hf:=T.form
    rw [hrp] at hf
    obtain ⟨ag,cg,ap,cp,rfl⟩:=hf
    obtain ⟨L',hA⟩:=CT (hO.only Aw) he T Aw
    rw [hrp] at hA
    replace hs:=hs.Df T.2.2 (fun k hk=>by obtain rfl:=List.mem_singleton.1 hk;exact hs.EX (Aw.block hcb (by simp)))
    refine XS.nil ?_
    refine dn (k:=?_)
    refine tks 13 5 ?_
    refine tk 20 hX (k:=?_)
    refine dt 21 hX (k:=?_)
    have q5:=hs.get (b:=b5) (by repeat (first | exact At.head | (with_reducible apply At.tail)))
    refine DQ hs (k:=?_);clear hs;intro OU Eo hs
    replace hA:=hA.store Eo q5 rfl (by decide) (by decide) y5
    refine XS.nil ?_
    refine dn (k:=?_)
    refine dt 22 hX (k:=?_)
    have q6:=hs.get (b:=b6) (by repeat (first | exact At.head | (with_reducible apply At.tail)))
    refine DQ hs (k:=?_);clear hs;intro Il Ck hs
    replace hA:=hA.store Ck q6 rfl (by decide) (by decide) y6
    refine XS.nil ?_
    refine dn (k:=?_)
    refine tk 23 hX (k:=?_)
    refine en (k:=?_)
    have r3:=hs.get (b:=b4) (by repeat (first | exact At.head | (with_reducible apply At.tail)))
    have r5:=hs.get (b:=b5) (by repeat (first | exact At.head | (with_reducible apply At.tail)))
    have r6:=hs.get (b:=b6) (by repeat (first | exact At.head | (with_reducible apply At.tail)))
    exact AP (b5,b6,.slice ag rp.g.length cg,.slice ap rp.p.length cp,L') Aa ⟨r3,r5,r6,hA⟩
 ·rintro ⟨b5,b6,vg,vp,L'⟩ env Me ⟨k3,k5,k6,hA⟩
  simp only at k5 k6 hA
  clear hs hO
  have qA:=Aj.size
  have hp:=hA.p
  obtain ⟨_,_,_,_,Hv,_,_⟩:=hA.p
  cases Hv
  have hO:=hA.c
  replace Aj:=Aj.step hA.o (fun k hk => .inl hk)
  have Vn:∀ k∈CA hb sb tb rb L' G Ge,k∈CA hb sb tb rb L G Ge∨w0.heap.size≤k:=fun k hk=>by
   rcases hA.f k hk with q | q
   ·exact .inl q
   ·exact .inr om
  generalize Bg e.c id=J at *
  have hs:=(((((St.nil Me).AE k5).AE k6).AE hO.s.o).AE hO.h).AE k3
  by_cases hJ:J.1=0
  ·rw [if_pos hJ]
   rw [hJ] at hO ⊢
   have aAm:=Aj.size
   have hH:=hs.hold
   have EL:=hs.get At.head
   cases hsy:(By e.c id).1 with
   | false =>
     rw [if_neg (by simp)]
     have hy:CN s.cf.cores { id:=xi,st:=2,core:=n,w:=xw,slice:=C6,lag:=xl }:=hx.st hn om
     repeat' (first|refine Sd ?_|(refine st hs (k:=?_);intro w hs)|fail)
     have AS:=hs.AB [b4] (fun e he=>by
      rcases List.mem_cons.1 he with rfl | he
      ·exact .inr (.inl (by simp))
      ·exact .inr (.inr (hH e (List.mem_cons_of_mem _ he)))) (by simp [D0])
     replace hs:=hs.Eh
     simp only [List.map_cons,List.map_nil] at hs
     replace hO:=hO.Ek AS EL Fo
     replace Aj:=Aj.step AS (fun k hk => .inr (by obtain rfl:=List.mem_singleton.1 hk;omega))
     replace hp:=hp.FY AS (fun k hk=>⟨_,_,_,by obtain rfl:=List.mem_singleton.1 hk;exact EL,by decide,by decide⟩)
     clear hH EL
     refine IG [] hs (k:=?_);clear hs;intro hX w CF hs
     replace hO:=hO.only CF
     replace Aj:=Aj.step CF (by simp)
     refine tks 0 8 ?_
     refine dt 8 hX (k:=?_)
     refine cl (h:=by exact FQ tb rb _ (({ id:=xi,st:=2,core:=n,w:=xw,slice:=C6,lag:=xl }:Tk)) _ hO.s.t hy.1) (k:=?_)
     rintro v12 w12 ⟨rfl,FN,Bq⟩
     have IF:=hO.s.t
     obtain ⟨Jw,IA,ME,EY,_⟩:=IF
     replace hs:=hs.Df Bq (fun k hk=>by obtain rfl:=List.mem_singleton.1 hk;exact hs.Hx Fo EY)
     replace hO:=hO.Im FN Bq (hO.s.ok.CK hy)
     replace Aj:=Aj.step Bq (fun k hk => .inl (by obtain rfl:=List.mem_singleton.1 hk;simp [CA]))
     refine XS.nil ?_
     refine dn (k:=?_)
     refine en (k:=?_)
     replace hp:=(hp.FY CF (by simp)).FY Bq (fun k hk=>⟨_,_,_,by obtain rfl:=List.mem_singleton.1 hk;exact EY,by decide,by decide⟩)
     refine Ja ?_
     have WB:=Aj.size
     refine cl (h:=by exact Fw hb _ _ n _ rp _ hO.at hp Hs (by have:=hkn.1;have:=hkn.2;have e1:Rp.none.p.length=0:=rfl;have e2:Rp.none.g.length=0:=rfl;have e3:([]:List Ev).length=0:=rfl;simp only at *;omega)) (k:=?_)
     rintro v25 w25 ⟨oZ,NL,NW,Jo⟩
     replace Aj:=Aj.step Jo Vn
     have M5:=IY Vn NW WB
     clear hs
     have hs:=St.nil w25
     refine Ja ?_
     refine AF ?_
     have Cn:=hs.AD rfl
     exact ⟨rfl,fun _=>⟨_,NL.only Cn,M5⟩,Aj.step Cn (by simp)⟩
   | true =>
     rw [if_pos rfl]
     have hy:CN s.cf.cores { id:=xi,st:=3,core:=n,w:=xw,slice:=C6,lag:=Fu s.cf (By e.c id).2 C6 }:=⟨hx.1,(by decide:(0:Int)≤3∧(3:Int) < 256),hx.2.2.1,hx.2.2.2.1,hx.2.2.2.2.1,LK _ _ _,fun _=>hx.core (by decide:(1:Int)≠0)⟩
     repeat' (first|refine vs (k:=?_)|refine Aq ?_|refine Nx.h ?_|refine Et ?_|refine EJ ?_|(refine st hs (k:=?_);intro w hs)|fail)
     have AS:=hs.AB [b4] (fun e he=>by
      rcases List.mem_cons.1 he with rfl | he
      ·exact .inr (.inl (by simp))
      ·exact .inr (.inr (hH e (List.mem_cons_of_mem _ he)))) (by simp [D0])
     replace hs:=hs.Eh
     simp only [List.map_cons,List.map_nil] at hs
     replace hO:=hO.Ek AS EL Fo
     replace Aj:=Aj.step AS (fun k hk => .inr (by obtain rfl:=List.mem_singleton.1 hk;omega))
     replace hp:=hp.FY AS (fun k hk=>⟨_,_,_,by obtain rfl:=List.mem_singleton.1 hk;exact EL,by decide,by decide⟩)
     clear hH EL
     have hH:=hs.hold
     have EL:=hs.get At.head
     refine drT [] hs (k:=?_);intro hX w hs
     refine tks 0 9 ?_
     refine dt 9 hX (k:=?_)
     refine Jc ?_
     refine dn (k:=?_)
     refine tk 11 hX (k:=?_)
     refine dt 10 hX (k:=?_)
     refine AW hs (h:=by exact Qe s.cf (By e.c id).2 C6 hO.s.ok.cf hsx hx.2.2.2.2.1 _) (k:=?_);intro w' ho hs;refine Jb ?_
     refine dn (k:=?_)
     refine dt 12 hX (k:=?_)
     repeat' (first|refine Nx.h ?_|(refine st hs (k:=?_);intro w hs)|fail)
     refine dn (k:=?_)
     refine tk 13 hX (k:=?_)
     refine dt 14 hX (k:=?_)
     repeat' (first|refine Nx.h ?_|(refine st hs (k:=?_);intro w hs)|fail)
     refine dn (k:=?_)
     refine en (k:=?_)
     refine Jb ?_
     have AS:=hs.AB [b4] (fun e he=>by
      rcases List.mem_cons.1 he with rfl | he
      ·exact .inr (.inl (by simp))
      ·exact .inr (.inr (hH e (List.mem_cons_of_mem _ he)))) (by simp [D0])
     replace hs:=hs.Eh
     simp only [List.map_cons,List.map_nil] at hs
     replace hO:=hO.Ek AS EL Fo
     replace Aj:=Aj.step AS (fun k hk => .inr (by obtain rfl:=List.mem_singleton.1 hk;omega))
     replace hp:=hp.FY AS (fun k hk=>⟨_,_,_,by obtain rfl:=List.mem_singleton.1 hk;exact EL,by decide,by decide⟩)
     clear hH EL
     refine IG [] hs (k:=?_);clear hs;intro hX w CF hs
     replace hO:=hO.only CF
     replace Aj:=Aj.step CF (by simp)
     refine tks 0 8 ?_
     refine dt 8 hX (k:=?_)
     refine cl (h:=by exact FQ tb rb _ (({ id:=xi,st:=3,core:=n,w:=xw,slice:=C6,lag:=Fu s.cf (By e.c id).2 C6 }:Tk)) _ hO.s.t hy.1) (k:=?_)
     rintro v12 w12 ⟨rfl,FN,Bq⟩
     have IF:=hO.s.t
     obtain ⟨Jw,IA,ME,EY,_⟩:=IF
     replace hs:=hs.Df Bq (fun k hk=>by obtain rfl:=List.mem_singleton.1 hk;exact hs.Hx Fo EY)
     replace hO:=hO.Im FN Bq (hO.s.ok.CK hy)
     replace Aj:=Aj.step Bq (fun k hk => .inl (by obtain rfl:=List.mem_singleton.1 hk;simp [CA]))
     refine XS.nil ?_
     refine dn (k:=?_)
     refine en (k:=?_)
     replace hp:=(hp.FY CF (by simp)).FY Bq (fun k hk=>⟨_,_,_,by obtain rfl:=List.mem_singleton.1 hk;exact EY,by decide,by decide⟩)
     refine Ja ?_
     have WB:=Aj.size
     refine cl (h:=by exact Fw hb _ _ n _ rp _ hO.at hp Hs (by have:=hkn.1;have:=hkn.2;have e1:Rp.none.p.length=0:=rfl;have e2:Rp.none.g.length=0:=rfl;have e3:([]:List Ev).length=0:=rfl;simp only at *;omega)) (k:=?_)
     rintro v25 w25 ⟨oZ,NL,NW,Jo⟩
     replace Aj:=Aj.step Jo Vn
     have M5:=IY Vn NW WB
     clear hs
     have hs:=St.nil w25
     refine Ja ?_
     refine AF ?_
     have Cn:=hs.AD rfl
     exact ⟨rfl,fun _=>⟨_,NL.only Cn,M5⟩,Aj.step Cn (by simp)⟩
  ·rw [if_neg hJ]
   generalize J.1=ee at *
   repeat' (first|refine Sa ?_|(refine st hs (k:=?_);intro w hs)|refine xc_cond rfl (fun hc=>?_) fun hc=>?_|fail)
   ·refine AF ?_
    have Cn:=hs.AB [] (fun e he => .inr (.inr (hs.hold e he))) (by simp [D0])
    exact ⟨rfl,fun q=>absurd q hJ,Aj.step Cn (by simp)⟩
   all_goals exact absurd (by simpa using ‹(ee != 0)=false›) hJ
def RD (s:Ch) (k:Nat) (ns:Int):Ch:=BQ ⟨B7 s.s k (Cb (AT s.s k) (Ao (AT s.s k) ns).1 (Ao (AT s.s k) ns).2.1),s.ev⟩ k (BR (Ao (AT s.s k) ns).1 (Ao (AT s.s k) ns).2.1 (Ao (AT s.s k) ns).2.2)
theorem gB {n k:Nat} {s:Ch} {ns:Int} (h:(Ao (AT s.s k) ns).1=0):Ds (n+1) k s ns=Ds n (k+1) (RD s k ns) ns:=by
 have h':(Ao (AT s.s k) ns).fst=0:=h
 rw [Ds]
 exact if_pos h'
theorem Zl {n k:Nat} {s:Ch} {ns:Int} (h:(Ao (AT s.s k) ns).1≠0):Ds (n+1) k s ns=((Ao (AT s.s k) ns).1,s):=by
 have h':¬ (Ao (AT s.s k) ns).fst=0:=h
 rw [Ds]
 exact if_neg h'
theorem aF (b1 hb:Nat) (s:Sy) (ns:Int) (wb w0:World) (D3:BV ns) (hw0:AA [] wb w0) (xV:wb.heap[b1]?=some (.cells #[.int .u64 ns] 22 (0,0))) (hbd:ns≤1099511627776→∀ k:Nat,k < s.k.length→(Ao (AT s k) ns).2.2.p.length≤1000000) :
 oX wb w0 57 [.pointer (some ⟨b1,0,none⟩)] [] (fun _=>True) s (FZ ⟨s,[]⟩ ns):=by
 intro hb F h hF
 have B1:=hw0.block xV (by simp)
 have Es:=h
 obtain ⟨sb,tb,rb,v,ve,L,G,Ge,rfl,hO⟩:=h.E4
 have hhi:=hO.s.ok.hi
 have hlen:=hO.s.ok.len
 have hlo:=hO.s.ok.lo
 have Uw:=hO.s.c.len
 have h0:0 < (Ch.s ⟨s,[]⟩).k.length:=by show 0 < s.k.length;have:((s.k.length:Nat):Int)=s.cf.cores:=hlen;have:1≤s.cf.cores:=hlo;omega
 obtain ⟨x0,hx0,_,_⟩:=hO.s.c.at h0
 obtain ⟨g,cap,aBi,rfl,_,_⟩:=hO.s.c.ptr hx0
 have hh:=hO.h
 have os:=hO.s.o
 have hs:=((St.nil w0).AE B1).AE os |>.AE hh
 have eX:FZ ⟨s,[]⟩ ns=if BB ns (Dd s.cf.tick)≠0 then (BB ns (Dd s.cf.tick),⟨s,[]⟩) else Ds s.k.length 0 ⟨s,[]⟩ ns:=rfl
 rw [eX]
 refine AQ Tryz.func57 Tryz.ntmps57 (k:=?_)
 refine Ja ?_
 refine dr [] hs (k:=?_);intro hX w hs
 refine tks 0 8 ?_
 refine dt 8 hX (k:=?_)
 refine AW hs (h:=by exact jG s.cf ns _) (k:=?_);intro w' ho hs;refine Jb ?_
 refine dn (k:=?_)
 refine tk 9 hX (k:=?_)
 refine en (k:=?_)
 by_cases he:BB ns (Dd s.cf.tick)≠0
 ·rw [if_pos he]
  generalize BB ns (Dd s.cf.tick)=ee at *
  repeat' (first|refine Sa ?_|refine xc_cond rfl (fun hc=>?_) fun hc=>?_|fail)
  ·refine AF ?_
   exact ⟨rfl,trivial,fun z=>absurd z he,(hs.AB [] (by simp [B1,os,hh]) (by simp [D0])).weaken (by simp)⟩
  ·exact absurd (by simpa using hc) he
 have Lc:ns≤1099511627776:=by
  have:=(within_lo he).2
  unfold Dd at this
  split at this <;> omega
 replace hbd:=hbd Lc
 have jE:BB ns (Dd s.cf.tick)=0:=by
  rcases Classical.em (BB ns (Dd s.cf.tick)=0) with z | z
  ·exact z
  ·exact absurd z he
 rw [if_neg he,jE]
 refine Jd ?_
 have Ay:=hs.AB [] (by simp [B1,os,hh]) (by simp [D0])
 have hlS:s.k.length≤8:=by have:((s.k.length:Nat):Int)=s.cf.cores:=hlen;have:s.cf.cores≤8:=hhi;omega
 have hLs:L.length=s.k.length:=Uw
 refine BH (fun (_:Ch × List Ce × Value × List Nat)=>[]) (fun y w=>Ds s.k.length 0 ⟨s,[]⟩ ns=(0,y.1)∧CU w hb sb tb rb (.slice (some ⟨g,0,none⟩) L.length cap) y.2.2.1 y.1 y.2.1 G y.2.2.2∧(∀ i∈CA hb sb tb rb y.2.1 G y.2.2.2,i∈CA hb sb tb rb L G Ge∨w0.heap.size≤i)∧AA (CA hb sb tb rb L G Ge) w0 w) ?_ ?_
 ·refine BF (fun (x:Nat × Ch × List Ce × Value × List Nat)=>[(0,.pointer (some ⟨hb,0,none⟩)),(1,.pointer (some ⟨b1,0,none⟩)),(27,.slice (some ⟨g,0,none⟩) L.length cap),(28,.int .i64 (L.length:Nat)),(29,.int .i64 (x.1:Nat))])
   (fun x w=>x.1≤L.length∧Ds s.k.length 0 ⟨s,[]⟩ ns=Ds (s.k.length - x.1) x.1 x.2.1 ns∧w.heap[b1]?=some (.cells #[.int .u64 ns] 22 (0,0))∧CU w hb sb tb rb (.slice (some ⟨g,0,none⟩) L.length cap) x.2.2.2.1 x.2.1 x.2.2.1 G x.2.2.2.2∧(∀ i∈CA hb sb tb rb x.2.2.1 G x.2.2.2.2,i∈CA hb sb tb rb L G Ge∨w0.heap.size≤i)∧AA (CA hb sb tb rb L G Ge) w0 w∧x.2.1.s.k.length=s.k.length∧(∀ j:Nat,x.1≤j→AT x.2.1.s j=AT s j)∧x.2.1.ev.length≤x.1*2000000)
   (fun x=>L.length - x.1) (0,⟨s,[]⟩,L,ve,Ge) Aa ⟨Nat.zero_le _,rfl,Ay.block B1 (by simp),hO.only Ay,fun i hi => .inl hi,Ay.weaken (by simp),rfl,fun _ _=>rfl,Nat.zero_le _⟩ fun x env wl ⟨hi,hT,hB,hC,Ts,Tz,Hs,JS,YS⟩=>?_
  obtain ⟨i,S,Li,vi,Gi⟩:=x
  simp only at hi hT hC Ts Hs JS YS
  clear hs
  have hs:=((St.nil wl).AE hB).AE hC.h
  repeat' (first|refine Sa ?_|refine Av rfl (fun hc=>?_) fun hc=>?_|fail)
  ·have hlt:i < L.length:=by omega
   have aAd:i < S.s.k.length:=by omega
   obtain ⟨x,hx,vV,hce⟩:=hC.s.c.at aAd
   obtain ⟨g',cap',cur,ev',hg,FH⟩:=hC.s.c.ptr hx
   have hg':g'=g∧L.length=Li.length:=by
    simp only [Value.slice.injEq,Option.some.injEq,Addr.mk.injEq] at ev'
    exact ⟨ev'.1.1.symm,ev'.2.1⟩
   obtain ⟨hgg,hLL⟩:=hg'
   rw [hgg] at hg
   have ei:=DH (m:=L.length) hlt om
   have hR:Bx x.c:=vV.Zb
   have ec:AT S.s i=x.c:=hce.symm
   have ecs:AT s i=x.c:=by rw [← JS i (Nat.le_refl _)];exact ec
   have Ti:=hbd i om
   rw [ecs] at Ti
   obtain ⟨_,_,_,_,_,hcb,_⟩:=vV.E4
   have hgk:Cd (BR (Ao x.c ns).1 (Ao x.c ns).2.1 (Ao x.c ns).2.2):=(Xl hR ns).try (Ot hR ns)
   have hkn:=HO (e:=(Ao x.c ns).1) (r1:=(Ao x.c ns).2.2) (Ot hR ns)
   have hkg:(Ao x.c ns).2.2.g.length≤32:=by obtain ⟨s1,hs1⟩:=hR;exact (tick_bounds hs1 ns).2
   have Ue:RD S i ns=BQ ⟨B7 S.s i (Cb x.c (Ao x.c ns).1 (Ao x.c ns).2.1),S.ev⟩ i (BR (Ao x.c ns).1 (Ao x.c ns).2.1 (Ao x.c ns).2.2):=by unfold RD;rw [ec]
   have hst:s.k.length - i=(s.k.length - (i+1))+1:=by omega
   rw [hst] at hT
   have hgw:wl.heap[g]?=some (.cells cur.toArray Sl (0,0)):=hg
   replace hs:=hs.AE hgw
   refine ix (h0:=(by omega)) (h1:=(by omega)) (k:=?_)
   refine lb (hc:=(by simpa using FH)) (k:=?_)
   refine Ja ?_
   have Aw:=hs.AB [] (by simp [hB,hC.h,hgw]) (by simp [D0])
   refine cl (h:=by exact eV x.cb x.c x.F ns _ (vV.only Aw) D3) (k:=?_)
   rintro v2 w2 ⟨rv,rfl,T⟩
   have hf:=T.form
   obtain ⟨ag,cg,ap,cp,rfl⟩:=hf
   obtain ⟨L',hA⟩:=CT (hC.only Aw) hx T Aw
   have iJ:=T.2.2.block (Aw.block hB (by simp)) (by simpa using A0 (Aw.block hB (by simp)) (Aw.block hcb (by simp)) (by decide))
   clear hs
   have hs:=((St.nil w2).AE iJ).AE hA.c.h
   by_cases hJ:(Ao x.c ns).1=0
   ·rw [gB (by rw [ec];exact hJ),Ue] at hT
    rw [hJ] at hA hT hgk hkn ⊢
    have aAn:(BQ ⟨B7 S.s i (Cb x.c 0 (Ao x.c ns).2.1),S.ev⟩ i (BR 0 (Ao x.c ns).2.1 (Ao x.c ns).2.2)).ev.length≤(i+1)*2000000:=by
     rw [Nk]
     simp only [List.length_append,List.length_map]
     have:=hkn.1;have:=hkn.2
     omega
    have hk2:=(absorb_k ⟨B7 S.s i (Cb x.c 0 (Ao x.c ns).2.1),S.ev⟩ i (BR 0 (Ao x.c ns).2.1 (Ao x.c ns).2.2)).1
    generalize hrp:BR 0 (Ao x.c ns).2.1 (Ao x.c ns).2.2=rp at *
    generalize Cb x.c 0 (Ao x.c ns).2.1=c' at *
    repeat' (first|refine Sd ?_|(refine AU hs (k:=?_);intro w hs)|(refine al hs (k:=?_);intro b w hz hs)|fail)
    have hoq:=hs.AB [] (by simp [iJ,hA.c.h]) (by simp [D0])
    refine cl (h:=by exact Pv hb sb tb rb _ vi _ L' G Gi i _ rp _ (hA.c.only hoq) (hA.p.FY hoq (by simp)) hgk (by have:=hkn.1;have:=hkn.2;show S.ev.length+_+_≤_;omega)) (k:=?_)
    rintro v5 w5 ⟨ve5,Ge5,Ov,aAz,BJ⟩
    have hB5:=BJ.block (hoq.block iJ (by simp)) ((hA.c.only hoq).at.not (hoq.block iJ (by simp)) rfl)
    have OB:=hA.o.size
    have hzL:=Tz.size
    have E3:=Tz.step ((hA.o.step hoq (by simp)).step BJ hA.f) Ts
    clear hs
    have hs:=St.nil w5
    refine Ja ?_
    have Ak:=hs.AD rfl
    refine A2 (i+1,_,L',ve5,Ge5) (by show L.length - (i+1) < L.length - i;omega) (by (repeat (first | exact Ac | (apply A5;first | exact rfl | exact congrArg (Value.int .i64) ei)))) ⟨by show i+1≤_;omega,hT,Ak.block hB5 (by simp),Ov.only Ak,fun j hj=>?_,E3.step Ak (by simp),?_,fun j hj=>?_,aAn⟩
    ·have key:j∈CA hb sb tb rb L' G Gi∨w0.heap.size≤j:=by
      simp only [CA,List.mem_cons,List.mem_append] at hj ⊢
      rcases hj with hj | hj | hj
      ·exact .inl (.inl hj)
      ·exact .inl (.inr (.inl hj))
      ·rcases aAz j hj with q | q
       ·exact .inl (.inr (.inr q))
       ·exact .inr (by have:=hoq.size;omega)
     rcases key with q | q
     ·rcases hA.f j q with z | z
      ·exact Ts j z
      ·exact .inr om
     ·exact .inr q
    ·show (BQ _ i rp).s.k.length=_
     rw [hk2]
     show (S.s.k.set _ _).length=_
     rw [List.length_set];exact Hs
    ·show AT (BQ _ i rp).s j=_
     have hj':i+1≤j:=hj
     rw [Y3 hk2,V3 (k:=(i:Int)) om (show ((j:Nat):Int)≠(i:Int) by omega)]
     exact JS j om
   ·rw [Zl (by rw [ec];exact hJ),ec] at hT
    rw [hT]
    generalize (Ao x.c ns).1=ee at *
    repeat' (first|refine Sa ?_|(refine AU hs (k:=?_);intro w hs)|(refine al hs (k:=?_);intro b w hz hs)|refine xc_cond rfl (fun hc=>?_) fun hc=>?_|fail)
    ·refine AF ?_
     have Ak:=hs.AB [] (by simp [iJ,hA.c.h]) (by simp [D0])
     exact ⟨rfl,trivial,fun q=>absurd q hJ,((Tz.step (hA.o.step Ak (by simp)) Ts)).weaken (by simp)⟩
    ·exact absurd (by simpa using hc) hJ
  ·have e:i=s.k.length:=by omega
   subst e
   rw [Nat.sub_self] at hT
   exact Am (S,Li,vi,Gi) Aa ⟨hT,hC,Ts,Tz⟩
 ·rintro ⟨S,Li,vi,Gi⟩ env w ⟨hT,hC,Ts,Tz⟩
  simp only at hT hC Ts
  rw [hT]
  clear hs
  have hs:=St.nil w
  refine Ja ?_
  refine AF ?_
  have Ak:=hs.AD rfl
  exact ⟨rfl,trivial,fun _=>⟨_,(hC.only Ak).at,Ts⟩,(Tz.step Ak (by simp)).weaken (by simp)⟩
theorem cR (b2 hb:Nat) (s:Sy) (F:List Nat) (x:Tk) (core:Int) (w0:World) (h:D5 w0 hb ⟨s,[]⟩ F) (F8:In64 core) (B2:w0.heap[b2]?=some (.cells #[.int .i64 core] 3 (0,0))) (hx:CN s.cf.cores x) (hn:x.st≠0) :
 AM Tryz.prog 78 #[.pointer (some ⟨hb,0,none⟩),KT x,.pointer (some ⟨b2,0,none⟩)] w0 fun v w'=>v = .int .i64 (Ci ⟨s,[]⟩ x core).1∧Jt w0 hb (Ci ⟨s,[]⟩ x core).1 (Ci ⟨s,[]⟩ x core).2 F w':=by
 have Es:=h
 have V5:=h.lt
 have Q8:EG s:=by obtain ⟨_,_,_,_,_,_,_,_,_,hO⟩:=h.E4;exact hO.s.ok
 obtain ⟨sb,tb,rb,v,ve,L,G,Ge,eF,hO⟩:=h.E4
 have hs:=((St.nil w0).AE B2).AE hO.s.o |>.AE hO.h
 refine AQ Tryz.func78 Tryz.ntmps78 (k:=?_)
 refine Ag ?_
 refine Aq ?_
 refine Gl hs (k:=?_);clear hs;intro b4 w1 AJ z1 hs
 have ZF:b4∉F:=fun hm=>by have:=V5 _ hm;omega
 refine Jc ?_
 refine IG [] hs (k:=?_);clear hs;intro hX w CF hs
 refine tks 0 8 ?_
 refine dt 8 hX (k:=?_)
 refine cl (h:=by exact KP s.cf core _) (k:=?_)
 rintro v2 w2 ⟨rfl,AN⟩
 replace hs:=hs.JD AN
 have Ay:=(AJ.trans CF).trans AN
 refine XS.nil ?_
 refine dn (k:=?_)
 refine tk 9 hX (k:=?_)
 refine en (k:=?_)
 have Vj:∀ w',AA [] w2 w'→(CP s.cf core≠0∨core=x.core)→Value.int .i64 (CP s.cf core) = .int .i64 (Ci ⟨s,[]⟩ x core).1∧Jt w0 hb (Ci ⟨s,[]⟩ x core).1 (Ci ⟨s,[]⟩ x core).2 F w':=fun w' ho hb'=>by
  rw [Ju (s:=⟨s,[]⟩) hb']
  exact ⟨rfl,fun _=>⟨F,Es.only (Ay.trans ho),fun k hk => .inl hk⟩,(Ay.trans ho).weaken (by simp)⟩
 by_cases c0:CP s.cf core≠0
 ·have Dj:=fun w' ho=>Vj w' ho (.inl c0)
  clear Vj
  generalize CP s.cf core=ee at *
  repeat' (first|refine Se ?_|((with_reducible apply BI);exact rfl;exact rfl;intro c hc;(fail_if_success have:true=c:=hc);(fail_if_success have:false=c:=hc);cases c)|refine Av rfl (fun hc=>?_) fun hc=>?_|fail)
  ·exact absurd (by simpa using ‹(ee != 0)=false›) c0
  ·exact absurd (by simpa using ‹(ee != 0)=false›) c0
  ·refine AF ?_
   exact Dj _ (hs.AB [] (fun e he => .inr (.inr (hs.hold e he))) (by simp [D0]))
 have iP:CP s.cf core=0:=by
  rcases Classical.em (CP s.cf core=0) with z | z
  ·exact z
  ·exact absurd z c0
 by_cases c1:core=x.core
 ·have Dj:=fun w' ho=>Vj w' ho (.inr c1)
  clear Vj
  rw [iP] at Dj ⊢
  subst c1
  repeat' (first|refine Sa ?_|refine Av rfl (fun hc=>?_) fun hc=>?_|fail)
  ·refine AF ?_
   exact Dj _ (hs.AB [] (fun e he => .inr (.inr (hs.hold e he))) (by simp [D0]))
  ·exact absurd hc (by simp)
 have c2:¬ (CP s.cf core≠0∨core=x.core):=fun z=>z.elim c0 c1
 have eM:Ci ⟨s,[]⟩ x core=GO (if BP x=true then (B0 ⟨s,[]⟩ x).2 else ⟨s,[]⟩) x core (if BP x=true then (B0 ⟨s,[]⟩ x).1 else x.lag):=by
  rw [Kb (s:=⟨s,[]⟩) c2]
  split <;> rfl
 rw [eM,iP]
 clear Vj eM
 have JS:0≤core∧core < s.cf.cores:=by
  unfold CP at iP
  split at iP
  ·cases iP
  ·omega
 have hlv:=ok_leave (s:=⟨s,[]⟩) Q8 x
 have hU:EG (if BP x=true then (B0 ⟨s,[]⟩ x).2 else (⟨s,[]⟩:Ch)).s∧(if BP x=true then (B0 ⟨s,[]⟩ x).2 else (⟨s,[]⟩:Ch)).s.cf=s.cf:=by
  split
  ·exact hlv
  ·exact ⟨Q8,rfl⟩
 have hlg:In64 (if BP x=true then (B0 ⟨s,[]⟩ x).1 else x.lag):=by
  split
  ·exact leave_in _ _
  ·exact hx.2.2.2.2.2.1
 have aBG:(if BP x=true then (B0 ⟨s,[]⟩ x).2 else (⟨s,[]⟩:Ch)).ev.length≤1000000:=by
  split
  ·have hR:(DZ (Ax (AT s x.core) x.id).2).length≤64:=by
    have h1:(DZ (Ax (AT s x.core) x.id).2).length≤(Ax (AT s x.core) x.id).2.A.l.length:=Mu _ _
    obtain ⟨n,e,_,_,_,FT,_,_,hC,hce,_,_,_,_,hR,_⟩:=hO.place hx hn
    have h2:=UT (FB hR x.id)
    have J8:AT s n=e.c:=hce
    rw [FT,J8];omega
   show (BQ _ x.core (BR _ _ .none)).ev.length≤_
   rw [Nk]
   simp only [List.length_append,List.length_map,tL,List.length_nil]
   have:(BR (Ax (AT s x.core) x.id).1 (Ax (AT s x.core) x.id).2 .none).g.length≤64:=by
    unfold BR
    split
    ·show ([] ++ DZ (Ax (AT s x.core) x.id).2).length≤64
     rw [List.nil_append];exact hR
    ·exact Nat.zero_le _
   have h9:(BR (Ax (AT (Ch.s ⟨s,[]⟩) x.core) x.id).1 (Ax (AT (Ch.s ⟨s,[]⟩) x.core) x.id).2 .none).g.length≤64:=this
   omega
  ·exact Nat.zero_le _
 repeat' (first|refine Sa ?_|refine Av rfl (fun hc=>?_) fun hc=>?_|fail)
 ·exact absurd hc (by simpa using c1)
 refine cl (h:=by exact Iz x _) (k:=?_)
 rintro v3 w3 ⟨rfl,AS⟩
 have Bd:=hs.AB [] (fun e he => .inr (.inr (hs.hold e he))) (by simp [D0])
 have Sm:=(Ay.trans Bd).trans AS
 have hs1:=hs.Eh
 simp only [List.map_cons,List.map_nil] at hs1
 clear hs
 have hs:=hs1.JD AS
 clear hs1
 refine XS.nil ?_
 refine Dt ?_
 have qM:=Sm.size
 refine B8 (fun (_:List Nat)=>[(0,.pointer (some ⟨hb,0,none⟩)),(2,.pointer (some ⟨b2,0,none⟩)),(4,.pointer (some ⟨b4,0,none⟩))]) (fun F1 w=>w.heap[b2]?=some (.cells #[.int .i64 core] 3 (0,0))∧w.heap[b4]?=some (NV { x with lag:=if BP x=true then (B0 ⟨s,[]⟩ x).1 else x.lag })∧D5 w hb (if BP x=true then (B0 ⟨s,[]⟩ x).2 else (⟨s,[]⟩:Ch)) F1∧b4∉F1∧(∀ k∈F1,k∈F∨w0.heap.size≤k)∧AA F w0 w) ?_ ?_
 ·cases YW:BP x with
  | false =>
    rw [if_neg (by simp),if_neg (by simp)]
    refine Jg ?_
    exact AP F Aa ⟨hs.get (b:=b2) (by repeat (first | exact At.head | (with_reducible apply At.tail))),hs.get (b:=b4) (by repeat (first | exact At.head | (with_reducible apply At.tail))),Es.only Sm,ZF,fun k hk => .inl hk,Sm.weaken (by simp)⟩
  | true =>
    rw [if_pos rfl,if_pos rfl]
    refine Ji ?_
    refine cl (h:=by exact RV hb ⟨s,[]⟩ F x _ (Es.only Sm) hx hn (by simp)) (k:=?_)
    rintro v4 w4 ⟨rfl,F3,W8,MX,Al⟩
    have k2:=Al.block (hs.get (b:=b2) (by repeat (first | exact At.head | (with_reducible apply At.tail)))) ((Es.only Sm).not (hs.get (b:=b2) (by repeat (first | exact At.head | (with_reducible apply At.tail)))) rfl)
    have k4:=Al.block (hs.get (b:=b4) (by repeat (first | exact At.head | (with_reducible apply At.tail)))) ZF
    have l4:=lt_of_block (hs.get (b:=b4) (by repeat (first | exact At.head | (with_reducible apply At.tail))))
    have n43:b4∉F3:=fun hm=>by
     rcases MX _ hm with q | q
     ·exact ZF q
     ·omega
    clear hs
    have hs:=((St.nil w4).AE k2).AE k4
    generalize (B0 ⟨s,[]⟩ x).1=lg at *
    refine vs (k:=?_)
    refine cP hs (k:=?_);clear hs;intro w5 BJ hs
    refine XS.nil ?_
    have Ov:=W8.Ae BJ (fun k hk hm=>by obtain rfl:=List.mem_singleton.1 hm;exact n43 hk)
    exact AP F3 Aa ⟨hs.get (b:=b2) (by repeat (first | exact At.head | (with_reducible apply At.tail))),hs.get (b:=b4) (by repeat (first | exact At.head | (with_reducible apply At.tail))),Ov,n43,fun k hk=>by
     rcases MX k hk with q | q
     ·exact .inl q
     ·exact .inr om,((Sm.weaken (by simp)).step Al (fun k hk => .inl hk)).step BJ (fun k hk => .inr (by obtain rfl:=List.mem_singleton.1 hk;omega))⟩
 ·rintro F1 env Me ⟨k2,k4,IZ,n41,Cl,WR⟩
  generalize (if BP x=true then (B0 ⟨s,[]⟩ x).2 else (⟨s,[]⟩:Ch))=U at *
  generalize (if BP x=true then (B0 ⟨s,[]⟩ x).1 else x.lag)=lg at *
  clear hs hO
  obtain ⟨sb,tb,rb,v,ve,L,G,Ge,rfl,hO⟩:=IZ.E4
  have Fo:b4≠rb:=fun e=>n41 (by rw [e];simp [CA])
  have uE:=hU.2
  have hs:=(((St.nil Me).AE k2).AE hO.s.o).AE hO.h |>.AE k4
  have Aj:AA (b4 :: CA hb sb tb rb L G Ge) Me Me:=(AA.refl [] Me).weaken (by simp)
  have hH:=hs.hold
  have EL:=hs.get At.head
  obtain ⟨xi,xt,xc,xw,C6,xl⟩:=x
  have Zk:∀ w',AA (b4 :: CA hb sb tb rb L G Ge) Me w'→AA F w0 w':=fun w' ho=>WR.step ho (fun k hk=>by
   rcases List.mem_cons.1 hk with rfl | hk
   ·exact .inr om
   ·exact Cl k hk)
  have aAm:=WR.size
  have eE:∀ y:Tk,EB ⟨xi,xt,xc,xw,C6,xl⟩ core lg=y→GO U ⟨xi,xt,xc,xw,C6,xl⟩ core lg=if y.st=1 then FD ⟨Bv U.s y,U.ev⟩ y y.lag else (0,⟨Bv U.s y,U.ev⟩):=fun y hy=>by subst hy;rfl
  have xC:∀ z:Int,0≤z∧z < 256→CN U.s.cf.cores { id:=xi,st:=z,core:=core,w:=xw,slice:=C6,lag:=lg }:=fun z hz=>by
   rw [uE]
   exact ⟨hx.1,hz,F8,hx.2.2.2.1,hx.2.2.2.2.1,hlg,fun _=>JS⟩
  by_cases t1:xt=1
  ·subst t1
   rw [eE { id:=xi,st:=1,core:=core,w:=xw,slice:=C6,lag:=lg } rfl,if_pos rfl]
   have hy:=xC 1 om
   repeat' (first|refine Sd ?_|(refine st hs (k:=?_);intro w hs)|fail)
   have AS:=hs.AB [b4] (fun e he=>by
    rcases List.mem_cons.1 he with rfl | he
    ·exact .inr (.inl (by simp))
    ·exact .inr (.inr (hH e (List.mem_cons_of_mem _ he)))) (by simp [D0])
   replace hs:=hs.Eh
   simp only [List.map_cons,List.map_nil] at hs
   replace hO:=hO.Ek AS EL Fo
   replace Aj:=Aj.step AS (fun k hk => .inl (by obtain rfl:=List.mem_singleton.1 hk;simp))
   clear hH EL
   refine IG [] hs (k:=?_);clear hs;intro hX w CF hs
   replace hO:=hO.only CF
   replace Aj:=Aj.step CF (by simp)
   refine tks 0 8 ?_
   refine dt 8 hX (k:=?_)
   refine cl (h:=by exact FQ tb rb _ (({ id:=xi,st:=1,core:=core,w:=xw,slice:=C6,lag:=lg }:Tk)) _ hO.s.t hy.1) (k:=?_)
   rintro v12 w12 ⟨rfl,FN,Bq⟩
   have IF:=hO.s.t
   obtain ⟨Jw,IA,ME,EY,_⟩:=IF
   replace hs:=hs.Df Bq (fun k hk=>by obtain rfl:=List.mem_singleton.1 hk;exact hs.Hx Fo EY)
   replace hO:=hO.Im FN Bq (hO.s.ok.CK hy)
   replace Aj:=Aj.step Bq (fun k hk => .inl (by obtain rfl:=List.mem_singleton.1 hk;simp [CA]))
   refine XS.nil ?_
   refine dn (k:=?_)
   refine en (k:=?_)
   refine Je ?_
   refine cl (h:=by exact Oz hb ⟨Bv U.s { id:=xi,st:=1,core:=core,w:=xw,slice:=C6,lag:=lg },U.ev⟩ _ { id:=xi,st:=1,core:=core,w:=xw,slice:=C6,lag:=lg } lg _ hO.at hy (by decide:(1:Int)≠0) hlg aBG) (k:=?_)
   rintro v25 w25 ⟨rfl,lB,Jo⟩
   have aBP:=Aj.size
   replace Aj:=Aj.step Jo (fun k hk => .inl (by simp [hk]))
   clear hs
   have hs:=St.nil w25
   refine Jc ?_
   refine AF ?_
   have Cn:=hs.AD rfl
   refine ⟨rfl,fun e0=>?_,Zk _ (Aj.step Cn (by simp))⟩
   obtain ⟨F',h1,h2⟩:=lB e0
   exact ⟨F',h1.only Cn,fun k hk=>by
    rcases h2 k hk with q | q
    ·exact Cl k q
    ·exact .inr om⟩
  by_cases t2:xt=2
  ·subst t2
   rw [eE { id:=xi,st:=3,core:=core,w:=xw,slice:=C6,lag:=lg } rfl,if_neg (by decide:¬ (3:Int)=1)]
   have hy:=xC 3 om
   repeat' (first|refine Sc ?_|(refine st hs (k:=?_);intro w hs)|fail)
   have AS:=hs.AB [b4] (fun e he=>by
    rcases List.mem_cons.1 he with rfl | he
    ·exact .inr (.inl (by simp))
    ·exact .inr (.inr (hH e (List.mem_cons_of_mem _ he)))) (by simp [D0])
   replace hs:=hs.Eh
   simp only [List.map_cons,List.map_nil] at hs
   replace hO:=hO.Ek AS EL Fo
   replace Aj:=Aj.step AS (fun k hk => .inl (by obtain rfl:=List.mem_singleton.1 hk;simp))
   clear hH EL
   refine IG [] hs (k:=?_);clear hs;intro hX w CF hs
   replace hO:=hO.only CF
   replace Aj:=Aj.step CF (by simp)
   refine tks 0 8 ?_
   refine dt 8 hX (k:=?_)
   refine cl (h:=by exact FQ tb rb _ (({ id:=xi,st:=3,core:=core,w:=xw,slice:=C6,lag:=lg }:Tk)) _ hO.s.t hy.1) (k:=?_)
   rintro v12 w12 ⟨rfl,FN,Bq⟩
   have IF:=hO.s.t
   obtain ⟨Jw,IA,ME,EY,_⟩:=IF
   replace hs:=hs.Df Bq (fun k hk=>by obtain rfl:=List.mem_singleton.1 hk;exact hs.Hx Fo EY)
   replace hO:=hO.Im FN Bq (hO.s.ok.CK hy)
   replace Aj:=Aj.step Bq (fun k hk => .inl (by obtain rfl:=List.mem_singleton.1 hk;simp [CA]))
   refine XS.nil ?_
   refine dn (k:=?_)
   refine en (k:=?_)
   refine Jd ?_
   refine AF ?_
   have Cn:=hs.AB [] (fun e he => .inr (.inr (hs.hold e he))) (by simp [D0])
   exact ⟨rfl,fun _=>⟨_,(hO.only Cn).at,Cl⟩,Zk _ (Aj.step Cn (by simp))⟩
  ·have ey:EB ⟨xi,xt,xc,xw,C6,xl⟩ core lg={ id:=xi,st:=xt,core:=core,w:=xw,slice:=C6,lag:=lg }:=by
    show ({ id:=xi,st:=if xt=2 then 3 else xt,core:=core,w:=xw,slice:=C6,lag:=lg }:Tk)=_
    rw [if_neg t2]
   rw [eE _ ey,if_neg t1]
   have hy:=xC xt hx.2.1
   repeat' (first|refine Sa ?_|(refine st hs (k:=?_);intro w hs)|refine Av rfl (fun hc=>?_) fun hc=>?_|fail)
   ·exact absurd (by simpa using hc) t2
   have AS:=hs.AB [b4] (fun e he=>by
    rcases List.mem_cons.1 he with rfl | he
    ·exact .inr (.inl (by simp))
    ·exact .inr (.inr (hH e (List.mem_cons_of_mem _ he)))) (by simp [D0])
   replace hs:=hs.Eh
   simp only [List.map_cons,List.map_nil] at hs
   replace hO:=hO.Ek AS EL Fo
   replace Aj:=Aj.step AS (fun k hk => .inl (by obtain rfl:=List.mem_singleton.1 hk;simp))
   clear hH EL
   refine IG [] hs (k:=?_);clear hs;intro hX w CF hs
   replace hO:=hO.only CF
   replace Aj:=Aj.step CF (by simp)
   refine tks 0 8 ?_
   refine dt 8 hX (k:=?_)
   refine cl (h:=by exact FQ tb rb _ (({ id:=xi,st:=xt,core:=core,w:=xw,slice:=C6,lag:=lg }:Tk)) _ hO.s.t hy.1) (k:=?_)
   rintro v12 w12 ⟨rfl,FN,Bq⟩
   have IF:=hO.s.t
   obtain ⟨Jw,IA,ME,EY,_⟩:=IF
   replace hs:=hs.Df Bq (fun k hk=>by obtain rfl:=List.mem_singleton.1 hk;exact hs.Hx Fo EY)
   replace hO:=hO.Im FN Bq (hO.s.ok.CK hy)
   replace Aj:=Aj.step Bq (fun k hk => .inl (by obtain rfl:=List.mem_singleton.1 hk;simp [CA]))
   refine XS.nil ?_
   refine dn (k:=?_)
   refine en (k:=?_)
   repeat' (first|refine Sa ?_|refine Av rfl (fun hc=>?_) fun hc=>?_|fail)
   ·exact absurd (by simpa using hc) t1
   refine AF ?_
   have Cn:=hs.AB [] (fun e he => .inr (.inr (hs.hold e he))) (by simp [D0])
   exact ⟨rfl,fun _=>⟨_,(hO.only Cn).at,Cl⟩,Zk _ (Aj.step Cn (by simp))⟩
end Go.Proofs.Q0
