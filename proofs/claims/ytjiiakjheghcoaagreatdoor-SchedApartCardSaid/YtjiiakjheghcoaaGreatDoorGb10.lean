/- A part of the proof: what its functions compute. -/
import Derived.Test.YtjiiakjheghcoaaGreatDoorGb9
set_option linter.unusedVariables false
set_option linter.unusedSimpArgs false
set_option maxRecDepth 100000
set_option maxHeartbeats 64000000
set_option linter.unusedSectionVars false
namespace Go.Proofs.Q0
open Go Go.RowKit
attribute [local irreducible] XS XC XA AX AO A7 A0 AZ A8 Aa AV SE
structure Af (w0 w:World) (hb sb tb rb:Nat) (v ve:Value) (s':Ch) (L L':List Ce) (G Ge:List Nat) (rv:Value) (rp:Rp):Prop where
 p:Lt w rv rp
 c:CR w hb sb tb rb v ve s' L' G Ge
 f:∀ k∈CB hb sb tb rb L' G Ge,k∈CB hb sb tb rb L G Ge∨w0.heap.size≤k
 o:AA (CB hb sb tb rb L G Ge) w0 w
theorem Lt.Fb {w w':World} {rv:Value} {r:Rp} {F:List Nat} (h:Lt w rv r) (ho:AA F w w') (hF:∀ b∈F,∃ cs ty fz,w.heap[b]?=some (.cells cs ty fz)∧ty≠170∧ty≠168):Lt w' rv r:=by
 obtain ⟨vg,vp,Gg,Gp,rfl,p1,p2⟩:=h
 exact ⟨vg,vp,Gg,Gp,rfl,p1.keep ho (fun k hk hm=>by obtain ⟨cs,ty,fz,a,b,c⟩:=hF k hm;exact BQ p1 a b hk),p2.keep ho (fun k hk hm=>by obtain ⟨cs,ty,fz,a,b,c⟩:=hF k hm;exact BQ p2 a c hk)⟩
theorem Af.keep {w0 w w':World} {hb sb tb rb:Nat} {v ve:Value} {s':Ch} {L L':List Ce} {G Ge:List Nat} {rv:Value} {rp:Rp} (h:Af w0 w hb sb tb rb v ve s' L L' G Ge rv rp) (ho:AA [] w w'):Af w0 w' hb sb tb rb v ve s' L L' G Ge rv rp :=
 ⟨h.p.Fb ho (by simp),h.c.only ho,h.f,h.o.step ho (by simp)⟩
theorem CR.yX {w w':World} {hb sb tb rb:Nat} {v ve:Value} {s:Ch} {L:List Ce} {G Ge F:List Nat} (h:CR w hb sb tb rb v ve s L G Ge) (ho:AA F w w') (hF:∀ b∈F,∃ cs ty fz,w.heap[b]?=some (.cells cs ty fz)∧oD (.cells cs ty fz)=true):CR w' hb sb tb rb v ve s L G Ge:=by
 have hd:∀ k∈CB hb sb tb rb L G Ge,k∉F:=fun k hk hm=>by
  obtain ⟨cs,ty,fz,a,b⟩:=hF k hm
  exact h.at.not a b hk
 exact ⟨ho.block h.h (hd _ (by simp [CB])),h.s.Ae ho (fun k hk=>hd k (by simp only [CB,List.mem_cons,List.mem_append] at hk ⊢;exact .inr (.inl hk))),h.e.keep ho (fun k hk=>hd k (by simp [CB,hk]))⟩
theorem Af.store {w0 w w':World} {hb sb tb rb:Nat} {v ve:Value} {s':Ch} {L L':List Ce} {G Ge:List Nat} {rv:Value} {rp:Rp} (h:Af w0 w hb sb tb rb v ve s' L L' G Ge rv rp) {b:Nat} {cs:Array Value} {ty:Nat} {fz:Nat × Nat} (ho:AA [b] w w') (hb':w.heap[b]?=some (.cells cs ty fz)) (h1:oD (.cells cs ty fz)=true) (h2:ty≠170) (h3:ty≠168) (h4:w0.heap.size≤b):Af w0 w' hb sb tb rb v ve s' L L' G Ge rv rp :=
 ⟨h.p.Fb ho (fun k hk=>by obtain rfl:=List.mem_singleton.1 hk;exact ⟨cs,ty,fz,hb',h2,h3⟩),h.c.yX ho (fun k hk=>by obtain rfl:=List.mem_singleton.1 hk;exact ⟨cs,ty,fz,hb',h1⟩),h.f,h.o.step ho (fun k hk => .inr (by obtain rfl:=List.mem_singleton.1 hk;exact h4))⟩
theorem CT {w0 w w':World} {hb sb tb rb:Nat} {v ve:Value} {s:Ch} {L:List Ce} {G Ge:List Nat} {n:Nat} {e:Ce} {rv:Value} {er:Int} {c1:Cs} {r1:Rp} (hO:CR w hb sb tb rb v ve s L G Ge) (he:L[n]?=some e) (T:Gx w e.cb e.F rv er e.c c1 r1 w') (hw:AA [] w0 w) :
 ∃ L',Af w0 w' hb sb tb rb v ve ⟨Bb s.s n (Cr e.c er c1),s.ev⟩ L L' G Ge rv (BU er c1 r1):=by
 obtain ⟨Hu,⟨F',hC',CV⟩,WO⟩:=T
 obtain ⟨_,_,_,_,_,hcb,_⟩:=(hO.s.c.c e (List.mem_of_getElem? he)).EB
 obtain ⟨L',h1,h2⟩:=CS.put hO.s (k:=(n:Int)) (by rw [Int.toNat_natCast];exact he) hC' CV WO
 have n1:hb≠e.cb:=AW hO.h hcb (by decide)
 have hz:=hw.size
 have hcm:e.cb∈sb :: tb :: rb :: (G ++ EL L):=by
  simp only [List.mem_cons,List.mem_append]
  exact .inr (.inr (.inr (.inr (Dj.2 ⟨e,List.mem_of_getElem? he,(hO.s.c.c e (List.mem_of_getElem? he)).mem⟩))))
 refine ⟨L',Hu,⟨WO.block hO.h (by simpa using n1),h1,hO.e.keep WO fun k hk hm=>by obtain rfl:=List.mem_singleton.1 hm;exact BQ hO.e hcb (by decide) hk⟩,fun k hk=>?_,(hw.weaken (by simp)).step WO fun k hk => .inl ?_⟩
 ·simp only [CB,List.mem_cons,List.mem_append] at hk ⊢
  rcases hk with hk | hk | hk
  ·exact .inl (.inl hk)
  ·rcases h2 k (by simp only [List.mem_cons,List.mem_append];exact hk) with q | q
   ·simp only [List.mem_cons,List.mem_append] at q
    exact .inl (.inr (.inl q))
   ·exact .inr om
  ·exact .inl (.inr (.inr hk))
 ·obtain rfl:=List.mem_singleton.1 hk
  simp only [CB,List.mem_cons,List.mem_append] at hcm ⊢
  exact .inr (.inl hcm)
theorem CR.xK {w:World} {hb sb tb rb:Nat} {v ve:Value} {s:Ch} {L:List Ce} {G Ge:List Nat} (h:CR w hb sb tb rb v ve s L G Ge) {b:Nat} {cs:Array Value} {fz:Nat × Nat} (h1:w.heap[b]?=some (.cells cs 51 fz)) (hne:b≠rb):b∉CB hb sb tb rb L G Ge:=fun hm=>by
 obtain ⟨cap,rest,a1,a2,_⟩:=h.s.t
 simp only [CB,List.mem_cons,List.mem_append] at hm
 rcases hm with rfl | (rfl | rfl | rfl | hm | hm) | hm
 ·exact AW h1 h.h (by decide) rfl
 ·exact AW h1 h.s.o (by decide) rfl
 ·exact AW h1 a1 (by decide) rfl
 ·exact hne rfl
 ·exact BQ h.s.c.a h1 (by decide) hm
 ·obtain ⟨x,hx,hk⟩:=Dj.1 hm
  exact (h.s.c.c x hx).not h1 rfl hk
 ·exact BQ h.e h1 (by decide) hm
theorem IN {w0 w1:World} {F F1 F2:List Nat} (h:∀ k∈F1,k∈F∨w0.heap.size≤k) (h2:∀ k∈F2,k∈F1∨w1.heap.size≤k) (hz:w0.heap.size≤w1.heap.size):∀ k∈F2,k∈F∨w0.heap.size≤k:=fun k hk=>by
 rcases h2 k hk with q | q
 ·exact h k q
 ·exact .inr om
abbrev NA (x:Tk):Obj := .cells #[.int .i64 x.id,.int .u8 x.st,.int .i64 x.core,.int .u32 x.w,.int .u64 x.slice,.int .i64 x.lag] 51 (0,0)
theorem RH (hb:Nat) (s:Ch) (F:List Nat) (x:Tk) (w0:World) (h:D4 w0 hb s F) (hx:CN s.s.cf.cores x) (hn:x.st≠0) (hl:s.ev.length≤1000000) :
 AM Tryz.prog 66 #[.pointer (some ⟨hb,0,none⟩),Jx x] w0 fun v w'=>v = .int .i64 (B6 s x).1∧qP w0 hb (B6 s x).2 F w':=by
 obtain ⟨sb,tb,rb,v,ve,L,G,Ge,rfl,hO⟩:=h.EB
 obtain ⟨n,FZ,hlt⟩:=hO.s.ok.at hx hn
 obtain ⟨e,he,hC,hce⟩:=hO.s.c.at hlt
 obtain ⟨g,cap,cur,rfl,hg,FQ⟩:=hO.s.c.ptr he
 have VF:=hO.s.c.len
 have P7:=hx.1
 have hxs:=hx.2.2.2.2.1
 have hR:CO e.c:=hC.bG
 obtain ⟨_,_,_,_,_,hcb,_⟩:=hC.EB
 have eL:B6 s x=(GH s.s.cf (CW (AS s.s x.core).A x.id) x.slice,BR ⟨Bb s.s x.core (Cr (AS s.s x.core) (Ax (AS s.s x.core) x.id).1 (Ax (AS s.s x.core) x.id).2),s.ev⟩ x.core (BU (Ax (AS s.s x.core) x.id).1 (Ax (AS s.s x.core) x.id).2 .none)):=rfl
 rw [FZ,show AS s.s n=e.c from hce.symm] at eL
 rw [eL]
 obtain ⟨xi,xt,xc,xw,C5,xl⟩:=x
 simp only at FZ P7 hxs
 subst FZ
 simp only
 have hs:=(((St.nil w0).AE hg).AE hO.s.o).AE hO.h
 refine AQ Tryz.func66 Tryz.ntmps66 (k:=?_)
 refine Ag ?_
 refine Al ?_
 refine Gd hs (k:=?_);clear hs;intro b3 w1 AJ z1 hs
 refine Jc ?_
 have Hs:Cc (BU (Ax e.c xi).1 (Ax e.c xi).2 .none):=Cc.none.try (Fy hR xi)
 have hkn:=IQ (e:=(Ax e.c xi).1) (r1 := .none) (Fy hR xi)
 generalize hrp:BU (Ax e.c xi).1 (Ax e.c xi).2 .none=rp at Hs hkn
 refine B7 (fun (y:Nat × Nat × Value × Value × List Ce)=>[(0,.pointer (some ⟨hb,0,none⟩)),(3,.pointer (some ⟨b3,0,none⟩)),(5,.pointer (some ⟨y.1,0,none⟩)),(6,.pointer (some ⟨y.2.1,0,none⟩))])
  (fun y w=>w.heap[b3]?=some (NA ⟨xi,xt,n,xw,C5,xl⟩)∧w.heap[y.1]?=some (G7 (CW e.c.A xi))∧w.heap[y.2.1]?=some (KW y.2.2.1 y.2.2.2.1)∧Af w0 w hb sb tb rb (.slice (some ⟨g,0,none⟩) L.length cap) ve ⟨Bb s.s n (Cr e.c (Ax e.c xi).1 (Ax e.c xi).2),s.ev⟩ L y.2.2.2.2 G Ge (.agg #[y.2.2.1,y.2.2.2.1]) rp) ?_ ?_
 ·refine Hj [] hs (k:=?_);clear hs;intro hX w CE hs
  have Av:=AJ.trans CE
  refine tks 0 9 ?_
  refine tk 9 hX (hr:=fun w' hH=>BG AI rfl rfl rfl (by show (0:Int)≤(n:Int);omega) (by show (n:Int) < _;omega)) (k:=?_)
  refine tk 10 hX (hr:=fun w' hH=>r_load AI rfl rfl (hH rfl) (by repeat (first | exact At.head | (with_reducible apply At.tail))) (by simpa using FQ)) (k:=?_)
  refine tks 11 2 ?_
  have fin:∀ (b5 b6:Nat) (H:List Bn),True:=fun _ _ _=>trivial
  refine dD 13 18 19 hX (h1:=?_) (h2:=?_) (h3:=?_)
  ·skip
   refine cl (h:=by exact Iq e.cb e.c e.F xi _ (hC.only Av) P7) (k:=?_)
   rintro v1 w2 ⟨rv,rfl,T⟩
   have hf:=T.form
   rw [hrp] at hf
   obtain ⟨ag,cg,ap,cp,rfl⟩:=hf
   obtain ⟨L',hA⟩:=CT (hO.only Av) he T Av
   rw [hrp] at hA
   replace hs:=hs.Db T.2.2 (fun k hk=>by obtain rfl:=List.mem_singleton.1 hk;exact hs.E8 (Av.block hcb (by simp)))
   refine XS.nil ?_
   refine dn (k:=?_)
   refine tks 14 4 ?_
   refine HL 18 19 hX (h1:=?_) (h2:=?_)
   ·skip
    refine FF hs (k:=?_);clear hs;intro b5 w5 BK z5 hs
    have y5:w0.heap.size≤b5:=Nat.le_trans (AA.size hA.o) z5
    replace hA:=hA.keep BK
    refine XS.nil ?_
    refine dn (k:=?_)
    refine dt 19 hX (k:=?_)
    refine FF hs (k:=?_);clear hs;intro b6 w6 Ak z6 hs
    have y6:w0.heap.size≤b6:=Nat.le_trans (AA.size hA.o) z6
    replace hA:=hA.keep Ak
    refine XS.nil ?_
    refine dn (k:=?_)
    refine dt 20 hX (k:=?_)
    have q5:=hs.get (b:=b5) (by repeat (first | exact At.head | (with_reducible apply At.tail)))
    refine DR hs (k:=?_);clear hs;intro KE Dk hs
    replace hA:=hA.store Dk q5 rfl (by decide) (by decide) y5
    refine XS.nil ?_
    refine dn (k:=?_)
    refine dt 21 hX (k:=?_)
    have q6:=hs.get (b:=b6) (by repeat (first | exact At.head | (with_reducible apply At.tail)))
    refine DR hs (k:=?_);clear hs;intro GP CG hs
    replace hA:=hA.store CG q6 rfl (by decide) (by decide) y6
    refine XS.nil ?_
    refine dn (k:=?_)
    refine tk 22 hX (k:=?_)
    refine en (k:=?_)
    have r3:=hs.get (b:=b3) (by repeat (first | exact At.head | (with_reducible apply At.tail)))
    have r5:=hs.get (b:=b5) (by repeat (first | exact At.head | (with_reducible apply At.tail)))
    have r6:=hs.get (b:=b6) (by repeat (first | exact At.head | (with_reducible apply At.tail)))
    exact AP (b5,b6,.slice ag rp.g.length cg,.slice ap rp.p.length cp,L') Ab ⟨r3,r5,r6,hA⟩
   ·skip
    refine FF hs (k:=?_);clear hs;intro b6 w6 Ak z6 hs
    have y6:w0.heap.size≤b6:=Nat.le_trans (AA.size hA.o) z6
    replace hA:=hA.keep Ak
    refine XS.nil ?_
    refine dn (k:=?_)
    refine dt 18 hX (k:=?_)
    refine FF hs (k:=?_);clear hs;intro b5 w5 BK z5 hs
    have y5:w0.heap.size≤b5:=Nat.le_trans (AA.size hA.o) z5
    replace hA:=hA.keep BK
    refine XS.nil ?_
    refine dn (k:=?_)
    refine dt 20 hX (k:=?_)
    have q5:=hs.get (b:=b5) (by repeat (first | exact At.head | (with_reducible apply At.tail)))
    refine DR hs (k:=?_);clear hs;intro KE Dk hs
    replace hA:=hA.store Dk q5 rfl (by decide) (by decide) y5
    refine XS.nil ?_
    refine dn (k:=?_)
    refine dt 21 hX (k:=?_)
    have q6:=hs.get (b:=b6) (by repeat (first | exact At.head | (with_reducible apply At.tail)))
    refine DR hs (k:=?_);clear hs;intro GP CG hs
    replace hA:=hA.store CG q6 rfl (by decide) (by decide) y6
    refine XS.nil ?_
    refine dn (k:=?_)
    refine tk 22 hX (k:=?_)
    refine en (k:=?_)
    have r3:=hs.get (b:=b3) (by repeat (first | exact At.head | (with_reducible apply At.tail)))
    have r5:=hs.get (b:=b5) (by repeat (first | exact At.head | (with_reducible apply At.tail)))
    have r6:=hs.get (b:=b6) (by repeat (first | exact At.head | (with_reducible apply At.tail)))
    exact AP (b5,b6,.slice ag rp.g.length cg,.slice ap rp.p.length cp,L') Ab ⟨r3,r5,r6,hA⟩
  ·skip
   refine FF hs (k:=?_);clear hs;intro b5 w5 BK z5 hs
   have y5:w0.heap.size≤b5:=Nat.le_trans (AA.size Av) z5
   replace Av:=Av.trans BK
   refine XS.nil ?_
   refine dn (k:=?_)
   refine HL 13 19 hX (h1:=?_) (h2:=?_)
   ·skip
    refine cl (h:=by exact Iq e.cb e.c e.F xi _ (hC.only Av) P7) (k:=?_)
    rintro v1 w2 ⟨rv,rfl,T⟩
    have hf:=T.form
    rw [hrp] at hf
    obtain ⟨ag,cg,ap,cp,rfl⟩:=hf
    obtain ⟨L',hA⟩:=CT (hO.only Av) he T Av
    rw [hrp] at hA
    replace hs:=hs.Db T.2.2 (fun k hk=>by obtain rfl:=List.mem_singleton.1 hk;exact hs.E8 (Av.block hcb (by simp)))
    refine XS.nil ?_
    refine dn (k:=?_)
    refine tks 14 4 ?_
    refine dt 19 hX (k:=?_)
    refine FF hs (k:=?_);clear hs;intro b6 w6 Ak z6 hs
    have y6:w0.heap.size≤b6:=Nat.le_trans (AA.size hA.o) z6
    replace hA:=hA.keep Ak
    refine XS.nil ?_
    refine dn (k:=?_)
    refine dt 20 hX (k:=?_)
    have q5:=hs.get (b:=b5) (by repeat (first | exact At.head | (with_reducible apply At.tail)))
    refine DR hs (k:=?_);clear hs;intro KE Dk hs
    replace hA:=hA.store Dk q5 rfl (by decide) (by decide) y5
    refine XS.nil ?_
    refine dn (k:=?_)
    refine dt 21 hX (k:=?_)
    have q6:=hs.get (b:=b6) (by repeat (first | exact At.head | (with_reducible apply At.tail)))
    refine DR hs (k:=?_);clear hs;intro GP CG hs
    replace hA:=hA.store CG q6 rfl (by decide) (by decide) y6
    refine XS.nil ?_
    refine dn (k:=?_)
    refine tk 22 hX (k:=?_)
    refine en (k:=?_)
    have r3:=hs.get (b:=b3) (by repeat (first | exact At.head | (with_reducible apply At.tail)))
    have r5:=hs.get (b:=b5) (by repeat (first | exact At.head | (with_reducible apply At.tail)))
    have r6:=hs.get (b:=b6) (by repeat (first | exact At.head | (with_reducible apply At.tail)))
    exact AP (b5,b6,.slice ag rp.g.length cg,.slice ap rp.p.length cp,L') Ab ⟨r3,r5,r6,hA⟩
   ·skip
    refine FF hs (k:=?_);clear hs;intro b6 w6 Ak z6 hs
    have y6:w0.heap.size≤b6:=Nat.le_trans (AA.size Av) z6
    replace Av:=Av.trans Ak
    refine XS.nil ?_
    refine dn (k:=?_)
    refine dt 13 hX (k:=?_)
    refine cl (h:=by exact Iq e.cb e.c e.F xi _ (hC.only Av) P7) (k:=?_)
    rintro v1 w2 ⟨rv,rfl,T⟩
    have hf:=T.form
    rw [hrp] at hf
    obtain ⟨ag,cg,ap,cp,rfl⟩:=hf
    obtain ⟨L',hA⟩:=CT (hO.only Av) he T Av
    rw [hrp] at hA
    replace hs:=hs.Db T.2.2 (fun k hk=>by obtain rfl:=List.mem_singleton.1 hk;exact hs.E8 (Av.block hcb (by simp)))
    refine XS.nil ?_
    refine dn (k:=?_)
    refine tks 14 4 ?_
    refine dt 20 hX (k:=?_)
    have q5:=hs.get (b:=b5) (by repeat (first | exact At.head | (with_reducible apply At.tail)))
    refine DR hs (k:=?_);clear hs;intro KE Dk hs
    replace hA:=hA.store Dk q5 rfl (by decide) (by decide) y5
    refine XS.nil ?_
    refine dn (k:=?_)
    refine dt 21 hX (k:=?_)
    have q6:=hs.get (b:=b6) (by repeat (first | exact At.head | (with_reducible apply At.tail)))
    refine DR hs (k:=?_);clear hs;intro GP CG hs
    replace hA:=hA.store CG q6 rfl (by decide) (by decide) y6
    refine XS.nil ?_
    refine dn (k:=?_)
    refine tk 22 hX (k:=?_)
    refine en (k:=?_)
    have r3:=hs.get (b:=b3) (by repeat (first | exact At.head | (with_reducible apply At.tail)))
    have r5:=hs.get (b:=b5) (by repeat (first | exact At.head | (with_reducible apply At.tail)))
    have r6:=hs.get (b:=b6) (by repeat (first | exact At.head | (with_reducible apply At.tail)))
    exact AP (b5,b6,.slice ag rp.g.length cg,.slice ap rp.p.length cp,L') Ab ⟨r3,r5,r6,hA⟩
  ·skip
   refine FF hs (k:=?_);clear hs;intro b6 w6 Ak z6 hs
   have y6:w0.heap.size≤b6:=Nat.le_trans (AA.size Av) z6
   replace Av:=Av.trans Ak
   refine XS.nil ?_
   refine dn (k:=?_)
   refine HL 13 18 hX (h1:=?_) (h2:=?_)
   ·skip
    refine cl (h:=by exact Iq e.cb e.c e.F xi _ (hC.only Av) P7) (k:=?_)
    rintro v1 w2 ⟨rv,rfl,T⟩
    have hf:=T.form
    rw [hrp] at hf
    obtain ⟨ag,cg,ap,cp,rfl⟩:=hf
    obtain ⟨L',hA⟩:=CT (hO.only Av) he T Av
    rw [hrp] at hA
    replace hs:=hs.Db T.2.2 (fun k hk=>by obtain rfl:=List.mem_singleton.1 hk;exact hs.E8 (Av.block hcb (by simp)))
    refine XS.nil ?_
    refine dn (k:=?_)
    refine tks 14 4 ?_
    refine dt 18 hX (k:=?_)
    refine FF hs (k:=?_);clear hs;intro b5 w5 BK z5 hs
    have y5:w0.heap.size≤b5:=Nat.le_trans (AA.size hA.o) z5
    replace hA:=hA.keep BK
    refine XS.nil ?_
    refine dn (k:=?_)
    refine dt 20 hX (k:=?_)
    have q5:=hs.get (b:=b5) (by repeat (first | exact At.head | (with_reducible apply At.tail)))
    refine DR hs (k:=?_);clear hs;intro KE Dk hs
    replace hA:=hA.store Dk q5 rfl (by decide) (by decide) y5
    refine XS.nil ?_
    refine dn (k:=?_)
    refine dt 21 hX (k:=?_)
    have q6:=hs.get (b:=b6) (by repeat (first | exact At.head | (with_reducible apply At.tail)))
    refine DR hs (k:=?_);clear hs;intro GP CG hs
    replace hA:=hA.store CG q6 rfl (by decide) (by decide) y6
    refine XS.nil ?_
    refine dn (k:=?_)
    refine tk 22 hX (k:=?_)
    refine en (k:=?_)
    have r3:=hs.get (b:=b3) (by repeat (first | exact At.head | (with_reducible apply At.tail)))
    have r5:=hs.get (b:=b5) (by repeat (first | exact At.head | (with_reducible apply At.tail)))
    have r6:=hs.get (b:=b6) (by repeat (first | exact At.head | (with_reducible apply At.tail)))
    exact AP (b5,b6,.slice ag rp.g.length cg,.slice ap rp.p.length cp,L') Ab ⟨r3,r5,r6,hA⟩
   ·skip
    refine FF hs (k:=?_);clear hs;intro b5 w5 BK z5 hs
    have y5:w0.heap.size≤b5:=Nat.le_trans (AA.size Av) z5
    replace Av:=Av.trans BK
    refine XS.nil ?_
    refine dn (k:=?_)
    refine dt 13 hX (k:=?_)
    refine cl (h:=by exact Iq e.cb e.c e.F xi _ (hC.only Av) P7) (k:=?_)
    rintro v1 w2 ⟨rv,rfl,T⟩
    have hf:=T.form
    rw [hrp] at hf
    obtain ⟨ag,cg,ap,cp,rfl⟩:=hf
    obtain ⟨L',hA⟩:=CT (hO.only Av) he T Av
    rw [hrp] at hA
    replace hs:=hs.Db T.2.2 (fun k hk=>by obtain rfl:=List.mem_singleton.1 hk;exact hs.E8 (Av.block hcb (by simp)))
    refine XS.nil ?_
    refine dn (k:=?_)
    refine tks 14 4 ?_
    refine dt 20 hX (k:=?_)
    have q5:=hs.get (b:=b5) (by repeat (first | exact At.head | (with_reducible apply At.tail)))
    refine DR hs (k:=?_);clear hs;intro KE Dk hs
    replace hA:=hA.store Dk q5 rfl (by decide) (by decide) y5
    refine XS.nil ?_
    refine dn (k:=?_)
    refine dt 21 hX (k:=?_)
    have q6:=hs.get (b:=b6) (by repeat (first | exact At.head | (with_reducible apply At.tail)))
    refine DR hs (k:=?_);clear hs;intro GP CG hs
    replace hA:=hA.store CG q6 rfl (by decide) (by decide) y6
    refine XS.nil ?_
    refine dn (k:=?_)
    refine tk 22 hX (k:=?_)
    refine en (k:=?_)
    have r3:=hs.get (b:=b3) (by repeat (first | exact At.head | (with_reducible apply At.tail)))
    have r5:=hs.get (b:=b5) (by repeat (first | exact At.head | (with_reducible apply At.tail)))
    have r6:=hs.get (b:=b6) (by repeat (first | exact At.head | (with_reducible apply At.tail)))
    exact AP (b5,b6,.slice ag rp.g.length cg,.slice ap rp.p.length cp,L') Ab ⟨r3,r5,r6,hA⟩
 ·rintro ⟨b5,b6,vg,vp,L'⟩ env w4 ⟨k3,k5,k6,hA⟩
  simp only at k5 k6 hA
  clear hs
  have L6:=hA.c.h
  have hs:=((((St.nil w4).AE k3).AE k5).AE k6).AE L6
  have Ut:=hA.p
  obtain ⟨_,_,_,_,OP,_,_⟩:=hA.p
  cases OP
  refine Ja ?_
  have hoq:=hs.AB [] (by simp [k3,k5,k6,L6]) (by simp [D0])
  refine cl (h:=by exact GI hb _ _ n _ rp _ (hA.c.only hoq).at (Ut.Fb hoq (by simp)) Hs (by show s.ev.length+rp.p.length+rp.g.length≤_;have:=hkn.1;have:=hkn.2;have e1:Rp.none.p.length=0:=rfl;have e2:Rp.none.g.length=0:=rfl;omega)) (k:=?_)
  rintro v5 w5 ⟨F5,OG,jE,BK⟩
  have Lm:=hoq.size
  have PT:=hA.o.size
  have Yl:=hO.s.t.Rj.2
  have hAq:=hA.c.only hoq
  have Oj:=BK.block (hoq.block k3 (by simp)) (hAq.xK (hoq.block k3 (by simp)) om)
  have k5':=BK.block (hoq.block k5 (by simp)) (hAq.at.not (hoq.block k5 (by simp)) rfl)
  have Ed:AA (CB hb sb tb rb L G Ge) w0 w5:=(hA.o.step hoq (by simp)).step BK hA.f
  have ML:=IN hA.f jE (show w0.heap.size≤_ by omega)
  have ecf:=(absorb_k ⟨Bb s.s n (Cr e.c (Ax e.c xi).1 (Ax e.c xi).2),s.ev⟩ n rp).2
  obtain ⟨sb5,tb5,rb5,Og,ve5,L5,G5,Ge5,rfl,tX⟩:=OG.EB
  have tF:=tX.s.o
  have o5h:=tX.h
  have ok5:=tX.s.ok.cf
  obtain ⟨s1,hs1⟩:=hR
  have H7:=M7 hs1 xi
  rw [show (BR ⟨Bb s.s n (Cr e.c (Ax e.c xi).1 (Ax e.c xi).2),s.ev⟩ n rp).s.cf=s.s.cf from ecf] at tF ok5
  clear hs
  have hs:=(((St.nil w5).AE k5').AE Oj).AE o5h |>.AE tF
  refine Jb ?_
  refine dr [] hs (k:=?_);intro hX w hs
  refine tks 0 10 ?_
  refine dt 10 hX (k:=?_)
  refine AY hs (h:=by exact Q5 s.s.cf (CW e.c.A xi) C5 ok5 H7 hxs _) (k:=?_);intro w' ho hs;refine Jb ?_
  refine dn (k:=?_)
  refine tk 11 hX (k:=?_)
  refine en (k:=?_)
  refine Jb ?_
  refine AF ?_
  have Ak:=hs.AB [] (by simp [k5',Oj,o5h,tF]) (by simp [D0])
  exact ⟨rfl,_,OG.only Ak,ML,Ed.step Ak (by simp)⟩
def Jq (w0:World) (hb:Nat) (e:Int) (s:Ch) (F:List Nat) (w':World):Prop:=(e=0→∃ F',D4 w' hb s F'∧∀ k∈F',k∈F∨w0.heap.size≤k)∧AA F w0 w'
theorem RF (cb:Nat) (c:Cs) (F:List Nat) (id q ns lag:Int) (w0:World) (h:Bc w0 cb c F) (hid:In64 id) (hq:F7 q) (DZ:BV ns) (H7:In64 lag) :
 AM Tryz.prog 93 #[.pointer (some ⟨cb,0,none⟩),.int .i64 id,.int .u32 q,.int .u64 ns,.int .i64 lag] w0 fun v w'=>∃ rv,v = .tuple #[rv,.int .i64 (Bi c id q ns lag).1]∧Gx w0 cb F rv (Bi c id q ns lag).1 c (Bi c id q ns lag).2 .none w':=Qg cb c F id q ns lag w0 h hid hq DZ H7
theorem CR.place {w:World} {hb sb tb rb:Nat} {v ve:Value} {s:Ch} {L:List Ce} {G Ge:List Nat} (hO:CR w hb sb tb rb v ve s L G Ge) {x:Tk} (hx:CN s.s.cf.cores x) (hn:x.st≠0):∃ (n:Nat) (e:Ce) (g cap:Nat) (cur:List Value),x.core=n∧n < s.s.k.length∧L[n]?=some e∧Bc w e.cb e.c e.F∧AS s.s n=e.c∧v = .slice (some ⟨g,0,none⟩) L.length cap∧w.heap[g]?=some (.cells cur.toArray TM (0,0))∧cur[n]?=some (.pointer (some ⟨e.cb,0,none⟩))∧L.length=s.s.k.length∧CO e.c∧∃ a r k,w.heap[e.cb]?=some (Et a r k):=by
 obtain ⟨n,FZ,hlt⟩:=hO.s.ok.at hx hn
 obtain ⟨e,he,hC,hce⟩:=hO.s.c.at hlt
 obtain ⟨g,cap,cur,hv,hg,FQ⟩:=hO.s.c.ptr he
 obtain ⟨_,_,_,_,_,hcb,_⟩:=hC.EB
 exact ⟨n,e,g,cap,cur,FZ,hlt,he,hC,hce.symm,hv,hg,FQ,hO.s.c.len,hC.bG,_,_,_,hcb⟩
theorem Nb (hb:Nat) (s:Ch) (F:List Nat) (x:Tk) (lag:Int) (w0:World) (h:D4 w0 hb s F) (hx:CN s.s.cf.cores x) (hn:x.st≠0) (H7:In64 lag) (hl:s.ev.length≤1000000) :
 AM Tryz.prog 56 #[.pointer (some ⟨hb,0,none⟩),Jx x,.int .i64 lag] w0 fun v w'=>v = .int .i64 (FM s x lag).1∧Jq w0 hb (FM s x lag).1 (FM s x lag).2 F w':=by
 obtain ⟨sb,tb,rb,v,ve,L,G,Ge,rfl,hO⟩:=h.EB
 obtain ⟨n,e,g,cap,cur,FZ,hlt,he,hC,hce,rfl,hg,FQ,VF,hR,_,_,_,hcb⟩:=hO.place hx hn
 have P7:=hx.1
 have wV:=hx.2.2.2.1
 have hxs:=hx.2.2.2.2.1
 have eL:FM s x lag=if (Bi (AS s.s x.core) x.id x.w x.slice lag).1=0 then (0,BR ⟨Bb s.s x.core (Cr (AS s.s x.core) (Bi (AS s.s x.core) x.id x.w x.slice lag).1 (Bi (AS s.s x.core) x.id x.w x.slice lag).2),s.ev⟩ x.core (BU (Bi (AS s.s x.core) x.id x.w x.slice lag).1 (Bi (AS s.s x.core) x.id x.w x.slice lag).2 .none)) else ((Bi (AS s.s x.core) x.id x.w x.slice lag).1,s):=rfl
 rw [FZ,hce] at eL
 rw [eL]
 obtain ⟨xi,xt,xc,xw,C5,xl⟩:=x
 simp only at FZ P7 hxs wV
 subst FZ
 simp only
 have hs:=(((St.nil w0).AE hg).AE hO.s.o).AE hO.h
 refine AQ Tryz.func56 Tryz.ntmps56 (k:=?_)
 refine Ag ?_
 refine Al ?_
 refine Gd hs (k:=?_);clear hs;intro b3 w1 AJ z1 hs
 refine Jc ?_
 have Hs:Cc (BU (Bi e.c xi xw C5 lag).1 (Bi e.c xi xw C5 lag).2 .none):=Cc.none.try (Nd hR xi xw C5 lag)
 have hkn:=IQ (e:=(Bi e.c xi xw C5 lag).1) (r1 := .none) (Nd hR xi xw C5 lag)
 generalize hrp:BU (Bi e.c xi xw C5 lag).1 (Bi e.c xi xw C5 lag).2 .none=rp at Hs hkn
 refine B7 (fun (y:Nat × Value × Value × List Ce)=>[(0,.pointer (some ⟨hb,0,none⟩)),(4,.pointer (some ⟨b3,0,none⟩)),(7,.pointer (some ⟨y.1,0,none⟩)),(8,.int .i64 (Bi e.c xi xw C5 lag).1)])
  (fun y w=>w.heap[b3]?=some (NA ⟨xi,xt,n,xw,C5,xl⟩)∧w.heap[y.1]?=some (KW y.2.1 y.2.2.1)∧Af w0 w hb sb tb rb (.slice (some ⟨g,0,none⟩) L.length cap) ve ⟨Bb s.s n (Cr e.c (Bi e.c xi xw C5 lag).1 (Bi e.c xi xw C5 lag).2),s.ev⟩ L y.2.2.2 G Ge (.agg #[y.2.1,y.2.2.1]) rp) ?_ ?_
 ·refine Hj [] hs (k:=?_);clear hs;intro hX w CE hs
  have Av:=AJ.trans CE
  refine tks 0 9 ?_
  refine tk 9 hX (hr:=fun w' hH=>BG AI rfl rfl rfl (by show (0:Int)≤(n:Int);omega) (by show (n:Int) < _;omega)) (k:=?_)
  refine tk 10 hX (hr:=fun w' hH=>r_load AI rfl rfl (hH rfl) (by repeat (first | exact At.head | (with_reducible apply At.tail))) (by simpa using FQ)) (k:=?_)
  refine tks 11 7 ?_
  refine HL 18 22 hX (h1:=?_) (h2:=?_)
  ·skip
   refine cl (h:=by exact RF e.cb e.c e.F xi xw C5 lag _ (hC.only Av) P7 wV hxs H7) (k:=?_)
   rintro v1 w2 ⟨rv,rfl,T⟩
   have hf:=T.form
   rw [hrp] at hf
   obtain ⟨ag,cg,ap,cp,rfl⟩:=hf
   obtain ⟨L',hA⟩:=CT (hO.only Av) he T Av
   rw [hrp] at hA
   replace hs:=hs.Db T.2.2 (fun k hk=>by obtain rfl:=List.mem_singleton.1 hk;exact hs.E8 (Av.block hcb (by simp)))
   refine XS.nil ?_
   refine dn (k:=?_)
   refine tks 19 3 ?_
   refine dt 22 hX (k:=?_)
   refine FF hs (k:=?_);clear hs;intro b6 w6 Ak z6 hs
   have y6:w0.heap.size≤b6:=Nat.le_trans (AA.size hA.o) z6
   replace hA:=hA.keep Ak
   refine XS.nil ?_
   refine dn (k:=?_)
   refine dt 23 hX (k:=?_)
   have q6:=hs.get (b:=b6) (by repeat (first | exact At.head | (with_reducible apply At.tail)))
   refine DR hs (k:=?_);clear hs;intro GP CG hs
   replace hA:=hA.store CG q6 rfl (by decide) (by decide) y6
   refine XS.nil ?_
   refine dn (k:=?_)
   refine tk 24 hX (k:=?_)
   refine en (k:=?_)
   have r3:=hs.get (b:=b3) (by repeat (first | exact At.head | (with_reducible apply At.tail)))
   have r6:=hs.get (b:=b6) (by repeat (first | exact At.head | (with_reducible apply At.tail)))
   exact AP (b6,.slice ag rp.g.length cg,.slice ap rp.p.length cp,L') Ab ⟨r3,r6,hA⟩
  ·skip
   refine FF hs (k:=?_);clear hs;intro b6 w6 Ak z6 hs
   have y6:w0.heap.size≤b6:=Nat.le_trans (AA.size Av) z6
   replace Av:=Av.trans Ak
   refine XS.nil ?_
   refine dn (k:=?_)
   refine dt 18 hX (k:=?_)
   refine cl (h:=by exact RF e.cb e.c e.F xi xw C5 lag _ (hC.only Av) P7 wV hxs H7) (k:=?_)
   rintro v1 w2 ⟨rv,rfl,T⟩
   have hf:=T.form
   rw [hrp] at hf
   obtain ⟨ag,cg,ap,cp,rfl⟩:=hf
   obtain ⟨L',hA⟩:=CT (hO.only Av) he T Av
   rw [hrp] at hA
   replace hs:=hs.Db T.2.2 (fun k hk=>by obtain rfl:=List.mem_singleton.1 hk;exact hs.E8 (Av.block hcb (by simp)))
   refine XS.nil ?_
   refine dn (k:=?_)
   refine tks 19 3 ?_
   refine dt 23 hX (k:=?_)
   have q6:=hs.get (b:=b6) (by repeat (first | exact At.head | (with_reducible apply At.tail)))
   refine DR hs (k:=?_);clear hs;intro GP CG hs
   replace hA:=hA.store CG q6 rfl (by decide) (by decide) y6
   refine XS.nil ?_
   refine dn (k:=?_)
   refine tk 24 hX (k:=?_)
   refine en (k:=?_)
   have r3:=hs.get (b:=b3) (by repeat (first | exact At.head | (with_reducible apply At.tail)))
   have r6:=hs.get (b:=b6) (by repeat (first | exact At.head | (with_reducible apply At.tail)))
   exact AP (b6,.slice ag rp.g.length cg,.slice ap rp.p.length cp,L') Ab ⟨r3,r6,hA⟩
 ·rintro ⟨b6,vg,vp,L'⟩ env w4 ⟨k3,k6,hA⟩
  simp only at k6 hA
  clear hs
  have L6:=hA.c.h
  have hs:=(((St.nil w4).AE k3).AE k6).AE L6
  have Ut:=hA.p
  obtain ⟨_,_,_,_,OP,_,_⟩:=hA.p
  cases OP
  generalize Bi e.c xi xw C5 lag=J at *
  by_cases hJ:J.1=0
  ·rw [if_pos hJ]
   rw [hJ] at hA ⊢
   refine Je ?_
   have hoq:=hs.AB [] (by simp [k3,k6,L6]) (by simp [D0])
   refine cl (h:=by exact GI hb _ _ n _ rp _ (hA.c.only hoq).at (Ut.Fb hoq (by simp)) Hs (by show s.ev.length+rp.p.length+rp.g.length≤_;have:=hkn.1;have:=hkn.2;have e1:Rp.none.p.length=0:=rfl;have e2:Rp.none.g.length=0:=rfl;omega)) (k:=?_)
   rintro v5 w5 ⟨F5,OG,jE,BK⟩
   have PT:=hA.o.size
   have Ed:AA (CB hb sb tb rb L G Ge) w0 w5:=(hA.o.step hoq (by simp)).step BK hA.f
   have ML:=IN hA.f jE (show w0.heap.size≤_ by omega)
   clear hs
   have hs:=St.nil w5
   refine Ja ?_
   refine AF ?_
   have Ak:=hs.AD rfl
   exact ⟨rfl,fun _=>⟨_,OG.only Ak,ML⟩,Ed.step Ak (by simp)⟩
  ·rw [if_neg hJ]
   repeat' (first|refine Sa ?_|refine Au rfl (fun hc=>?_) fun hc=>?_|fail)
   ·exact absurd (by simpa using hc) hJ
   ·refine AF ?_
    have Ak:=hs.AB [] (by simp [k3,k6,L6]) (by simp [D0])
    exact ⟨rfl,fun q=>absurd q hJ,hA.o.step Ak (by simp)⟩
theorem iP (L:List Ce) (e:Ce):ptrs (L ++ [e])=ptrs L ++ [.pointer (some ⟨e.cb,0,none⟩)]:=by simp [ptrs]
theorem eZ (L:List Ce) (e:Ce):EL (L ++ [e])=EL L ++ e.F:=by simp [EL]
theorem CQ.none (w:World):CQ w (.slice none 0 0) [] [] []:=⟨.inl ⟨rfl,rfl,rfl,rfl⟩,rfl,fun x hx=>(by cases hx),fun i j x y hx=>(by simp at hx)⟩
theorem CQ.lt {w:World} {v:Value} {l:List Cs} {L:List Ce} {G:List Nat} (h:CQ w v l L G):∀ k∈G ++ EL L,k < w.heap.size:=fun k hk=>by
 rcases List.mem_append.1 hk with q | q
 ·exact h.a.lt k q
 ·obtain ⟨x,hx,q⟩:=Dj.1 q
  exact (h.c x hx).lt k q
theorem CQ.ap {w:World} {v:Value} {l:List Cs} {L:List Ce} {G:List Nat} (h:CQ w v l L G):∀ k∈EL L,k∉G:=fun k hk hm=>by
 obtain ⟨x,hx,q⟩:=Dj.1 hk
 obtain ⟨cs,hc⟩:=LN h.a k hm
 exact (h.c x hx).not hc rfl q
structure EX (w0 w:World) (sb tb rb:Nat) (cf:Cf) (t:List Tk) (l:List Cs) (v:Value) (L:List Ce) (G:List Nat):Prop where
 o:w.heap[sb]?=some (S6 tb cf v)
 t:DW w tb rb t
 c:CQ w v l L G
 f:∀ k∈sb :: tb :: rb :: (G ++ EL L),w0.heap.size≤k
 w:AA [] w0 w
theorem EX.keep {w0 w w':World} {sb tb rb:Nat} {cf:Cf} {t:List Tk} {l:List Cs} {v:Value} {L:List Ce} {G:List Nat} (h:EX w0 w sb tb rb cf t l v L G) (ho:AA [] w w'):EX w0 w' sb tb rb cf t l v L G :=
 ⟨ho.block h.o (by simp),h.t.only ho,h.c.Ae ho (by simp),h.f,h.w.trans ho⟩
theorem EX.grow {w0 w w1 w2:World} {sb tb rb:Nat} {cf:Cf} {t:List Tk} {l:List Cs} {v v':Value} {L:List Ce} {G G':List Nat} (h:EX w0 w sb tb rb cf t l v L G) {e:Ce} (hc:Bc w e.cb e.c e.F) (hd:∀ k∈e.F,k∉EL L) (hf:∀ k∈e.F,w0.heap.size≤k)
 (ha:Ba w1 TM 1 v' (L.length+1) (ptrs L ++ [.pointer (some ⟨e.cb,0,none⟩)]) G') (hG:∀ k∈G',k∈G∨w.heap.size≤k) (ho:AA G w w1) (AN:AA [sb] w1 w2) (vB:w2.heap[sb]?=some (S6 tb cf v')):EX w0 w2 sb tb rb cf t (l ++ [e.c]) v' (L ++ [e]) G':=by
 obtain ⟨cap,rest,a1,a2,_⟩:=h.t
 have hz:=h.w.size
 have n1:tb∉G:=fun hm=>BQ h.c.a a1 (by decide) hm
 have n2:rb∉G:=fun hm=>BQ h.c.a a2 (by decide) hm
 have n3:sb∉G:=fun hm=>BQ h.c.a h.o (by decide) hm
 have o1:=ho.block h.o n3
 have t1:=h.t.keep ho n1 n2
 have m1:sb≠tb:=AW h.o a1 (by decide)
 have m2:sb≠rb:=AW h.o a2 (by decide)
 have xZ:∀ x∈L,Bc w1 x.cb x.c x.F:=fun x hx=>(h.c.c x hx).Ae ho fun k hk=>h.c.ap k (Dj.2 ⟨x,hx,hk⟩)
 have hce:Bc w1 e.cb e.c e.F:=hc.Ae ho fun k hk hm=>by
  obtain ⟨cs,hcs⟩:=LN h.c.a k hm
  exact hc.not hcs rfl hk
 have hb:=lt_of_block h.o
 refine ⟨vB,t1.keep AN (by simpa using Ne.symm m1) (by simpa using Ne.symm m2),?_,fun k hk=>?_,(h.w.step ho fun k hk => .inr (h.f k (by simp [hk]))).step AN fun k hk => .inr (by obtain rfl:=List.mem_singleton.1 hk;exact h.f _ (by simp))⟩
 ·have nsb:∀ {x:Ce},Bc w1 x.cb x.c x.F→sb∉x.F:=fun {x} hx=>hx.not o1 rfl
  have c1:CQ w2 (.slice Option.none 0 0) l L []∨True := .inr trivial
  have base:CQ w2 v' (l ++ [e.c]) (L ++ [e]) G':=by
   refine ⟨?_,by rw [List.map_append,h.c.l];rfl,fun x hx=>?_,fun i j x y hx hy hne k hk hm=>?_⟩
   ·rw [List.length_append,iP]
    exact ha.keep AN fun k hk hm=>by obtain rfl:=List.mem_singleton.1 hm;exact BQ ha o1 (by decide) hk
   ·have hx1:Bc w1 x.cb x.c x.F:=by
     rcases List.mem_append.1 hx with q | q
     ·exact xZ x q
     ·obtain rfl:=List.mem_singleton.1 q;exact hce
    exact hx1.Ae AN fun k hk hm=>by obtain rfl:=List.mem_singleton.1 hm;exact nsb hx1 hk
   ·rw [List.getElem?_append] at hx hy
    have one:∀ (a:Nat) (z:Ce),([e]:List Ce)[a]?=some z→a=0∧z=e:=fun a z hz=>by
     cases a with
     | zero=>cases hz;exact ⟨rfl,rfl⟩
     | succ a=>simp at hz
    split at hx
    ·split at hy
     ·exact h.c.d i j x y hx hy hne k hk hm
     ·obtain ⟨_,rfl⟩:=one _ _ hy
      exact hd k hm (Dj.2 ⟨x,List.mem_of_getElem? hx,hk⟩)
    ·obtain ⟨e1,rfl⟩:=one _ _ hx
     split at hy
     ·exact hd k hk (Dj.2 ⟨y,List.mem_of_getElem? hy,hm⟩)
     ·obtain ⟨e2,rfl⟩:=one _ _ hy
      omega
  exact base
 ·have Yo:=h.f
  simp only [List.mem_cons,List.mem_append,eZ] at hk Yo
  rcases hk with rfl | rfl | rfl | hk | hk | hk
  ·exact Yo _ (.inl rfl)
  ·exact Yo _ (.inr (.inl rfl))
  ·exact Yo _ (.inr (.inr (.inl rfl)))
  ·rcases hG k hk with q | q
   ·exact Yo k (.inr (.inr (.inr (.inl q))))
   ·omega
  ·exact Yo k (.inr (.inr (.inr (.inr hk))))
  ·exact hf k hk
theorem P6 (sb:Nat) (s:Sy) (F:List Nat) (w0:World) (h:CS w0 sb s F):AM Tryz.prog 14 #[.pointer (some ⟨sb,0,none⟩)] w0 fun v w'=>(∃ sb' F',v = .pointer (some ⟨sb',0,none⟩)∧CS w' sb' s F'∧∀ k∈F',w0.heap.size≤k)∧AA [] w0 w':=by
 obtain ⟨tb,rb,vc,L,G,rfl,hO⟩:=h
 have h1:=hO.o
 have hs:=(St.nil w0).AE h1
 have hlen:=hO.ok.len
 have hlo:=hO.ok.lo
 have hhi:=hO.ok.hi
 have hL:=hO.c.len
 have h0:0 < s.k.length:=by omega
 obtain ⟨x0,hx0,_,_⟩:=hO.c.at h0
 obtain ⟨g,cap,cur,rfl,hg,_⟩:=hO.c.ptr hx0
 have FQ:∀ (i:Nat) (x:Ce),L[i]?=some x→cur[i]?=some (.pointer (some ⟨x.cb,0,none⟩)):=fun i x hx=>by
  obtain ⟨g',cap',cur',e,hg',M0⟩:=hO.c.ptr hx
  cases e
  rw [hg] at hg'
  simp only [Option.some.injEq,Obj.cells.injEq] at hg'
  have:=congrArg Array.toList hg'.1
  simp only at this
  rw [this];exact M0
 refine AQ Tryz.func14 Tryz.ntmps14 (k:=?_)
 refine Jd ?_
 refine dr [] hs (k:=?_);intro hX w hs
 refine tks 0 4 ?_
 refine tks 5 4 ?_
 refine dt 4 hX (k:=?_)
 have CP:=hs.AB [] (by simp [h1]) (by simp [D0])
 refine cl (h:=by exact bV tb rb s.t _ (hO.t.only CP)) (k:=?_)
 rintro v w1 ⟨⟨EZ,rb',rfl,Bj,n1,n2,n3⟩,AJ⟩;replace hs:=hs.AK AJ
 have JK:=CP.size
 have kq:=hs.get (b:=sb) (o:=S6 tb s.cf (.slice (some ⟨g,0,none⟩) L.length cap)) (by repeat (first | exact At.head | (with_reducible apply At.tail)))
 have Aw:=hs.AB [] (by simp [h1]) (by simp [D0])
 have nX:=Aw.size
 clear hs
 have hs:=(St.nil w1).AE kq
 refine Jb ?_
 refine dn (k:=?_)
 refine tk 9 hX (k:=?_)
 refine dt 10 hX (k:=?_)
 refine bx hs (k:=?_);clear hs;intro sb' w2 MK hs
 refine XS.nil ?_
 have vH:=hs.new _ List.mem_cons_self rfl
 simp only at vH
 refine dn (k:=?_)
 refine tk 11 hX (k:=?_)
 refine en (k:=?_)
 refine Ja ?_
 have B8:=hs.AB [] (by simp [kq]) (by simp [D0])
 have yC:EX w0 _ sb' EZ rb' s.cf s.t [] (.slice none 0 0) [] []:=⟨hs.get (b:=sb') (by repeat (first | exact At.head | (with_reducible apply At.tail))),Bj.only B8,CQ.none _,fun k hk=>by
  simp only [List.mem_cons,List.nil_append,show EL []=[] from rfl,List.not_mem_nil,or_false] at hk
  rcases hk with rfl | rfl | rfl <;> omega,Aw.trans B8⟩
 refine BN (fun (_:Value × List Ce × List Nat)=>[(3,.pointer (some ⟨sb',0,none⟩))]) (fun y w=>EX w0 w sb' EZ rb' s.cf s.t s.k y.1 y.2.1 y.2.2) ?_ ?_
 ·refine BD (fun (x:Nat × Value × List Ce × List Nat)=>[(3,.pointer (some ⟨sb',0,none⟩)),(22,.slice (some ⟨g,0,none⟩) L.length cap),(23,.int .i64 (L.length:Nat)),(24,.int .i64 (x.1:Nat))])
   (fun x w=>x.1≤L.length∧EX w0 w sb' EZ rb' s.cf s.t (s.k.take x.1) x.2.1 x.2.2.1 x.2.2.2) (fun x=>L.length - x.1) (0,.slice none 0 0,[],[]) Ab ⟨Nat.zero_le _,yC⟩ fun x env wl ⟨hi,hM⟩=>?_
  obtain ⟨i,v5,L5,G5⟩:=x
  simp only at hi hM
  clear hs
  have gT:=hM.w.block hg (by simp)
  have hs:=((St.nil wl).AE gT).AE hM.o
  repeat' (first|refine Sa ?_|refine Au rfl (fun hc=>?_) fun hc=>?_|fail)
  ·have hlt:i < L.length:=by omega
   have QW:i < s.k.length:=by omega
   obtain ⟨x,hx,hC,hce⟩:=hO.c.at QW
   have ei:=D2 (m:=L.length) hlt om
   have et:s.k.take (i+1)=s.k.take i ++ [x.c]:=by
    rw [C4 QW,hce,List.getD_eq_getElem?_getD,List.getElem?_eq_getElem QW];rfl
   have tC:=hM.c.len
   rw [List.length_take] at tC
   refine ix (h0:=(by omega)) (h1:=(by omega)) (k:=?_)
   refine lb (hc:=(by simpa using FQ i x hx)) (k:=?_)
   refine Jc ?_
   refine dr [11] hs (k:=?_);intro hX w hs
   refine tks 0 6 ?_
   refine dt 6 hX (k:=?_)
   have Av:=hs.AB [] (by simp [gT,hM.o]) (by simp [D0])
   refine cl (h:=by exact Mm x.cb x.c x.F _ (hC.only (hM.w.trans Av))) (k:=?_)
   rintro v6 w6 ⟨⟨SN,F6,rfl,jT,VK⟩,Ak⟩;replace hs:=hs.AK Ak
   have Pd:=hM.keep (hs.AB [] (by simp [gT,hM.o]) (by simp [D0]))
   have jC:=(hM.w.trans Av).size
   have XO:=hM.c.lt
   have KO:=Av.size
   have fO:=Pd.o
   have yP:=Pd.w.block hg (by simp)
   clear hs
   have hs:=((St.nil w6).AE yP).AE fO
   refine Jb ?_
   refine dn (k:=?_)
   refine dt 7 hX (k:=?_)
   refine bs hs (k:=?_);clear hs;intro b7 w7 Yn hs
   refine XS.nil ?_
   refine dn (k:=?_)
   refine dt 8 hX (k:=?_)
   have C1:=hs.AB [] (by simp [fO,yP]) (by simp [D0])
   have Nw:=Pd.keep C1
   have aBB:=C1.size
   refine CM AI rfl rfl rfl rfl rfl rfl rfl (by decide) (lit_cells (news:=[.pointer (some ⟨SN,0,none⟩)]) (hs.get At.head)) (by simp [Value.oneCell']) Nw.c.a om om ?_
   intro v8 w8 ⟨G8,iD,mC⟩ E3
   obtain ⟨a8,yJ,rfl⟩:=BO iD
   have k8:=E3.block (hs.get (b:=sb') (o:=S6 EZ s.cf v5) (by repeat (first | exact At.head | (with_reducible apply At.tail)))) (fun hm=>BQ Nw.c.a Nw.o (by decide) hm)
   have kg8:=E3.block (C1.block yP (by simp)) (fun hm=>by
    have:=Nw.f g (by simp [hm])
    have:=lt_of_block hg
    omega)
   clear hs
   have hs:=((St.nil w8).AE kg8).AE k8
   refine XS.nil ?_
   refine dn (k:=?_)
   refine tks 9 2 ?_
   refine dt 11 hX (k:=?_)
   refine st hs (k:=?_);clear hs;intro w9 hs
   refine XS.nil ?_
   refine dn (k:=?_)
   refine en (k:=?_)
   refine Ja ?_
   have hG:EX w0 _ sb' EZ rb' s.cf s.t (s.k.take i ++ [x.c]) _ (L5 ++ [⟨SN,x.c,F6⟩]) G8 :=
    Nw.grow (e:=⟨SN,x.c,F6⟩) (jT.only C1) (fun k hk hm=>by
     have:=VK k hk
     have:=XO k (List.mem_append_right _ hm)
     omega) (fun k hk=>by have:=VK k hk;omega) iD mC E3 (hs.AB [sb'] (by simp [kg8]) (by simp [D0])) (hs.get (b:=sb') (by repeat (first | exact At.head | (with_reducible apply At.tail))))
   refine A2 (i+1,.slice a8 (L5.length+1) yJ,L5 ++ [⟨SN,x.c,F6⟩],G8) (by show L.length - (i+1) < L.length - i;omega) (by (repeat (first | exact Ac | (apply A5;first | exact rfl | exact congrArg (Value.int .i64) ei)))) ⟨by show i+1≤_;omega,?_⟩
   show EX w0 _ sb' EZ rb' s.cf s.t (s.k.take (i+1)) _ _ G8
   rw [et]
   exact hG
  ·have e:i=s.k.length:=by omega
   subst e
   rw [List.take_length] at hM
   exact Ar (v5,L5,G5) Ab hM
 ·rintro ⟨v5,L5,G5⟩ env w hM
  simp only at hM
  clear hs
  have hs:=St.nil w
  refine Ja ?_
  refine AF ?_
  have hM2:=hM.keep (hs.AD rfl)
  exact ⟨⟨sb',_,rfl,⟨EZ,rb',v5,L5,G5,rfl,hM2.o,hM2.t,hM2.c,hO.ok⟩,hM2.f⟩,hM2.w⟩
theorem T8 (c:Cf) (hc0:c.In) (w0:World):AM Tryz.prog 9 #[QC c] w0 fun v w'=>((FK c≠0∧v = .tuple #[.pointer none,.int .i64 (FK c)])∨(FK c=0∧∃ sb F,v = .tuple #[.pointer (some ⟨sb,0,none⟩),.int .i64 0]∧CS w' sb (JC c) F∧∀ k∈F,w0.heap.size≤k))∧AA [] w0 w':=by
 have hs:=St.nil w0
 refine AQ Tryz.func9 Tryz.ntmps9 (k:=?_)
 refine Ag ?_
 refine Al ?_
 refine bx hs (k:=?_);clear hs;intro b1 w1 JK hs
 refine Ja ?_
 refine cl (h:=by exact UX c hc0 _) (k:=?_)
 by_cases e0:FK c=0
 ·have hck:=Wv e0
  have aAb:=(inv_new hc0 e0).ok
  rw [e0]
  rintro v w' ⟨rfl,ho⟩;replace hs:=hs.AK ho;refine Jd ?_
  have g1:=hs.new (b1,true) (by simp) rfl
  simp only at g1
  refine dr [] hs (k:=?_);intro hX w hs
  refine tks 0 2 ?_
  refine tk 3 hX (k:=?_)
  refine dt 2 hX (k:=?_)
  have CP:=hs.AD rfl
  refine cl (h:=by exact Uw c.tasks _) (k:=?_)
  rintro v w2 ⟨⟨EZ,rb',rfl,Bj,n1,n2,n3⟩,AJ⟩;replace hs:=hs.AK AJ
  have JK:=CP.size
  have kq:=hs.get (b:=b1) (by repeat (first | exact At.head | (with_reducible apply At.tail)))
  have Aw:=hs.AD rfl
  have nX:=Aw.size
  clear hs
  have hs:=(St.nil w2).AE kq
  refine Jb ?_
  refine dn (k:=?_)
  refine tk 4 hX (k:=?_)
  refine dt 5 hX (k:=?_)
  refine bx hs (k:=?_);clear hs;intro sb' w3 N2 hs
  refine XS.nil ?_
  have vH:=hs.new _ List.mem_cons_self rfl
  simp only at vH
  refine dn (k:=?_)
  refine tk 6 hX (k:=?_)
  refine en (k:=?_)
  refine Ja ?_
  have B8:=hs.AB [] (by simp [kq]) (by simp [D0])
  have kc:=hs.get (b:=b1) (by repeat (first | exact At.head | (with_reducible apply At.tail)))
  have yC:EX w0 _ sb' EZ rb' c (List.replicate (Es c.tasks) .zero) [] (.slice none 0 0) [] []:=⟨hs.get (b:=sb') (by repeat (first | exact At.head | (with_reducible apply At.tail))),Bj.only B8,CQ.none _,fun k hk=>by
   simp only [List.mem_cons,List.nil_append,show EL []=[] from rfl,List.not_mem_nil,or_false] at hk
   rcases hk with rfl | rfl | rfl <;> omega,Aw.trans B8⟩
  obtain ⟨m,hm⟩:∃ m:Nat,c.cores=m:=⟨c.cores.toNat,by omega⟩
  rw [hm]
  refine BN (fun (_:Value × List Ce × List Nat)=>[(5,.pointer (some ⟨sb',0,none⟩))]) (fun y w=>EX w0 w sb' EZ rb' c (List.replicate (Es c.tasks) .zero) (List.replicate m (EV c.origin)) y.1 y.2.1 y.2.2) ?_ ?_
  ·refine BD (fun (x:Nat × Value × List Ce × List Nat)=>[(1,.pointer (some ⟨b1,0,none⟩)),(5,.pointer (some ⟨sb',0,none⟩)),(18,.int .i64 (m:Nat)),(19,.int .i64 (x.1:Nat))])
    (fun x w=>x.1≤m∧w.heap[b1]?=some (.cells #[.int .i64 c.cores,.int .i64 c.tasks,.int .u64 c.tick,.int .u64 c.slice,.int .u64 c.origin] 24 (0,0))∧EX w0 w sb' EZ rb' c (List.replicate (Es c.tasks) .zero) (List.replicate x.1 (EV c.origin)) x.2.1 x.2.2.1 x.2.2.2) (fun x=>m - x.1) (0,.slice none 0 0,[],[]) Ab ⟨Nat.zero_le _,kc,yC⟩ fun x env wl ⟨hi,hB,hM⟩=>?_
   obtain ⟨i,v5,L5,G5⟩:=x
   simp only at hi hM
   clear hs
   have hs:=((St.nil wl).AE hB).AE hM.o
   repeat' (first|refine Sa ?_|refine Au rfl (fun hc=>?_) fun hc=>?_|fail)
   ·have hlt:i < m:=by omega
    have ei:=D2 (m:=m) hlt om
    have tC:=hM.c.len
    rw [List.length_replicate] at tC
    refine dr [12] hs (k:=?_);intro hX w hs
    refine tks 0 7 ?_
    refine dt 7 hX (k:=?_)
    have Av:=hs.AB [] (by simp [hB,hM.o]) (by simp [D0])
    refine cl (h:=by exact Vc c.origin hc0.2.2.2.2 _) (k:=?_)
    rintro v6 w6 ⟨⟨SN,F6,rfl,jT,VK⟩,Ak⟩;replace hs:=hs.AK Ak
    have Pd:=hM.keep (hs.AB [] (by simp [hB,hM.o]) (by simp [D0]))
    have jC:=(hM.w.trans Av).size
    have XO:=hM.c.lt
    have KO:=Av.size
    have fO:=Pd.o
    have kB:=hs.get (b:=b1) (by repeat (first | exact At.head | (with_reducible apply At.tail)))
    clear hs
    have hs:=((St.nil w6).AE kB).AE fO
    refine Jb ?_
    refine dn (k:=?_)
    refine dt 8 hX (k:=?_)
    refine bs hs (k:=?_);clear hs;intro b7 w7 Yn hs
    refine XS.nil ?_
    refine dn (k:=?_)
    refine dt 9 hX (k:=?_)
    have C1:=hs.AB [] (by simp [fO,kB]) (by simp [D0])
    have Nw:=Pd.keep C1
    have aBB:=C1.size
    refine CM AI rfl rfl rfl rfl rfl rfl rfl (by decide) (lit_cells (news:=[.pointer (some ⟨SN,0,none⟩)]) (hs.get At.head)) (by simp [Value.oneCell']) Nw.c.a om om ?_
    intro v8 w8 ⟨G8,iD,mC⟩ E3
    obtain ⟨a8,yJ,rfl⟩:=BO iD
    have k8:=E3.block (hs.get (b:=sb') (o:=S6 EZ c v5) (by repeat (first | exact At.head | (with_reducible apply At.tail)))) (fun hm=>BQ Nw.c.a Nw.o (by decide) hm)
    have k9:=E3.block (hs.get (b:=b1) (by repeat (first | exact At.head | (with_reducible apply At.tail)))) (fun hm=>BQ Nw.c.a (hs.get (b:=b1) (by repeat (first | exact At.head | (with_reducible apply At.tail)))) (by decide) hm)
    clear hs
    have hs:=((St.nil w8).AE k9).AE k8
    refine XS.nil ?_
    refine dn (k:=?_)
    refine tks 10 2 ?_
    refine dt 12 hX (k:=?_)
    refine st hs (k:=?_);clear hs;intro w9 hs
    refine XS.nil ?_
    refine dn (k:=?_)
    refine en (k:=?_)
    refine Ja ?_
    have hG:EX w0 _ sb' EZ rb' c (List.replicate (Es c.tasks) .zero) (List.replicate i (EV c.origin) ++ [EV c.origin]) _ (L5 ++ [⟨SN,EV c.origin,F6⟩]) G8 :=
     Nw.grow (e:=⟨SN,EV c.origin,F6⟩) (jT.only C1) (fun k hk hm=>by
      have:=VK k hk
      have:=XO k (List.mem_append_right _ hm)
      omega) (fun k hk=>by have:=VK k hk;omega) iD mC E3 (hs.AB [sb'] (by simp [k9]) (by simp [D0])) (hs.get (b:=sb') (by repeat (first | exact At.head | (with_reducible apply At.tail))))
    refine A2 (i+1,.slice a8 (L5.length+1) yJ,L5 ++ [⟨SN,EV c.origin,F6⟩],G8) (by show m - (i+1) < m - i;omega) (by (repeat (first | exact Ac | (apply A5;first | exact rfl | exact congrArg (Value.int .i64) ei)))) ⟨by show i+1≤_;omega,hs.get (b:=b1) (by repeat (first | exact At.head | (with_reducible apply At.tail))),?_⟩
    show EX w0 _ sb' EZ rb' c _ (List.replicate (i+1) (EV c.origin)) _ _ G8
    rw [List.replicate_succ']
    exact hG
   ·have e:i=m:=by omega
    subst e
    exact Ar (v5,L5,G5) Ab hM
  ·rintro ⟨v5,L5,G5⟩ env w hM
   simp only at hM
   clear hs
   have hs:=St.nil w
   refine Ja ?_
   refine AF ?_
   have hM2:=hM.keep (hs.AD rfl)
   have em:c.cores.toNat=m:=by omega
   exact ⟨.inr ⟨rfl,sb',_,rfl,⟨EZ,rb',v5,L5,G5,rfl,hM2.o,hM2.t,by
    show CQ _ v5 (List.replicate c.cores.toNat (EV c.origin)) L5 G5
    rw [em];exact hM2.c,aAb⟩,hM2.f⟩,hM2.w⟩
 ·generalize FK c=e at *
  rintro v w' ⟨rfl,ho⟩;replace hs:=hs.AK ho;repeat' (first|refine Sa ?_|refine xc_cond rfl (fun hc=>?_) fun hc=>?_|fail)
  ·refine AF ?_
   exact ⟨.inl ⟨e0,rfl⟩,hs.AD rfl⟩
  ·exact absurd (by simpa using hc) e0
def qN (w0 w:World) (fid:Nat) (caps:List Value) (E:List Nat) (Qx:World→Prop) (s:Sy) (l:Int × Ch):Prop :=
 ∀ hb F,D4 w hb ⟨s,[]⟩ F→(∀ k∈F,w0.heap.size≤k) →
  AM Tryz.prog fid (.pointer (some ⟨hb,0,none⟩) :: caps).toArray w fun v w'=>v = .int .i64 l.1∧Qx w'∧(l.1=0→∃ F',D4 w' hb l.2 F'∧∀ k∈F',k∈F∨w.heap.size≤k)∧AA (F ++ E) w w'
def Dt (w0:World) (sb:Nat) (F E:List Nat) (ve:Value) (s:Sy) (l:Int × Ch) (w':World):Prop :=
 (∃ G,Y2 w' ve (FG s l).1 G)∧(∃ F',CS w' sb (FG s l).2 F'∧∀ k∈F',k∈F∨w0.heap.size≤k)∧AA (sb :: E) w0 w'
theorem Qk (sb:Nat) (s:Sy) (F:List Nat) (w0:World) (h:CS w0 sb s F) (fid:Nat) (caps:List Value) (E:List Nat) (Qx:World→Prop) (l:Int × Ch)
 (hQ:∀ w w' G,Qx w→AA G w w'→(∀ k∈E,k∉G)→Qx w') (hE:∀ k∈E,k∉F∧k < w0.heap.size) (VW:∀ w,AA [] w0 w→qN w0 w fid caps E Qx s l) :
 AM Tryz.prog 50 #[.pointer (some ⟨sb,0,none⟩),.func (.func fid) #[] caps.toArray] w0 fun v w'=>∃ ve,v = .tuple #[ve,.int .i64 l.1]∧Qx w'∧Dt w0 sb F E ve s l w':=by
 have hS:=h
 obtain ⟨tb,rb,vc,L,G,rfl,hO⟩:=h
 have h1:=hO.o
 have lsb:=lt_of_block h1
 have hs:=(St.nil w0).AE h1
 refine AQ Tryz.func50 Tryz.ntmps50 (k:=?_)
 refine Jd ?_
 have ho:=hs.AB [] (by simp [h1]) (by simp [D0])
 refine cl (h:=by exact P6 sb s _ _ (hS.only ho)) (k:=?_)
 rintro v w1 ⟨⟨sb',F',rfl,EK,CV⟩,AJ⟩;replace hs:=hs.AK AJ
 have Aw:=hs.AB [] (by simp [h1]) (by simp [D0])
 have k1:=hs.get At.head
 have zA:=ho.size
 clear hs
 have hs:=(St.nil w1).AE k1
 refine vs (k:=?_)
 refine Gd hs (k:=?_);clear hs;intro hb w2 AN z2 hs
 refine Ja ?_
 have AT:=hs.AB [] (fun e he => .inr (.inr (hs.hold e he))) (by simp [D0])
 have kh:=hs.get (b:=hb) (by repeat (first | exact At.head | (with_reducible apply At.tail)))
 have Di:=EK.only AN
 have iS:D4 w2 hb ⟨s,[]⟩ (hb :: (F' ++ [])):=⟨sb',F',_,[],rfl,kh,Di,.inl ⟨rfl,rfl,rfl,rfl⟩⟩
 have zB:=Aw.size
 have zC:=AN.size
 have Dm:∀ k∈hb :: (F' ++ []),w0.heap.size≤k:=fun k hk=>by
  simp only [List.append_nil,List.mem_cons] at hk
  rcases hk with rfl | hk
  ·omega
  ·have:=CV k hk;omega
 have B8:=Aw.trans AN
 refine cl (h:=by exact VW _ B8 hb _ iS Dm) (k:=?_)
 rintro v w3 ⟨rfl,hX,hres,Ao⟩
 have m1:sb∉(hb :: (F' ++ [])) ++ E:=fun hm=>by
  rcases List.mem_append.1 hm with q | q
  ·have:=Dm sb q;omega
  ·exact (hE sb q).1 (by simp)
 have j1:=Ao.block (hs.get (b:=sb) (by repeat (first | exact At.head | (with_reducible apply At.tail)))) m1
 have EH:AA (sb :: E) w0 w3:=((B8.weaken (by simp)).step Ao (fun k hk=>by
  rcases List.mem_append.1 hk with q | q
  ·exact .inr (Dm k q)
  ·exact .inl (by simp [q])))
 have zD:=EH.size
 clear hs
 have vX:FG s l=if l.1=0 then (l.2.ev,l.2.s) else ([],s):=rfl
 obtain ⟨tr,htr⟩:∃ tr,tr=FG s l:=⟨_,rfl⟩
 rw [← htr] at vX
 generalize l.2=s1 at *
 generalize l.1=e at *
 have T0:∀ (ve:Value) (w':World),Dt w0 sb (sb :: tb :: rb :: (G ++ EL L)) E ve s l w'=((∃ G,Y2 w' ve (FG s l).1 G)∧(∃ F',CS w' sb (FG s l).2 F'∧∀ k∈F',k∈(sb :: tb :: rb :: (G ++ EL L))∨w0.heap.size≤k)∧AA (sb :: E) w0 w'):=fun _ _=>rfl
 simp only [T0]
 by_cases he:e=0
 ·subst he
  obtain ⟨F3,VG,MQ⟩:=hres rfl
  have nD:∀ k∈F3,w0.heap.size≤k:=fun k hk=>by
   rcases MQ k hk with q | q
   ·exact Dm k q
   ·have:=B8.size;omega
  obtain ⟨uJ,wN,uA,v3,ve3,L3,G3,Ge3,rfl,HB⟩:=VG.EB
  have yO:=HB.h
  have wR:=HB.s.o
  have n3:uJ≠sb:=by have:=nD uJ (by simp [CB]);omega
  obtain ⟨ae,ce,rfl⟩:=BO HB.e
  obtain ⟨a3,c3,rfl⟩:=BO HB.s.c.a
  have yO:=HB.h
  have wR:=HB.s.o
  have hs:=(((St.nil w3).AE j1).AG wR (by simpa using n3)).AE yO
  repeat' (first|refine Sd ?_|(refine AU hs (k:=?_);intro w hs)|fail)
  refine AF ?_
  have Ak:AA [sb] w3 _:=hs.AB [sb] (by simp [wR,yO]) (by simp [D0])
  have hd:∀ k∈CB hb uJ wN uA L3 G3 Ge3,k∉[sb]:=fun k hk hm=>by
   obtain rfl:=List.mem_singleton.1 hm
   have:=nD _ hk;omega
  have et:FG s l=(s1.ev,s1.s):=by rw [← htr,vX];exact if_pos rfl
  have pX:∀ k∈sb :: wN :: uA :: (G3 ++ EL L3),k∈sb :: tb :: rb :: (G ++ EL L)∨w0.heap.size≤k:=fun k hk=>by
   rcases List.mem_cons.1 hk with rfl | hk
   ·exact .inl (by simp)
   ·exact .inr (nD k (by simp only [CB,List.mem_cons,List.mem_append] at hk ⊢;exact .inr (.inl (.inr hk))))
  have UE:=HB.s
  refine ⟨_,rfl,hQ _ _ _ hX Ak (fun k hk hm=>by obtain rfl:=List.mem_singleton.1 hm;exact (hE _ hk).1 (by simp)),?_,?_,EH.step Ak (fun k hk => .inl (by obtain rfl:=List.mem_singleton.1 hk;simp))⟩
  ·rw [et]
   exact ⟨Ge3,HB.e.keep Ak (fun k hk=>hd k (by simp [CB,hk]))⟩
  ·rw [et]
   exact ⟨_,⟨wN,uA,_,L3,G3,rfl,hs.get (b:=sb) (by repeat (first | exact At.head | (with_reducible apply At.tail))),UE.t.keep Ak (hd _ (by simp [CB])) (hd _ (by simp [CB])),UE.c.Ae Ak (fun k hk=>hd k (by simp only [CB,List.mem_cons,List.mem_append] at hk ⊢;exact .inr (.inl (.inr (.inr (.inr hk)))))),UE.ok⟩,pX⟩
 ·have hs:=(St.nil w3).AE j1
  have et:FG s l=([],s):=by rw [← htr,vX];exact if_neg he
  repeat' (first|refine Sa ?_|refine xc_cond rfl (fun hc=>?_) fun hc=>?_|fail)
  ·refine AF ?_
   have Ak:=hs.AB [] (by simp [j1]) (by simp [D0])
   refine ⟨_,rfl,hQ _ _ _ hX Ak (by simp),?_,?_,EH.step Ak (by simp)⟩
   ·rw [et];exact ⟨[],.inl ⟨rfl,rfl,rfl,rfl⟩⟩
   ·rw [et]
    refine ⟨_,((hS.only B8).Ae Ao (fun k hk hm=>?_)).only Ak,fun k hk => .inl hk⟩
    rcases List.mem_append.1 hm with q | q
    ·have:=Dm k q
     have:=hS.lt k hk
     omega
    ·exact (hE k q).1 hk
  ·exact absurd (by simpa using hc) he
def Pg (w:World) (E:List Nat) (fid:Nat) (caps:List Value) (Qx:World→Prop) (f:Ch→Tk→Int × Ch) (s:Sy) (id:Int):Prop :=
 ∀ hb F,D4 w hb ⟨s,[]⟩ F→(∀ k∈F,k∉E)→Dd (BI s.t id)=0 →
  AM Tryz.prog fid (.pointer (some ⟨hb,0,none⟩) :: Jx (BF s.t id) :: caps).toArray w fun v w'=>v = .int .i64 (f ⟨s,[]⟩ (BF s.t id)).1∧Jq w hb (f ⟨s,[]⟩ (BF s.t id)).1 (f ⟨s,[]⟩ (BF s.t id)).2 F w'
theorem dX (b1 b2:Nat) (id:Int) (fid:Nat) (caps:List Value) (s:Sy) (fu:Ch→Tk→Int × Ch) (wb w0:World) (hid:In64 id) (hw0:AA [] wb w0) (B1:wb.heap[b1]?=some (.cells #[.int .i64 id] 3 (0,0))) (B2:wb.heap[b2]?=some (.cells #[.func (.func fid) #[] caps.toArray] 139 (0,0)))
 (VW:∀ w,AA [] wb w→Pg w (List.range wb.heap.size) fid caps (fun _=>True) fu s id) :
 qN wb w0 99 [.pointer (some ⟨b1,0,none⟩),.pointer (some ⟨b2,0,none⟩)] [] (fun _=>True) s (CJ ⟨s,[]⟩ id fu):=by
 intro hb F hC hF
 have Eu:=hC
 obtain ⟨sb,tb,rb,v,ve,L,G,Ge,rfl,hO⟩:=hC.EB
 have oh:=hO.h
 have os:=hO.s.o
 have oR:=hw0.block B1 (by simp)
 have qE:=hw0.block B2 (by simp)
 have eW:CJ ⟨s,[]⟩ id fu=if Dd (BI s.t id)≠0 then (Dd (BI s.t id),⟨s,[]⟩) else fu ⟨s,[]⟩ (BF s.t id):=rfl
 rw [eW]
 generalize hq:BF s.t id=q
 have hs:=((((St.nil w0).AE os).AE oh).AE oR).AE qE
 refine AQ Tryz.func99 Tryz.ntmps99 (k:=?_)
 refine Ja ?_
 refine dr [] hs (k:=?_);intro hX w hs
 refine tks 0 8 ?_
 refine GS 12 5 hs (k:=?_);intro f X w hp;have hs:=hp.st
 apply BH 8 12 (f:=f) (X:=X) hX hp;exact rfl;exact rfl;(apply AR AI;exact rfl);kernel_rfl;kernel_rfl;kernel_rfl;kernel_rfl;(intro X Y;(repeat (first | exact A4 | refine A3 ?_ (by exact rfl))));(intro w' hs;first|exact AH hs.hold|exact AH hs.hold.tail|exact A6 rfl);intro f X w hp;have hs:=hp.st
 have ho:=hs.AB [] (by simp [oh,os,oR,qE]) (by simp [D0])
 refine cl (h:=by exact Od tb rb s.t id _ (hO.s.t.only ho) hid) (k:=?_)
 rw [hq]
 rintro v w' ⟨rfl,ho⟩;replace hp:=hp.only ho;replace hs:=hp.st;refine Jb ?_
 refine dn (k:=?_)
 refine tk 9 hX (hc:=by cases f <;> kernel_rfl) (k:=?_)
 refine tk 10 hX (hc:=by cases f <;> kernel_rfl) (k:=?_)
 refine tk 11 hX (hc:=by cases f <;> kernel_rfl) (k:=?_)
 apply B9 12 (f:=f) (X:=X) hX hp;exact rfl;(apply AR AI;exact rfl);kernel_rfl;kernel_rfl;(intro X Y;(repeat (first | exact A4 | refine A3 ?_ (by exact rfl))));(intro w' hs;first|exact AH hs.hold|exact AH hs.hold.tail|exact A6 rfl);intro b w hI hs
 refine dt 13 hX (k:=?_)
 repeat' (first|refine Nx.h ?_|(refine AU hs (k:=?_);intro w hs)|fail)
 refine dn (k:=?_)
 refine tk 14 hX (k:=?_)
 refine en (k:=?_)
 by_cases he:Dd (BI s.t id)=0
 ·rw [he,if_neg (by simp)]
  refine Jd ?_
  have hoq:=hs.AB [] (by simp [oh,os,oR,qE]) (by simp [D0])
  have:=VW _ (hw0.trans hoq) hb _ (Eu.only hoq) (fun k hk hm=>by have:=hF k hk;have:=List.mem_range.1 hm;omega) he
  rw [hq] at this
  refine cl (h:=by exact this) (k:=?_)
  rintro v5 w5 ⟨rfl,hL,BK⟩
  have hz:=hoq.size
  clear hs
  have hs:=St.nil w5
  refine Jc ?_
  refine AF ?_
  have Ak:=hs.AD rfl
  refine ⟨rfl,trivial,fun e0=>?_,((hoq.weaken (by simp)).step BK (fun k hk => .inl (by simpa using hk))).step Ak (by simp)⟩
  obtain ⟨F',h1,h2⟩:=hL e0
  exact ⟨F',h1.only Ak,fun k hk=>by
   rcases h2 k hk with q | q
   ·exact .inl q
   ·exact .inr om⟩
 ·rw [if_pos he]
  generalize Dd (BI s.t id)=e at *
  repeat' (first|refine Sa ?_|refine xc_cond rfl (fun hc=>?_) fun hc=>?_|fail)
  ·refine AF ?_
   have Ak:=hs.AB [] (by simp [oh,os,oR,qE]) (by simp [D0])
   exact ⟨rfl,trivial,fun z=>absurd z he,Ak.weaken (by simp)⟩
  ·exact absurd (by simpa using hc) he
theorem I1 (sb:Nat) (s:Sy) (F:List Nat) (id:Int) (fid:Nat) (caps:List Value) (f:Ch→Tk→Int × Ch) (w0:World) (h:CS w0 sb s F) (hid:In64 id)
 (VW:∀ wb w,AA [] w0 wb→AA [] wb w→Pg w (List.range wb.heap.size) fid caps (fun _=>True) f s id) :
 AM Tryz.prog 64 #[.pointer (some ⟨sb,0,none⟩),.int .i64 id,.func (.func fid) #[] caps.toArray] w0 fun v w'=>∃ ve,v = .tuple #[ve,.int .i64 (CJ ⟨s,[]⟩ id f).1]∧Dt w0 sb F [] ve s (CJ ⟨s,[]⟩ id f) w':=by
 have hs:=St.nil w0
 refine AQ Tryz.func64 Tryz.ntmps64 (k:=?_)
 refine Ag ?_
 refine Al ?_
 refine Gd hs (k:=?_);clear hs;intro b4 w1 AJ z1 hs
 refine Gd hs (k:=?_);clear hs;intro b5 w2 AN z2 hs
 refine Ja ?_
 have Aw:=AJ.trans AN
 have k4:=hs.get (b:=b4) (by repeat (first | exact At.head | (with_reducible apply At.tail)))
 have k5:=hs.get (b:=b5) (by repeat (first | exact At.head | (with_reducible apply At.tail)))
 refine cl (h:=by exact Qk sb s F _ (h.only Aw) 99 [.pointer (some ⟨b4,0,none⟩),.pointer (some ⟨b5,0,none⟩)] [] (fun _=>True) (CJ ⟨s,[]⟩ id f) (fun _ _ _ _ _ _=>trivial) (by simp) (fun w hw=>dX b4 b5 id fid caps s f _ w hid hw k4 k5 (fun w' hw'=>VW _ w' Aw hw'))) (k:=?_)
 rintro v w3 ⟨ve,rfl,_,⟨Gt,nZ⟩,⟨F',wG,CV⟩,AT⟩
 obtain ⟨ae,ce,rfl⟩:=BO nZ
 have zA:=Aw.size
 clear hs
 have hs:=St.nil w3
 refine Jc ?_
 refine AF ?_
 have Ao:=hs.AD rfl
 exact ⟨_,rfl,⟨Gt,nZ.keep Ao (by simp)⟩,⟨F',wG.only Ao,fun k hk=>by
  rcases CV k hk with q | q
  ·exact .inl q
  ·exact .inr om⟩,((Aw.weaken (by simp)).step AT (fun k hk => .inl hk)).step Ao (by simp)⟩
theorem CR.JD {w w':World} {hb sb tb rb:Nat} {v ve:Value} {s:Ch} {L:List Ce} {G Ge:List Nat} (h:CR w hb sb tb rb v ve s L G Ge) {t:List Tk} (ht:DW w' tb rb t) (ho:AA [rb] w w') (hok:EC { s.s with t:=t }):CR w' hb sb tb rb v ve ⟨{ s.s with t:=t },s.ev⟩ L G Ge:=by
 obtain ⟨cap,rest,a1,a2,_⟩:=h.s.t
 exact ⟨ho.block h.h (by simpa using AW h.h a2 (by decide)),h.s.rows ht ho hok,h.e.keep ho fun k hk hm=>by obtain rfl:=List.mem_singleton.1 hm;exact BQ h.e a2 (by decide) hk⟩
theorem St.Hg {wb w:World} {D:Ctx} {b4:Nat} {o:Obj} {nw:Bool} {H:List Bn} (h:St wb D ((b4,o,nw) :: H) w) {b:Nat} {cs:Array Value} {ty:Nat} {fz:Nat × Nat} (hne:b4≠b) (hb:w.heap[b]?=some (.cells cs ty fz)) (hn:(H.all fun e=>TK ty e.2.1)=true:=by rfl):b∉((b4,o,nw) :: H).map (·.1):=fun hm=>by
 rcases List.mem_cons.1 hm with q | q
 ·exact hne q.symm
 ·obtain ⟨e,he,rfl⟩:=List.mem_map.1 q
  have h1:=List.all_eq_true.1 hn e he
  have h2:=h.at_ e (List.mem_cons_of_mem _ he)
  rw [hb] at h2
  rw [← Option.some.inj h2] at h1
  simp [TK] at h1
theorem Pg.of {w:World} {E:List Nat} {fid:Nat} {caps:List Value} {f:Ch→Tk→Int × Ch} {s:Sy} {id:Int} (h:∀ hb F,D4 w hb ⟨s,[]⟩ F→Dd (BI s.t id)=0→CN s.cf.cores (BF s.t id)→(BF s.t id).st≠0 →
 AM Tryz.prog fid (.pointer (some ⟨hb,0,none⟩) :: Jx (BF s.t id) :: caps).toArray w fun v w'=>v = .int .i64 (f ⟨s,[]⟩ (BF s.t id)).1∧Jq w hb (f ⟨s,[]⟩ (BF s.t id)).1 (f ⟨s,[]⟩ (BF s.t id)).2 F w'):Pg w E fid caps (fun _=>True) f s id:=fun hb F hC _ he=>by
 obtain ⟨sb,tb,rb,v,ve,L,G,Ge,rfl,hO⟩:=hC.EB
 exact h hb _ hC he (ok_task hO.s.ok.row id) (task_st he)
theorem fD (b2 hb:Nat) (s:Sy) (F:List Nat) (x:Tk) (id:Int) (w0:World) (h:D4 w0 hb ⟨s,[]⟩ F) (hid:In64 id) (B2:w0.heap[b2]?=some (.cells #[.int .i64 id] 3 (0,0))) (hx:CN s.cf.cores x) (hn:x.st≠0) :
 AM Tryz.prog 65 #[.pointer (some ⟨hb,0,none⟩),Jx x,.pointer (some ⟨b2,0,none⟩)] w0 fun v w'=>v = .int .i64 (Gc ⟨s,[]⟩ x id).1∧Jq w0 hb (Gc ⟨s,[]⟩ x id).1 (Gc ⟨s,[]⟩ x id).2 F w':=by
 have Eu:=h
 have eX:Gc ⟨s,[]⟩ x id=(Dd (BI (if BP x=true then (B6 ⟨s,[]⟩ x).2 else ⟨s,[]⟩).s.t id),⟨{ (if BP x=true then (B6 ⟨s,[]⟩ x).2 else ⟨s,[]⟩).s with t:=FJ (if BP x=true then (B6 ⟨s,[]⟩ x).2 else ⟨s,[]⟩).s.t id },(if BP x=true then (B6 ⟨s,[]⟩ x).2 else ⟨s,[]⟩).ev⟩):=rfl
 rw [eX]
 have hs:=(St.nil w0).AE B2
 refine AQ Tryz.func65 Tryz.ntmps65 (k:=?_)
 refine Ag ?_
 refine Al ?_
 refine Gd hs (k:=?_);clear hs;intro b4 w1 AJ z1 hs
 refine Ja ?_
 refine cl (h:=by exact Ib x _) (k:=?_)
 rintro v w2 ⟨rfl,AN⟩
 replace hs:=hs.I9 AN
 have Aw:=AJ.trans AN
 have zA:=Aw.size
 refine XS.nil ?_
 refine Dw ?_
 generalize EK:(if BP x=true then (B6 ⟨s,[]⟩ x).2 else (⟨s,[]⟩:Ch))=S1
 refine B7 (fun (_:List Nat)=>[(0,.pointer (some ⟨hb,0,none⟩)),(2,.pointer (some ⟨b2,0,none⟩))]) (fun F1 w=>w.heap[b2]?=some (.cells #[.int .i64 id] 3 (0,0))∧D4 w hb S1 F1∧(∀ k∈F1,k∈F∨w0.heap.size≤k)∧AA F w0 w) ?_ ?_
 ·cases hc:BP x with
  | false =>
    rw [hc,if_neg (by simp)] at EK
    subst EK
    refine Jg ?_
    exact AP F Ab ⟨hs.get (b:=b2) (by repeat (first | exact At.head | (with_reducible apply At.tail))),Eu.only Aw,fun k hk => .inl hk,Aw.weaken (by simp)⟩
  | true =>
    rw [hc,if_pos rfl] at EK
    subst EK
    refine Ji ?_
    refine cl (h:=by exact RH hb ⟨s,[]⟩ F x _ (Eu.only Aw) hx hn (by simp)) (k:=?_)
    rintro v w3 ⟨rfl,F3,VG,MQ,AT⟩
    have k2:=AT.block (hs.get (b:=b2) (by repeat (first | exact At.head | (with_reducible apply At.tail)))) ((Eu.only Aw).not (hs.get (b:=b2) (by repeat (first | exact At.head | (with_reducible apply At.tail)))) rfl)
    clear hs
    have hs:=St.nil w3
    refine Jb ?_
    exact AP F3 Ab ⟨k2,VG,fun k hk=>by
     rcases MQ k hk with q | q
     ·exact .inl q
     ·exact .inr om,(Aw.weaken (by simp)).step AT (fun k hk => .inl hk)⟩
 ·rintro F1 env w4 ⟨k2,Yz,pX,Ao⟩
  obtain ⟨sb,tb,rb,v,ve,L,G,Ge,rfl,hO⟩:=Yz.EB
  clear hs
  have hs:=((St.nil w4).AE k2).AE hO.s.o |>.AE hO.h
  refine Jb ?_
  refine Hj [] hs (k:=?_);clear hs;intro hX w CE hs
  replace hO:=hO.only CE
  refine tks 0 8 ?_
  refine dt 8 hX (k:=?_)
  refine cl (h:=by exact Th tb rb S1.s.t id _ hO.s.t hid) (k:=?_)
  rintro v12 w12 ⟨rfl,FW,Bq⟩
  have Hf:=hO.s.t
  obtain ⟨J9,Hw,MB,Eb,_⟩:=Hf
  replace hs:=hs.Db Bq (fun k hk=>by obtain rfl:=List.mem_singleton.1 hk;exact hs.E8 Eb)
  have Jv:=hO.JD FW Bq (hO.s.ok.rows (VH hO.s.ok.row _) (UR _ _))
  have zD:=CE.size
  have z4:=Ao.size
  refine XS.nil ?_
  refine dn (k:=?_)
  refine tk 9 hX (k:=?_)
  refine en (k:=?_)
  refine Jb ?_
  refine AF ?_
  have Ak:=hs.AB [] (fun e he => .inr (.inr (hs.hold e he))) (by simp [D0])
  exact ⟨rfl,fun _=>⟨_,Jv.at,pX⟩,((Ao.step CE (by simp)).step Bq (fun k hk=>by
   obtain rfl:=List.mem_singleton.1 hk
   exact pX _ (by simp [CB])))⟩
theorem CR.Em {w w':World} {hb sb tb rb:Nat} {v ve:Value} {s:Ch} {L:List Ce} {G Ge:List Nat} (h:CR w hb sb tb rb v ve s L G Ge) {b:Nat} {cs:Array Value} {fz:Nat × Nat} (ho:AA [b] w w') (hb':w.heap[b]?=some (.cells cs 51 fz)) (hne:b≠rb):CR w' hb sb tb rb v ve s L G Ge:=by
 have hn:=h.xK hb' hne
 have hd:∀ k∈CB hb sb tb rb L G Ge,k∉[b]:=fun k hk hm=>by obtain rfl:=List.mem_singleton.1 hm;exact hn hk
 exact ⟨ho.block h.h (hd _ (by simp [CB])),h.s.Ae ho (fun k hk=>hd k (by simp only [CB,List.mem_cons,List.mem_append] at hk ⊢;exact .inr (.inl hk))),h.e.keep ho (fun k hk=>hd k (by simp [CB,hk]))⟩
theorem XV (b2 b3 hb:Nat) (s:Sy) (F:List Nat) (x:Tk) (id q:Int) (w0:World) (h:D4 w0 hb ⟨s,[]⟩ F) (hid:In64 id) (B2:w0.heap[b2]?=some (.cells #[.int .u64 q] 22 (0,0))) (B3:w0.heap[b3]?=some (.cells #[.int .i64 id] 3 (0,0))) (hx:CN s.cf.cores x) (hn:x.st≠0) :
 AM Tryz.prog 74 #[.pointer (some ⟨hb,0,none⟩),Jx x,.pointer (some ⟨b2,0,none⟩),.pointer (some ⟨b3,0,none⟩)] w0 fun v w'=>v = .int .i64 (Dl ⟨s,[]⟩ x id q).1∧Jq w0 hb (Dl ⟨s,[]⟩ x id q).1 (Dl ⟨s,[]⟩ x id q).2 F w':=by
 obtain ⟨sb,tb,rb,v,ve,L,G,Ge,rfl,hO⟩:=h.EB
 have Yl:=hO.s.t.Rj.2
 have eX:Dl ⟨s,[]⟩ x id q=if BC q 1048576≠0 then (BC q 1048576,⟨s,[]⟩) else if BP x=false then (0,⟨Bu s { x with w:=IntKind.u32.wrap q },[]⟩) else EP ⟨Bu s { x with w:=IntKind.u32.wrap q },[]⟩ x.core ((Bk (AS s x.core) id (IntKind.u32.wrap q)).1,(Bk (AS s x.core) id (IntKind.u32.wrap q)).2,.none):=rfl
 rw [eX]
 have hs:=(((St.nil w0).AE B2).AE B3).AE hO.s.o |>.AE hO.h
 have Aj:AA (CB hb sb tb rb L G Ge) w0 w0:=(AA.refl [] w0).weaken (by simp)
 refine AQ Tryz.func74 Tryz.ntmps74 (k:=?_)
 refine Ag ?_
 refine Al ?_
 refine Gd hs (k:=?_);clear hs;intro b5 w1 AJ z1 hs
 replace hO:=hO.only AJ
 replace Aj:=Aj.step AJ (by simp)
 have Fv:b5≠rb:=by omega
 refine Jc ?_
 refine Hj [] hs (k:=?_);clear hs;intro hX w CE hs
 replace hO:=hO.only CE
 replace Aj:=Aj.step CE (by simp)
 refine tks 0 8 ?_
 refine dt 8 hX (k:=?_)
 refine cl (h:=by exact OO s.cf q _) (k:=?_)
 rintro v2 w2 ⟨rfl,AN⟩
 replace hs:=hs.I9 AN
 replace hO:=hO.only AN
 replace Aj:=Aj.step AN (by simp)
 refine XS.nil ?_
 refine dn (k:=?_)
 refine tk 9 hX (k:=?_)
 refine en (k:=?_)
 by_cases he:BC q 1048576≠0
 ·rw [if_pos he]
  generalize BC q 1048576=ee at *
  repeat' (first|refine Sa ?_|(refine st hs (k:=?_);intro w hs)|refine xc_cond rfl (fun hc=>?_) fun hc=>?_|fail)
  ·refine AF ?_
   exact ⟨rfl,fun z=>absurd z he,Aj.step (hs.AB [] (fun e he => .inr (.inr (hs.hold e he))) (by simp [D0])) (by simp)⟩
  ·exact absurd (by simpa using hc) he
 have Wg:BC q 1048576=0:=by
  rcases Classical.em (BC q 1048576=0) with z | z
  ·exact z
  ·exact absurd z he
 rw [if_neg he,Wg]
 have hy:CN s.cf.cores { x with w:=IntKind.u32.wrap q }:=⟨hx.1,hx.2.1,hx.2.2.1,M6 _,hx.2.2.2.2⟩
 have iL:({ x with w:=IntKind.u32.wrap q }:Tk).st≠0:=hn
 have fW:BP { x with w:=IntKind.u32.wrap q }=BP x:=rfl
 have Yh:({ x with w:=IntKind.u32.wrap q }:Tk).core=x.core:=rfl
 have hwu:F7 (IntKind.u32.wrap q):=M6 _
 have z2:=Aj.size
 have hH:=hs.hold
 have EM:=hs.get At.head
 repeat' (first|refine Sd ?_|(refine st hs (k:=?_);intro w hs)|fail)
 have AT:=hs.AB [b5] (fun e he=>by
  rcases List.mem_cons.1 he with rfl | he
  ·exact .inr (.inl (by simp))
  ·exact .inr (.inr (hH e (List.mem_cons_of_mem _ he)))) (by simp [D0])
 replace hs:=hs.En
 simp only [List.map_cons,List.map_nil] at hs
 replace hO:=hO.Em AT EM Fv
 replace Aj:=Aj.step AT (fun k hk => .inr (by obtain rfl:=List.mem_singleton.1 hk;omega))
 clear hH EM
 refine Hj [] hs (k:=?_);clear hs;intro hX w CE hs
 replace hO:=hO.only CE
 replace Aj:=Aj.step CE (by simp)
 refine tks 0 8 ?_
 refine dt 8 hX (k:=?_)
 refine cl (h:=by exact FN tb rb _ (({ x with w:=IntKind.u32.wrap q })) _ hO.s.t hy.1) (k:=?_)
 rintro v12 w12 ⟨rfl,FW,Bq⟩
 have Hf:=hO.s.t
 obtain ⟨J9,Hw,MB,Eb,_⟩:=Hf
 replace hs:=hs.Db Bq (fun k hk=>by obtain rfl:=List.mem_singleton.1 hk;exact hs.Hg Fv Eb)
 replace hO:=hO.JD FW Bq (hO.s.ok.CK hy)
 replace Aj:=Aj.step Bq (fun k hk => .inl (by obtain rfl:=List.mem_singleton.1 hk;simp [CB]))
 refine XS.nil ?_
 refine dn (k:=?_)
 refine en (k:=?_)
 refine Ja ?_
 refine cl (h:=by exact Ib { x with w:=IntKind.u32.wrap q } _) (k:=?_)
 rintro v13 I5 ⟨rfl,LF⟩
 replace hs:=hs.I9 LF
 replace hO:=hO.only LF
 replace Aj:=Aj.step LF (by simp)
 rw [fW]
 cases Yq:BP x with
 | false =>
   rw [if_pos rfl]
   refine Je ?_
   refine AF ?_
   have Ak:=hs.AB [] (fun e he => .inr (.inr (hs.hold e he))) (by simp [D0])
   exact ⟨rfl,fun _=>⟨_,(hO.only Ak).at,fun k hk => .inl hk⟩,Aj.step Ak (by simp)⟩
 | true =>
   rw [if_neg (by simp)]
   have MI:=hO.place (x:={ x with w:=IntKind.u32.wrap q }) hy iL
   obtain ⟨n,e,g,cap,cur,FZ,hlt,he,hC,hce,rfl,hg,FQ,VF,hR,_,_,_,hcb⟩:=MI
   rw [Yh] at FZ
   have JT:AS s n=e.c:=hce
   rw [FZ,JT]
   obtain ⟨xi,xt,xc,xw,C5,xl⟩:=x
   simp only at FZ
   subst FZ
   simp only at hs
   have k5:=hs.get (b:=b5) (by repeat (first | exact At.head | (with_reducible apply At.tail)))
   have k3:=hs.get (b:=b3) (by repeat (first | exact At.head | (with_reducible apply At.tail)))
   clear hs
   have hs:=((((St.nil I5).AE k3).AE hg).AE hO.s.o).AE hO.h |>.AE k5
   refine Jl ?_
   have Hs:Cc (BU (Bk e.c id (IntKind.u32.wrap q)).1 (Bk e.c id (IntKind.u32.wrap q)).2 .none):=Cc.none.try (Mu hR id _)
   have hkn:=IQ (e:=(Bk e.c id (IntKind.u32.wrap q)).1) (r1 := .none) (Mu hR id (IntKind.u32.wrap q))
   have eC:EP ⟨Bu s { id:=xi,st:=xt,core:=n,w:=IntKind.u32.wrap q,slice:=C5,lag:=xl },[]⟩ n ((Bk e.c id (IntKind.u32.wrap q)).1,(Bk e.c id (IntKind.u32.wrap q)).2,.none)=if (Bk e.c id (IntKind.u32.wrap q)).1=0 then (0,BR ⟨Bb (Bu s { id:=xi,st:=xt,core:=n,w:=IntKind.u32.wrap q,slice:=C5,lag:=xl }) n (Cr e.c (Bk e.c id (IntKind.u32.wrap q)).1 (Bk e.c id (IntKind.u32.wrap q)).2),[]⟩ n (BU (Bk e.c id (IntKind.u32.wrap q)).1 (Bk e.c id (IntKind.u32.wrap q)).2 .none)) else ((Bk e.c id (IntKind.u32.wrap q)).1,⟨Bu s { id:=xi,st:=xt,core:=n,w:=IntKind.u32.wrap q,slice:=C5,lag:=xl },[]⟩):=by rw [← JT];rfl
   rw [eC]
   generalize hrp:BU (Bk e.c id (IntKind.u32.wrap q)).1 (Bk e.c id (IntKind.u32.wrap q)).2 .none=rp at Hs hkn
   refine B7 (fun (y:Nat × Value × Value × List Ce)=>[(0,.pointer (some ⟨hb,0,none⟩)),(5,.pointer (some ⟨b5,0,none⟩)),(8,.pointer (some ⟨y.1,0,none⟩)),(9,.int .i64 (Bk e.c id (IntKind.u32.wrap q)).1)])
    (fun y w=>w.heap[b5]?=some (NA { id:=xi,st:=xt,core:=n,w:=IntKind.u32.wrap q,slice:=C5,lag:=xl })∧w.heap[y.1]?=some (KW y.2.1 y.2.2.1)∧Af I5 w hb sb tb rb (.slice (some ⟨g,0,none⟩) L.length cap) ve ⟨Bb (Bu s { id:=xi,st:=xt,core:=n,w:=IntKind.u32.wrap q,slice:=C5,lag:=xl }) n (Cr e.c (Bk e.c id (IntKind.u32.wrap q)).1 (Bk e.c id (IntKind.u32.wrap q)).2),[]⟩ L y.2.2.2 G Ge (.agg #[y.2.1,y.2.2.1]) rp) ?_ ?_
   ·skip
    refine Hj [] hs (k:=?_);clear hs;intro hX w Av hs
    refine tks 0 9 ?_
    refine tk 9 hX (hr:=fun w' hH=>BG AI rfl rfl rfl (by show (0:Int)≤(n:Int);omega) (by show (n:Int) < _;omega)) (k:=?_)
    refine tk 10 hX (hr:=fun w' hH=>r_load AI rfl rfl (hH rfl) (by repeat (first | exact At.head | (with_reducible apply At.tail))) (by simpa using FQ)) (k:=?_)
    refine tks 11 3 ?_
    refine HL 14 18 hX (h1:=?_) (h2:=?_)
    ·skip
     refine cl (h:=by exact RZ e.cb e.c e.F id (IntKind.u32.wrap q) _ (hC.only Av) hid hwu) (k:=?_)
     rintro v1 w2 ⟨rv,rfl,T⟩
     have hf:=T.form
     rw [hrp] at hf
     obtain ⟨ag,cg,ap,cp,rfl⟩:=hf
     obtain ⟨L',hA⟩:=CT (hO.only Av) he T Av
     rw [hrp] at hA
     replace hs:=hs.Db T.2.2 (fun k hk=>by obtain rfl:=List.mem_singleton.1 hk;exact hs.E8 (Av.block hcb (by simp)))
     refine XS.nil ?_
     refine dn (k:=?_)
     refine tks 15 3 ?_
     refine dt 18 hX (k:=?_)
     refine FF hs (k:=?_);clear hs;intro b6 w6 Ak z6 hs
     have y6:(I5).heap.size≤b6:=Nat.le_trans (AA.size hA.o) z6
     replace hA:=hA.keep Ak
     refine XS.nil ?_
     refine dn (k:=?_)
     refine dt 19 hX (k:=?_)
     have q6:=hs.get (b:=b6) (by repeat (first | exact At.head | (with_reducible apply At.tail)))
     refine DR hs (k:=?_);clear hs;intro GP CG hs
     replace hA:=hA.store CG q6 rfl (by decide) (by decide) y6
     refine XS.nil ?_
     refine dn (k:=?_)
     refine tk 20 hX (k:=?_)
     refine en (k:=?_)
     have r3:=hs.get (b:=b5) (by repeat (first | exact At.head | (with_reducible apply At.tail)))
     have r6:=hs.get (b:=b6) (by repeat (first | exact At.head | (with_reducible apply At.tail)))
     exact AP (b6,.slice ag rp.g.length cg,.slice ap rp.p.length cp,L') Ab ⟨r3,r6,hA⟩
    ·skip
     refine FF hs (k:=?_);clear hs;intro b6 w6 Ak z6 hs
     have y6:(I5).heap.size≤b6:=Nat.le_trans (AA.size Av) z6
     replace Av:=Av.trans Ak
     refine XS.nil ?_
     refine dn (k:=?_)
     refine dt 14 hX (k:=?_)
     refine cl (h:=by exact RZ e.cb e.c e.F id (IntKind.u32.wrap q) _ (hC.only Av) hid hwu) (k:=?_)
     rintro v1 w2 ⟨rv,rfl,T⟩
     have hf:=T.form
     rw [hrp] at hf
     obtain ⟨ag,cg,ap,cp,rfl⟩:=hf
     obtain ⟨L',hA⟩:=CT (hO.only Av) he T Av
     rw [hrp] at hA
     replace hs:=hs.Db T.2.2 (fun k hk=>by obtain rfl:=List.mem_singleton.1 hk;exact hs.E8 (Av.block hcb (by simp)))
     refine XS.nil ?_
     refine dn (k:=?_)
     refine tks 15 3 ?_
     refine dt 19 hX (k:=?_)
     have q6:=hs.get (b:=b6) (by repeat (first | exact At.head | (with_reducible apply At.tail)))
     refine DR hs (k:=?_);clear hs;intro GP CG hs
     replace hA:=hA.store CG q6 rfl (by decide) (by decide) y6
     refine XS.nil ?_
     refine dn (k:=?_)
     refine tk 20 hX (k:=?_)
     refine en (k:=?_)
     have r3:=hs.get (b:=b5) (by repeat (first | exact At.head | (with_reducible apply At.tail)))
     have r6:=hs.get (b:=b6) (by repeat (first | exact At.head | (with_reducible apply At.tail)))
     exact AP (b6,.slice ag rp.g.length cg,.slice ap rp.p.length cp,L') Ab ⟨r3,r6,hA⟩
   ·skip
    rintro ⟨b6,vg,vp,L'⟩ env M4 ⟨k3,k6,hA⟩
    simp only at k6 hA
    clear hs
    have L6:=hA.c.h
    have hs:=(((St.nil M4).AE k3).AE k6).AE L6
    have Ut:=hA.p
    obtain ⟨_,_,_,_,OP,_,_⟩:=hA.p
    cases OP
    have oO:=Aj.size
    generalize (Bk e.c id (IntKind.u32.wrap q))=J at *
    by_cases hJ:J.1=0
    ·rw [if_pos hJ]
     rw [hJ] at hA ⊢
     refine Je ?_
     have hoq:=hs.AB [] (by simp [k3,k6,L6]) (by simp [D0])
     refine cl (h:=by exact GI hb _ _ n _ rp _ (hA.c.only hoq).at (Ut.Fb hoq (by simp)) Hs (by have:=hkn.1;have:=hkn.2;have e1:Rp.none.p.length=0:=rfl;have e2:Rp.none.g.length=0:=rfl;have e3:([]:List Ev).length=0:=rfl;simp only at *;omega)) (k:=?_)
     rintro v25 w25 ⟨qC,Mz,NX,JX⟩
     have PT:=hA.o.size
     have Ed:=Aj.step ((hA.o.step hoq (by simp)).step JX hA.f) (fun k hk => .inl hk)
     have ML:=IN hA.f NX (show (I5).heap.size≤_ by omega)
     clear hs
     have hs:=St.nil w25
     refine Ja ?_
     refine AF ?_
     have Cj:=hs.AD rfl
     exact ⟨rfl,fun _=>⟨_,Mz.only Cj,fun k hk=>by
      rcases ML k hk with q | q
      ·exact .inl q
      ·exact .inr om⟩,Ed.step Cj (by simp)⟩
    ·rw [if_neg hJ]
     repeat' (first|refine Sa ?_|refine Au rfl (fun hc=>?_) fun hc=>?_|fail)
     ·exact absurd (by simpa using hc) hJ
     ·refine AF ?_
      have Cj:=hs.AB [] (by simp [k3,k6,L6]) (by simp [D0])
      exact ⟨rfl,fun q=>absurd q hJ,(Aj.step (hA.o.step Cj (by simp)) (fun k hk => .inl hk))⟩
theorem Xa (b2 b3 hb:Nat) (s:Sy) (F:List Nat) (x:Tk) (id q:Int) (w0:World) (h:D4 w0 hb ⟨s,[]⟩ F) (hid:In64 id) (hq:BV q) (B2:w0.heap[b2]?=some (.cells #[.int .u64 q] 22 (0,0))) (B3:w0.heap[b3]?=some (.cells #[.int .i64 id] 3 (0,0))) (hx:CN s.cf.cores x) (hn:x.st≠0) :
 AM Tryz.prog 76 #[.pointer (some ⟨hb,0,none⟩),Jx x,.pointer (some ⟨b2,0,none⟩),.pointer (some ⟨b3,0,none⟩)] w0 fun v w'=>v = .int .i64 (EY ⟨s,[]⟩ x id q).1∧Jq w0 hb (EY ⟨s,[]⟩ x id q).1 (EY ⟨s,[]⟩ x id q).2 F w':=by
 obtain ⟨sb,tb,rb,v,ve,L,G,Ge,rfl,hO⟩:=h.EB
 have Yl:=hO.s.t.Rj.2
 have eX:EY ⟨s,[]⟩ x id q=if BC q (Dp s.cf.slice)≠0 then (BC q (Dp s.cf.slice),⟨s,[]⟩) else if BP x=false then (0,⟨Bu s { x with slice:=q },[]⟩) else EP ⟨Bu s { x with slice:=q },[]⟩ x.core ((Bl (AS s x.core) id q).1,(Bl (AS s x.core) id q).2,.none):=rfl
 rw [eX]
 have hs:=(((St.nil w0).AE B2).AE B3).AE hO.s.o |>.AE hO.h
 have Aj:AA (CB hb sb tb rb L G Ge) w0 w0:=(AA.refl [] w0).weaken (by simp)
 refine AQ Tryz.func76 Tryz.ntmps76 (k:=?_)
 refine Ag ?_
 refine Al ?_
 refine Gd hs (k:=?_);clear hs;intro b5 w1 AJ z1 hs
 replace hO:=hO.only AJ
 replace Aj:=Aj.step AJ (by simp)
 have Fv:b5≠rb:=by omega
 refine Jc ?_
 refine Hj [] hs (k:=?_);clear hs;intro hX w CE hs
 replace hO:=hO.only CE
 replace Aj:=Aj.step CE (by simp)
 refine tks 0 8 ?_
 refine dt 8 hX (k:=?_)
 refine cl (h:=by exact OS s.cf q _) (k:=?_)
 rintro v2 w2 ⟨rfl,AN⟩
 replace hs:=hs.I9 AN
 replace hO:=hO.only AN
 replace Aj:=Aj.step AN (by simp)
 refine XS.nil ?_
 refine dn (k:=?_)
 refine tk 9 hX (k:=?_)
 refine en (k:=?_)
 by_cases he:BC q (Dp s.cf.slice)≠0
 ·rw [if_pos he]
  generalize BC q (Dp s.cf.slice)=ee at *
  repeat' (first|refine Sa ?_|(refine st hs (k:=?_);intro w hs)|refine xc_cond rfl (fun hc=>?_) fun hc=>?_|fail)
  ·refine AF ?_
   exact ⟨rfl,fun z=>absurd z he,Aj.step (hs.AB [] (fun e he => .inr (.inr (hs.hold e he))) (by simp [D0])) (by simp)⟩
  ·exact absurd (by simpa using hc) he
 have Wg:BC q (Dp s.cf.slice)=0:=by
  rcases Classical.em (BC q (Dp s.cf.slice)=0) with z | z
  ·exact z
  ·exact absurd z he
 rw [if_neg he,Wg]
 have hy:CN s.cf.cores { x with slice:=q }:=⟨hx.1,hx.2.1,hx.2.2.1,hx.2.2.2.1,hq,hx.2.2.2.2.2⟩
 have iL:({ x with slice:=q }:Tk).st≠0:=hn
 have fW:BP { x with slice:=q }=BP x:=rfl
 have Yh:({ x with slice:=q }:Tk).core=x.core:=rfl
 have z2:=Aj.size
 have hH:=hs.hold
 have EM:=hs.get At.head
 repeat' (first|refine Sd ?_|(refine st hs (k:=?_);intro w hs)|fail)
 have AT:=hs.AB [b5] (fun e he=>by
  rcases List.mem_cons.1 he with rfl | he
  ·exact .inr (.inl (by simp))
  ·exact .inr (.inr (hH e (List.mem_cons_of_mem _ he)))) (by simp [D0])
 replace hs:=hs.En
 simp only [List.map_cons,List.map_nil] at hs
 replace hO:=hO.Em AT EM Fv
 replace Aj:=Aj.step AT (fun k hk => .inr (by obtain rfl:=List.mem_singleton.1 hk;omega))
 clear hH EM
 refine Hj [] hs (k:=?_);clear hs;intro hX w CE hs
 replace hO:=hO.only CE
 replace Aj:=Aj.step CE (by simp)
 refine tks 0 8 ?_
 refine dt 8 hX (k:=?_)
 refine cl (h:=by exact FN tb rb _ (({ x with slice:=q })) _ hO.s.t hy.1) (k:=?_)
 rintro v12 w12 ⟨rfl,FW,Bq⟩
 have Hf:=hO.s.t
 obtain ⟨J9,Hw,MB,Eb,_⟩:=Hf
 replace hs:=hs.Db Bq (fun k hk=>by obtain rfl:=List.mem_singleton.1 hk;exact hs.Hg Fv Eb)
 replace hO:=hO.JD FW Bq (hO.s.ok.CK hy)
 replace Aj:=Aj.step Bq (fun k hk => .inl (by obtain rfl:=List.mem_singleton.1 hk;simp [CB]))
 refine XS.nil ?_
 refine dn (k:=?_)
 refine en (k:=?_)
 refine Ja ?_
 refine cl (h:=by exact Ib { x with slice:=q } _) (k:=?_)
 rintro v13 I5 ⟨rfl,LF⟩
 replace hs:=hs.I9 LF
 replace hO:=hO.only LF
 replace Aj:=Aj.step LF (by simp)
 rw [fW]
 cases Yq:BP x with
 | false =>
   rw [if_pos rfl]
   refine Je ?_
   refine AF ?_
   have Ak:=hs.AB [] (fun e he => .inr (.inr (hs.hold e he))) (by simp [D0])
   exact ⟨rfl,fun _=>⟨_,(hO.only Ak).at,fun k hk => .inl hk⟩,Aj.step Ak (by simp)⟩
 | true =>
   rw [if_neg (by simp)]
   have MI:=hO.place (x:={ x with slice:=q }) hy iL
   obtain ⟨n,e,g,cap,cur,FZ,hlt,he,hC,hce,rfl,hg,FQ,VF,hR,_,_,_,hcb⟩:=MI
   rw [Yh] at FZ
   have JT:AS s n=e.c:=hce
   rw [FZ,JT]
   obtain ⟨xi,xt,xc,xw,C5,xl⟩:=x
   simp only at FZ
   subst FZ
   simp only at hs
   have k5:=hs.get (b:=b5) (by repeat (first | exact At.head | (with_reducible apply At.tail)))
   have k3:=hs.get (b:=b3) (by repeat (first | exact At.head | (with_reducible apply At.tail)))
   have k2:=hs.get (b:=b2) (by repeat (first | exact At.head | (with_reducible apply At.tail)))
   clear hs
   have hs:=(((((St.nil I5).AE k2).AE k3).AE hg).AE hO.s.o).AE hO.h |>.AE k5
   refine Jl ?_
   have Hs:Cc (BU (Bl e.c id q).1 (Bl e.c id q).2 .none):=Cc.none.try (NT hR id q)
   have hkn:=IQ (e:=(Bl e.c id q).1) (r1 := .none) (NT hR id q)
   have eC:EP ⟨Bu s { id:=xi,st:=xt,core:=n,w:=xw,slice:=q,lag:=xl },[]⟩ n ((Bl e.c id q).1,(Bl e.c id q).2,.none)=if (Bl e.c id q).1=0 then (0,BR ⟨Bb (Bu s { id:=xi,st:=xt,core:=n,w:=xw,slice:=q,lag:=xl }) n (Cr e.c (Bl e.c id q).1 (Bl e.c id q).2),[]⟩ n (BU (Bl e.c id q).1 (Bl e.c id q).2 .none)) else ((Bl e.c id q).1,⟨Bu s { id:=xi,st:=xt,core:=n,w:=xw,slice:=q,lag:=xl },[]⟩):=by rw [← JT];rfl
   rw [eC]
   generalize hrp:BU (Bl e.c id q).1 (Bl e.c id q).2 .none=rp at Hs hkn
   refine B7 (fun (y:Nat × Value × Value × List Ce)=>[(0,.pointer (some ⟨hb,0,none⟩)),(5,.pointer (some ⟨b5,0,none⟩)),(8,.pointer (some ⟨y.1,0,none⟩)),(9,.int .i64 (Bl e.c id q).1)])
    (fun y w=>w.heap[b5]?=some (NA { id:=xi,st:=xt,core:=n,w:=xw,slice:=q,lag:=xl })∧w.heap[y.1]?=some (KW y.2.1 y.2.2.1)∧Af I5 w hb sb tb rb (.slice (some ⟨g,0,none⟩) L.length cap) ve ⟨Bb (Bu s { id:=xi,st:=xt,core:=n,w:=xw,slice:=q,lag:=xl }) n (Cr e.c (Bl e.c id q).1 (Bl e.c id q).2),[]⟩ L y.2.2.2 G Ge (.agg #[y.2.1,y.2.2.1]) rp) ?_ ?_
   ·skip
    refine Hj [] hs (k:=?_);clear hs;intro hX w Av hs
    refine tks 0 9 ?_
    refine tk 9 hX (hr:=fun w' hH=>BG AI rfl rfl rfl (by show (0:Int)≤(n:Int);omega) (by show (n:Int) < _;omega)) (k:=?_)
    refine tk 10 hX (hr:=fun w' hH=>r_load AI rfl rfl (hH rfl) (by repeat (first | exact At.head | (with_reducible apply At.tail))) (by simpa using FQ)) (k:=?_)
    refine tks 11 2 ?_
    refine HL 13 17 hX (h1:=?_) (h2:=?_)
    ·skip
     refine cl (h:=by exact TZ e.cb e.c e.F id q _ (hC.only Av) hid hq) (k:=?_)
     rintro v1 w2 ⟨rv,rfl,T⟩
     have hf:=T.form
     rw [hrp] at hf
     obtain ⟨ag,cg,ap,cp,rfl⟩:=hf
     obtain ⟨L',hA⟩:=CT (hO.only Av) he T Av
     rw [hrp] at hA
     replace hs:=hs.Db T.2.2 (fun k hk=>by obtain rfl:=List.mem_singleton.1 hk;exact hs.E8 (Av.block hcb (by simp)))
     refine XS.nil ?_
     refine dn (k:=?_)
     refine tks 14 3 ?_
     refine dt 17 hX (k:=?_)
     refine FF hs (k:=?_);clear hs;intro b6 w6 Ak z6 hs
     have y6:(I5).heap.size≤b6:=Nat.le_trans (AA.size hA.o) z6
     replace hA:=hA.keep Ak
     refine XS.nil ?_
     refine dn (k:=?_)
     refine dt 18 hX (k:=?_)
     have q6:=hs.get (b:=b6) (by repeat (first | exact At.head | (with_reducible apply At.tail)))
     refine DR hs (k:=?_);clear hs;intro GP CG hs
     replace hA:=hA.store CG q6 rfl (by decide) (by decide) y6
     refine XS.nil ?_
     refine dn (k:=?_)
     refine tk 19 hX (k:=?_)
     refine en (k:=?_)
     have r3:=hs.get (b:=b5) (by repeat (first | exact At.head | (with_reducible apply At.tail)))
     have r6:=hs.get (b:=b6) (by repeat (first | exact At.head | (with_reducible apply At.tail)))
     exact AP (b6,.slice ag rp.g.length cg,.slice ap rp.p.length cp,L') Ab ⟨r3,r6,hA⟩
    ·skip
     refine FF hs (k:=?_);clear hs;intro b6 w6 Ak z6 hs
     have y6:(I5).heap.size≤b6:=Nat.le_trans (AA.size Av) z6
     replace Av:=Av.trans Ak
     refine XS.nil ?_
     refine dn (k:=?_)
     refine dt 13 hX (k:=?_)
     refine cl (h:=by exact TZ e.cb e.c e.F id q _ (hC.only Av) hid hq) (k:=?_)
     rintro v1 w2 ⟨rv,rfl,T⟩
     have hf:=T.form
     rw [hrp] at hf
     obtain ⟨ag,cg,ap,cp,rfl⟩:=hf
     obtain ⟨L',hA⟩:=CT (hO.only Av) he T Av
     rw [hrp] at hA
     replace hs:=hs.Db T.2.2 (fun k hk=>by obtain rfl:=List.mem_singleton.1 hk;exact hs.E8 (Av.block hcb (by simp)))
     refine XS.nil ?_
     refine dn (k:=?_)
     refine tks 14 3 ?_
     refine dt 18 hX (k:=?_)
     have q6:=hs.get (b:=b6) (by repeat (first | exact At.head | (with_reducible apply At.tail)))
     refine DR hs (k:=?_);clear hs;intro GP CG hs
     replace hA:=hA.store CG q6 rfl (by decide) (by decide) y6
     refine XS.nil ?_
     refine dn (k:=?_)
     refine tk 19 hX (k:=?_)
     refine en (k:=?_)
     have r3:=hs.get (b:=b5) (by repeat (first | exact At.head | (with_reducible apply At.tail)))
     have r6:=hs.get (b:=b6) (by repeat (first | exact At.head | (with_reducible apply At.tail)))
     exact AP (b6,.slice ag rp.g.length cg,.slice ap rp.p.length cp,L') Ab ⟨r3,r6,hA⟩
   ·skip
    rintro ⟨b6,vg,vp,L'⟩ env M4 ⟨k3,k6,hA⟩
    simp only at k6 hA
    clear hs
    have L6:=hA.c.h
    have hs:=(((St.nil M4).AE k3).AE k6).AE L6
    have Ut:=hA.p
    obtain ⟨_,_,_,_,OP,_,_⟩:=hA.p
    cases OP
    have oO:=Aj.size
    generalize (Bl e.c id q)=J at *
    by_cases hJ:J.1=0
    ·rw [if_pos hJ]
     rw [hJ] at hA ⊢
     refine Je ?_
     have hoq:=hs.AB [] (by simp [k3,k6,L6]) (by simp [D0])
     refine cl (h:=by exact GI hb _ _ n _ rp _ (hA.c.only hoq).at (Ut.Fb hoq (by simp)) Hs (by have:=hkn.1;have:=hkn.2;have e1:Rp.none.p.length=0:=rfl;have e2:Rp.none.g.length=0:=rfl;have e3:([]:List Ev).length=0:=rfl;simp only at *;omega)) (k:=?_)
     rintro v25 w25 ⟨qC,Mz,NX,JX⟩
     have PT:=hA.o.size
     have Ed:=Aj.step ((hA.o.step hoq (by simp)).step JX hA.f) (fun k hk => .inl hk)
     have ML:=IN hA.f NX (show (I5).heap.size≤_ by omega)
     clear hs
     have hs:=St.nil w25
     refine Ja ?_
     refine AF ?_
     have Cj:=hs.AD rfl
     exact ⟨rfl,fun _=>⟨_,Mz.only Cj,fun k hk=>by
      rcases ML k hk with q | q
      ·exact .inl q
      ·exact .inr om⟩,Ed.step Cj (by simp)⟩
    ·rw [if_neg hJ]
     repeat' (first|refine Sa ?_|refine Au rfl (fun hc=>?_) fun hc=>?_|fail)
     ·exact absurd (by simpa using hc) hJ
     ·refine AF ?_
      have Cj:=hs.AB [] (by simp [k3,k6,L6]) (by simp [D0])
      exact ⟨rfl,fun q=>absurd q hJ,(Aj.step (hA.o.step Cj (by simp)) (fun k hk => .inl hk))⟩
theorem Zy (b2 hb:Nat) (s:Sy) (F:List Nat) (x:Tk) (id:Int) (w0:World) (h:D4 w0 hb ⟨s,[]⟩ F) (hid:In64 id) (B2:w0.heap[b2]?=some (.cells #[.int .i64 id] 3 (0,0))) (hx:CN s.cf.cores x) (hn:x.st≠0) :
 AM Tryz.prog 72 #[.pointer (some ⟨hb,0,none⟩),Jx x,.pointer (some ⟨b2,0,none⟩)] w0 fun v w'=>v = .int .i64 (FC ⟨s,[]⟩ x id).1∧Jq w0 hb (FC ⟨s,[]⟩ x id).1 (FC ⟨s,[]⟩ x id).2 F w':=by
 obtain ⟨sb,tb,rb,v,ve,L,G,Ge,rfl,hO⟩:=h.EB
 have Yl:=hO.s.t.Rj.2
 have eX:FC ⟨s,[]⟩ x id=if x.st=1 then (6,⟨s,[]⟩) else if x.st=3 then FM ⟨Bu s { x with st:=1 },[]⟩ { x with st:=1 } x.lag else EN ⟨s,[]⟩ { x with st:=1 } ((CL (AS s x.core) id).1,(CL (AS s x.core) id).2,.none):=rfl
 rw [eX]
 have hs:=((St.nil w0).AE B2).AE hO.s.o |>.AE hO.h
 have Aj:AA (CB hb sb tb rb L G Ge) w0 w0:=(AA.refl [] w0).weaken (by simp)
 refine AQ Tryz.func72 Tryz.ntmps72 (k:=?_)
 refine Ag ?_
 refine Al ?_
 refine Gd hs (k:=?_);clear hs;intro b4 w1 AJ z1 hs
 replace hO:=hO.only AJ
 replace Aj:=Aj.step AJ (by simp)
 have Fv:b4≠rb:=by omega
 have hy:CN s.cf.cores { x with st:=1 }:=hx.st hn om
 have iL:({ x with st:=1 }:Tk).st≠0:=(by decide:(1:Int)≠0)
 have Yh:({ x with st:=1 }:Tk).core=x.core:=rfl
 have hxl:=hx.2.2.2.2.2.1
 have z2:=Aj.size
 have hH:=hs.hold
 have EM:=hs.get At.head
 have stop1:∀ (w':World) (H':List Bn),St w1 D0 ((b4,.cells #[.int .i64 x.id,.int .u8 1,.int .i64 x.core,.int .u32 x.w,.int .u64 x.slice,.int .i64 x.lag] 51 (0,0),false) :: H') w'→(∀ e∈H',w1.heap[e.1]?=some e.2.1)→AA [b4] w1 w':=fun w' H' h hh=>h.AB [b4] (fun e he=>by
  rcases List.mem_cons.1 he with rfl | he
  ·exact .inr (.inl (by simp))
  ·exact .inr (.inr (hh e he))) (by simp [D0])
 by_cases s1:x.st=1
 ·rw [if_pos s1]
  obtain ⟨xi,xt,xc,xw,C5,xl⟩:=x
  simp only at s1
  subst s1
  repeat' (first|refine Sc ?_|(refine st hs (k:=?_);intro w hs)|fail)
  refine AF ?_
  have Ak:=stop1 _ _ hs (fun e he=>hH e (List.mem_cons_of_mem _ he))
  exact ⟨rfl,fun z=>absurd z (show ¬ (6:Int)=0 by decide),Aj.step Ak (fun k hk => .inr (by obtain rfl:=List.mem_singleton.1 hk;omega))⟩
 rw [if_neg s1]
 by_cases s3:x.st=3
 ·rw [if_pos s3]
  obtain ⟨xi,xt,xc,xw,C5,xl⟩:=x
  simp only at s3
  subst s3
  clear hH EM
  have hH:=hs.hold
  have EM:=hs.get At.head
  repeat' (first|refine vs (k:=?_)|refine Al ?_|refine Nx.h ?_|refine Ew ?_|refine ES ?_|(refine st hs (k:=?_);intro w hs)|fail)
  have AT:=hs.AB [b4] (fun e he=>by
   rcases List.mem_cons.1 he with rfl | he
   ·exact .inr (.inl (by simp))
   ·exact .inr (.inr (hH e (List.mem_cons_of_mem _ he)))) (by simp [D0])
  replace hs:=hs.En
  simp only [List.map_cons,List.map_nil] at hs
  replace hO:=hO.Em AT EM Fv
  replace Aj:=Aj.step AT (fun k hk => .inr (by obtain rfl:=List.mem_singleton.1 hk;omega))
  clear hH EM
  refine Hj [] hs (k:=?_);clear hs;intro hX w CE hs
  replace hO:=hO.only CE
  replace Aj:=Aj.step CE (by simp)
  refine tks 0 8 ?_
  refine dt 8 hX (k:=?_)
  refine cl (h:=by exact FN tb rb _ (({ id:=xi,st:=1,core:=xc,w:=xw,slice:=C5,lag:=xl }:Tk)) _ hO.s.t hy.1) (k:=?_)
  rintro v12 w12 ⟨rfl,FW,Bq⟩
  have Hf:=hO.s.t
  obtain ⟨J9,Hw,MB,Eb,_⟩:=Hf
  replace hs:=hs.Db Bq (fun k hk=>by obtain rfl:=List.mem_singleton.1 hk;exact hs.Hg Fv Eb)
  replace hO:=hO.JD FW Bq (hO.s.ok.CK hy)
  replace Aj:=Aj.step Bq (fun k hk => .inl (by obtain rfl:=List.mem_singleton.1 hk;simp [CB]))
  refine XS.nil ?_
  refine dn (k:=?_)
  refine en (k:=?_)
  have Dm:∀ k∈CB hb sb tb rb L G Ge,k∈CB hb sb tb rb L G Ge∨w0.heap.size≤k:=fun k hk => .inl hk
  refine Ja ?_
  refine cl (h:=by exact Nb hb ⟨Bu s { id:=xi,st:=1,core:=xc,w:=xw,slice:=C5,lag:=xl },[]⟩ _ { id:=xi,st:=1,core:=xc,w:=xw,slice:=C5,lag:=xl } xl _ hO.at hy iL hxl (by simp)) (k:=?_)
  rintro v25 w25 ⟨rfl,l8,JX⟩
  have aAd:=Aj.size
  replace Aj:=Aj.step JX (fun k hk => .inl hk)
  clear hs
  have hs:=St.nil w25
  refine Jc ?_
  refine AF ?_
  have Cj:=hs.AD rfl
  refine ⟨rfl,fun e0=>?_,Aj.step Cj (by simp)⟩
  obtain ⟨F',h1,h2⟩:=l8 e0
  exact ⟨F',h1.only Cj,fun k hk=>by
   rcases h2 k hk with q | q
   ·exact .inl q
   ·exact .inr om⟩
 rw [if_neg s3]
 have MI:=hO.place (x:=x) hx hn
 obtain ⟨n,e,g,cap,cur,FZ,hlt,he,hC,hce,rfl,hg,FQ,VF,hR,_,_,_,hcb⟩:=MI
 have JT:AS s n=e.c:=hce
 have eC:∀ y:Tk,y.core=(n:Int)→EN ⟨s,[]⟩ y ((CL e.c id).1,(CL e.c id).2,.none)=if (CL e.c id).1=0 then (0,BR ⟨Bu (Bb s n (Cr e.c (CL e.c id).1 (CL e.c id).2)) y,[]⟩ n (BU (CL e.c id).1 (CL e.c id).2 .none)) else ((CL e.c id).1,⟨s,[]⟩):=fun y hy=>by
  unfold EN
  rw [hy,← JT]
 rw [FZ,JT,eC { id:=x.id,st:=1,core:=(n:Int),w:=x.w,slice:=x.slice,lag:=x.lag } rfl]
 obtain ⟨xi,xt,xc,xw,C5,xl⟩:=x
 simp only at FZ s1 s3
 subst FZ
 have Hs:Cc (BU (CL e.c id).1 (CL e.c id).2 .none):=Cc.none.try (OX hR id)
 have hkn:=IQ (e:=(CL e.c id).1) (r1 := .none) (OX hR id)
 generalize hrp:BU (CL e.c id).1 (CL e.c id).2 .none=rp at Hs hkn
 repeat' (first|refine Sa ?_|(refine st hs (k:=?_);intro w hs)|refine Au rfl (fun hc=>?_) fun hc=>?_|fail)
 ·exact absurd (by simpa using hc) s1
 ·exact absurd (by simpa using hc) s3
 have AT:=stop1 _ _ hs (fun e he=>hH e (List.mem_cons_of_mem _ he))
 replace hO:=hO.Em AT EM Fv
 replace Aj:=Aj.step AT (fun k hk => .inr (by obtain rfl:=List.mem_singleton.1 hk;omega))
 have hnc:∀ k∈e.F,k∉[b4]:=fun k hk hm=>by
  obtain rfl:=List.mem_singleton.1 hm
  have:=hC.lt _ hk
  exact (hC.not EM rfl) hk
 replace hC:=hC.Ae AT hnc
 replace hcb:=AT.block hcb (fun hm=>hnc _ hC.mem hm)
 replace hg:=AT.block hg (by simpa using AW hg EM (by decide))
 have k5:=hs.get (b:=b4) (by repeat (first | exact At.head | (with_reducible apply At.tail)))
 have k3:=hs.get (b:=b2) (by repeat (first | exact At.head | (with_reducible apply At.tail)))
 clear hs hH EM stop1
 obtain ⟨I5,rfl⟩:∃ z,z=w:=⟨_,rfl⟩
 have hs:=((((St.nil I5).AE k3).AE hg).AE hO.s.o).AE hO.h |>.AE k5
 refine B7 (fun (y:Nat × Value × Value × List Ce)=>[(0,.pointer (some ⟨hb,0,none⟩)),(4,.pointer (some ⟨b4,0,none⟩)),(7,.pointer (some ⟨y.1,0,none⟩)),(8,.int .i64 (CL e.c id).1)])
  (fun y w=>w.heap[b4]?=some (NA { id:=xi,st:=1,core:=n,w:=xw,slice:=C5,lag:=xl })∧w.heap[y.1]?=some (KW y.2.1 y.2.2.1)∧Af I5 w hb sb tb rb (.slice (some ⟨g,0,none⟩) L.length cap) ve ⟨Bb s n (Cr e.c (CL e.c id).1 (CL e.c id).2),[]⟩ L y.2.2.2 G Ge (.agg #[y.2.1,y.2.2.1]) rp) ?_ ?_
 ·skip
  refine Hj [] hs (k:=?_);clear hs;intro hX w Av hs
  refine tks 0 9 ?_
  refine tk 9 hX (hr:=fun w' hH=>BG AI rfl rfl rfl (by show (0:Int)≤(n:Int);omega) (by show (n:Int) < _;omega)) (k:=?_)
  refine tk 10 hX (hr:=fun w' hH=>r_load AI rfl rfl (hH rfl) (by repeat (first | exact At.head | (with_reducible apply At.tail))) (by simpa using FQ)) (k:=?_)
  refine tk 11 hX (k:=?_)
  refine HL 12 16 hX (h1:=?_) (h2:=?_)
  ·skip
   refine cl (h:=by exact XE e.cb e.c e.F id _ (hC.only Av) hid) (k:=?_)
   rintro v1 w2 ⟨rv,rfl,T⟩
   have hf:=T.form
   rw [hrp] at hf
   obtain ⟨ag,cg,ap,cp,rfl⟩:=hf
   obtain ⟨L',hA⟩:=CT (hO.only Av) he T Av
   rw [hrp] at hA
   replace hs:=hs.Db T.2.2 (fun k hk=>by obtain rfl:=List.mem_singleton.1 hk;exact hs.E8 (Av.block hcb (by simp)))
   refine XS.nil ?_
   refine dn (k:=?_)
   refine tks 13 3 ?_
   refine dt 16 hX (k:=?_)
   refine FF hs (k:=?_);clear hs;intro b6 w6 Ak z6 hs
   have y6:(I5).heap.size≤b6:=Nat.le_trans (AA.size hA.o) z6
   replace hA:=hA.keep Ak
   refine XS.nil ?_
   refine dn (k:=?_)
   refine dt 17 hX (k:=?_)
   have q6:=hs.get (b:=b6) (by repeat (first | exact At.head | (with_reducible apply At.tail)))
   refine DR hs (k:=?_);clear hs;intro GP CG hs
   replace hA:=hA.store CG q6 rfl (by decide) (by decide) y6
   refine XS.nil ?_
   refine dn (k:=?_)
   refine tk 18 hX (k:=?_)
   refine en (k:=?_)
   have r3:=hs.get (b:=b4) (by repeat (first | exact At.head | (with_reducible apply At.tail)))
   have r6:=hs.get (b:=b6) (by repeat (first | exact At.head | (with_reducible apply At.tail)))
   exact AP (b6,.slice ag rp.g.length cg,.slice ap rp.p.length cp,L') Ab ⟨r3,r6,hA⟩
  ·skip
   refine FF hs (k:=?_);clear hs;intro b6 w6 Ak z6 hs
   have y6:(I5).heap.size≤b6:=Nat.le_trans (AA.size Av) z6
   replace Av:=Av.trans Ak
   refine XS.nil ?_
   refine dn (k:=?_)
   refine dt 12 hX (k:=?_)
   refine cl (h:=by exact XE e.cb e.c e.F id _ (hC.only Av) hid) (k:=?_)
   rintro v1 w2 ⟨rv,rfl,T⟩
   have hf:=T.form
   rw [hrp] at hf
   obtain ⟨ag,cg,ap,cp,rfl⟩:=hf
   obtain ⟨L',hA⟩:=CT (hO.only Av) he T Av
   rw [hrp] at hA
   replace hs:=hs.Db T.2.2 (fun k hk=>by obtain rfl:=List.mem_singleton.1 hk;exact hs.E8 (Av.block hcb (by simp)))
   refine XS.nil ?_
   refine dn (k:=?_)
   refine tks 13 3 ?_
   refine dt 17 hX (k:=?_)
   have q6:=hs.get (b:=b6) (by repeat (first | exact At.head | (with_reducible apply At.tail)))
   refine DR hs (k:=?_);clear hs;intro GP CG hs
   replace hA:=hA.store CG q6 rfl (by decide) (by decide) y6
   refine XS.nil ?_
   refine dn (k:=?_)
   refine tk 18 hX (k:=?_)
   refine en (k:=?_)
   have r3:=hs.get (b:=b4) (by repeat (first | exact At.head | (with_reducible apply At.tail)))
   have r6:=hs.get (b:=b6) (by repeat (first | exact At.head | (with_reducible apply At.tail)))
   exact AP (b6,.slice ag rp.g.length cg,.slice ap rp.p.length cp,L') Ab ⟨r3,r6,hA⟩
 ·rintro ⟨b6,vg,vp,L'⟩ env M4 ⟨k3,k6,hA⟩
  simp only at k6 hA
  clear hs hO
  have oO:=Aj.size
  have hp:=hA.p
  obtain ⟨_,_,_,_,OP,_,_⟩:=hA.p
  cases OP
  have hO:=hA.c
  replace Aj:=Aj.step hA.o (fun k hk => .inl hk)
  have Ww:∀ k∈CB hb sb tb rb L' G Ge,k∈CB hb sb tb rb L G Ge∨w0.heap.size≤k:=fun k hk=>by
   rcases hA.f k hk with q | q
   ·exact .inl q
   ·exact .inr om
  generalize CL e.c id=J at *
  have hs:=((((St.nil M4).AE k6).AE hO.s.o).AE hO.h).AE k3
  by_cases hJ:J.1=0
  ·rw [if_pos hJ]
   rw [hJ] at hO ⊢
   refine Jd ?_
   refine Hj [] hs (k:=?_);clear hs;intro hX w CE hs
   replace hO:=hO.only CE
   replace Aj:=Aj.step CE (by simp)
   refine tks 0 8 ?_
   refine dt 8 hX (k:=?_)
   refine cl (h:=by exact FN tb rb _ (({ id:=xi,st:=1,core:=n,w:=xw,slice:=C5,lag:=xl }:Tk)) _ hO.s.t hy.1) (k:=?_)
   rintro v12 w12 ⟨rfl,FW,Bq⟩
   have Hf:=hO.s.t
   obtain ⟨J9,Hw,MB,Eb,_⟩:=Hf
   replace hs:=hs.Db Bq (fun k hk=>by obtain rfl:=List.mem_singleton.1 hk;exact hs.Hg Fv Eb)
   replace hO:=hO.JD FW Bq (hO.s.ok.CK hy)
   replace Aj:=Aj.step Bq (fun k hk => .inl (by obtain rfl:=List.mem_singleton.1 hk;simp [CB]))
   refine XS.nil ?_
   refine dn (k:=?_)
   refine en (k:=?_)
   replace hp:=(hp.Fb CE (by simp)).Fb Bq (fun k hk=>⟨_,_,_,by obtain rfl:=List.mem_singleton.1 hk;exact Eb,by decide,by decide⟩)
   refine Ja ?_
   have Wh:=Aj.size
   refine cl (h:=by exact GI hb _ _ n _ rp _ hO.at hp Hs (by have:=hkn.1;have:=hkn.2;have e1:Rp.none.p.length=0:=rfl;have e2:Rp.none.g.length=0:=rfl;have e3:([]:List Ev).length=0:=rfl;simp only at *;omega)) (k:=?_)
   rintro v25 w25 ⟨qC,Mz,NX,JX⟩
   replace Aj:=Aj.step JX Ww
   have ML:=IN Ww NX Wh
   clear hs
   have hs:=St.nil w25
   refine Ja ?_
   refine AF ?_
   have Cj:=hs.AD rfl
   exact ⟨rfl,fun _=>⟨_,Mz.only Cj,ML⟩,Aj.step Cj (by simp)⟩
  ·rw [if_neg hJ]
   generalize J.1=ee at *
   repeat' (first|refine Sa ?_|refine xc_cond rfl (fun hc=>?_) fun hc=>?_|fail)
   ·refine AF ?_
    have Cj:=hs.AB [] (fun e he => .inr (.inr (hs.hold e he))) (by simp [D0])
    exact ⟨rfl,fun q=>absurd q hJ,Aj.step Cj (by simp)⟩
   ·exact absurd (by simpa using hc) hJ
theorem jM {c:Cs} (h:CO c) (id:Int):A9 (Bz c id).2:=by
 obtain ⟨s,hs⟩:=h
 have h1:=M7 hs id
 unfold Bz
 cases Ah c.A.l id with
 | none=>exact Nv
 | some a =>
   show A9 (if a.1.asleep=true then (false,(0:Int)) else if De c.A id < 0 then (false,CW c.A id) else (true,CW c.A id)).2
   split
   ·exact Nv
   ·split <;> exact h1
theorem Xm (b2 hb:Nat) (s:Sy) (F:List Nat) (x:Tk) (id:Int) (w0:World) (h:D4 w0 hb ⟨s,[]⟩ F) (hid:In64 id) (B2:w0.heap[b2]?=some (.cells #[.int .i64 id] 3 (0,0))) (hx:CN s.cf.cores x) (hn:x.st≠0) :
 AM Tryz.prog 68 #[.pointer (some ⟨hb,0,none⟩),Jx x,.pointer (some ⟨b2,0,none⟩)] w0 fun v w'=>v = .int .i64 (HE ⟨s,[]⟩ x id).1∧Jq w0 hb (HE ⟨s,[]⟩ x id).1 (HE ⟨s,[]⟩ x id).2 F w':=by
 obtain ⟨sb,tb,rb,v,ve,L,G,Ge,rfl,hO⟩:=h.EB
 have Yl:=hO.s.t.Rj.2
 obtain ⟨n,e,g,cap,cur,FZ,hlt,he,hC,hce,rfl,hg,FQ,VF,hR,_,_,_,hcb⟩:=hO.place hx hn
 have JT:AS s n=e.c:=hce
 have eX:HE ⟨s,[]⟩ x id=if x.st≠1 then (6,⟨s,[]⟩) else EN ⟨s,[]⟩ (if (Bz (AS s x.core) id).1=true then { x with st:=3,lag:=GH s.cf (Bz (AS s x.core) id).2 x.slice } else { x with st:=2 }) ((Be (AS s x.core) id).1,(Be (AS s x.core) id).2,.none):=rfl
 rw [eX]
 have eC:∀ y:Tk,y.core=(n:Int)→EN ⟨s,[]⟩ y ((Be e.c id).1,(Be e.c id).2,.none)=if (Be e.c id).1=0 then (0,BR ⟨Bu (Bb s n (Cr e.c (Be e.c id).1 (Be e.c id).2)) y,[]⟩ n (BU (Be e.c id).1 (Be e.c id).2 .none)) else ((Be e.c id).1,⟨s,[]⟩):=fun y hy=>by
  unfold EN
  rw [hy,← JT]
 have hs:=(((St.nil w0).AE B2).AE hg).AE hO.s.o |>.AE hO.h
 have Aj:AA (CB hb sb tb rb L G Ge) w0 w0:=(AA.refl [] w0).weaken (by simp)
 refine AQ Tryz.func68 Tryz.ntmps68 (k:=?_)
 refine Ag ?_
 refine Al ?_
 refine Gd hs (k:=?_);clear hs;intro b4 w1 AJ z1 hs
 replace hO:=hO.only AJ
 replace Aj:=Aj.step AJ (by simp)
 replace hC:=hC.only AJ
 replace hcb:=AJ.block hcb (by simp)
 have Fv:b4≠rb:=by omega
 obtain ⟨xi,xt,xc,xw,C5,xl⟩:=x
 simp only at FZ hn
 subst FZ
 simp only
 by_cases s1:xt≠1
 ·rw [if_pos s1]
  repeat' (first|refine Sa ?_|refine xc_cond rfl (fun hc=>?_) fun hc=>?_|fail)
  ·refine AF ?_
   exact ⟨rfl,fun z=>absurd z (show ¬ (6:Int)=0 by decide),Aj.step (hs.AB [] (fun e he => .inr (.inr (hs.hold e he))) (by simp [D0])) (by simp)⟩
  ·exact absurd (by simpa using hc) s1
 obtain rfl:xt=1:=by omega
 rw [if_neg (by simp),JT]
 have Hs:Cc (BU (Be e.c id).1 (Be e.c id).2 .none):=Cc.none.try (NF hR id)
 have hkn:=IQ (e:=(Be e.c id).1) (r1 := .none) (NF hR id)
 have hsx:=jM hR id
 rw [eC _ (by split <;> rfl)]
 generalize hrp:BU (Be e.c id).1 (Be e.c id).2 .none=rp at Hs hkn
 refine Jd ?_
 refine B7 (fun (y:Nat × Nat × Value × Value × List Ce)=>[(0,.pointer (some ⟨hb,0,none⟩)),(4,.pointer (some ⟨b4,0,none⟩)),(6,.bool (Bz e.c id).1),(7,.pointer (some ⟨y.1,0,none⟩)),(8,.pointer (some ⟨y.2.1,0,none⟩)),(9,.int .i64 (Be e.c id).1)])
  (fun y w=>w.heap[b4]?=some (NA ⟨xi,1,n,xw,C5,xl⟩)∧w.heap[y.1]?=some (G7 (Bz e.c id).2)∧w.heap[y.2.1]?=some (KW y.2.2.1 y.2.2.2.1)∧Af w1 w hb sb tb rb (.slice (some ⟨g,0,none⟩) L.length cap) ve ⟨Bb s n (Cr e.c (Be e.c id).1 (Be e.c id).2),[]⟩ L y.2.2.2.2 G Ge (.agg #[y.2.2.1,y.2.2.2.1]) rp) ?_ ?_
 ·refine Hj [] hs (k:=?_);clear hs;intro hX w Av hs
  refine tks 0 9 ?_
  refine tk 9 hX (hr:=fun w' hH=>BG AI rfl rfl rfl (by show (0:Int)≤(n:Int);omega) (by show (n:Int) < _;omega)) (k:=?_)
  refine tk 10 hX (hr:=fun w' hH=>r_load AI rfl rfl (hH rfl) (by repeat (first | exact At.head | (with_reducible apply At.tail))) (by simpa using FQ)) (k:=?_)
  refine tk 11 hX (k:=?_)
  refine dD 12 18 19 hX (h1:=?_) (h2:=?_) (h3:=?_)
  ·skip
   refine cl (h:=by exact Ip e.cb e.c e.F id _ (hC.only Av) hid) (k:=?_)
   rintro v1 w2 ⟨rv,rfl,T⟩
   have hf:=T.form
   rw [hrp] at hf
   obtain ⟨ag,cg,ap,cp,rfl⟩:=hf
   obtain ⟨L',hA⟩:=CT (hO.only Av) he T Av
   rw [hrp] at hA
   replace hs:=hs.Db T.2.2 (fun k hk=>by obtain rfl:=List.mem_singleton.1 hk;exact hs.E8 (Av.block hcb (by simp)))
   refine XS.nil ?_
   refine dn (k:=?_)
   refine tks 13 5 ?_
   refine HL 18 19 hX (h1:=?_) (h2:=?_)
   ·skip
    refine FF hs (k:=?_);clear hs;intro b5 w5 BK z5 hs
    have y5:(w1).heap.size≤b5:=Nat.le_trans (AA.size hA.o) z5
    replace hA:=hA.keep BK
    refine XS.nil ?_
    refine dn (k:=?_)
    refine dt 19 hX (k:=?_)
    refine FF hs (k:=?_);clear hs;intro b6 w6 Ak z6 hs
    have y6:(w1).heap.size≤b6:=Nat.le_trans (AA.size hA.o) z6
    replace hA:=hA.keep Ak
    refine XS.nil ?_
    refine dn (k:=?_)
    refine tk 20 hX (k:=?_)
    refine dt 21 hX (k:=?_)
    have q5:=hs.get (b:=b5) (by repeat (first | exact At.head | (with_reducible apply At.tail)))
    refine DR hs (k:=?_);clear hs;intro KE Dk hs
    replace hA:=hA.store Dk q5 rfl (by decide) (by decide) y5
    refine XS.nil ?_
    refine dn (k:=?_)
    refine dt 22 hX (k:=?_)
    have q6:=hs.get (b:=b6) (by repeat (first | exact At.head | (with_reducible apply At.tail)))
    refine DR hs (k:=?_);clear hs;intro GP CG hs
    replace hA:=hA.store CG q6 rfl (by decide) (by decide) y6
    refine XS.nil ?_
    refine dn (k:=?_)
    refine tk 23 hX (k:=?_)
    refine en (k:=?_)
    have r3:=hs.get (b:=b4) (by repeat (first | exact At.head | (with_reducible apply At.tail)))
    have r5:=hs.get (b:=b5) (by repeat (first | exact At.head | (with_reducible apply At.tail)))
    have r6:=hs.get (b:=b6) (by repeat (first | exact At.head | (with_reducible apply At.tail)))
    exact AP (b5,b6,.slice ag rp.g.length cg,.slice ap rp.p.length cp,L') Ab ⟨r3,r5,r6,hA⟩
   ·skip
    refine FF hs (k:=?_);clear hs;intro b6 w6 Ak z6 hs
    have y6:(w1).heap.size≤b6:=Nat.le_trans (AA.size hA.o) z6
    replace hA:=hA.keep Ak
    refine XS.nil ?_
    refine dn (k:=?_)
    refine dt 18 hX (k:=?_)
    refine FF hs (k:=?_);clear hs;intro b5 w5 BK z5 hs
    have y5:(w1).heap.size≤b5:=Nat.le_trans (AA.size hA.o) z5
    replace hA:=hA.keep BK
    refine XS.nil ?_
    refine dn (k:=?_)
    refine tk 20 hX (k:=?_)
    refine dt 21 hX (k:=?_)
    have q5:=hs.get (b:=b5) (by repeat (first | exact At.head | (with_reducible apply At.tail)))
    refine DR hs (k:=?_);clear hs;intro KE Dk hs
    replace hA:=hA.store Dk q5 rfl (by decide) (by decide) y5
    refine XS.nil ?_
    refine dn (k:=?_)
    refine dt 22 hX (k:=?_)
    have q6:=hs.get (b:=b6) (by repeat (first | exact At.head | (with_reducible apply At.tail)))
    refine DR hs (k:=?_);clear hs;intro GP CG hs
    replace hA:=hA.store CG q6 rfl (by decide) (by decide) y6
    refine XS.nil ?_
    refine dn (k:=?_)
    refine tk 23 hX (k:=?_)
    refine en (k:=?_)
    have r3:=hs.get (b:=b4) (by repeat (first | exact At.head | (with_reducible apply At.tail)))
    have r5:=hs.get (b:=b5) (by repeat (first | exact At.head | (with_reducible apply At.tail)))
    have r6:=hs.get (b:=b6) (by repeat (first | exact At.head | (with_reducible apply At.tail)))
    exact AP (b5,b6,.slice ag rp.g.length cg,.slice ap rp.p.length cp,L') Ab ⟨r3,r5,r6,hA⟩
  ·skip
   refine FF hs (k:=?_);clear hs;intro b5 w5 BK z5 hs
   have y5:(w1).heap.size≤b5:=Nat.le_trans (AA.size Av) z5
   replace Av:=Av.trans BK
   refine XS.nil ?_
   refine dn (k:=?_)
   refine HL 12 19 hX (h1:=?_) (h2:=?_)
   ·skip
    refine cl (h:=by exact Ip e.cb e.c e.F id _ (hC.only Av) hid) (k:=?_)
    rintro v1 w2 ⟨rv,rfl,T⟩
    have hf:=T.form
    rw [hrp] at hf
    obtain ⟨ag,cg,ap,cp,rfl⟩:=hf
    obtain ⟨L',hA⟩:=CT (hO.only Av) he T Av
    rw [hrp] at hA
    replace hs:=hs.Db T.2.2 (fun k hk=>by obtain rfl:=List.mem_singleton.1 hk;exact hs.E8 (Av.block hcb (by simp)))
    refine XS.nil ?_
    refine dn (k:=?_)
    refine tks 13 5 ?_
    refine dt 19 hX (k:=?_)
    refine FF hs (k:=?_);clear hs;intro b6 w6 Ak z6 hs
    have y6:(w1).heap.size≤b6:=Nat.le_trans (AA.size hA.o) z6
    replace hA:=hA.keep Ak
    refine XS.nil ?_
    refine dn (k:=?_)
    refine tk 20 hX (k:=?_)
    refine dt 21 hX (k:=?_)
    have q5:=hs.get (b:=b5) (by repeat (first | exact At.head | (with_reducible apply At.tail)))
    refine DR hs (k:=?_);clear hs;intro KE Dk hs
    replace hA:=hA.store Dk q5 rfl (by decide) (by decide) y5
    refine XS.nil ?_
    refine dn (k:=?_)
    refine dt 22 hX (k:=?_)
    have q6:=hs.get (b:=b6) (by repeat (first | exact At.head | (with_reducible apply At.tail)))
    refine DR hs (k:=?_);clear hs;intro GP CG hs
    replace hA:=hA.store CG q6 rfl (by decide) (by decide) y6
    refine XS.nil ?_
    refine dn (k:=?_)
    refine tk 23 hX (k:=?_)
    refine en (k:=?_)
    have r3:=hs.get (b:=b4) (by repeat (first | exact At.head | (with_reducible apply At.tail)))
    have r5:=hs.get (b:=b5) (by repeat (first | exact At.head | (with_reducible apply At.tail)))
    have r6:=hs.get (b:=b6) (by repeat (first | exact At.head | (with_reducible apply At.tail)))
    exact AP (b5,b6,.slice ag rp.g.length cg,.slice ap rp.p.length cp,L') Ab ⟨r3,r5,r6,hA⟩
   ·skip
    refine FF hs (k:=?_);clear hs;intro b6 w6 Ak z6 hs
    have y6:(w1).heap.size≤b6:=Nat.le_trans (AA.size Av) z6
    replace Av:=Av.trans Ak
    refine XS.nil ?_
    refine dn (k:=?_)
    refine dt 12 hX (k:=?_)
    refine cl (h:=by exact Ip e.cb e.c e.F id _ (hC.only Av) hid) (k:=?_)
    rintro v1 w2 ⟨rv,rfl,T⟩
    have hf:=T.form
    rw [hrp] at hf
    obtain ⟨ag,cg,ap,cp,rfl⟩:=hf
    obtain ⟨L',hA⟩:=CT (hO.only Av) he T Av
    rw [hrp] at hA
    replace hs:=hs.Db T.2.2 (fun k hk=>by obtain rfl:=List.mem_singleton.1 hk;exact hs.E8 (Av.block hcb (by simp)))
    refine XS.nil ?_
    refine dn (k:=?_)
    refine tks 13 5 ?_
    refine tk 20 hX (k:=?_)
    refine dt 21 hX (k:=?_)
    have q5:=hs.get (b:=b5) (by repeat (first | exact At.head | (with_reducible apply At.tail)))
    refine DR hs (k:=?_);clear hs;intro KE Dk hs
    replace hA:=hA.store Dk q5 rfl (by decide) (by decide) y5
    refine XS.nil ?_
    refine dn (k:=?_)
    refine dt 22 hX (k:=?_)
    have q6:=hs.get (b:=b6) (by repeat (first | exact At.head | (with_reducible apply At.tail)))
    refine DR hs (k:=?_);clear hs;intro GP CG hs
    replace hA:=hA.store CG q6 rfl (by decide) (by decide) y6
    refine XS.nil ?_
    refine dn (k:=?_)
    refine tk 23 hX (k:=?_)
    refine en (k:=?_)
    have r3:=hs.get (b:=b4) (by repeat (first | exact At.head | (with_reducible apply At.tail)))
    have r5:=hs.get (b:=b5) (by repeat (first | exact At.head | (with_reducible apply At.tail)))
    have r6:=hs.get (b:=b6) (by repeat (first | exact At.head | (with_reducible apply At.tail)))
    exact AP (b5,b6,.slice ag rp.g.length cg,.slice ap rp.p.length cp,L') Ab ⟨r3,r5,r6,hA⟩
  ·skip
   refine FF hs (k:=?_);clear hs;intro b6 w6 Ak z6 hs
   have y6:(w1).heap.size≤b6:=Nat.le_trans (AA.size Av) z6
   replace Av:=Av.trans Ak
   refine XS.nil ?_
   refine dn (k:=?_)
   refine HL 12 18 hX (h1:=?_) (h2:=?_)
   ·skip
    refine cl (h:=by exact Ip e.cb e.c e.F id _ (hC.only Av) hid) (k:=?_)
    rintro v1 w2 ⟨rv,rfl,T⟩
    have hf:=T.form
    rw [hrp] at hf
    obtain ⟨ag,cg,ap,cp,rfl⟩:=hf
    obtain ⟨L',hA⟩:=CT (hO.only Av) he T Av
    rw [hrp] at hA
    replace hs:=hs.Db T.2.2 (fun k hk=>by obtain rfl:=List.mem_singleton.1 hk;exact hs.E8 (Av.block hcb (by simp)))
    refine XS.nil ?_
    refine dn (k:=?_)
    refine tks 13 5 ?_
    refine dt 18 hX (k:=?_)
    refine FF hs (k:=?_);clear hs;intro b5 w5 BK z5 hs
    have y5:(w1).heap.size≤b5:=Nat.le_trans (AA.size hA.o) z5
    replace hA:=hA.keep BK
    refine XS.nil ?_
    refine dn (k:=?_)
    refine tk 20 hX (k:=?_)
    refine dt 21 hX (k:=?_)
    have q5:=hs.get (b:=b5) (by repeat (first | exact At.head | (with_reducible apply At.tail)))
    refine DR hs (k:=?_);clear hs;intro KE Dk hs
    replace hA:=hA.store Dk q5 rfl (by decide) (by decide) y5
    refine XS.nil ?_
    refine dn (k:=?_)
    refine dt 22 hX (k:=?_)
    have q6:=hs.get (b:=b6) (by repeat (first | exact At.head | (with_reducible apply At.tail)))
    refine DR hs (k:=?_);clear hs;intro GP CG hs
    replace hA:=hA.store CG q6 rfl (by decide) (by decide) y6
    refine XS.nil ?_
    refine dn (k:=?_)
    refine tk 23 hX (k:=?_)
    refine en (k:=?_)
    have r3:=hs.get (b:=b4) (by repeat (first | exact At.head | (with_reducible apply At.tail)))
    have r5:=hs.get (b:=b5) (by repeat (first | exact At.head | (with_reducible apply At.tail)))
    have r6:=hs.get (b:=b6) (by repeat (first | exact At.head | (with_reducible apply At.tail)))
    exact AP (b5,b6,.slice ag rp.g.length cg,.slice ap rp.p.length cp,L') Ab ⟨r3,r5,r6,hA⟩
   ·skip
    refine FF hs (k:=?_);clear hs;intro b5 w5 BK z5 hs
    have y5:(w1).heap.size≤b5:=Nat.le_trans (AA.size Av) z5
    replace Av:=Av.trans BK
    refine XS.nil ?_
    refine dn (k:=?_)
    refine dt 12 hX (k:=?_)
    refine cl (h:=by exact Ip e.cb e.c e.F id _ (hC.only Av) hid) (k:=?_)
    rintro v1 w2 ⟨rv,rfl,T⟩
    have hf:=T.form
    rw [hrp] at hf
    obtain ⟨ag,cg,ap,cp,rfl⟩:=hf
    obtain ⟨L',hA⟩:=CT (hO.only Av) he T Av
    rw [hrp] at hA
    replace hs:=hs.Db T.2.2 (fun k hk=>by obtain rfl:=List.mem_singleton.1 hk;exact hs.E8 (Av.block hcb (by simp)))
    refine XS.nil ?_
    refine dn (k:=?_)
    refine tks 13 5 ?_
    refine tk 20 hX (k:=?_)
    refine dt 21 hX (k:=?_)
    have q5:=hs.get (b:=b5) (by repeat (first | exact At.head | (with_reducible apply At.tail)))
    refine DR hs (k:=?_);clear hs;intro KE Dk hs
    replace hA:=hA.store Dk q5 rfl (by decide) (by decide) y5
    refine XS.nil ?_
    refine dn (k:=?_)
    refine dt 22 hX (k:=?_)
    have q6:=hs.get (b:=b6) (by repeat (first | exact At.head | (with_reducible apply At.tail)))
    refine DR hs (k:=?_);clear hs;intro GP CG hs
    replace hA:=hA.store CG q6 rfl (by decide) (by decide) y6
    refine XS.nil ?_
    refine dn (k:=?_)
    refine tk 23 hX (k:=?_)
    refine en (k:=?_)
    have r3:=hs.get (b:=b4) (by repeat (first | exact At.head | (with_reducible apply At.tail)))
    have r5:=hs.get (b:=b5) (by repeat (first | exact At.head | (with_reducible apply At.tail)))
    have r6:=hs.get (b:=b6) (by repeat (first | exact At.head | (with_reducible apply At.tail)))
    exact AP (b5,b6,.slice ag rp.g.length cg,.slice ap rp.p.length cp,L') Ab ⟨r3,r5,r6,hA⟩
 ·rintro ⟨b5,b6,vg,vp,L'⟩ env M4 ⟨k3,k5,k6,hA⟩
  simp only at k5 k6 hA
  clear hs hO
  have oO:=Aj.size
  have hp:=hA.p
  obtain ⟨_,_,_,_,OP,_,_⟩:=hA.p
  cases OP
  have hO:=hA.c
  replace Aj:=Aj.step hA.o (fun k hk => .inl hk)
  have Ww:∀ k∈CB hb sb tb rb L' G Ge,k∈CB hb sb tb rb L G Ge∨w0.heap.size≤k:=fun k hk=>by
   rcases hA.f k hk with q | q
   ·exact .inl q
   ·exact .inr om
  generalize Be e.c id=J at *
  have hs:=(((((St.nil M4).AE k5).AE k6).AE hO.s.o).AE hO.h).AE k3
  by_cases hJ:J.1=0
  ·rw [if_pos hJ]
   rw [hJ] at hO ⊢
   have aAk:=Aj.size
   have hH:=hs.hold
   have EM:=hs.get At.head
   cases hsy:(Bz e.c id).1 with
   | false =>
     rw [if_neg (by simp)]
     have hy:CN s.cf.cores { id:=xi,st:=2,core:=n,w:=xw,slice:=C5,lag:=xl }:=hx.st hn om
     repeat' (first|refine Sd ?_|(refine st hs (k:=?_);intro w hs)|fail)
     have AT:=hs.AB [b4] (fun e he=>by
      rcases List.mem_cons.1 he with rfl | he
      ·exact .inr (.inl (by simp))
      ·exact .inr (.inr (hH e (List.mem_cons_of_mem _ he)))) (by simp [D0])
     replace hs:=hs.En
     simp only [List.map_cons,List.map_nil] at hs
     replace hO:=hO.Em AT EM Fv
     replace Aj:=Aj.step AT (fun k hk => .inr (by obtain rfl:=List.mem_singleton.1 hk;omega))
     replace hp:=hp.Fb AT (fun k hk=>⟨_,_,_,by obtain rfl:=List.mem_singleton.1 hk;exact EM,by decide,by decide⟩)
     clear hH EM
     refine Hj [] hs (k:=?_);clear hs;intro hX w CE hs
     replace hO:=hO.only CE
     replace Aj:=Aj.step CE (by simp)
     refine tks 0 8 ?_
     refine dt 8 hX (k:=?_)
     refine cl (h:=by exact FN tb rb _ (({ id:=xi,st:=2,core:=n,w:=xw,slice:=C5,lag:=xl }:Tk)) _ hO.s.t hy.1) (k:=?_)
     rintro v12 w12 ⟨rfl,FW,Bq⟩
     have Hf:=hO.s.t
     obtain ⟨J9,Hw,MB,Eb,_⟩:=Hf
     replace hs:=hs.Db Bq (fun k hk=>by obtain rfl:=List.mem_singleton.1 hk;exact hs.Hg Fv Eb)
     replace hO:=hO.JD FW Bq (hO.s.ok.CK hy)
     replace Aj:=Aj.step Bq (fun k hk => .inl (by obtain rfl:=List.mem_singleton.1 hk;simp [CB]))
     refine XS.nil ?_
     refine dn (k:=?_)
     refine en (k:=?_)
     replace hp:=(hp.Fb CE (by simp)).Fb Bq (fun k hk=>⟨_,_,_,by obtain rfl:=List.mem_singleton.1 hk;exact Eb,by decide,by decide⟩)
     refine Ja ?_
     have Wh:=Aj.size
     refine cl (h:=by exact GI hb _ _ n _ rp _ hO.at hp Hs (by have:=hkn.1;have:=hkn.2;have e1:Rp.none.p.length=0:=rfl;have e2:Rp.none.g.length=0:=rfl;have e3:([]:List Ev).length=0:=rfl;simp only at *;omega)) (k:=?_)
     rintro v25 w25 ⟨qC,Mz,NX,JX⟩
     replace Aj:=Aj.step JX Ww
     have ML:=IN Ww NX Wh
     clear hs
     have hs:=St.nil w25
     refine Ja ?_
     refine AF ?_
     have Cj:=hs.AD rfl
     exact ⟨rfl,fun _=>⟨_,Mz.only Cj,ML⟩,Aj.step Cj (by simp)⟩
   | true =>
     rw [if_pos rfl]
     have hy:CN s.cf.cores { id:=xi,st:=3,core:=n,w:=xw,slice:=C5,lag:=GH s.cf (Bz e.c id).2 C5 }:=⟨hx.1,(by decide:(0:Int)≤3∧(3:Int) < 256),hx.2.2.1,hx.2.2.2.1,hx.2.2.2.2.1,Ky _ _ _,fun _=>hx.core (by decide:(1:Int)≠0)⟩
     repeat' (first|refine vs (k:=?_)|refine Al ?_|refine Nx.h ?_|refine Ew ?_|refine ES ?_|(refine st hs (k:=?_);intro w hs)|fail)
     have AT:=hs.AB [b4] (fun e he=>by
      rcases List.mem_cons.1 he with rfl | he
      ·exact .inr (.inl (by simp))
      ·exact .inr (.inr (hH e (List.mem_cons_of_mem _ he)))) (by simp [D0])
     replace hs:=hs.En
     simp only [List.map_cons,List.map_nil] at hs
     replace hO:=hO.Em AT EM Fv
     replace Aj:=Aj.step AT (fun k hk => .inr (by obtain rfl:=List.mem_singleton.1 hk;omega))
     replace hp:=hp.Fb AT (fun k hk=>⟨_,_,_,by obtain rfl:=List.mem_singleton.1 hk;exact EM,by decide,by decide⟩)
     clear hH EM
     have hH:=hs.hold
     have EM:=hs.get At.head
     refine drT [] hs (k:=?_);intro hX w hs
     refine tks 0 9 ?_
     refine dt 9 hX (k:=?_)
     refine Jc ?_
     refine dn (k:=?_)
     refine tk 11 hX (k:=?_)
     refine dt 10 hX (k:=?_)
     refine AY hs (h:=by exact Q5 s.cf (Bz e.c id).2 C5 hO.s.ok.cf hsx hx.2.2.2.2.1 _) (k:=?_);intro w' ho hs;refine Jb ?_
     refine dn (k:=?_)
     refine dt 12 hX (k:=?_)
     repeat' (first|refine Nx.h ?_|(refine st hs (k:=?_);intro w hs)|fail)
     refine dn (k:=?_)
     refine tk 13 hX (k:=?_)
     refine dt 14 hX (k:=?_)
     repeat' (first|refine Nx.h ?_|(refine st hs (k:=?_);intro w hs)|fail)
     refine dn (k:=?_)
     refine en (k:=?_)
     refine Jb ?_
     have AT:=hs.AB [b4] (fun e he=>by
      rcases List.mem_cons.1 he with rfl | he
      ·exact .inr (.inl (by simp))
      ·exact .inr (.inr (hH e (List.mem_cons_of_mem _ he)))) (by simp [D0])
     replace hs:=hs.En
     simp only [List.map_cons,List.map_nil] at hs
     replace hO:=hO.Em AT EM Fv
     replace Aj:=Aj.step AT (fun k hk => .inr (by obtain rfl:=List.mem_singleton.1 hk;omega))
     replace hp:=hp.Fb AT (fun k hk=>⟨_,_,_,by obtain rfl:=List.mem_singleton.1 hk;exact EM,by decide,by decide⟩)
     clear hH EM
     refine Hj [] hs (k:=?_);clear hs;intro hX w CE hs
     replace hO:=hO.only CE
     replace Aj:=Aj.step CE (by simp)
     refine tks 0 8 ?_
     refine dt 8 hX (k:=?_)
     refine cl (h:=by exact FN tb rb _ (({ id:=xi,st:=3,core:=n,w:=xw,slice:=C5,lag:=GH s.cf (Bz e.c id).2 C5 }:Tk)) _ hO.s.t hy.1) (k:=?_)
     rintro v12 w12 ⟨rfl,FW,Bq⟩
     have Hf:=hO.s.t
     obtain ⟨J9,Hw,MB,Eb,_⟩:=Hf
     replace hs:=hs.Db Bq (fun k hk=>by obtain rfl:=List.mem_singleton.1 hk;exact hs.Hg Fv Eb)
     replace hO:=hO.JD FW Bq (hO.s.ok.CK hy)
     replace Aj:=Aj.step Bq (fun k hk => .inl (by obtain rfl:=List.mem_singleton.1 hk;simp [CB]))
     refine XS.nil ?_
     refine dn (k:=?_)
     refine en (k:=?_)
     replace hp:=(hp.Fb CE (by simp)).Fb Bq (fun k hk=>⟨_,_,_,by obtain rfl:=List.mem_singleton.1 hk;exact Eb,by decide,by decide⟩)
     refine Ja ?_
     have Wh:=Aj.size
     refine cl (h:=by exact GI hb _ _ n _ rp _ hO.at hp Hs (by have:=hkn.1;have:=hkn.2;have e1:Rp.none.p.length=0:=rfl;have e2:Rp.none.g.length=0:=rfl;have e3:([]:List Ev).length=0:=rfl;simp only at *;omega)) (k:=?_)
     rintro v25 w25 ⟨qC,Mz,NX,JX⟩
     replace Aj:=Aj.step JX Ww
     have ML:=IN Ww NX Wh
     clear hs
     have hs:=St.nil w25
     refine Ja ?_
     refine AF ?_
     have Cj:=hs.AD rfl
     exact ⟨rfl,fun _=>⟨_,Mz.only Cj,ML⟩,Aj.step Cj (by simp)⟩
  ·rw [if_neg hJ]
   generalize J.1=ee at *
   repeat' (first|refine Sa ?_|(refine st hs (k:=?_);intro w hs)|refine xc_cond rfl (fun hc=>?_) fun hc=>?_|fail)
   ·refine AF ?_
    have Cj:=hs.AB [] (fun e he => .inr (.inr (hs.hold e he))) (by simp [D0])
    exact ⟨rfl,fun q=>absurd q hJ,Aj.step Cj (by simp)⟩
   all_goals exact absurd (by simpa using ‹(ee != 0)=false›) hJ
def Qi (s:Ch) (k:Nat) (ns:Int):Ch:=BR ⟨Bb s.s k (Cr (AS s.s k) (Aq (AS s.s k) ns).1 (Aq (AS s.s k) ns).2.1),s.ev⟩ k (BU (Aq (AS s.s k) ns).1 (Aq (AS s.s k) ns).2.1 (Aq (AS s.s k) ns).2.2)
theorem cC {n k:Nat} {s:Ch} {ns:Int} (h:(Aq (AS s.s k) ns).1=0):Du (n+1) k s ns=Du n (k+1) (Qi s k ns) ns:=by
 have h':(Aq (AS s.s k) ns).fst=0:=h
 rw [Du]
 exact if_pos h'
theorem aV {n k:Nat} {s:Ch} {ns:Int} (h:(Aq (AS s.s k) ns).1≠0):Du (n+1) k s ns=((Aq (AS s.s k) ns).1,s):=by
 have h':¬ (Aq (AS s.s k) ns).fst=0:=h
 rw [Du]
 exact if_neg h'
theorem Zn (b1 hb:Nat) (s:Sy) (ns:Int) (wb w0:World) (DZ:BV ns) (hw0:AA [] wb w0) (wU:wb.heap[b1]?=some (.cells #[.int .u64 ns] 22 (0,0))) (hbd:ns≤1099511627776→∀ k:Nat,k < s.k.length→(Aq (AS s k) ns).2.2.p.length≤1000000) :
 qN wb w0 57 [.pointer (some ⟨b1,0,none⟩)] [] (fun _=>True) s (GF ⟨s,[]⟩ ns):=by
 intro hb F h hF
 have B1:=hw0.block wU (by simp)
 have Eu:=h
 obtain ⟨sb,tb,rb,v,ve,L,G,Ge,rfl,hO⟩:=h.EB
 have hhi:=hO.s.ok.hi
 have hlen:=hO.s.ok.len
 have hlo:=hO.s.ok.lo
 have VF:=hO.s.c.len
 have h0:0 < (Ch.s ⟨s,[]⟩).k.length:=by show 0 < s.k.length;have:((s.k.length:Nat):Int)=s.cf.cores:=hlen;have:1≤s.cf.cores:=hlo;omega
 obtain ⟨x0,hx0,_,_⟩:=hO.s.c.at h0
 obtain ⟨g,cap,aBW,rfl,_,_⟩:=hO.s.c.ptr hx0
 have hh:=hO.h
 have os:=hO.s.o
 have hs:=((St.nil w0).AE B1).AE os |>.AE hh
 have eX:GF ⟨s,[]⟩ ns=if BC ns (Dp s.cf.tick)≠0 then (BC ns (Dp s.cf.tick),⟨s,[]⟩) else Du s.k.length 0 ⟨s,[]⟩ ns:=rfl
 rw [eX]
 refine AQ Tryz.func57 Tryz.ntmps57 (k:=?_)
 refine Ja ?_
 refine dr [] hs (k:=?_);intro hX w hs
 refine tks 0 8 ?_
 refine dt 8 hX (k:=?_)
 refine AY hs (h:=by exact jU s.cf ns _) (k:=?_);intro w' ho hs;refine Jb ?_
 refine dn (k:=?_)
 refine tk 9 hX (k:=?_)
 refine en (k:=?_)
 by_cases he:BC ns (Dp s.cf.tick)≠0
 ·rw [if_pos he]
  generalize BC ns (Dp s.cf.tick)=ee at *
  repeat' (first|refine Sa ?_|refine xc_cond rfl (fun hc=>?_) fun hc=>?_|fail)
  ·refine AF ?_
   exact ⟨rfl,trivial,fun z=>absurd z he,(hs.AB [] (by simp [B1,os,hh]) (by simp [D0])).weaken (by simp)⟩
  ·exact absurd (by simpa using hc) he
 have Le:ns≤1099511627776:=by
  have:=(within_lo he).2
  unfold Dp at this
  split at this <;> omega
 replace hbd:=hbd Le
 have Wg:BC ns (Dp s.cf.tick)=0:=by
  rcases Classical.em (BC ns (Dp s.cf.tick)=0) with z | z
  ·exact z
  ·exact absurd z he
 rw [if_neg he,Wg]
 refine Jd ?_
 have Aw:=hs.AB [] (by simp [B1,os,hh]) (by simp [D0])
 have hlS:s.k.length≤8:=by have:((s.k.length:Nat):Int)=s.cf.cores:=hlen;have:s.cf.cores≤8:=hhi;omega
 have hLs:L.length=s.k.length:=VF
 refine BN (fun (_:Ch × List Ce × Value × List Nat)=>[]) (fun y w=>Du s.k.length 0 ⟨s,[]⟩ ns=(0,y.1)∧CR w hb sb tb rb (.slice (some ⟨g,0,none⟩) L.length cap) y.2.2.1 y.1 y.2.1 G y.2.2.2∧(∀ i∈CB hb sb tb rb y.2.1 G y.2.2.2,i∈CB hb sb tb rb L G Ge∨w0.heap.size≤i)∧AA (CB hb sb tb rb L G Ge) w0 w) ?_ ?_
 ·refine BD (fun (x:Nat × Ch × List Ce × Value × List Nat)=>[(0,.pointer (some ⟨hb,0,none⟩)),(1,.pointer (some ⟨b1,0,none⟩)),(27,.slice (some ⟨g,0,none⟩) L.length cap),(28,.int .i64 (L.length:Nat)),(29,.int .i64 (x.1:Nat))])
   (fun x w=>x.1≤L.length∧Du s.k.length 0 ⟨s,[]⟩ ns=Du (s.k.length - x.1) x.1 x.2.1 ns∧w.heap[b1]?=some (.cells #[.int .u64 ns] 22 (0,0))∧CR w hb sb tb rb (.slice (some ⟨g,0,none⟩) L.length cap) x.2.2.2.1 x.2.1 x.2.2.1 G x.2.2.2.2∧(∀ i∈CB hb sb tb rb x.2.2.1 G x.2.2.2.2,i∈CB hb sb tb rb L G Ge∨w0.heap.size≤i)∧AA (CB hb sb tb rb L G Ge) w0 w∧x.2.1.s.k.length=s.k.length∧(∀ j:Nat,x.1≤j→AS x.2.1.s j=AS s j)∧x.2.1.ev.length≤x.1*2000000)
   (fun x=>L.length - x.1) (0,⟨s,[]⟩,L,ve,Ge) Ab ⟨Nat.zero_le _,rfl,Aw.block B1 (by simp),hO.only Aw,fun i hi => .inl hi,Aw.weaken (by simp),rfl,fun _ _=>rfl,Nat.zero_le _⟩ fun x env wl ⟨hi,hT,hB,hC,Tj,To,Hs,Ia,fJ⟩=>?_
  obtain ⟨i,S,Li,vi,Gi⟩:=x
  simp only at hi hT hC Tj Hs Ia fJ
  clear hs
  have hs:=((St.nil wl).AE hB).AE hC.h
  repeat' (first|refine Sa ?_|refine Au rfl (fun hc=>?_) fun hc=>?_|fail)
  ·have hlt:i < L.length:=by omega
   have aBA:i < S.s.k.length:=by omega
   obtain ⟨x,hx,vM,hce⟩:=hC.s.c.at aBA
   obtain ⟨g',cap',cur,ev',hg,FQ⟩:=hC.s.c.ptr hx
   have hg':g'=g∧L.length=Li.length:=by
    simp only [Value.slice.injEq,Option.some.injEq,Addr.mk.injEq] at ev'
    exact ⟨ev'.1.1.symm,ev'.2.1⟩
   obtain ⟨hgg,hLL⟩:=hg'
   rw [hgg] at hg
   have ei:=D2 (m:=L.length) hlt om
   have hR:CO x.c:=vM.bG
   have ec:AS S.s i=x.c:=hce.symm
   have ecs:AS s i=x.c:=by rw [← Ia i (Nat.le_refl _)];exact ec
   have UY:=hbd i om
   rw [ecs] at UY
   obtain ⟨_,_,_,_,_,hcb,_⟩:=vM.EB
   have hgk:Cc (BU (Aq x.c ns).1 (Aq x.c ns).2.1 (Aq x.c ns).2.2):=(YF hR ns).try (Tw hR ns)
   have hkn:=IQ (e:=(Aq x.c ns).1) (r1:=(Aq x.c ns).2.2) (Tw hR ns)
   have hkg:(Aq x.c ns).2.2.g.length≤32:=by obtain ⟨s1,hs1⟩:=hR;exact (tick_bounds hs1 ns).2
   have T6:Qi S i ns=BR ⟨Bb S.s i (Cr x.c (Aq x.c ns).1 (Aq x.c ns).2.1),S.ev⟩ i (BU (Aq x.c ns).1 (Aq x.c ns).2.1 (Aq x.c ns).2.2):=by unfold Qi;rw [ec]
   have hst:s.k.length - i=(s.k.length - (i+1))+1:=by omega
   rw [hst] at hT
   have hgw:wl.heap[g]?=some (.cells cur.toArray TM (0,0)):=hg
   replace hs:=hs.AE hgw
   refine ix (h0:=(by omega)) (h1:=(by omega)) (k:=?_)
   refine lb (hc:=(by simpa using FQ)) (k:=?_)
   refine Ja ?_
   have Av:=hs.AB [] (by simp [hB,hC.h,hgw]) (by simp [D0])
   refine cl (h:=by exact fA x.cb x.c x.F ns _ (vM.only Av) DZ) (k:=?_)
   rintro v2 w2 ⟨rv,rfl,T⟩
   have hf:=T.form
   obtain ⟨ag,cg,ap,cp,rfl⟩:=hf
   obtain ⟨L',hA⟩:=CT (hC.only Av) hx T Av
   have iB:=T.2.2.block (Av.block hB (by simp)) (by simpa using AW (Av.block hB (by simp)) (Av.block hcb (by simp)) (by decide))
   clear hs
   have hs:=((St.nil w2).AE iB).AE hA.c.h
   by_cases hJ:(Aq x.c ns).1=0
   ·rw [cC (by rw [ec];exact hJ),T6] at hT
    rw [hJ] at hA hT hgk hkn ⊢
    have aBF:(BR ⟨Bb S.s i (Cr x.c 0 (Aq x.c ns).2.1),S.ev⟩ i (BU 0 (Aq x.c ns).2.1 (Aq x.c ns).2.2)).ev.length≤(i+1)*2000000:=by
     rw [OC]
     simp only [List.length_append,List.length_map]
     have:=hkn.1;have:=hkn.2
     omega
    have hk2:=(absorb_k ⟨Bb S.s i (Cr x.c 0 (Aq x.c ns).2.1),S.ev⟩ i (BU 0 (Aq x.c ns).2.1 (Aq x.c ns).2.2)).1
    generalize hrp:BU 0 (Aq x.c ns).2.1 (Aq x.c ns).2.2=rp at *
    generalize Cr x.c 0 (Aq x.c ns).2.1=c' at *
    repeat' (first|refine Sd ?_|(refine AU hs (k:=?_);intro w hs)|(refine al hs (k:=?_);intro b w hz hs)|fail)
    have hoq:=hs.AB [] (by simp [iB,hA.c.h]) (by simp [D0])
    refine cl (h:=by exact PX hb sb tb rb _ vi _ L' G Gi i _ rp _ (hA.c.only hoq) (hA.p.Fb hoq (by simp)) hgk (by have:=hkn.1;have:=hkn.2;show S.ev.length+_+_≤_;omega)) (k:=?_)
    rintro v5 w5 ⟨ve5,Ge5,OG,aAJ,BK⟩
    have hB5:=BK.block (hoq.block iB (by simp)) ((hA.c.only hoq).at.not (hoq.block iB (by simp)) rfl)
    have PT:=hA.o.size
    have hzL:=To.size
    have Ed:=To.step ((hA.o.step hoq (by simp)).step BK hA.f) Tj
    clear hs
    have hs:=St.nil w5
    refine Ja ?_
    have Ak:=hs.AD rfl
    refine A2 (i+1,_,L',ve5,Ge5) (by show L.length - (i+1) < L.length - i;omega) (by (repeat (first | exact Ac | (apply A5;first | exact rfl | exact congrArg (Value.int .i64) ei)))) ⟨by show i+1≤_;omega,hT,Ak.block hB5 (by simp),OG.only Ak,fun j hj=>?_,Ed.step Ak (by simp),?_,fun j hj=>?_,aBF⟩
    ·have key:j∈CB hb sb tb rb L' G Gi∨w0.heap.size≤j:=by
      simp only [CB,List.mem_cons,List.mem_append] at hj ⊢
      rcases hj with hj | hj | hj
      ·exact .inl (.inl hj)
      ·exact .inl (.inr (.inl hj))
      ·rcases aAJ j hj with q | q
       ·exact .inl (.inr (.inr q))
       ·exact .inr (by have:=hoq.size;omega)
     rcases key with q | q
     ·rcases hA.f j q with z | z
      ·exact Tj j z
      ·exact .inr om
     ·exact .inr q
    ·show (BR _ i rp).s.k.length=_
     rw [hk2]
     show (S.s.k.set _ _).length=_
     rw [List.length_set];exact Hs
    ·show AS (BR _ i rp).s j=_
     have hj':i+1≤j:=hj
     rw [ZC hk2,VQ (k:=(i:Int)) om (show ((j:Nat):Int)≠(i:Int) by omega)]
     exact Ia j om
   ·rw [aV (by rw [ec];exact hJ),ec] at hT
    rw [hT]
    generalize (Aq x.c ns).1=ee at *
    repeat' (first|refine Sa ?_|(refine AU hs (k:=?_);intro w hs)|(refine al hs (k:=?_);intro b w hz hs)|refine xc_cond rfl (fun hc=>?_) fun hc=>?_|fail)
    ·refine AF ?_
     have Ak:=hs.AB [] (by simp [iB,hA.c.h]) (by simp [D0])
     exact ⟨rfl,trivial,fun q=>absurd q hJ,((To.step (hA.o.step Ak (by simp)) Tj)).weaken (by simp)⟩
    ·exact absurd (by simpa using hc) hJ
  ·have e:i=s.k.length:=by omega
   subst e
   rw [Nat.sub_self] at hT
   exact Ar (S,Li,vi,Gi) Ab ⟨hT,hC,Tj,To⟩
 ·rintro ⟨S,Li,vi,Gi⟩ env w ⟨hT,hC,Tj,To⟩
  simp only at hT hC Tj
  rw [hT]
  clear hs
  have hs:=St.nil w
  refine Ja ?_
  refine AF ?_
  have Ak:=hs.AD rfl
  exact ⟨rfl,trivial,fun _=>⟨_,(hC.only Ak).at,Tj⟩,(To.step Ak (by simp)).weaken (by simp)⟩
theorem dZ (b2 hb:Nat) (s:Sy) (F:List Nat) (x:Tk) (core:Int) (w0:World) (h:D4 w0 hb ⟨s,[]⟩ F) (F9:In64 core) (B2:w0.heap[b2]?=some (.cells #[.int .i64 core] 3 (0,0))) (hx:CN s.cf.cores x) (hn:x.st≠0) :
 AM Tryz.prog 78 #[.pointer (some ⟨hb,0,none⟩),Jx x,.pointer (some ⟨b2,0,none⟩)] w0 fun v w'=>v = .int .i64 (Cg ⟨s,[]⟩ x core).1∧Jq w0 hb (Cg ⟨s,[]⟩ x core).1 (Cg ⟨s,[]⟩ x core).2 F w':=by
 have Eu:=h
 have VL:=h.lt
 have QV:EC s:=by obtain ⟨_,_,_,_,_,_,_,_,_,hO⟩:=h.EB;exact hO.s.ok
 obtain ⟨sb,tb,rb,v,ve,L,G,Ge,eF,hO⟩:=h.EB
 have hs:=((St.nil w0).AE B2).AE hO.s.o |>.AE hO.h
 refine AQ Tryz.func78 Tryz.ntmps78 (k:=?_)
 refine Ag ?_
 refine Al ?_
 refine Gd hs (k:=?_);clear hs;intro b4 w1 AJ z1 hs
 have ZB:b4∉F:=fun hm=>by have:=VL _ hm;omega
 refine Jc ?_
 refine Hj [] hs (k:=?_);clear hs;intro hX w CE hs
 refine tks 0 8 ?_
 refine dt 8 hX (k:=?_)
 refine cl (h:=by exact KK s.cf core _) (k:=?_)
 rintro v2 w2 ⟨rfl,AN⟩
 replace hs:=hs.I9 AN
 have Aw:=(AJ.trans CE).trans AN
 refine XS.nil ?_
 refine dn (k:=?_)
 refine tk 9 hX (k:=?_)
 refine en (k:=?_)
 have VX:∀ w',AA [] w2 w'→(Bx s.cf core≠0∨core=x.core)→Value.int .i64 (Bx s.cf core) = .int .i64 (Cg ⟨s,[]⟩ x core).1∧Jq w0 hb (Cg ⟨s,[]⟩ x core).1 (Cg ⟨s,[]⟩ x core).2 F w':=fun w' ho hb'=>by
  rw [J8 (s:=⟨s,[]⟩) hb']
  exact ⟨rfl,fun _=>⟨F,Eu.only (Aw.trans ho),fun k hk => .inl hk⟩,(Aw.trans ho).weaken (by simp)⟩
 by_cases c0:Bx s.cf core≠0
 ·have Dv:=fun w' ho=>VX w' ho (.inl c0)
  clear VX
  generalize Bx s.cf core=ee at *
  repeat' (first|refine Se ?_|((with_reducible apply BM);exact rfl;exact rfl;intro c hc;(fail_if_success have:true=c:=hc);(fail_if_success have:false=c:=hc);cases c)|refine Au rfl (fun hc=>?_) fun hc=>?_|fail)
  ·exact absurd (by simpa using ‹(ee != 0)=false›) c0
  ·exact absurd (by simpa using ‹(ee != 0)=false›) c0
  ·refine AF ?_
   exact Dv _ (hs.AB [] (fun e he => .inr (.inr (hs.hold e he))) (by simp [D0]))
 have jS:Bx s.cf core=0:=by
  rcases Classical.em (Bx s.cf core=0) with z | z
  ·exact z
  ·exact absurd z c0
 by_cases c1:core=x.core
 ·have Dv:=fun w' ho=>VX w' ho (.inr c1)
  clear VX
  rw [jS] at Dv ⊢
  subst c1
  repeat' (first|refine Sa ?_|refine Au rfl (fun hc=>?_) fun hc=>?_|fail)
  ·refine AF ?_
   exact Dv _ (hs.AB [] (fun e he => .inr (.inr (hs.hold e he))) (by simp [D0]))
  ·exact absurd hc (by simp)
 have c2:¬ (Bx s.cf core≠0∨core=x.core):=fun z=>z.elim c0 c1
 have eM:Cg ⟨s,[]⟩ x core=GO (if BP x=true then (B6 ⟨s,[]⟩ x).2 else ⟨s,[]⟩) x core (if BP x=true then (B6 ⟨s,[]⟩ x).1 else x.lag):=by
  rw [Kf (s:=⟨s,[]⟩) c2]
  split <;> rfl
 rw [eM,jS]
 clear VX eM
 have Ia:0≤core∧core < s.cf.cores:=by
  unfold Bx at jS
  split at jS
  ·cases jS
  ·omega
 have hlv:=ok_leave (s:=⟨s,[]⟩) QV x
 have hU:EC (if BP x=true then (B6 ⟨s,[]⟩ x).2 else (⟨s,[]⟩:Ch)).s∧(if BP x=true then (B6 ⟨s,[]⟩ x).2 else (⟨s,[]⟩:Ch)).s.cf=s.cf:=by
  split
  ·exact hlv
  ·exact ⟨QV,rfl⟩
 have hlg:In64 (if BP x=true then (B6 ⟨s,[]⟩ x).1 else x.lag):=by
  split
  ·exact leave_in _ _
  ·exact hx.2.2.2.2.2.1
 have aAQ:(if BP x=true then (B6 ⟨s,[]⟩ x).2 else (⟨s,[]⟩:Ch)).ev.length≤1000000:=by
  split
  ·have hR:(DY (Ax (AS s x.core) x.id).2).length≤64:=by
    have h1:(DY (Ax (AS s x.core) x.id).2).length≤(Ax (AS s x.core) x.id).2.A.l.length:=NK _ _
    obtain ⟨n,e,_,_,_,FZ,_,_,hC,hce,_,_,_,_,hR,_⟩:=hO.place hx hn
    have h2:=Tg (Fy hR x.id)
    have JT:AS s n=e.c:=hce
    rw [FZ,JT];omega
   show (BR _ x.core (BU _ _ .none)).ev.length≤_
   rw [OC]
   simp only [List.length_append,List.length_map,Rs,List.length_nil]
   have:(BU (Ax (AS s x.core) x.id).1 (Ax (AS s x.core) x.id).2 .none).g.length≤64:=by
    unfold BU
    split
    ·show ([] ++ DY (Ax (AS s x.core) x.id).2).length≤64
     rw [List.nil_append];exact hR
    ·exact Nat.zero_le _
   have h9:(BU (Ax (AS (Ch.s ⟨s,[]⟩) x.core) x.id).1 (Ax (AS (Ch.s ⟨s,[]⟩) x.core) x.id).2 .none).g.length≤64:=this
   omega
  ·exact Nat.zero_le _
 repeat' (first|refine Sa ?_|refine Au rfl (fun hc=>?_) fun hc=>?_|fail)
 ·exact absurd hc (by simpa using c1)
 refine cl (h:=by exact Ib x _) (k:=?_)
 rintro v3 w3 ⟨rfl,AT⟩
 have B8:=hs.AB [] (fun e he => .inr (.inr (hs.hold e he))) (by simp [D0])
 have Sj:=(Aw.trans B8).trans AT
 have hs1:=hs.En
 simp only [List.map_cons,List.map_nil] at hs1
 clear hs
 have hs:=hs1.I9 AT
 clear hs1
 refine XS.nil ?_
 refine Dw ?_
 have nX:=Sj.size
 refine B7 (fun (_:List Nat)=>[(0,.pointer (some ⟨hb,0,none⟩)),(2,.pointer (some ⟨b2,0,none⟩)),(4,.pointer (some ⟨b4,0,none⟩))]) (fun F1 w=>w.heap[b2]?=some (.cells #[.int .i64 core] 3 (0,0))∧w.heap[b4]?=some (NA { x with lag:=if BP x=true then (B6 ⟨s,[]⟩ x).1 else x.lag })∧D4 w hb (if BP x=true then (B6 ⟨s,[]⟩ x).2 else (⟨s,[]⟩:Ch)) F1∧b4∉F1∧(∀ k∈F1,k∈F∨w0.heap.size≤k)∧AA F w0 w) ?_ ?_
 ·cases Yq:BP x with
  | false =>
    rw [if_neg (by simp),if_neg (by simp)]
    refine Jg ?_
    exact AP F Ab ⟨hs.get (b:=b2) (by repeat (first | exact At.head | (with_reducible apply At.tail))),hs.get (b:=b4) (by repeat (first | exact At.head | (with_reducible apply At.tail))),Eu.only Sj,ZB,fun k hk => .inl hk,Sj.weaken (by simp)⟩
  | true =>
    rw [if_pos rfl,if_pos rfl]
    refine Ji ?_
    refine cl (h:=by exact RH hb ⟨s,[]⟩ F x _ (Eu.only Sj) hx hn (by simp)) (k:=?_)
    rintro v4 w4 ⟨rfl,F3,VG,MQ,Ao⟩
    have k2:=Ao.block (hs.get (b:=b2) (by repeat (first | exact At.head | (with_reducible apply At.tail)))) ((Eu.only Sj).not (hs.get (b:=b2) (by repeat (first | exact At.head | (with_reducible apply At.tail)))) rfl)
    have k4:=Ao.block (hs.get (b:=b4) (by repeat (first | exact At.head | (with_reducible apply At.tail)))) ZB
    have l4:=lt_of_block (hs.get (b:=b4) (by repeat (first | exact At.head | (with_reducible apply At.tail))))
    have n43:b4∉F3:=fun hm=>by
     rcases MQ _ hm with q | q
     ·exact ZB q
     ·omega
    clear hs
    have hs:=((St.nil w4).AE k2).AE k4
    generalize (B6 ⟨s,[]⟩ x).1=lg at *
    refine vs (k:=?_)
    refine fK hs (k:=?_);clear hs;intro w5 BK hs
    refine XS.nil ?_
    have OG:=VG.Ae BK (fun k hk hm=>by obtain rfl:=List.mem_singleton.1 hm;exact n43 hk)
    exact AP F3 Ab ⟨hs.get (b:=b2) (by repeat (first | exact At.head | (with_reducible apply At.tail))),hs.get (b:=b4) (by repeat (first | exact At.head | (with_reducible apply At.tail))),OG,n43,fun k hk=>by
     rcases MQ k hk with q | q
     ·exact .inl q
     ·exact .inr om,((Sj.weaken (by simp)).step Ao (fun k hk => .inl hk)).step BK (fun k hk => .inr (by obtain rfl:=List.mem_singleton.1 hk;omega))⟩
 ·rintro F1 env M4 ⟨k2,k4,Dr,n41,Ck,WO⟩
  generalize (if BP x=true then (B6 ⟨s,[]⟩ x).2 else (⟨s,[]⟩:Ch))=U at *
  generalize (if BP x=true then (B6 ⟨s,[]⟩ x).1 else x.lag)=lg at *
  clear hs hO
  obtain ⟨sb,tb,rb,v,ve,L,G,Ge,rfl,hO⟩:=Dr.EB
  have Fv:b4≠rb:=fun e=>n41 (by rw [e];simp [CB])
  have UK:=hU.2
  have hs:=(((St.nil M4).AE k2).AE hO.s.o).AE hO.h |>.AE k4
  have Aj:AA (b4 :: CB hb sb tb rb L G Ge) M4 M4:=(AA.refl [] M4).weaken (by simp)
  have hH:=hs.hold
  have EM:=hs.get At.head
  obtain ⟨xi,xt,xc,xw,C5,xl⟩:=x
  have ZN:∀ w',AA (b4 :: CB hb sb tb rb L G Ge) M4 w'→AA F w0 w':=fun w' ho=>WO.step ho (fun k hk=>by
   rcases List.mem_cons.1 hk with rfl | hk
   ·exact .inr om
   ·exact Ck k hk)
  have aAk:=WO.size
  have eE:∀ y:Tk,ET ⟨xi,xt,xc,xw,C5,xl⟩ core lg=y→GO U ⟨xi,xt,xc,xw,C5,xl⟩ core lg=if y.st=1 then FM ⟨Bu U.s y,U.ev⟩ y y.lag else (0,⟨Bu U.s y,U.ev⟩):=fun y hy=>by subst hy;rfl
  have u6:∀ z:Int,0≤z∧z < 256→CN U.s.cf.cores { id:=xi,st:=z,core:=core,w:=xw,slice:=C5,lag:=lg }:=fun z hz=>by
   rw [UK]
   exact ⟨hx.1,hz,F9,hx.2.2.2.1,hx.2.2.2.2.1,hlg,fun _=>Ia⟩
  by_cases t1:xt=1
  ·subst t1
   rw [eE { id:=xi,st:=1,core:=core,w:=xw,slice:=C5,lag:=lg } rfl,if_pos rfl]
   have hy:=u6 1 om
   repeat' (first|refine Sd ?_|(refine st hs (k:=?_);intro w hs)|fail)
   have AT:=hs.AB [b4] (fun e he=>by
    rcases List.mem_cons.1 he with rfl | he
    ·exact .inr (.inl (by simp))
    ·exact .inr (.inr (hH e (List.mem_cons_of_mem _ he)))) (by simp [D0])
   replace hs:=hs.En
   simp only [List.map_cons,List.map_nil] at hs
   replace hO:=hO.Em AT EM Fv
   replace Aj:=Aj.step AT (fun k hk => .inl (by obtain rfl:=List.mem_singleton.1 hk;simp))
   clear hH EM
   refine Hj [] hs (k:=?_);clear hs;intro hX w CE hs
   replace hO:=hO.only CE
   replace Aj:=Aj.step CE (by simp)
   refine tks 0 8 ?_
   refine dt 8 hX (k:=?_)
   refine cl (h:=by exact FN tb rb _ (({ id:=xi,st:=1,core:=core,w:=xw,slice:=C5,lag:=lg }:Tk)) _ hO.s.t hy.1) (k:=?_)
   rintro v12 w12 ⟨rfl,FW,Bq⟩
   have Hf:=hO.s.t
   obtain ⟨J9,Hw,MB,Eb,_⟩:=Hf
   replace hs:=hs.Db Bq (fun k hk=>by obtain rfl:=List.mem_singleton.1 hk;exact hs.Hg Fv Eb)
   replace hO:=hO.JD FW Bq (hO.s.ok.CK hy)
   replace Aj:=Aj.step Bq (fun k hk => .inl (by obtain rfl:=List.mem_singleton.1 hk;simp [CB]))
   refine XS.nil ?_
   refine dn (k:=?_)
   refine en (k:=?_)
   refine Je ?_
   refine cl (h:=by exact Nb hb ⟨Bu U.s { id:=xi,st:=1,core:=core,w:=xw,slice:=C5,lag:=lg },U.ev⟩ _ { id:=xi,st:=1,core:=core,w:=xw,slice:=C5,lag:=lg } lg _ hO.at hy (by decide:(1:Int)≠0) hlg aAQ) (k:=?_)
   rintro v25 w25 ⟨rfl,l8,JX⟩
   have aAd:=Aj.size
   replace Aj:=Aj.step JX (fun k hk => .inl (by simp [hk]))
   clear hs
   have hs:=St.nil w25
   refine Jc ?_
   refine AF ?_
   have Cj:=hs.AD rfl
   refine ⟨rfl,fun e0=>?_,ZN _ (Aj.step Cj (by simp))⟩
   obtain ⟨F',h1,h2⟩:=l8 e0
   exact ⟨F',h1.only Cj,fun k hk=>by
    rcases h2 k hk with q | q
    ·exact Ck k q
    ·exact .inr om⟩
  by_cases t2:xt=2
  ·subst t2
   rw [eE { id:=xi,st:=3,core:=core,w:=xw,slice:=C5,lag:=lg } rfl,if_neg (by decide:¬ (3:Int)=1)]
   have hy:=u6 3 om
   repeat' (first|refine Sc ?_|(refine st hs (k:=?_);intro w hs)|fail)
   have AT:=hs.AB [b4] (fun e he=>by
    rcases List.mem_cons.1 he with rfl | he
    ·exact .inr (.inl (by simp))
    ·exact .inr (.inr (hH e (List.mem_cons_of_mem _ he)))) (by simp [D0])
   replace hs:=hs.En
   simp only [List.map_cons,List.map_nil] at hs
   replace hO:=hO.Em AT EM Fv
   replace Aj:=Aj.step AT (fun k hk => .inl (by obtain rfl:=List.mem_singleton.1 hk;simp))
   clear hH EM
   refine Hj [] hs (k:=?_);clear hs;intro hX w CE hs
   replace hO:=hO.only CE
   replace Aj:=Aj.step CE (by simp)
   refine tks 0 8 ?_
   refine dt 8 hX (k:=?_)
   refine cl (h:=by exact FN tb rb _ (({ id:=xi,st:=3,core:=core,w:=xw,slice:=C5,lag:=lg }:Tk)) _ hO.s.t hy.1) (k:=?_)
   rintro v12 w12 ⟨rfl,FW,Bq⟩
   have Hf:=hO.s.t
   obtain ⟨J9,Hw,MB,Eb,_⟩:=Hf
   replace hs:=hs.Db Bq (fun k hk=>by obtain rfl:=List.mem_singleton.1 hk;exact hs.Hg Fv Eb)
   replace hO:=hO.JD FW Bq (hO.s.ok.CK hy)
   replace Aj:=Aj.step Bq (fun k hk => .inl (by obtain rfl:=List.mem_singleton.1 hk;simp [CB]))
   refine XS.nil ?_
   refine dn (k:=?_)
   refine en (k:=?_)
   refine Jd ?_
   refine AF ?_
   have Cj:=hs.AB [] (fun e he => .inr (.inr (hs.hold e he))) (by simp [D0])
   exact ⟨rfl,fun _=>⟨_,(hO.only Cj).at,Ck⟩,ZN _ (Aj.step Cj (by simp))⟩
  ·have ey:ET ⟨xi,xt,xc,xw,C5,xl⟩ core lg={ id:=xi,st:=xt,core:=core,w:=xw,slice:=C5,lag:=lg }:=by
    show ({ id:=xi,st:=if xt=2 then 3 else xt,core:=core,w:=xw,slice:=C5,lag:=lg }:Tk)=_
    rw [if_neg t2]
   rw [eE _ ey,if_neg t1]
   have hy:=u6 xt hx.2.1
   repeat' (first|refine Sa ?_|(refine st hs (k:=?_);intro w hs)|refine Au rfl (fun hc=>?_) fun hc=>?_|fail)
   ·exact absurd (by simpa using hc) t2
   have AT:=hs.AB [b4] (fun e he=>by
    rcases List.mem_cons.1 he with rfl | he
    ·exact .inr (.inl (by simp))
    ·exact .inr (.inr (hH e (List.mem_cons_of_mem _ he)))) (by simp [D0])
   replace hs:=hs.En
   simp only [List.map_cons,List.map_nil] at hs
   replace hO:=hO.Em AT EM Fv
   replace Aj:=Aj.step AT (fun k hk => .inl (by obtain rfl:=List.mem_singleton.1 hk;simp))
   clear hH EM
   refine Hj [] hs (k:=?_);clear hs;intro hX w CE hs
   replace hO:=hO.only CE
   replace Aj:=Aj.step CE (by simp)
   refine tks 0 8 ?_
   refine dt 8 hX (k:=?_)
   refine cl (h:=by exact FN tb rb _ (({ id:=xi,st:=xt,core:=core,w:=xw,slice:=C5,lag:=lg }:Tk)) _ hO.s.t hy.1) (k:=?_)
   rintro v12 w12 ⟨rfl,FW,Bq⟩
   have Hf:=hO.s.t
   obtain ⟨J9,Hw,MB,Eb,_⟩:=Hf
   replace hs:=hs.Db Bq (fun k hk=>by obtain rfl:=List.mem_singleton.1 hk;exact hs.Hg Fv Eb)
   replace hO:=hO.JD FW Bq (hO.s.ok.CK hy)
   replace Aj:=Aj.step Bq (fun k hk => .inl (by obtain rfl:=List.mem_singleton.1 hk;simp [CB]))
   refine XS.nil ?_
   refine dn (k:=?_)
   refine en (k:=?_)
   repeat' (first|refine Sa ?_|refine Au rfl (fun hc=>?_) fun hc=>?_|fail)
   ·exact absurd (by simpa using hc) t1
   refine AF ?_
   have Cj:=hs.AB [] (fun e he => .inr (.inr (hs.hold e he))) (by simp [D0])
   exact ⟨rfl,fun _=>⟨_,(hO.only Cj).at,Ck⟩,ZN _ (Aj.step Cj (by simp))⟩
end Go.Proofs.Q0
