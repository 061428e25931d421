/- Proved: law18.CoreRefuses returns true for every clock and every slice of acts, and its arguments read as before; no conditions -/
import Derived.Test.YtkbcfknnieggbaaGreatDoorBaseU10
import Derived.Test.YtkbcfknnieggbaaGreatDoorCards
import Derived.SevenTiedAt
set_option linter.unusedVariables false
set_option linter.unusedSimpArgs false
set_option maxRecDepth 100000
namespace Go.Proofs.YtkbcfknnieggbaaGreatDoorX
open Go Go.RowKit
attribute [local irreducible] XS XC XA thenE blockE retE loopE loopS cutB cutN doneE SE
theorem neWd (x:Int):(!(cellEq (.int .i64 (x / 18446744073709551616)) (.int .i64 (x / 18446744073709551616)) && cellEq (.int .u64 (x % 18446744073709551616)) (.int .u64 (x % 18446744073709551616))))=false:=by
  show (!((x / 18446744073709551616 == x / 18446744073709551616) && (x % 18446744073709551616 == x % 18446744073709551616)))=false
  simp
theorem ls_rq {w:World} {v:Value} {l:List RT} {G:List Nat} (h:SlV w 51 10 v l.length (flatR l) G):∃ ad cap,v = .slice ad l.length cap∧(l≠[]→∃ (b off:Nat) (cs:List Value) (E:TypeId) (fz:Nat × Nat),ad=some ⟨b,off,none⟩∧w.heap[b]?=some (.cells cs.toArray E fz)∧∀ (i:Nat) (x:RT),l[i]?=some x→Pick cs (off+i*10) 10 x.1.cells):=by
  obtain ⟨ad,cap,rfl,hD⟩:=(rs_rq h).x
  refine ⟨ad,cap,by rw [List.length_map,List.length_map],fun hn=>?_⟩
  obtain ⟨b,off,cs,E,fz,h1,h2,h3⟩:=hD (fun k=>hn (List.map_eq_nil_iff.1 (List.map_eq_nil_iff.1 k)))
  exact ⟨b,off,cs,E,fz,h1,h2,fun i x hx=>h3 i _ (by rw [List.getElem?_map,List.getElem?_map,hx];rfl)⟩
set_option maxHeartbeats 16000000 in
theorem coreRefuses_ret (clock:Int) (xs:List Ac18) (sl:Value) (hc0:U64 clock) (hx:∀ a∈xs,a.In) (w0:World) (hL:LsX w0 5 sl (xs.map Ac18.cells)) (ht:Pows w0):Ret Tryz.prog 8 #[.int .u64 clock,sl] w0 fun v w'=>v = .bool true∧Only [] w0 w':=by
  have hL0:=hL
  obtain ⟨ad,cap,rfl,hD⟩:=hL
  rw [List.length_map] at hL0 ⊢
  have hs:=St.nil w0
  refine ret_of_xc Tryz.func8 (by kernel_rfl) rfl Tryz.ntmps8 rfl rfl rfl ?_
  repeat' (first|refine vs (k:=?_)|refine qRg ?_|refine Nx.h ?_|fail)
  (with_reducible apply xs_call);exact rfl;exact rfl;exact awake18_ret _ (tab_only ht (hs.only0 rfl))
  rintro v w' ⟨rfl,ho⟩;replace hs:=hs.call0 ho;repeat' (first|refine vs (k:=?_)|refine qRg ?_|refine Nx.h ?_|refine qCf ?_|fail)
  (with_reducible apply xs_call);exact rfl;exact rfl;exact light_ret xs _ hx _ (hL0.only (hs.only0 rfl))
  rintro v w1 ⟨⟨bl,rfl,hbl⟩,ho1⟩;replace hs:=hs.call0 ho1
  cases bl with
  | false =>
    repeat' (first|refine vs (k:=?_)|refine qRg ?_|refine Nx.h ?_|refine qCt ?_|fail)
    first | refine rt (hq:=?_) | refine rt' (hq:=?_)
    exact ⟨rfl,hs.only0 rfl⟩
  | true =>
  have hm:=hbl rfl
  repeat' (first|refine vs (k:=?_)|refine qRg ?_|refine Nx.h ?_|refine qCf ?_|fail)
  have hoB:=hs.only0 rfl
  (with_reducible apply xs_call);exact rfl;exact rfl;exact cnew_ret clock hc0 _
  rintro v w2 ⟨⟨cb,F1,rfl,hC1,hF1⟩,ho2⟩
  have hoA:=hoB.trans ho2
  have hzB:=hoB.size
  have hF1':∀ k∈F1,w0.heap.size≤k:=fun k hk=>by have:=hF1 k hk;omega
  clear hs
  have hs:=St.nil w2
  repeat' (first|refine vs (k:=?_)|refine qRg ?_|refine Nx.h ?_|fail)
  refine xc_cutB (fun (_:Unit)=>[]) (fun _ w=>Only [] w0 w) ?_ ?_
  · refine xc_loopS (fun (x:Nat × List Nat)=>[(5,.pointer (some ⟨cb,0,none⟩)),(24,.slice ad xs.length cap),(25,.int .i64 (xs.length:Nat)),(26,.int .i64 (x.1:Nat))])
      (fun x w=>x.1≤xs.length∧CAt w cb (actsC (newC clock) (xs.take x.1)) x.2∧(∀ k∈x.2,w0.heap.size≤k)∧Only [] w0 w) (fun x=>xs.length - x.1) (0,F1) (by (repeat (first | exact agree_nil | (apply agree_cons;exact rfl)))) ⟨Nat.zero_le _,hC1.only (hs.only0 rfl),hF1',hoA.trans (hs.only0 rfl)⟩ fun x env wl ⟨hi,hC,hF,ho⟩=>?_
    obtain ⟨i,F⟩:=x
    simp only at hi hC hF
    clear hs
    have hs:=St.nil wl
    repeat' (first|refine vs (k:=?_)|refine qRg ?_|refine Nx.h ?_|(refine xc_if rfl (fun hc=>?_) (fun hc=>?_))|fail)
    · have hlt:i < xs.length:=by omega
      obtain ⟨b0,off,cs,E,fz,rfl,hb,hcs⟩:=hD (fun h=>by have:=congrArg List.length h;rw [List.length_map,List.length_nil] at this;omega)
      have hpk:=hcs i (Ac18.cells xs[i]) (by rw [List.getElem?_map,List.getElem?_eq_getElem hlt];rfl)
      have ei:=nx64 (m:=xs.length) hlt (by omega)
      have hq:=hx xs[i] (List.getElem_mem hlt)
      have eA:actsC (newC clock) (xs.take (i+1))=tryC (actsC (newC clock) (xs.take i)) (doC (actsC (newC clock) (xs.take i)) xs[i]).1 (doC (actsC (newC clock) (xs.take i)) xs[i]).2.1:=by rw [take_next hlt,actsC_snoc];rfl
      generalize xs[i]=q at *
      generalize actsC (newC clock) (xs.take i)=c at *
      refine ix (h0:=(by omega)) (h1:=(by omega)) (k:=?_)
      refine lhK (vs:=q.cells) (ho.block hb (by simp)) hpk (k:=?_)
      refine al hs (k:=?_);clear hs;intro b7 w3 hz3 hs
      refine stA hs (k:=?_);clear hs;intro w4 hs
      repeat' (first|refine vs (k:=?_)|refine qRg ?_|refine Nx.h ?_|fail)
      have ho4:=hs.only0 rfl
      have hC4:=hC.only ho4
      have h7:=hs.get (b:=b7) (by repeat (first | exact At.head | (with_reducible apply At.tail)))
      (with_reducible apply xs_call);exact rfl;exact rfl;exact cclone_ret cb c F _ hC4
      rintro v w5 ⟨⟨db,G,rfl,hD5,hG⟩,ho5⟩
      have T0:TwoC w0 cb db c c F G w5:=TwoC.clone hC4 hF (ho.trans ho4) hD5 hG ho5
      have k7:=ho5.block h7 (by simp)
      clear hs
      have hs:=(St.nil w5).trackT k7
      repeat' (first|refine vs (k:=?_)|refine qRg ?_|refine Nx.h ?_|fail)
      have ho6:=hs.onlyF [] (by simp [k7]) (by simp [D0])
      (with_reducible apply xs_call);exact rfl;exact rfl;exact act_ret cb c F q hq _ (T0.keep ho6).a
      rintro v w7 ⟨rv,rfl,T⟩
      obtain ⟨F',hT7⟩:=(T0.keep ho6).left T
      obtain ⟨ag,cg,ap,cp,rfl⟩:=T.form
      clear T
      generalize (doC c q).1=e at *
      generalize (doC c q).2.1=c1 at *
      generalize (doC c q).2.2=r1 at *
      clear hs
      have hs:=St.nil w7
      by_cases he:e=0
      · subst he
        repeat' (first|refine vs (k:=?_)|(refine stA hs (k:=?_);intro w hs)|(refine al hs (k:=?_);intro b w hz hs)|refine qRg ?_|refine Nx.h ?_|refine qCt ?_|fail)
        refine loopS_next (i+1,F') (by show xs.length - (i+1) < xs.length - i;omega) (by (repeat (first | exact agree_nil | (apply agree_cons;first | exact rfl | exact congrArg (Value.int .i64) ei)))) ⟨by show i+1≤_;omega,?_,hT7.f,(hT7.keep (hs.only0 rfl)).o⟩
        show CAt _ cb (actsC (newC clock) (xs.take (i+1))) F'
        rw [eA]
        exact (hT7.keep (hs.only0 rfl)).a
      · rw [show tryC c e c1=c from if_neg he] at hT7 eA
        rw [show tryR e c1 r1 = .none from if_neg he]
        repeat' (first|refine vs (k:=?_)|(refine stA hs (k:=?_);intro w hs)|(refine al hs (k:=?_);intro b w hz hs)|refine qRg ?_|refine Nx.h ?_|(refine xc_if rfl (fun hc=>?_) (fun hc=>?_))|fail)
        · exact absurd (by simpa using hc) he
        have hT8:=hT7.keep (hs.only0 rfl)
        obtain ⟨sb,qb,mb,Fs,eF,p1,p2,hS1,hQ1,ms1⟩:=hT8.a.opn
        obtain ⟨ub,rb,nb,Us,eU,p3,p4,hS2,hQ2,ms2⟩:=hT8.b.opn
        have n1:=hT8.ne
        have hA32:c.A.l.length≤32:=by obtain ⟨s,h⟩:=hS1.rep;exact h.le
        have hlen:(c.A.l.map Subtype.val).length≤9223372036854775807:=by rw [List.length_map];omega
        have n2:ub≠sb:=fun k=>hT8.d sb (by rw [eF];simp [ms1]) (by rw [eU,← k];simp [ms2])
        have d1:db≠sb:=blocks_ne p3 p2 (by decide)
        have d2:ub≠cb:=blocks_ne p4 p1 (by decide)
        have d3:ub≠db:=blocks_ne p4 p3 (by decide)
        have h9:=hs.get (b:=b) (by repeat (first | exact At.head | (with_reducible apply At.tail)))
        have z1:db≠b:=blocks_ne p3 h9 (by decide)
        have z2:ub≠b:=blocks_ne p4 h9 (by decide)
        clear hs
        have hs:=((((St.nil _).trackT h9).trackT p1).trackT p2).track p3 (by simp [n1,d1,z1])
        replace hs:=hs.track p4 (by simp [n2,d2,d3,z2])
        refine dr [] hs (k:=?_);intro hX w hs
        refine tk 0 hX (k:=?_)
        refine tk 1 hX (k:=?_)
        refine tk 2 hX (k:=?_)
        refine tk 3 hX (k:=?_)
        refine tk 4 hX (k:=?_)
        refine tk 5 hX (k:=?_)
        refine tk 6 hX (k:=?_)
        refine tk 7 hX (k:=?_)
        refine xa_set 47 (v := .bool false) (congrArg Value.bool (show _=false by rfl)) ?_
        refine tk 8 hX (k:=?_)
        refine tk 9 hX (k:=?_)
        refine tk 11 hX (k:=?_)
        refine dt 10 hX (k:=?_)
        have hoa:=hs.onlyF [] (by simp [h9,p1,p2,p3,p4]) (by simp [D0])
        (with_reducible apply xs_call);exact rfl;exact rfl;exact crun_ret cb c F' _ (hT8.keep hoa).a
        rintro v8 w8 ⟨rfl,hob⟩;replace hs:=hs.call0 hob
        refine XS.nil ?_
        refine dn (k:=?_)
        refine dt 12 hX (k:=?_)
        have hoa:=hs.onlyF [] (by simp [h9,p1,p2,p3,p4]) (by simp [D0])
        (with_reducible apply xs_call);exact rfl;exact rfl;exact crun_ret db c G _ (hT8.keep hoa).b
        rintro v8 w8 ⟨rfl,hob⟩;replace hs:=hs.call0 hob
        refine XS.nil ?_
        refine dn (k:=?_)
        refine tk 13 hX (k:=?_)
        refine xa_set 53 (v := .bool false) (congrArg Value.bool (show (c.run != c.run)=false by simp)) ?_
        refine tk 14 hX (k:=?_)
        refine tk 15 hX (k:=?_)
        refine tk 16 hX (k:=?_)
        refine tk 18 hX (k:=?_)
        refine dt 17 hX (k:=?_)
        have hoa:=hs.onlyF [] (by simp [h9,p1,p2,p3,p4]) (by simp [D0])
        (with_reducible apply xs_call);exact rfl;exact rfl;exact ccarried_ret cb c F' _ (hT8.keep hoa).a
        rintro v8 w8 ⟨rfl,hob⟩;replace hs:=hs.call0 hob
        refine XS.nil ?_
        refine dn (k:=?_)
        refine dt 19 hX (k:=?_)
        have hoa:=hs.onlyF [] (by simp [h9,p1,p2,p3,p4]) (by simp [D0])
        (with_reducible apply xs_call);exact rfl;exact rfl;exact ccarried_ret db c G _ (hT8.keep hoa).b
        rintro v8 w8 ⟨rfl,hob⟩;replace hs:=hs.call0 hob
        refine XS.nil ?_
        refine dn (k:=?_)
        refine tk 20 hX (k:=?_)
        refine xa_set 60 (v := .bool false) (congrArg Value.bool (neWd c.carr)) ?_
        refine tk 21 hX (k:=?_)
        refine tk 22 hX (k:=?_)
        refine tk 23 hX (k:=?_)
        refine tk 24 hX (k:=?_)
        refine tk 25 hX (k:=?_)
        refine tk 26 hX (k:=?_)
        refine tk 27 hX (k:=?_)
        refine tk 28 hX (k:=?_)
        refine tk 29 hX (k:=?_)
        refine tk 31 hX (k:=?_)
        refine tk 32 hX (k:=?_)
        refine tk 33 hX (k:=?_)
        refine tk 34 hX (k:=?_)
        refine tk 35 hX (k:=?_)
        refine tk 36 hX (k:=?_)
        refine tk 37 hX (k:=?_)
        refine dt 30 hX (k:=?_)
        have hoa:=hs.onlyF [] (by simp [h9,p1,p2,p3,p4]) (by simp [D0])
        (with_reducible apply xs_call);exact rfl;exact rfl;exact anow_ret qb c.A _ (hQ1.only hoa)
        rintro v8 w8 ⟨rfl,hob⟩;replace hs:=hs.call0 hob
        refine XS.nil ?_
        refine dn (k:=?_)
        refine dt 38 hX (k:=?_)
        have hoa:=hs.onlyF [] (by simp [h9,p1,p2,p3,p4]) (by simp [D0])
        (with_reducible apply xs_call);exact rfl;exact rfl;exact anow_ret rb c.A _ (hQ2.only hoa)
        rintro v8 w8 ⟨rfl,hob⟩;replace hs:=hs.call0 hob
        refine XS.nil ?_
        refine dn (k:=?_)
        refine tk 39 hX (k:=?_)
        refine xa_set 79 (v := .bool false) (congrArg Value.bool (show (nowA c.A != nowA c.A)=false by simp)) ?_
        refine tk 40 hX (k:=?_)
        refine tk 41 hX (k:=?_)
        refine tk 42 hX (k:=?_)
        refine tk 43 hX (k:=?_)
        refine tk 44 hX (k:=?_)
        refine tk 45 hX (k:=?_)
        refine tk 47 hX (k:=?_)
        refine tk 48 hX (k:=?_)
        refine tk 49 hX (k:=?_)
        refine tk 50 hX (k:=?_)
        refine dt 46 hX (k:=?_)
        have hoa:=hs.onlyF [] (by simp [h9,p1,p2,p3,p4]) (by simp [D0])
        (with_reducible apply xs_call);exact rfl;exact rfl;exact areqs_ret sb c.A Fs _ (hS1.only hoa)
        rintro v9 w9 ⟨⟨Ga,hGa,_⟩,hob⟩;replace hs:=hs.call0 hob
        refine XS.nil ?_
        refine dn (k:=?_)
        refine dt 51 hX (k:=?_)
        have hoa:=hs.onlyF [] (by simp [h9,p1,p2,p3,p4]) (by simp [D0])
        (with_reducible apply xs_call);exact rfl;exact rfl;exact areqs_ret ub c.A Us _ (hS2.only hoa)
        rintro v10 w10 ⟨⟨Gb,hGb,_⟩,hoc⟩;replace hs:=hs.call0 hoc
        refine XS.nil ?_
        refine dn (k:=?_)
        refine dt 52 hX (k:=?_)
        (with_reducible apply xs_call);exact rfl;exact rfl;exact eqR_ret _ _ (c.A.l.map Subtype.val) (c.A.l.map Subtype.val) hlen _ (rs_rq (hGa.keep hoc (by simp))) (rs_rq hGb)
        rintro v8 w8 ⟨rfl,hob⟩;replace hs:=hs.call0 hob
        refine XS.nil ?_
        refine dn (k:=?_)
        refine xa_set 92 (v := .bool true) (congrArg Value.bool (decide_eq_true rfl)) ?_
        refine tk 53 hX (k:=?_)
        refine tk 54 hX (k:=?_)
        refine en (k:=?_)
        repeat' (first|refine vs (k:=?_)|refine qRg ?_|refine Nx.h ?_|refine qCf ?_|fail)
        have hoa:=hs.onlyF [] (by simp [h9,p1,p2,p3,p4]) (by simp [D0])
        (with_reducible apply xs_call);exact rfl;exact rfl;exact areqs_ret sb c.A Fs _ (hS1.only hoa)
        rintro v11 w11 ⟨⟨Gc,hGc,_⟩,hod⟩
        have hoE:=hoa.trans hod
        obtain ⟨ad1,cp1,rfl,hD1⟩:=ls_rq hGc
        have hTE:=hT8.keep hoE
        clear hs
        have hs:=St.nil w11
        repeat' (first|refine vs (k:=?_)|refine Nx.h ?_|fail)
        refine xc_cutB (fun (_:Unit)=>[(5,.pointer (some ⟨cb,0,none⟩)),(24,.slice (some ⟨b0,off,none⟩) xs.length cap),(25,.int .i64 (xs.length:Nat)),(26,.int .i64 (i:Nat))]) (fun _ w=>Only [] w11 w) ?_ ?_
        · refine xc_loopS (fun (j:Nat)=>[(5,.pointer (some ⟨cb,0,none⟩)),(8,.pointer (some ⟨db,0,none⟩)),(24,.slice (some ⟨b0,off,none⟩) xs.length cap),(25,.int .i64 (xs.length:Nat)),(26,.int .i64 (i:Nat)),(99,.slice ad1 c.A.l.length cp1),(100,.int .i64 (c.A.l.length:Nat)),(101,.int .i64 (j:Nat))])
            (fun j w=>j≤c.A.l.length∧Only [] w11 w) (fun j=>c.A.l.length - j) 0 (by (repeat (first | exact agree_nil | (apply agree_cons;exact rfl)))) ⟨Nat.zero_le _,hs.only0 rfl⟩ fun j env wl ⟨hj,hol⟩=>?_
          clear hs
          have hs:=St.nil wl
          repeat' (first|refine vs (k:=?_)|refine qRg ?_|refine Nx.h ?_|(refine xc_if rfl (fun hc=>?_) (fun hc=>?_))|fail)
          · have hjl:j < c.A.l.length:=by omega
            obtain ⟨bb,off2,cs2,E2,fz2,hab,hb2,hcs2⟩:=hD1 (List.ne_nil_of_mem (List.getElem_mem hjl))
            have hpk2:=hcs2 j c.A.l[j] (List.getElem?_eq_getElem hjl)
            have ej:=nx64 (m:=c.A.l.length) hjl (by omega)
            generalize c.A.l[j]=y at *
            rw [hab]
            refine ix (h0:=(by omega)) (h1:=(by omega)) (k:=?_)
            refine lhK (vs:=y.1.cells) (hol.block hb2 (by simp)) hpk2 (k:=?_)
            refine al hs (k:=?_);clear hs;intro b12 w12 hz12 hs
            refine stA hs (k:=?_);clear hs;intro w13 hs
            have h12:=hs.get (b:=b12) (by repeat (first | exact At.head | (with_reducible apply At.tail)))
            have ho13':=hs.only0 rfl
            have ho13:=(hoE.trans hol).trans ho13'
            have q1:=ho13.block p1 (by simp)
            have q2:=ho13.block p2 (by simp)
            have q3:=ho13.block p3 (by simp)
            have q4:=ho13.block p4 (by simp)
            have hid:In64 y.1.i.id:=y.2.1.2.1
            have y3:db≠b12:=blocks_ne q3 h12 (by decide)
            have y4:ub≠b12:=blocks_ne q4 h12 (by decide)
            clear hs
            have hs:=((((St.nil _).trackT h12).trackT q1).trackT q2).track q3 (by simp [n1,d1,y3])
            replace hs:=hs.track q4 (by simp [n2,d2,d3,y4])
            repeat' (first|refine Nx.h ?_|fail)
            refine dr [] hs (k:=?_);intro hX w hs
            refine tk 0 hX (k:=?_)
            refine tk 1 hX (k:=?_)
            refine tk 2 hX (k:=?_)
            refine tk 3 hX (k:=?_)
            refine tk 4 hX (k:=?_)
            refine tk 5 hX (k:=?_)
            refine tk 6 hX (k:=?_)
            refine tk 7 hX (k:=?_)
            refine tk 8 hX (k:=?_)
            refine tk 9 hX (k:=?_)
            refine pd0 14 13 hs (k:=?_);intro f X w hp;have hs:=hp.st
            apply xa_pend 10 14 (f:=f) (X:=X) hX hp;exact rfl;exact rfl;(apply makes_alloc tabOk;exact rfl);kernel_rfl;kernel_rfl;kernel_rfl;kernel_rfl;(intro X Y;(repeat (first | exact pgg_base | refine pgg_step ?_ (by exact rfl))));(intro w' hs;first|exact se_hold hs.hold|exact se_hold hs.hold.tail|exact se_done rfl);intro f X w hp;have hs:=hp.st
            have hoa2:=hs.onlyF [] (by simp [h12,q1,q2,q3,q4]) (by simp [D0])
            (with_reducible apply xs_call);exact rfl;exact rfl;exact alag_ret qb c.A y.1.i.id _ ((hQ1.only ho13).only hoa2) hid
            rintro v w' ⟨rfl,ho⟩;replace hp:=hp.only ho;replace hs:=hp.st;repeat' (first|refine Nx.h ?_|fail)
            refine dn (k:=?_)
            refine tk 11 hX (hc:=by cases f <;> kernel_rfl) (k:=?_)
            refine tk 12 hX (hc:=by cases f <;> kernel_rfl) (k:=?_)
            refine tk 13 hX (hc:=by cases f <;> kernel_rfl) (k:=?_)
            apply xa_pendE 14 (f:=f) (X:=X) hX hp;exact rfl;(apply makes_alloc tabOk;exact rfl);kernel_rfl;kernel_rfl;(intro X Y;(repeat (first | exact pgg_base | refine pgg_step ?_ (by exact rfl))));(intro w' hs;first|exact se_hold hs.hold|exact se_hold hs.hold.tail|exact se_done rfl);intro b w hI hs
            refine dt 15 hX (k:=?_)
            repeat' (first|(refine stA hs (k:=?_);intro w hs)|refine Nx.h ?_|fail)
            refine dn (k:=?_)
            refine tk 16 hX (k:=?_)
            refine en (k:=?_)
            repeat' (first|refine Nx.h ?_|fail)
            refine dr [] hs (k:=?_);intro hX w hs
            refine tk 0 hX (k:=?_)
            refine tk 1 hX (k:=?_)
            refine tk 2 hX (k:=?_)
            refine tk 3 hX (k:=?_)
            refine tk 4 hX (k:=?_)
            refine tk 5 hX (k:=?_)
            refine tk 6 hX (k:=?_)
            refine tk 7 hX (k:=?_)
            refine tk 8 hX (k:=?_)
            refine tk 9 hX (k:=?_)
            refine pd0 14 15 hs (k:=?_);intro f X w hp;have hs:=hp.st
            apply xa_pend 10 14 (f:=f) (X:=X) hX hp;exact rfl;exact rfl;(apply makes_alloc tabOk;exact rfl);kernel_rfl;kernel_rfl;kernel_rfl;kernel_rfl;(intro X Y;(repeat (first | exact pgg_base | refine pgg_step ?_ (by exact rfl))));(intro w' hs;first|exact se_hold hs.hold|exact se_hold hs.hold.tail|exact se_done rfl);intro f X w hp;have hs:=hp.st
            have hoa2:=hs.onlyF [] (by simp [h12,q1,q2,q3,q4]) (by simp [D0])
            (with_reducible apply xs_call);exact rfl;exact rfl;exact alag_ret rb c.A y.1.i.id _ ((hQ2.only ho13).only hoa2) hid
            rintro v w' ⟨rfl,ho⟩;replace hp:=hp.only ho;replace hs:=hp.st;repeat' (first|refine Nx.h ?_|fail)
            refine dn (k:=?_)
            refine tk 11 hX (hc:=by cases f <;> kernel_rfl) (k:=?_)
            refine tk 12 hX (hc:=by cases f <;> kernel_rfl) (k:=?_)
            refine tk 13 hX (hc:=by cases f <;> kernel_rfl) (k:=?_)
            apply xa_pendE 14 (f:=f) (X:=X) hX hp;exact rfl;(apply makes_alloc tabOk;exact rfl);kernel_rfl;kernel_rfl;(intro X Y;(repeat (first | exact pgg_base | refine pgg_step ?_ (by exact rfl))));(intro w' hs;first|exact se_hold hs.hold|exact se_hold hs.hold.tail|exact se_done rfl);intro b w hI hs
            refine dt 15 hX (k:=?_)
            repeat' (first|(refine stA hs (k:=?_);intro w hs)|refine Nx.h ?_|fail)
            refine dn (k:=?_)
            refine tk 16 hX (k:=?_)
            refine en (k:=?_)
            repeat' (first|refine vs (k:=?_)|refine qRg ?_|refine Nx.h ?_|(refine xc_cond rfl (fun hc=>?_) (fun hc=>?_))|fail)
            · exact absurd hc (by rw [neWd];decide)
            · exact loopS_next (j+1) (by show c.A.l.length - (j+1) < c.A.l.length - j;omega) (by (repeat (first | exact agree_nil | (apply agree_cons;first | exact rfl | exact congrArg (Value.int .i64) ej)))) ⟨by show j+1≤_;omega,by
                have:=hs.onlyF [] (by simp [h12,q1,q2,q3,q4]) (by simp [D0])
                exact (hol.trans ho13').trans this⟩
          · exact cutB_exit () (by (repeat (first | exact agree_nil | (apply agree_cons;exact rfl)))) hol
        · rintro _ env w14 ho14
          clear hs
          have hs:=St.nil w14
          repeat' (first|refine vs (k:=?_)|refine qRg ?_|refine Nx.h ?_|fail)
          refine loopS_next (i+1,F') (by show xs.length - (i+1) < xs.length - i;omega) (by (repeat (first | exact agree_nil | (apply agree_cons;first | exact rfl | exact congrArg (Value.int .i64) ei)))) ⟨by show i+1≤_;omega,?_,hT8.f,((hTE.keep ho14).keep (hs.only0 rfl)).o⟩
          show CAt _ cb (actsC (newC clock) (xs.take (i+1))) F'
          rw [eA]
          exact ((hTE.keep ho14).keep (hs.only0 rfl)).a
    · exact cutB_exit () (by (repeat (first | exact agree_nil | (apply agree_cons;exact rfl)))) ho
  · rintro _ env w ho
    clear hs
    have hs:=St.nil w
    repeat' (first|refine vs (k:=?_)|refine qRg ?_|refine Nx.h ?_|fail)
    first | refine rt (hq:=?_) | refine rt' (hq:=?_)
    exact ⟨rfl,ho.trans (hs.only0 rfl)⟩
end Go.Proofs.YtkbcfknnieggbaaGreatDoorX

namespace Go.Proofs.YtkbcfknnieggbaaGreatDoorX
open Go Go.RowKit Go.ChangeShapes Go.WideShapes Go.ChangeAt
set_option maxRecDepth 100000 in
theorem coreRefuses_lifted (os:Os) (started:os.Started) (H:Type) (enc:TypeId × Value→H) :
    ReturnsInHanded {} Tryz.checked os 8 .any (fun w args => (YtkbcfknnieggbaaGreatDoor.Rows.coreRefusesSpec.pre enc Tryz.prog Tryz.f8 [] false w args ∧ laidMetH Tryz.prog [("math/bits.deBruijn32tab", YtkbcfknnieggbaaGreatDoor.Rows.laid_math_bits_deBruijn32tab), ("math/bits.deBruijn64tab", YtkbcfknnieggbaaGreatDoor.Rows.laid_math_bits_deBruijn64tab), ("internal/strconv.uint64pow10", YtkbcfknnieggbaaGreatDoor.Rows.laid_internal_strconv_uint64pow10)] w) ∧ sizedMet enc Tryz.prog Tryz.f8 (OpenSpec.ofChange YtkbcfknnieggbaaGreatDoor.Rows.coreRefusesSpec) false w args) (YtkbcfknnieggbaaGreatDoor.Rows.coreRefusesSpec.post enc Tryz.prog Tryz.f8 false true false false) := by
  refine returnsInHanded_of_change_and (C := Tryz.checked) (X := fun w _ => laidMetH Tryz.prog [("math/bits.deBruijn32tab", YtkbcfknnieggbaaGreatDoor.Rows.laid_math_bits_deBruijn32tab), ("math/bits.deBruijn64tab", YtkbcfknnieggbaaGreatDoor.Rows.laid_math_bits_deBruijn64tab), ("internal/strconv.uint64pow10", YtkbcfknnieggbaaGreatDoor.Rows.laid_internal_strconv_uint64pow10)] w) (fun _ _ _ hh h => h.of_heap hh) own started (by kernel_rfl) Tryz.func8
    (ChangeSpec.witness_shaped (enc := enc) (C := Tryz.checked) (os := os) (X := fun w _ => laidMetH Tryz.prog [("math/bits.deBruijn32tab", YtkbcfknnieggbaaGreatDoor.Rows.laid_math_bits_deBruijn32tab), ("math/bits.deBruijn64tab", YtkbcfknnieggbaaGreatDoor.Rows.laid_math_bits_deBruijn64tab), ("internal/strconv.uint64pow10", YtkbcfknnieggbaaGreatDoor.Rows.laid_internal_strconv_uint64pow10)] w) false (World.doorLaid Tryz.prog 24 os) #[.int .u64 0, .slice none 0 0] 8 rfl (World.shaped_of_RefB (by kernel_rfl) (by kernel_rfl)) (by kernel_rfl) (by kernel_rfl) (by kernel_rfl) (door_met os _)) ?_
  intro W base args ds gs before hval0 hW hcnd hsz0 hL _
  have hP:=pows_of hL
  have hval:∀ (j:Nat) t v,Tryz.f8.params[j]?=some t→args[j]?=some v→Value.okWide Tryz.prog W .any base t v:=hval0
  have hW':=hW
  obtain ⟨p,q,hA0,hV,rfl,hfz,hnd⟩:=hW
  have hA:DataW.TrodAll enc Tryz.prog W 0 (fun _=>true) true Tryz.f8.params.toList args.toList ds p:=hA0
  rw [Tryz.params8] at hA hval
  obtain ⟨v0,vs0,d0,ds0,p0,q0,hargs,rfl,rfl,h0,r0⟩:=trodAll_cons hA
  obtain ⟨v1,vs1,d1,ds1,p1,q1,rfl,rfl,rfl,h1,r1⟩:=trodAll_cons r0
  obtain ⟨rfl,rfl,rfl⟩:=trodAll_nil r1
  obtain rfl:args=#[v0,v1]:=by cases args;simp_all
  obtain ⟨rfl,rfl⟩:=trodVars_none hV
  have lt0:∀ x∈p0,x.block < W.heap.size:=by obtain ⟨m,hm⟩:=h0;exact DataW.trod_lt m _ _ _ hm
  have k0:=h0
  obtain ⟨x0,rfl,_,_,w0⟩:=open_int (t:=22) (k := .u64) (by kernel_rfl) (hval 0 _ v0 rfl rfl) k0
  have b0:(0:Int)≤x0∧x0 < 18446744073709551616:=by
    have h:=int_of w0
    have e1:IntKind.u64.min=0:=rfl
    have e2:IntKind.u64.max=18446744073709551615:=rfl
    omega
  have lt1:∀ x∈p1,x.block < W.heap.size:=by obtain ⟨m,hm⟩:=h1;exact DataW.trod_lt m _ _ _ hm
  have k1:=h1
  obtain ⟨x1,hw1,hx1⟩:=open_acts18 (hval 1 _ v1 rfl rfl) k1
  clear hA0 hval0 hsz0
  refine (ret_calls (by kernel_rfl) (coreRefuses_ret x0 x1 v1 b0 hx1 W hw1 hP)).mono fun e W' ⟨v,he,hv,ho⟩=>?_
  subst he hv
  have bel:=ho.below
  exact ⟨_,rfl,_,_,_,[],_,[],hW',trodAll_mk1 (shut_bool (by kernel_rfl) _),(trodAll_cons_mk (Below.trod laidOut (by kernel_rfl) (of_decide_eq_true (by kernel_rfl)) h0 bel lt0) (trodAll_cons_mk (Below.trod laidOut (by kernel_rfl) (of_decide_eq_true (by kernel_rfl)) h1 bel lt1) trodAll_mk0)),rfl,bel.frame _,fun h=>by cases h⟩
end Go.Proofs.YtkbcfknnieggbaaGreatDoorX
namespace Go.Proofs.YtkbcfknnieggbaaGreatDoor
open Go Go.RowKit Go.ChangeShapes Go.WideShapes Go.ChangeAt
theorem coreRefuses_nm : Tryz.prog.funcNamed "turnstone/turnstonelaw18.CoreRefuses" = some 8 := by kernel_rfl
theorem coreRefuses_ip:(Rows.coreRefusesRow.inPlace == Tryz.prog.inPlace 8)=true:=by kernel_rfl
theorem coreRefuses_un:(Rows.coreRefusesRow.unfollowed == Tryz.prog.unfollowed 8)=true:=by kernel_rfl
theorem coreRefuses_rc:(Rows.coreRefusesRow.recurses == Tryz.prog.recurses 8)=true:=by kernel_rfl
theorem coreRefuses_nd:(Rows.coreRefusesRow.named == Tryz.prog.varsNamed 8)=true:=by kernel_rfl
theorem coreRefuses_holds:Rows.CoreRefusesSaid :=
  OpenClaim.holds_of_wide 8 Tryz.f8 rfl rfl rfl rfl rfl rfl rfl ⟨rfl,rfl,rfl,rfl,rfl⟩ rfl rfl rfl rfl rfl coreRefuses_nm Tryz.func8
    (by unfold joinedFacts;exact (and_mk (and_mk (and_mk (and_mk (and_mk (and_mk (and_mk (and_mk (and_mk (and_mk (and_mk (and_mk (and_mk (and_mk (and_mk (and_mk (and_mk (and_mk (and_mk (and_mk (and_mk (and_mk (and_mk (and_mk (and_mk (and_mk (and_mk (and_mk (and_mk (and_mk (and_mk (by kernel_rfl) pf_laid) pf_maps) (by kernel_rfl)) (by kernel_rfl)) (by kernel_rfl)) (by kernel_rfl)) (by kernel_rfl)) (by kernel_rfl)) coreRefuses_ip) coreRefuses_un) coreRefuses_rc) coreRefuses_nd) (by kernel_rfl)) (by kernel_rfl)) (by kernel_rfl)) (by kernel_rfl)) (by kernel_rfl)) (by kernel_rfl)) (by kernel_rfl)) (by kernel_rfl)) (by kernel_rfl)) pf_keys) (by kernel_rfl)) pf_heard) pf_enter) pf_lift) pf_make) (by kernel_rfl)) (by kernel_rfl)) (by kernel_rfl)) (by kernel_rfl)))
    (of_decide_eq_true (by kernel_rfl)) (by unfold Func.isWrapper;first | (rw [if_pos (by decide +kernel)];kernel_rfl) | (rw [if_neg (by decide +kernel)];exact ⟨rfl,rfl⟩))
    (fun os started H enc _=>YtkbcfknnieggbaaGreatDoorX.coreRefuses_lifted os started H enc)
theorem coreRefuses_w:Rows.coreRefusesRow.wfByText (OpenSpec.ofChange Rows.coreRefusesSpec)=true:=by kernel_rfl
theorem coreRefuses_mn:Tryz.prog.mainIs=some (Rows.coreRefusesCard.stood.harness.1,Rows.coreRefusesCard.stood.harness.2.toList):=by kernel_rfl
theorem coreRefuses_lk:Rows.coreRefusesCard.stood.looks=Tryz.prog.looks []:=by kernel_rfl
theorem coreRefuses_gs:false=Rows.coreRefusesRow.goesBy Tryz.prog:=by kernel_rfl
theorem coreRefuses_card:Rows.CoreRefusesCardSaid :=
  Claim7.holds_tied_plain_at .later [] [.data,.data,.data] true Rows.coreRefusesCard.stood.harness Rows.coreRefusesCard.stood.looks
    coreRefuses_holds (fun _ h=>by cases h) coreRefuses_w (fun _ h=>by cases h) coreRefuses_row_tie rfl ⟨rfl,rfl⟩ coreRefuses_mn rfl
    (fun f fn hf hfn=>by
      obtain rfl:f=8:=Option.some.inj (coreRefuses_nm.symm.trans hf) |>.symm
      obtain rfl:fn=Tryz.f8:=(Option.some.inj (Tryz.func8.symm.trans hfn)).symm
      exact ⟨coreRefuses_lk,fun j t ht=>by
        rw [Tryz.params8] at ht
        have hm:t∈[22,62]:=by simpa using Array.mem_of_getElem? ht
        have hall:([22,62].all fun u=>!Tryz.prog.wantsStandIn u)=true:=by kernel_rfl
        exact (show Tryz.prog.wantsStandIn t=false by simpa using List.all_eq_true.1 hall t hm)⟩)
    coreRefuses_gs
end Go.Proofs.YtkbcfknnieggbaaGreatDoor
