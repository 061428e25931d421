/- Proved: law18.CoreLow returns true for every clock and every slice of acts, and its arguments read as before; no conditions -/
import Derived.Test.YtkbcfknnieggbaaGreatDoorClaimF1
import Derived.Test.YtkbcfknnieggbaaGreatDoorCards
import Derived.SevenTiedAt
set_option linter.unusedVariables false
set_option linter.unusedSimpArgs false
set_option maxRecDepth 100000
namespace Go.Proofs.YtkbcfknnieggbaaGreatDoorX
open Go Go.RowKit
attribute [local irreducible] XS XC XA thenE blockE retE loopE loopS cutB cutN doneE SE
theorem low_two {s s':Ss} {c c2:Cs} {q:Ac18} (h:Rep s c.A) (h':Rep s' c2.A) (hk:∀ y∈c2.A.l,∃ y0∈c.A.l,idR y0=idR y∧(lgA c.A y0≤lgA c2.A y∨-((q.ns*1048576:Int):Rat)≤lgA c2.A y)) {y:RT} (hy:y∈c2.A.l):lagA c.A y.1.i.id≤lagR c2.A y∨-(q.ns*1048576)≤lagR c2.A y:=by
  obtain ⟨y0,h0,hi,hl⟩:=hk y hy
  have e:lagA c.A y.1.i.id=lagR c.A y0:=by
    have:y0.1.i.id=y.1.i.id:=hi
    rw [← this]
    exact lagA_at h h0
  rw [e]
  exact lag_mono h h' h0 hy hl
set_option maxHeartbeats 16000000 in
theorem coreLow_ret (clock:Int) (xs:List Ac18) (sl:Value) (hc0:U64 clock) (hx:∀ a∈xs,a.In) (w0:World) (hL:LsX w0 5 sl (xs.map Ac18.cells)) (ht:Pows w0):Ret Tryz.prog 6 #[.int .u64 clock,sl] w0 fun v w'=>v = .bool true∧Only [] w0 w':=by
  have hL0:=hL
  obtain ⟨ad,cap,rfl,hD⟩:=hL
  rw [List.length_map] at hL0 ⊢
  have hs:=St.nil w0
  refine ret_of_xc Tryz.func6 (by kernel_rfl) rfl Tryz.ntmps6 rfl rfl rfl ?_
  repeat' (first|refine vs (k:=?_)|refine qRg ?_|refine Nx.h ?_|fail)
  (with_reducible apply xs_call);exact rfl;exact rfl;exact awake18_ret _ (tab_only ht (hs.only0 rfl))
  rintro v w' ⟨rfl,ho⟩;replace hs:=hs.call0 ho;repeat' (first|refine vs (k:=?_)|refine qRg ?_|refine Nx.h ?_|refine qCf ?_|fail)
  (with_reducible apply xs_call);exact rfl;exact rfl;exact light_ret xs _ hx _ (hL0.only (hs.only0 rfl))
  rintro v w1 ⟨⟨bl,rfl,hbl⟩,ho1⟩;replace hs:=hs.call0 ho1
  cases bl with
  | false =>
    repeat' (first|refine vs (k:=?_)|refine qRg ?_|refine Nx.h ?_|refine qCt ?_|fail)
    first | refine rt (hq:=?_) | refine rt' (hq:=?_)
    exact ⟨rfl,hs.only0 rfl⟩
  | true =>
  have hm:=hbl rfl
  repeat' (first|refine vs (k:=?_)|refine qRg ?_|refine Nx.h ?_|refine qCf ?_|fail)
  have hoB:=hs.only0 rfl
  (with_reducible apply xs_call);exact rfl;exact rfl;exact cnew_ret clock hc0 _
  rintro v w2 ⟨⟨cb,F1,rfl,hC1,hF1⟩,ho2⟩
  have hoA:=hoB.trans ho2
  have hzB:=hoB.size
  have hF1':∀ k∈F1,w0.heap.size≤k:=fun k hk=>by have:=hF1 k hk;omega
  clear hs
  have hs:=St.nil w2
  repeat' (first|refine vs (k:=?_)|refine qRg ?_|refine Nx.h ?_|fail)
  refine xc_cutB (fun (_:Unit)=>[]) (fun _ w=>Only [] w0 w) ?_ ?_
  · refine xc_loopS (fun (x:Nat × List Nat × Int)=>[(5,.pointer (some ⟨cb,0,none⟩)),(6,.int .u64 x.2.2),(27,.slice ad xs.length cap),(28,.int .i64 (xs.length:Nat)),(29,.int .i64 (x.1:Nat))])
      (fun x w=>x.1≤xs.length∧CAt w cb (actsC (newC clock) (xs.take x.1)) x.2.1∧(∀ k∈x.2.1,w0.heap.size≤k)∧Only [] w0 w∧InvS (actsC (newC clock) (xs.take x.1))∧(0≤x.2.2∧x.2.2 < 18446744073709551616)∧FairC (actsC (newC clock) (xs.take x.1)) ((x.2.2*1048576:Int):Rat)) (fun x=>xs.length - x.1) (0,F1,0) (by (repeat (first | exact agree_nil | (apply agree_cons;exact rfl)))) ⟨Nat.zero_le _,hC1.only (hs.only0 rfl),hF1',hoA.trans (hs.only0 rfl),InvS.new clock,⟨Int.le_refl 0,(by decide:(0:Int) < 18446744073709551616)⟩,fair_newC clock⟩ fun x env wl ⟨hi,hC,hF,hoL,hI,hmm,hFr⟩=>?_
    obtain ⟨i,F,m⟩:=x
    simp only at hi hC hF hI hmm hFr
    clear hs
    have hs:=St.nil wl
    repeat' (first|refine vs (k:=?_)|refine qRg ?_|refine Nx.h ?_|(refine xc_if rfl (fun hc=>?_) (fun hc=>?_))|fail)
    · have hlt:i < xs.length:=by omega
      obtain ⟨b0,off,cs,E,fz,rfl,hb,hcs⟩:=hD (fun h=>by have:=congrArg List.length h;rw [List.length_map,List.length_nil] at this;omega)
      have hpk:=hcs i (Ac18.cells xs[i]) (by rw [List.getElem?_map,List.getElem?_eq_getElem hlt];rfl)
      have ei:=nx64 (m:=xs.length) hlt (by omega)
      have hq:=hx xs[i] (List.getElem_mem hlt)
      have eA:actsC (newC clock) (xs.take (i+1))=tryC (actsC (newC clock) (xs.take i)) (doC (actsC (newC clock) (xs.take i)) xs[i]).1 (doC (actsC (newC clock) (xs.take i)) xs[i]).2.1:=by rw [take_next hlt,actsC_snoc];rfl
      generalize xs[i]=q at *
      generalize actsC (newC clock) (xs.take i)=c at *
      have hRc:RepC c:=hC.repS
      obtain ⟨fr1,fr2,fr3⟩:=fair_act hRc hI hq hmm.1 hFr
      have mr:=mostA_rng (c:=c) hmm.1 hmm.2 hq
      have em:mostA m c q=if 6 < q.d % 10∧(doC c q).1=0 then (if m < q.ns then q.ns else m) else m:=rfl
      have fr1:FairC (tryC c (doC c q).1 (doC c q).2.1) ((mostA m c q*1048576:Int):Rat):=fr1
      have fr2:InvS (tryC c (doC c q).1 (doC c q).2.1):=fr2
      refine ix (h0:=(by omega)) (h1:=(by omega)) (k:=?_)
      refine lhK (vs:=q.cells) (hoL.block hb (by simp)) hpk (k:=?_)
      refine al hs (k:=?_);clear hs;intro b7 w3 hz3 hs
      refine stA hs (k:=?_);clear hs;intro w4 hs
      repeat' (first|refine vs (k:=?_)|refine qRg ?_|refine Nx.h ?_|fail)
      have ho4:=hs.only0 rfl
      have hC4:=hC.only ho4
      have h7:=hs.get (b:=b7) (by repeat (first | exact At.head | (with_reducible apply At.tail)))
      (with_reducible apply xs_call);exact rfl;exact rfl;exact cclone_ret cb c F _ hC4
      rintro v w5 ⟨⟨db,G,rfl,hD5,hG⟩,ho5⟩
      have T0:TwoC w0 cb db c c F G w5:=TwoC.clone hC4 hF (hoL.trans ho4) hD5 hG ho5
      have g7:=hs.new (b7,true) (by simp) rfl
      simp only at g7
      have k7:=ho5.block h7 (by simp)
      have d0:=hq.1
      clear hs
      have hs:=(St.nil w5).trackT k7
      repeat' (first|refine vs (k:=?_)|refine qRg ?_|refine Nx.h ?_|fail)
      refine rem8 (b:=10) d0.1 (by decide) (k:=?_)
      repeat' (first|refine vs (k:=?_)|refine qRg ?_|refine Nx.h ?_|fail)
      have ho6:=hs.onlyF [] (by simp [k7]) (by simp [D0])
      (with_reducible apply xs_call);exact rfl;exact rfl;exact act_ret cb c F q hq _ (T0.keep ho6).a
      rintro v w7 ⟨rv,rfl,T⟩
      obtain ⟨F',hT7⟩:=(T0.keep ho6).left T
      obtain ⟨ag,cg,ap,cp,rfl⟩:=T.form
      have n7:b7≠cb:=fun e=>by have:=hC.lt cb hC.mem;omega
      have k7:=T.2.2.block (ho6.block k7 (by simp)) (by simp [n7])
      clear T
      obtain ⟨s0,hrep0⟩:=hRc
      have hlow:=fun (h6:6 < q.d % 10) (s':Ss) (hr:Rep s' (tryC c (doC c q).1 (doC c q).2.1).A) (y:RT) hy=>low_two hrep0 hr (fr3 h6) (y:=y) hy
      clear fr3
      generalize mostA m c q=m2 at *
      generalize (tryR (doC c q).1 (doC c q).2.1 (doC c q).2.2).p.length=np at *
      generalize (tryR (doC c q).1 (doC c q).2.1 (doC c q).2.2).g.length=ng at *
      generalize (doC c q).1=e at *
      generalize tryC c e (doC c q).2.1=c2 at *
      clear hs
      have hs:=(St.nil w7).trackT k7
      repeat' (first|refine vs (k:=?_)|(refine stA hs (k:=?_);intro w hs)|(refine al hs (k:=?_);intro b w hz hs)|refine Nx.h ?_|fail)
      refine xc_cutN (fun (_:Unit)=>[(5,.pointer (some ⟨cb,0,none⟩)),(6,.int .u64 m),(8,.pointer (some ⟨b7,0,none⟩)),(9,.pointer (some ⟨db,0,none⟩)),(10,.bool (decide (6 < q.d % 10))),(27,.slice (some ⟨b0,off,none⟩) xs.length cap),(28,.int .i64 (xs.length:Nat)),(29,.int .i64 (i:Nat)),(49,.bool (decide (6 < q.d % 10) && (e == 0)))]) (fun _ w=>Only [] w7 w) ?_ ?_
      · refine xc_region ?_ ?_;exact rfl
        cases decide (6 < q.d % 10)
        · repeat' (first|refine vs (k:=?_)|refine ps (k:=?_)|refine Nx.h ?_|fail)
          exact cutN_normal () (by (repeat (first | exact agree_nil | (apply agree_cons;exact rfl)))) (hs.onlyF [] (by simp [k7]) (by simp [D0]))
        · repeat' (first|refine vs (k:=?_)|refine Nx.h ?_|fail)
          exact cutN_normal () (by (repeat (first | exact agree_nil | (apply agree_cons;exact rfl)))) (hs.onlyF [] (by simp [k7]) (by simp [D0]))
      rintro _ env w9 ho9
      have m7:=ho9.block k7 (by simp)
      clear hs
      have hs:=(St.nil w9).trackT m7
      refine xc_cutN (fun (_:Unit)=>[(5,.pointer (some ⟨cb,0,none⟩)),(6,.int .u64 m2),(8,.pointer (some ⟨b7,0,none⟩)),(9,.pointer (some ⟨db,0,none⟩)),(10,.bool (decide (6 < q.d % 10))),(27,.slice (some ⟨b0,off,none⟩) xs.length cap),(28,.int .i64 (xs.length:Nat)),(29,.int .i64 (i:Nat))]) (fun _ w=>Only [] w9 w) ?_ ?_
      · by_cases g:6 < q.d % 10∧e=0
        · rw [if_pos g] at em
          rw [em,show (decide (6 < q.d % 10) && (e == 0))=true by simp [g.1,g.2]]
          repeat' (first|refine vs (k:=?_)|refine qRg ?_|refine Nx.h ?_|refine qCt ?_|fail)
          exact cutN_normal () (by (repeat (first | exact agree_nil | (apply agree_cons;exact rfl)))) (hs.onlyF [] (by simp [m7]) (by simp [D0]))
        · rw [if_neg g] at em
          rw [em,show (decide (6 < q.d % 10) && (e == 0))=false by simpa using g]
          repeat' (first|refine Nx.h ?_|refine qCf ?_|fail)
          exact cutN_normal () (by (repeat (first | exact agree_nil | (apply agree_cons;exact rfl)))) (hs.onlyF [] (by simp [m7]) (by simp [D0]))
      rintro _ env w10 ho10
      have hT10:=(hT7.keep ho9).keep ho10
      have k10:=ho10.block m7 (by simp)
      obtain ⟨sb,qb,mb,Fs,eF,p1',p2',hS1,hQ1,ms1⟩:=hT10.a.opn
      obtain ⟨ub,rb,nb,Us,eU,p3',p4',hS2,hQ2,ms2⟩:=hT10.b.opn
      have n1:=hT10.ne
      have n2:ub≠sb:=fun k=>hT10.d sb (by rw [eF];simp [ms1]) (by rw [eU,← k];simp [ms2])
      have d1:db≠sb:=blocks_ne p3' p2' (by decide)
      have d2:ub≠cb:=blocks_ne p4' p1' (by decide)
      have d3:ub≠db:=blocks_ne p4' p3' (by decide)
      obtain ⟨s,hrep⟩:=hS1.rep
      have hA32:=hrep.le
      have hcarr:InW c2.carr:=hT10.a.rep.2
      have hcarr':=hcarr
      unfold InW at hcarr'
      clear hs
      have hs:=(((St.nil w10).trackT k10).trackT p1').trackT p2'
      repeat' (first|refine vs (k:=?_)|refine qRg ?_|refine Nx.h ?_|fail)
      (with_reducible apply xs_call);exact rfl;exact rfl;exact bigU_ret m2 _ mr.1 mr.2
      rintro v1 w11 ⟨hB1,ho11⟩;replace hs:=hs.call0 ho11
      skip
      (with_reducible apply xs_call);exact rfl;exact rfl;exact bigU_ret 1048576 _ (by decide) (by decide)
      rintro v2 w12 ⟨hB2,ho12⟩;replace hs:=hs.call0 ho12
      skip
      (with_reducible apply xs_call);exact rfl;exact rfl;exact bigMul_ret _ _ m2 1048576 _ (hB1.only ho12) hB2 (inB_small (by omega) (by omega)) (inB_small (by omega) (by omega))
      rintro v3 w13 ⟨hB3,ho13⟩;replace hs:=hs.call0 ho13
      repeat' (first|refine vs (k:=?_)|fail)
      have hoa:=hs.onlyF [] (by simp [p1',p2',k10]) (by simp [D0])
      (with_reducible apply xs_call);exact rfl;exact rfl;exact ccarried_ret cb c2 F' _ (hT10.keep hoa).a
      rintro v w14 ⟨rfl,ho14⟩;replace hs:=hs.call0 ho14
      skip
      (with_reducible apply xs_call);exact rfl;exact rfl;exact lawOf_ret c2.carr hcarr _
      rintro v4 w15 ⟨hB4,ho15⟩;replace hs:=hs.call0 ho15
      skip
      (with_reducible apply xs_call);exact rfl;exact rfl;exact bigAdd_ret _ _ (m2*1048576) c2.carr _ ((hB3.only ho14).only ho15) hB4 (inB_small (by omega) (by omega)) (inB_small (by omega) (by omega))
      rintro v5 w16 ⟨hB5,ho16⟩;replace hs:=hs.call0 ho16
      obtain ⟨n5,a5,l5,c5,rfl⟩:=hB5.shape
      have hoG:=hs.onlyF [] (by simp [p1',p2',k10]) (by simp [D0])
      have q1:=hoG.block p1' (by simp)
      have q2:=hoG.block p2' (by simp)
      have q8:=hoG.block k10 (by simp)
      clear hs
      have hs:=(((St.nil w16).trackT q8).trackT q1).trackT q2
      refine al hs (k:=?_);clear hs;intro b13 w17 hz17 hs
      refine stA hs (k:=?_);clear hs;intro w18 hs
      repeat' (first|refine vs (k:=?_)|refine qRg ?_|refine Nx.h ?_|fail)
      have h13:=hs.get (b:=b13) (by repeat (first | exact At.head | (with_reducible apply At.tail)))
      have hoH:=hs.onlyF [] (by simp [q1,q2,q8]) (by simp [D0])
      (with_reducible apply xs_call);exact rfl;exact rfl;exact areqs_ret sb c2.A Fs _ ((hS1.only hoG).only hoH)
      rintro v w19 ⟨⟨Gc,hGc,_⟩,ho19⟩
      have r13:=ho19.block h13 (by simp)
      have hB6:=(hB5.only hoH).only ho19
      obtain ⟨ad1,cp1,rfl,hD1⟩:=ls_rq hGc
      have hoI:=(hoG.trans hoH).trans ho19
      have hT19:=hT10.keep hoI
      have q1:=hoI.block p1' (by simp)
      have q2:=hoI.block p2' (by simp)
      have q3:=hoI.block p3' (by simp)
      have q4:=hoI.block p4' (by simp)
      have q8:=hoI.block k10 (by simp)
      have hQ19:=hQ1.only hoI
      have hR19:=hQ2.only hoI
      clear hs
      have hs:=St.nil w19
      repeat' (first|refine vs (k:=?_)|refine Nx.h ?_|fail)
      have hRc2:RepC c2:=⟨s,hrep⟩
      have hbound:=fun (y:RT) (hy:y∈c2.A.l)=>low_bound hRc2 fr1 hy
      refine xc_cutB (fun (_:Unit)=>[(5,.pointer (some ⟨cb,0,none⟩)),(6,.int .u64 m2),(27,.slice (some ⟨b0,off,none⟩) xs.length cap),(28,.int .i64 (xs.length:Nat)),(29,.int .i64 (i:Nat))]) (fun _ w=>Only [] w19 w) ?_ ?_
      · refine xc_loopS (fun (j:Nat)=>[(5,.pointer (some ⟨cb,0,none⟩)),(6,.int .u64 m2),(8,.pointer (some ⟨b7,0,none⟩)),(9,.pointer (some ⟨db,0,none⟩)),(10,.bool (decide (6 < q.d % 10))),(13,.pointer (some ⟨b13,0,none⟩)),(27,.slice (some ⟨b0,off,none⟩) xs.length cap),(28,.int .i64 (xs.length:Nat)),(29,.int .i64 (i:Nat)),(66,.slice ad1 c2.A.l.length cp1),(67,.int .i64 (c2.A.l.length:Nat)),(68,.int .i64 (j:Nat))])
          (fun j w=>j≤c2.A.l.length∧Only [] w19 w) (fun j=>c2.A.l.length - j) 0 (by (repeat (first | exact agree_nil | (apply agree_cons;exact rfl)))) ⟨Nat.zero_le _,hs.only0 rfl⟩ fun j env wl ⟨hj,hol⟩=>?_
        clear hs
        have hs:=St.nil wl
        repeat' (first|refine vs (k:=?_)|refine qRg ?_|refine Nx.h ?_|(refine xc_if rfl (fun hc=>?_) (fun hc=>?_))|fail)
        · have hjl:j < c2.A.l.length:=by omega
          have hyB:=hbound _ (List.getElem_mem hjl)
          have hyI:=lagR_in hrep (List.getElem_mem hjl)
          have hyA:=lagA_at hrep (List.getElem_mem hjl)
          have hyT:=fun h6=>hlow h6 s hrep _ (List.getElem_mem hjl)
          have hyJ:=lagA_in hrep0 c2.A.l[j].1.i.id
          obtain ⟨bb,off2,cs2,E2,fz2,hab,hb2,hcs2⟩:=hD1 (List.ne_nil_of_mem (List.getElem_mem hjl))
          have hpk2:=hcs2 j c2.A.l[j] (List.getElem?_eq_getElem hjl)
          have ej:=nx64 (m:=c2.A.l.length) hjl (by omega)
          generalize c2.A.l[j]=y at *
          rw [hab]
          refine ix (h0:=(by omega)) (h1:=(by omega)) (k:=?_)
          refine lhK (vs:=y.1.cells) (hol.block hb2 (by simp)) hpk2 (k:=?_)
          refine al hs (k:=?_);clear hs;intro b15 w20 hz20 hs
          refine stA hs (k:=?_);clear hs;intro w21 hs
          have h15:=hs.get (b:=b15) (by repeat (first | exact At.head | (with_reducible apply At.tail)))
          have ho21:=hol.trans (hs.only0 rfl)
          have u1:=ho21.block q1 (by simp)
          have u2:=ho21.block q2 (by simp)
          have u3:=ho21.block q3 (by simp)
          have u4:=ho21.block q4 (by simp)
          have u8:=ho21.block q8 (by simp)
          have u13:=ho21.block r13 (by simp)
          have hB21:=hB6.only ho21
          have hQ21:=hQ19.only ho21
          have hR21:=hR19.only ho21
          have hid:In64 y.1.i.id:=y.2.1.2.1
          have y3:db≠b15:=blocks_ne u3 h15 (by decide)
          have y4:ub≠b15:=blocks_ne u4 h15 (by decide)
          have y5:db≠b7:=blocks_ne u3 u8 (by decide)
          have y6:ub≠b7:=blocks_ne u4 u8 (by decide)
          have y7:db≠b13:=blocks_ne u3 u13 (by decide)
          have y8:ub≠b13:=blocks_ne u4 u13 (by decide)
          clear hs
          have hs:=(((((St.nil _).trackT h15).trackT u8).trackT u13).trackT u1).trackT u2
          replace hs:=hs.track u3 (by simp [n1,d1,y3,y5,y7])
          replace hs:=hs.track u4 (by simp [n2,d2,d3,y4,y6,y8])
          repeat' (first|refine Nx.h ?_|fail)
          refine dr [] hs (k:=?_);intro hX w hs
          refine tk 0 hX (k:=?_)
          refine tk 1 hX (k:=?_)
          refine tk 2 hX (k:=?_)
          refine tk 3 hX (k:=?_)
          refine tk 4 hX (k:=?_)
          refine tk 5 hX (k:=?_)
          refine tk 6 hX (k:=?_)
          refine tk 7 hX (k:=?_)
          refine tk 8 hX (k:=?_)
          refine tk 9 hX (k:=?_)
          refine pd0 14 16 hs (k:=?_);intro f X w hp;have hs:=hp.st
          apply xa_pend 10 14 (f:=f) (X:=X) hX hp;exact rfl;exact rfl;(apply makes_alloc tabOk;exact rfl);kernel_rfl;kernel_rfl;kernel_rfl;kernel_rfl;(intro X Y;(repeat (first | exact pgg_base | refine pgg_step ?_ (by exact rfl))));(intro w' hs;first|exact se_hold hs.hold|exact se_hold hs.hold.tail|exact se_done rfl);intro f X w hp;have hs:=hp.st
          have hoa2:=hs.onlyF [] (by simp [h15,u1,u2,u3,u4,u8,u13]) (by simp [D0])
          (with_reducible apply xs_call);exact rfl;exact rfl;exact alag_ret qb c2.A y.1.i.id _ (hQ21.only hoa2) hid
          rw [hyA]
          generalize lagR c2.A y=lg at *
          rintro v w' ⟨rfl,ho⟩;replace hp:=hp.only ho;replace hs:=hp.st;repeat' (first|refine Nx.h ?_|fail)
          refine dn (k:=?_)
          refine tk 11 hX (hc:=by cases f <;> kernel_rfl) (k:=?_)
          refine tk 12 hX (hc:=by cases f <;> kernel_rfl) (k:=?_)
          refine tk 13 hX (hc:=by cases f <;> kernel_rfl) (k:=?_)
          apply xa_pendE 14 (f:=f) (X:=X) hX hp;exact rfl;(apply makes_alloc tabOk;exact rfl);kernel_rfl;kernel_rfl;(intro X Y;(repeat (first | exact pgg_base | refine pgg_step ?_ (by exact rfl))));(intro w' hs;first|exact se_hold hs.hold|exact se_hold hs.hold.tail|exact se_done rfl);intro b w hI hs
          refine dt 15 hX (k:=?_)
          repeat' (first|(refine stA hs (k:=?_);intro w hs)|refine Nx.h ?_|fail)
          refine dn (k:=?_)
          refine tk 16 hX (k:=?_)
          refine en (k:=?_)
          repeat' (first|refine Nx.h ?_|fail)
          have x16:=hs.get (b:=b) (by repeat (first | exact At.head | (with_reducible apply At.tail)))
          obtain ⟨b16,hb16⟩:∃ k,k=b:=⟨_,rfl⟩
          rw [← hb16] at hs x16
          rw [← hb16]
          refine dr [] hs (k:=?_);intro hX w hs
          refine tk 0 hX (k:=?_)
          refine tk 1 hX (k:=?_)
          refine tk 2 hX (k:=?_)
          refine tk 3 hX (k:=?_)
          refine tk 4 hX (k:=?_)
          refine tk 5 hX (k:=?_)
          refine tk 6 hX (k:=?_)
          refine tk 7 hX (k:=?_)
          refine tk 8 hX (k:=?_)
          refine tk 9 hX (k:=?_)
          refine pd0 14 18 hs (k:=?_);intro f X w hp;have hs:=hp.st
          apply xa_pend 10 14 (f:=f) (X:=X) hX hp;exact rfl;exact rfl;(apply makes_alloc tabOk;exact rfl);kernel_rfl;kernel_rfl;kernel_rfl;kernel_rfl;(intro X Y;(repeat (first | exact pgg_base | refine pgg_step ?_ (by exact rfl))));(intro w' hs;first|exact se_hold hs.hold|exact se_hold hs.hold.tail|exact se_done rfl);intro f X w hp;have hs:=hp.st
          have hoa2:=hs.onlyF [] (by simp [h15,u1,u2,u3,u4,u8,u13]) (by simp [D0])
          (with_reducible apply xs_call);exact rfl;exact rfl;exact alag_ret rb c.A y.1.i.id _ (hR21.only hoa2) hid
          generalize lagA c.A y.1.i.id=lw at *
          rintro v w' ⟨rfl,ho⟩;replace hp:=hp.only ho;replace hs:=hp.st;repeat' (first|refine Nx.h ?_|fail)
          refine dn (k:=?_)
          refine tk 11 hX (hc:=by cases f <;> kernel_rfl) (k:=?_)
          refine tk 12 hX (hc:=by cases f <;> kernel_rfl) (k:=?_)
          refine tk 13 hX (hc:=by cases f <;> kernel_rfl) (k:=?_)
          apply xa_pendE 14 (f:=f) (X:=X) hX hp;exact rfl;(apply makes_alloc tabOk;exact rfl);kernel_rfl;kernel_rfl;(intro X Y;(repeat (first | exact pgg_base | refine pgg_step ?_ (by exact rfl))));(intro w' hs;first|exact se_hold hs.hold|exact se_hold hs.hold.tail|exact se_done rfl);intro b w hI hs
          refine dt 15 hX (k:=?_)
          repeat' (first|(refine stA hs (k:=?_);intro w hs)|refine Nx.h ?_|fail)
          refine dn (k:=?_)
          refine tk 16 hX (k:=?_)
          refine en (k:=?_)
          repeat' (first|refine Nx.h ?_|fail)
          have hoJ:=hs.onlyF [] (by simp [h15,u1,u2,u3,u4,u8,u13]) (by simp [D0])
          have t15:=hs.get (b:=b15) (by repeat (first | exact At.head | (with_reducible apply At.tail)))
          have t1:=hs.get (b:=cb) (by repeat (first | exact At.head | (with_reducible apply At.tail)))
          have t2:=hs.get (b:=sb) (by repeat (first | exact At.head | (with_reducible apply At.tail)))
          have t3:=hs.get (b:=db) (by repeat (first | exact At.head | (with_reducible apply At.tail)))
          have t4:=hs.get (b:=ub) (by repeat (first | exact At.head | (with_reducible apply At.tail)))
          have t8:=hs.get (b:=b7) (by repeat (first | exact At.head | (with_reducible apply At.tail)))
          have t13:=hs.get (b:=b13) (by repeat (first | exact At.head | (with_reducible apply At.tail)))
          have t16:=hs.get (b:=b16) (by repeat (first | exact At.head | (with_reducible apply At.tail)))
          have t18:=hs.get (b:=b) (by repeat (first | exact At.head | (with_reducible apply At.tail)))
          have hB24:=hB21.only hoJ
          refine dr [] hs (k:=?_);intro hX w hs
          refine tk 0 hX (k:=?_)
          refine tk 2 hX (k:=?_)
          refine dt 1 hX (k:=?_)
          (with_reducible apply xs_call);exact rfl;exact rfl;exact lawOf_ret lg hyI _
          rintro v6 w26 ⟨hF1x,ho26⟩;replace hs:=hs.call0 ho26
          refine XS.nil ?_
          refine dn (k:=?_)
          refine dt 3 hX (k:=?_)
          have hoK:=hs.onlyF [] (by simp [h15,u1,u2,u3,u4,u8,u13]) (by simp [D0])
          (with_reducible apply xs_call);exact rfl;exact rfl;exact bigNeg_ret _ (m2*1048576+c2.carr) _ (hB21.only hoK) (inB_small (by omega) (by omega))
          rintro v7 w27 ⟨hF2x,ho27⟩;replace hs:=hs.call0 ho27
          refine XS.nil ?_
          refine dn (k:=?_)
          refine dt 4 hX (k:=?_)
          (with_reducible apply xs_call);exact rfl;exact rfl;exact bigCmp_ret _ _ lg (-(m2*1048576+c2.carr)) _ (hF1x.only ho27) hF2x (inB_small (by have:=hyI.1;omega) (by have:=hyI.2;omega)) (inB_small (by omega) (by omega))
          rintro v8 w28 ⟨rfl,ho28⟩;replace hs:=hs.call0 ho28
          refine XS.nil ?_
          refine dn (k:=?_)
          refine tk 5 hX (k:=?_)
          refine xa_set 105 (v := .bool false) (congrArg Value.bool (show decide (cmpI lg (-(m2*1048576+c2.carr)) < 0)=false from decide_eq_false (fun h=>by have:=cmp_lt.1 h;omega))) ?_
          refine en (k:=?_)
          repeat' (first|refine Nx.h ?_|refine qCf ?_|fail)
          by_cases h6:6 < q.d % 10
          · have hyT:=hyT h6
            rw [decide_eq_true h6]
            refine dr [] hs (k:=?_);intro hX w hs
            refine tk 0 hX (k:=?_)
            refine tk 1 hX (k:=?_)
            refine tk 2 hX (k:=?_)
            refine tk 3 hX (k:=?_)
            refine dt 4 hX (k:=?_)
            (with_reducible apply xs_call);exact rfl;exact rfl;exact cmp_ret lg lw hyI hyJ _
            rintro v9 w29 ⟨rfl,ho29⟩;replace hs:=hs.call0 ho29
            refine XS.nil ?_
            refine dn (k:=?_)
            refine tk 5 hX (k:=?_)
            by_cases hlt2:lg < lw
            · have hge:-(q.ns*1048576)≤lg:=by rcases hyT with h | h;omega;exact h
              have hns:0≤q.ns∧q.ns < 18446744073709551616:=hq.2.2.2.1
              refine xa_set 111 (v := .bool true) (congrArg Value.bool (show decide (cmpI lg lw < 0)=true from decide_eq_true (cmp_lt.2 hlt2))) ?_
              refine tk 6 hX (k:=?_)
              refine tk 7 hX (k:=?_)
              refine tk 8 hX (k:=?_)
              refine tk 10 hX (k:=?_)
              refine tk 11 hX (k:=?_)
              refine dt 9 hX (k:=?_)
              (with_reducible apply xs_call);exact rfl;exact rfl;exact lawOf_ret lg hyI _
              rintro v10 w30 ⟨hG1,ho30⟩;replace hs:=hs.call0 ho30
              refine XS.nil ?_
              refine dn (k:=?_)
              refine dt 12 hX (k:=?_)
              (with_reducible apply xs_call);exact rfl;exact rfl;exact bigU_ret q.ns _ hns.1 hns.2
              rintro v11 w31 ⟨hG2,ho31⟩;replace hs:=hs.call0 ho31
              refine XS.nil ?_
              refine dn (k:=?_)
              refine dt 13 hX (k:=?_)
              (with_reducible apply xs_call);exact rfl;exact rfl;exact bigU_ret 1048576 _ (by decide) (by decide)
              rintro v12 w32 ⟨hG3,ho32⟩;replace hs:=hs.call0 ho32
              refine XS.nil ?_
              refine dn (k:=?_)
              refine dt 14 hX (k:=?_)
              (with_reducible apply xs_call);exact rfl;exact rfl;exact bigMul_ret _ _ q.ns 1048576 _ (hG2.only ho32) hG3 (inB_small (by omega) (by omega)) (inB_small (by omega) (by omega))
              rintro v13 w33 ⟨hG4,ho33⟩;replace hs:=hs.call0 ho33
              refine XS.nil ?_
              refine dn (k:=?_)
              refine dt 15 hX (k:=?_)
              (with_reducible apply xs_call);exact rfl;exact rfl;exact bigNeg_ret _ (q.ns*1048576) _ hG4 (inB_small (by omega) (by omega))
              rintro v14 w34 ⟨hG5,ho34⟩;replace hs:=hs.call0 ho34
              refine XS.nil ?_
              refine dn (k:=?_)
              refine dt 16 hX (k:=?_)
              (with_reducible apply xs_call);exact rfl;exact rfl;exact bigCmp_ret _ _ lg (-(q.ns*1048576)) _ ((((hG1.only ho31).only ho32).only ho33).only ho34) hG5 (inB_small (by have:=hyI.1;omega) (by have:=hyI.2;omega)) (inB_small (by omega) (by omega))
              rintro v15 w35 ⟨rfl,ho35⟩;replace hs:=hs.call0 ho35
              refine XS.nil ?_
              refine dn (k:=?_)
              refine tk 17 hX (k:=?_)
              refine xa_set 123 (v := .bool false) (congrArg Value.bool (show decide (cmpI lg (-(q.ns*1048576)) < 0)=false from decide_eq_false (fun h=>by have:=cmp_lt.1 h;omega))) ?_
              refine tk 18 hX (k:=?_)
              refine en (k:=?_)
              repeat' (first|refine vs (k:=?_)|refine qRg ?_|refine Nx.h ?_|refine qCf ?_|fail)
              have hoz:=hs.onlyF [] (by simp [h15,u1,u2,u3,u4,u8,u13]) (by simp [D0])
              exact loopS_next (j+1) (by show c2.A.l.length - (j+1) < c2.A.l.length - j;omega) (by (repeat (first | exact agree_nil | (apply agree_cons;first | exact rfl | exact congrArg (Value.int .i64) ej)))) ⟨by show j+1≤_;omega,ho21.trans hoz⟩
            · refine xa_set 111 (v := .bool false) (congrArg Value.bool (show decide (cmpI lg lw < 0)=false from decide_eq_false (fun h=>hlt2 (cmp_lt.1 h)))) ?_
              refine tk 6 hX (k:=?_)
              refine tk 7 hX (k:=?_)
              refine pt 8 hX (k:=?_)
              refine pt 9 hX (k:=?_)
              refine pt 10 hX (k:=?_)
              refine pt 11 hX (k:=?_)
              refine pt 12 hX (k:=?_)
              refine pt 13 hX (k:=?_)
              refine pt 14 hX (k:=?_)
              refine pt 15 hX (k:=?_)
              refine pt 16 hX (k:=?_)
              refine pt 17 hX (k:=?_)
              refine tk 18 hX (k:=?_)
              refine en (k:=?_)
              repeat' (first|refine vs (k:=?_)|refine qRg ?_|refine Nx.h ?_|refine qCf ?_|fail)
              have hoz:=hs.onlyF [] (by simp [h15,u1,u2,u3,u4,u8,u13]) (by simp [D0])
              exact loopS_next (j+1) (by show c2.A.l.length - (j+1) < c2.A.l.length - j;omega) (by (repeat (first | exact agree_nil | (apply agree_cons;first | exact rfl | exact congrArg (Value.int .i64) ej)))) ⟨by show j+1≤_;omega,ho21.trans hoz⟩
          · rw [decide_eq_false h6]
            refine dr [] hs (k:=?_);intro hX w hs
            refine tk 0 hX (k:=?_)
            refine tk 1 hX (k:=?_)
            refine pt 2 hX (k:=?_)
            refine pt 3 hX (k:=?_)
            refine pt 4 hX (k:=?_)
            refine pt 5 hX (k:=?_)
            refine tk 6 hX (k:=?_)
            refine tk 7 hX (k:=?_)
            refine pt 8 hX (k:=?_)
            refine pt 9 hX (k:=?_)
            refine pt 10 hX (k:=?_)
            refine pt 11 hX (k:=?_)
            refine pt 12 hX (k:=?_)
            refine pt 13 hX (k:=?_)
            refine pt 14 hX (k:=?_)
            refine pt 15 hX (k:=?_)
            refine pt 16 hX (k:=?_)
            refine pt 17 hX (k:=?_)
            refine tk 18 hX (k:=?_)
            refine en (k:=?_)
            repeat' (first|refine vs (k:=?_)|refine qRg ?_|refine Nx.h ?_|refine qCf ?_|fail)
            have hoz:=hs.onlyF [] (by simp [h15,u1,u2,u3,u4,u8,u13]) (by simp [D0])
            exact loopS_next (j+1) (by show c2.A.l.length - (j+1) < c2.A.l.length - j;omega) (by (repeat (first | exact agree_nil | (apply agree_cons;first | exact rfl | exact congrArg (Value.int .i64) ej)))) ⟨by show j+1≤_;omega,ho21.trans hoz⟩
        · exact cutB_exit () (by (repeat (first | exact agree_nil | (apply agree_cons;exact rfl)))) hol
      · rintro _ env w25 ho25
        clear hs
        have hs:=St.nil w25
        repeat' (first|refine vs (k:=?_)|refine qRg ?_|refine Nx.h ?_|fail)
        have hoz:=hs.only0 rfl
        refine loopS_next (i+1,F',m2) (by show xs.length - (i+1) < xs.length - i;omega) (by (repeat (first | exact agree_nil | (apply agree_cons;first | exact rfl | exact congrArg (Value.int .i64) ei)))) ⟨by show i+1≤_;omega,by show CAt _ cb (actsC (newC clock) (xs.take (i+1))) F';rw [eA];exact ((hT19.keep ho25).keep hoz).a,hT7.f,((hT19.keep ho25).keep hoz).o,by show InvS (actsC (newC clock) (xs.take (i+1)));rw [eA];exact fr2,mr,by show FairC (actsC (newC clock) (xs.take (i+1))) _;rw [eA];exact fr1⟩
    · exact cutB_exit () (by (repeat (first | exact agree_nil | (apply agree_cons;exact rfl)))) hoL
  · rintro _ env w ho
    clear hs
    have hs:=St.nil w
    repeat' (first|refine vs (k:=?_)|refine qRg ?_|refine Nx.h ?_|fail)
    first | refine rt (hq:=?_) | refine rt' (hq:=?_)
    exact ⟨rfl,ho.trans (hs.only0 rfl)⟩
end Go.Proofs.YtkbcfknnieggbaaGreatDoorX

namespace Go.Proofs.YtkbcfknnieggbaaGreatDoorX
open Go Go.RowKit Go.ChangeShapes Go.WideShapes Go.ChangeAt
set_option maxRecDepth 100000 in
theorem coreLow_lifted (os:Os) (started:os.Started) (H:Type) (enc:TypeId × Value→H) :
    ReturnsInHanded {} Tryz.checked os 6 .any (fun w args => (YtkbcfknnieggbaaGreatDoor.Rows.coreLowSpec.pre enc Tryz.prog Tryz.f6 [] false w args ∧ laidMetH Tryz.prog [("math/bits.deBruijn32tab", YtkbcfknnieggbaaGreatDoor.Rows.laid_math_bits_deBruijn32tab), ("math/bits.deBruijn64tab", YtkbcfknnieggbaaGreatDoor.Rows.laid_math_bits_deBruijn64tab), ("internal/strconv.uint64pow10", YtkbcfknnieggbaaGreatDoor.Rows.laid_internal_strconv_uint64pow10)] w) ∧ sizedMet enc Tryz.prog Tryz.f6 (OpenSpec.ofChange YtkbcfknnieggbaaGreatDoor.Rows.coreLowSpec) false w args) (YtkbcfknnieggbaaGreatDoor.Rows.coreLowSpec.post enc Tryz.prog Tryz.f6 false true false false) := by
  refine returnsInHanded_of_change_and (C := Tryz.checked) (X := fun w _ => laidMetH Tryz.prog [("math/bits.deBruijn32tab", YtkbcfknnieggbaaGreatDoor.Rows.laid_math_bits_deBruijn32tab), ("math/bits.deBruijn64tab", YtkbcfknnieggbaaGreatDoor.Rows.laid_math_bits_deBruijn64tab), ("internal/strconv.uint64pow10", YtkbcfknnieggbaaGreatDoor.Rows.laid_internal_strconv_uint64pow10)] w) (fun _ _ _ hh h => h.of_heap hh) own started (by kernel_rfl) Tryz.func6
    (ChangeSpec.witness_shaped (enc := enc) (C := Tryz.checked) (os := os) (X := fun w _ => laidMetH Tryz.prog [("math/bits.deBruijn32tab", YtkbcfknnieggbaaGreatDoor.Rows.laid_math_bits_deBruijn32tab), ("math/bits.deBruijn64tab", YtkbcfknnieggbaaGreatDoor.Rows.laid_math_bits_deBruijn64tab), ("internal/strconv.uint64pow10", YtkbcfknnieggbaaGreatDoor.Rows.laid_internal_strconv_uint64pow10)] w) false (World.doorLaid Tryz.prog 24 os) #[.int .u64 0, .slice none 0 0] 8 rfl (World.shaped_of_RefB (by kernel_rfl) (by kernel_rfl)) (by kernel_rfl) (by kernel_rfl) (by kernel_rfl) (door_met os _)) ?_
  intro W base args ds gs before hval0 hW hcnd hsz0 hL _
  have hP:=pows_of hL
  have hval:∀ (j:Nat) t v,Tryz.f6.params[j]?=some t→args[j]?=some v→Value.okWide Tryz.prog W .any base t v:=hval0
  have hW':=hW
  obtain ⟨p,q,hA0,hV,rfl,hfz,hnd⟩:=hW
  have hA:DataW.TrodAll enc Tryz.prog W 0 (fun _=>true) true Tryz.f6.params.toList args.toList ds p:=hA0
  rw [Tryz.params6] at hA hval
  obtain ⟨v0,vs0,d0,ds0,p0,q0,hargs,rfl,rfl,h0,r0⟩:=trodAll_cons hA
  obtain ⟨v1,vs1,d1,ds1,p1,q1,rfl,rfl,rfl,h1,r1⟩:=trodAll_cons r0
  obtain ⟨rfl,rfl,rfl⟩:=trodAll_nil r1
  obtain rfl:args=#[v0,v1]:=by cases args;simp_all
  obtain ⟨rfl,rfl⟩:=trodVars_none hV
  have lt0:∀ x∈p0,x.block < W.heap.size:=by obtain ⟨m,hm⟩:=h0;exact DataW.trod_lt m _ _ _ hm
  have k0:=h0
  obtain ⟨x0,rfl,_,_,w0⟩:=open_int (t:=22) (k := .u64) (by kernel_rfl) (hval 0 _ v0 rfl rfl) k0
  have b0:(0:Int)≤x0∧x0 < 18446744073709551616:=by
    have h:=int_of w0
    have e1:IntKind.u64.min=0:=rfl
    have e2:IntKind.u64.max=18446744073709551615:=rfl
    omega
  have lt1:∀ x∈p1,x.block < W.heap.size:=by obtain ⟨m,hm⟩:=h1;exact DataW.trod_lt m _ _ _ hm
  have k1:=h1
  obtain ⟨x1,hw1,hx1⟩:=open_acts18 (hval 1 _ v1 rfl rfl) k1
  clear hA0 hval0 hsz0
  refine (ret_calls (by kernel_rfl) (coreLow_ret x0 x1 v1 b0 hx1 W hw1 hP)).mono fun e W' ⟨v,he,hv,ho⟩=>?_
  subst he hv
  have bel:=ho.below
  exact ⟨_,rfl,_,_,_,[],_,[],hW',trodAll_mk1 (shut_bool (by kernel_rfl) _),(trodAll_cons_mk (Below.trod laidOut (by kernel_rfl) (of_decide_eq_true (by kernel_rfl)) h0 bel lt0) (trodAll_cons_mk (Below.trod laidOut (by kernel_rfl) (of_decide_eq_true (by kernel_rfl)) h1 bel lt1) trodAll_mk0)),rfl,bel.frame _,fun h=>by cases h⟩
end Go.Proofs.YtkbcfknnieggbaaGreatDoorX
namespace Go.Proofs.YtkbcfknnieggbaaGreatDoor
open Go Go.RowKit Go.ChangeShapes Go.WideShapes Go.ChangeAt
theorem coreLow_nm : Tryz.prog.funcNamed "turnstone/turnstonelaw18.CoreLow" = some 6 := by kernel_rfl
theorem coreLow_ip:(Rows.coreLowRow.inPlace == Tryz.prog.inPlace 6)=true:=by kernel_rfl
theorem coreLow_un:(Rows.coreLowRow.unfollowed == Tryz.prog.unfollowed 6)=true:=by kernel_rfl
theorem coreLow_rc:(Rows.coreLowRow.recurses == Tryz.prog.recurses 6)=true:=by kernel_rfl
theorem coreLow_nd:(Rows.coreLowRow.named == Tryz.prog.varsNamed 6)=true:=by kernel_rfl
theorem coreLow_holds:Rows.CoreLowSaid :=
  OpenClaim.holds_of_wide 6 Tryz.f6 rfl rfl rfl rfl rfl rfl rfl ⟨rfl,rfl,rfl,rfl,rfl⟩ rfl rfl rfl rfl rfl coreLow_nm Tryz.func6
    (by unfold joinedFacts;exact (and_mk (and_mk (and_mk (and_mk (and_mk (and_mk (and_mk (and_mk (and_mk (and_mk (and_mk (and_mk (and_mk (and_mk (and_mk (and_mk (and_mk (and_mk (and_mk (and_mk (and_mk (and_mk (and_mk (and_mk (and_mk (and_mk (and_mk (and_mk (and_mk (and_mk (and_mk (by kernel_rfl) pf_laid) pf_maps) (by kernel_rfl)) (by kernel_rfl)) (by kernel_rfl)) (by kernel_rfl)) (by kernel_rfl)) (by kernel_rfl)) coreLow_ip) coreLow_un) coreLow_rc) coreLow_nd) (by kernel_rfl)) (by kernel_rfl)) (by kernel_rfl)) (by kernel_rfl)) (by kernel_rfl)) (by kernel_rfl)) (by kernel_rfl)) (by kernel_rfl)) (by kernel_rfl)) pf_keys) (by kernel_rfl)) pf_heard) pf_enter) pf_lift) pf_make) (by kernel_rfl)) (by kernel_rfl)) (by kernel_rfl)) (by kernel_rfl)))
    (of_decide_eq_true (by kernel_rfl)) (by unfold Func.isWrapper;first | (rw [if_pos (by decide +kernel)];kernel_rfl) | (rw [if_neg (by decide +kernel)];exact ⟨rfl,rfl⟩))
    (fun os started H enc _=>YtkbcfknnieggbaaGreatDoorX.coreLow_lifted os started H enc)
theorem coreLow_w:Rows.coreLowRow.wfByText (OpenSpec.ofChange Rows.coreLowSpec)=true:=by kernel_rfl
theorem coreLow_mn:Tryz.prog.mainIs=some (Rows.coreLowCard.stood.harness.1,Rows.coreLowCard.stood.harness.2.toList):=by kernel_rfl
theorem coreLow_lk:Rows.coreLowCard.stood.looks=Tryz.prog.looks []:=by kernel_rfl
theorem coreLow_gs:false=Rows.coreLowRow.goesBy Tryz.prog:=by kernel_rfl
theorem coreLow_card:Rows.CoreLowCardSaid :=
  Claim7.holds_tied_plain_at .later [] [.data,.data,.data] true Rows.coreLowCard.stood.harness Rows.coreLowCard.stood.looks
    coreLow_holds (fun _ h=>by cases h) coreLow_w (fun _ h=>by cases h) coreLow_row_tie rfl ⟨rfl,rfl⟩ coreLow_mn rfl
    (fun f fn hf hfn=>by
      obtain rfl:f=6:=Option.some.inj (coreLow_nm.symm.trans hf) |>.symm
      obtain rfl:fn=Tryz.f6:=(Option.some.inj (Tryz.func6.symm.trans hfn)).symm
      exact ⟨coreLow_lk,fun j t ht=>by
        rw [Tryz.params6] at ht
        have hm:t∈[22,62]:=by simpa using Array.mem_of_getElem? ht
        have hall:([22,62].all fun u=>!Tryz.prog.wantsStandIn u)=true:=by kernel_rfl
        exact (show Tryz.prog.wantsStandIn t=false by simpa using List.all_eq_true.1 hall t hm)⟩)
    coreLow_gs
end Go.Proofs.YtkbcfknnieggbaaGreatDoor
