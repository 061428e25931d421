/- Proved: law18.CoreWorks returns true for every clock and every slice of acts, and its arguments read as before; no conditions -/
import Derived.Test.YtkbcfknnieggbaaGreatDoorBaseU10
import Derived.Test.YtkbcfknnieggbaaGreatDoorCards
import Derived.SevenTiedAt
set_option linter.unusedVariables false
set_option linter.unusedSimpArgs false
set_option maxRecDepth 100000
namespace Go.Proofs.YtkbcfknnieggbaaGreatDoorX
open Go Go.RowKit
theorem tickd {c:Cs} {a:Ac18} (ha:a.In) (h:6 < a.d % 10):doC c a=tickC c a.ns:=by
  unfold doC
  rw [if_neg (by omega),if_neg (by omega),if_neg (by omega),if_neg (by omega),if_neg (by omega),if_neg (by omega)]
def partsOf (c:Cs) (a:Ac18):List Pr:=(tryR (doC c a).1 (doC c a).2.1 (doC c a).2.2).p
theorem parts_busy {c:Cs} {a:Ac18} (ha:a.In) (hR:RepC c) (hI:InvC c) (h:6 < a.d % 10) (he:(doC c a).1=0) (hr:c.run≠0):allP (partsOf c a)=a.ns:=by
  unfold partsOf tryR
  rw [if_pos he]
  show allP (doC c a).2.2.p=_
  rw [tickd ha h] at he ⊢
  unfold tickC at he ⊢
  by_cases hc:1≤a.ns∧a.ns≤1099511627776
  · rw [if_pos hc] at he ⊢
    rw [tick_serves _ _ _ _ hR hc.2 (by omega) (by omega) hI hr he]
    show allP []+a.ns=a.ns
    have:allP []=0:=rfl
    omega
  · rw [if_neg hc] at he
    cases he
theorem parts_idle {c:Cs} {a:Ac18} (ha:a.In) (h:6 < a.d % 10) (he:(doC c a).1=0) (hr:c.run=0):allP (partsOf c a)=0:=by
  unfold partsOf tryR
  rw [if_pos he]
  show allP (doC c a).2.2.p=_
  rw [tickd ha h] at he ⊢
  by_cases hc:1≤a.ns∧a.ns≤1099511627776
  · rw [tick_none hr hc.1 hc.2];rfl
  · unfold tickC at he
    rw [if_neg hc] at he
    cases he
theorem parts_none {c:Cs} {a:Ac18} (h:a.d % 10≤6) (hd:0≤a.d):partsOf c a=[]:=by
  unfold partsOf tryR
  split
  · show (doC c a).2.2.p=[]
    unfold doC
    by_cases c1:a.d % 10 < 2
    · rw [if_pos c1];rfl
    rw [if_neg c1]
    by_cases c2:a.d % 10=2
    · rw [if_pos c2];rfl
    rw [if_neg c2]
    by_cases c3:a.d % 10=3
    · rw [if_pos c3];rfl
    rw [if_neg c3]
    by_cases c4:a.d % 10=4
    · rw [if_pos c4];rfl
    rw [if_neg c4]
    by_cases c5:a.d % 10=5
    · rw [if_pos c5];rfl
    rw [if_neg c5]
    by_cases c6:a.d % 10=6
    · rw [if_pos c6];rfl
    omega
  · rfl
theorem allP_take {l:List Pr} {i:Nat} (h:i < l.length):allP (l.take (i+1))=allP (l.take i)+l[i].ns:=by rw [show l.take (i+1)=l.take i ++ [l[i]] by simp,allP_app]
end Go.Proofs.YtkbcfknnieggbaaGreatDoorX

namespace Go.Proofs.YtkbcfknnieggbaaGreatDoorX
open Go Go.RowKit
attribute [local irreducible] XS XC XA thenE blockE retE loopE loopS cutB cutN doneE SE
theorem ls_pr {w:World} {v:Value} {l:List Pr} {G:List Nat} (h:SlP w v l G):∃ ad cap,v = .slice ad l.length cap∧(l≠[]→∃ (b off:Nat) (cs:List Value) (E:TypeId) (fz:Nat × Nat),ad=some ⟨b,off,none⟩∧w.heap[b]?=some (.cells cs.toArray E fz)∧∀ (i:Nat) (x:Pr),l[i]?=some x→Pick cs (off+i*3) 3 x.cells):=by
  obtain ⟨ad,cap,rfl,hD⟩:=(SlV.ls h (xs:=l.map Pr.cells) rfl (List.length_map _).symm (fun x hx=>by obtain ⟨y,_,rfl⟩:=List.mem_map.1 hx;rfl)).x
  refine ⟨ad,cap,by rw [List.length_map],fun hn=>?_⟩
  obtain ⟨b,off,cs,E,fz,h1,h2,h3⟩:=hD (fun k=>hn (List.map_eq_nil_iff.1 k))
  exact ⟨b,off,cs,E,fz,h1,h2,fun i x hx=>h3 i _ (by rw [List.getElem?_map,hx];rfl)⟩
theorem wrap_add64 (x y:Int):IntKind.u64.wrap (IntKind.u64.wrap x+y)=IntKind.u64.wrap (x+y):=by rw [wrap_u64,wrap_u64,wrap_u64];omega
set_option maxHeartbeats 16000000 in
theorem coreWorks_ret (clock:Int) (xs:List Ac18) (sl:Value) (hc0:U64 clock) (hx:∀ a∈xs,a.In) (w0:World) (hL:LsX w0 5 sl (xs.map Ac18.cells)) (ht:Pows w0):Ret Tryz.prog 5 #[.int .u64 clock,sl] w0 fun v w'=>v = .bool true∧Only [] w0 w':=by
  have hL0:=hL
  obtain ⟨ad,cap,rfl,hD⟩:=hL
  rw [List.length_map] at hL0 ⊢
  have hs:=St.nil w0
  refine ret_of_xc Tryz.func5 (by kernel_rfl) rfl Tryz.ntmps5 rfl rfl rfl ?_
  repeat' (first|refine vs (k:=?_)|refine qRg ?_|refine Nx.h ?_|fail)
  (with_reducible apply xs_call);exact rfl;exact rfl;exact awake18_ret _ (tab_only ht (hs.only0 rfl))
  rintro v w' ⟨rfl,ho⟩;replace hs:=hs.call0 ho;repeat' (first|refine vs (k:=?_)|refine qRg ?_|refine Nx.h ?_|refine qCf ?_|fail)
  (with_reducible apply xs_call);exact rfl;exact rfl;exact light_ret xs _ hx _ (hL0.only (hs.only0 rfl))
  rintro v w1 ⟨⟨bl,rfl,hbl⟩,ho1⟩;replace hs:=hs.call0 ho1
  cases bl with
  | false =>
    repeat' (first|refine vs (k:=?_)|refine qRg ?_|refine Nx.h ?_|refine qCt ?_|fail)
    first | refine rt (hq:=?_) | refine rt' (hq:=?_)
    exact ⟨rfl,hs.only0 rfl⟩
  | true =>
  have hm:=hbl rfl
  repeat' (first|refine vs (k:=?_)|refine qRg ?_|refine Nx.h ?_|refine qCf ?_|fail)
  have hoB:=hs.only0 rfl
  (with_reducible apply xs_call);exact rfl;exact rfl;exact cnew_ret clock hc0 _
  rintro v w2 ⟨⟨cb,F1,rfl,hC1,hF1⟩,ho2⟩
  have hoA:=hoB.trans ho2
  have hzB:=hoB.size
  have hF1':∀ k∈F1,w0.heap.size≤k:=fun k hk=>by have:=hF1 k hk;omega
  clear hs
  have hs:=St.nil w2
  repeat' (first|refine vs (k:=?_)|refine qRg ?_|refine Nx.h ?_|fail)
  refine xc_cutB (fun (_:Unit)=>[]) (fun _ w=>Only [] w0 w) ?_ ?_
  · refine xc_loopS (fun (x:Nat × List Nat)=>[(5,.pointer (some ⟨cb,0,none⟩)),(25,.slice ad xs.length cap),(26,.int .i64 (xs.length:Nat)),(27,.int .i64 (x.1:Nat))])
      (fun x w=>x.1≤xs.length∧CAt w cb (actsC (newC clock) (xs.take x.1)) x.2∧(∀ k∈x.2,w0.heap.size≤k)∧Only [] w0 w∧InvC (actsC (newC clock) (xs.take x.1))) (fun x=>xs.length - x.1) (0,F1) (by (repeat (first | exact agree_nil | (apply agree_cons;exact rfl)))) ⟨Nat.zero_le _,hC1.only (hs.only0 rfl),hF1',hoA.trans (hs.only0 rfl),InvC.new clock⟩ fun x env wl ⟨hi,hC,hF,hoL,hI⟩=>?_
    obtain ⟨i,F⟩:=x
    simp only at hi hC hF hI
    clear hs
    have hs:=St.nil wl
    repeat' (first|refine vs (k:=?_)|refine qRg ?_|refine Nx.h ?_|(refine xc_if rfl (fun hc=>?_) (fun hc=>?_))|fail)
    · have hlt:i < xs.length:=by omega
      obtain ⟨b0,off,cs,E,fz,rfl,hb,hcs⟩:=hD (fun h=>by have:=congrArg List.length h;rw [List.length_map,List.length_nil] at this;omega)
      have hpk:=hcs i (Ac18.cells xs[i]) (by rw [List.getElem?_map,List.getElem?_eq_getElem hlt];rfl)
      have ei:=nx64 (m:=xs.length) hlt (by omega)
      have hq:=hx xs[i] (List.getElem_mem hlt)
      have eA:actsC (newC clock) (xs.take (i+1))=tryC (actsC (newC clock) (xs.take i)) (doC (actsC (newC clock) (xs.take i)) xs[i]).1 (doC (actsC (newC clock) (xs.take i)) xs[i]).2.1:=by rw [take_next hlt,actsC_snoc];rfl
      generalize xs[i]=q at *
      generalize actsC (newC clock) (xs.take i)=c at *
      have hRc:RepC c:=hC.repS
      have hI2:InvC (tryC c (doC c q).1 (doC c q).2.1):=inv_acts hRc hI q
      refine ix (h0:=(by omega)) (h1:=(by omega)) (k:=?_)
      refine lhK (vs:=q.cells) (hoL.block hb (by simp)) hpk (k:=?_)
      refine al hs (k:=?_);clear hs;intro b7 w3 hz3 hs
      refine stA hs (k:=?_);clear hs;intro w4 hs
      repeat' (first|refine vs (k:=?_)|refine qRg ?_|refine Nx.h ?_|fail)
      have ho4:=hs.only0 rfl
      have hC4:=hC.only ho4
      (with_reducible apply xs_call);exact rfl;exact rfl;exact crun_ret cb c F _ hC4
      rintro v w' ⟨rfl,ho⟩;replace hs:=hs.call0 ho;repeat' (first|refine vs (k:=?_)|refine qRg ?_|refine Nx.h ?_|fail)
      have ho6:=hs.only0 rfl
      have h7:=hs.get (b:=b7) (by repeat (first | exact At.head | (with_reducible apply At.tail)))
      have hz6:=ho6.size
      have hzo:=hoL.size
      have g7:=hs.new (b7,true) (by simp) rfl
      simp only at g7
      (with_reducible apply xs_call);exact rfl;exact rfl;exact act_ret cb c F q hq _ (hC.only ho6)
      rintro v w7 ⟨rv,rfl,T⟩
      obtain ⟨⟨vg,vp,Gg,Gp,rfl,p1,p2⟩,⟨F',hC7,hF7⟩,ho7⟩:=T
      obtain ⟨ag,cg,rfl⟩:=slv_form p1
      obtain ⟨ap,cp,rfl,hP⟩:=ls_pr p2
      have hoA7:Only [] w0 w7:=(hoL.trans ho6).step ho7 (fun k hk => .inr (by obtain rfl:=List.mem_singleton.1 hk;exact hF _ hC.mem))
      have n7:b7≠cb:=fun e=>by have:=hC.lt cb hC.mem;omega
      have k7:=ho7.block h7 (by simp [n7])
      have hF':∀ k∈F',w0.heap.size≤k:=fun k hk=>by
        rcases hF7 k hk with h | h
        · exact hF k h
        · omega
      have fp1:=fun h he hr=>parts_busy (c:=c) hq hRc hI h he hr
      have fp2:=fun h he hr=>parts_idle (c:=c) hq h he hr
      have fp3:=fun h=>parts_none (c:=c) (a:=q) h hq.1.1
      unfold partsOf at fp1 fp2 fp3
      have hnl:(tryR (doC c q).1 (doC c q).2.1 (doC c q).2.2).p.length < 9223372036854775807:=by
        have:(tryR (doC c q).1 (doC c q).2.1 (doC c q).2.2).p.length≤1099511627776:=by
          by_cases h:6 < q.d % 10
          · obtain ⟨s,hs⟩:=hRc
            have hb:=(tick_bounds hs q.ns).1
            unfold tryR
            split
            · rw [tickd hq h] at *
              show (tickC c q.ns).2.2.p.length≤_
              unfold tickC
              split
              · rename_i hcc
                have:=tick_parts (q.ns.toNat+1) q.ns c .none (by omega) hcc.2
                have e1:Rp.none.p.length=0:=rfl
                rw [e1] at this
                omega
              · exact Nat.zero_le _
            · exact Nat.zero_le _
          · rw [fp3 (by omega)];exact Nat.zero_le _
        omega
      generalize (tryR (doC c q).1 (doC c q).2.1 (doC c q).2.2).p=pl at *
      generalize (tryR (doC c q).1 (doC c q).2.1 (doC c q).2.2).g.length=ng at *
      generalize (doC c q).1=e at *
      generalize tryC c e (doC c q).2.1=c2 at *
      clear hs
      have hs:=(St.nil w7).trackT k7
      repeat' (first|refine vs (k:=?_)|(refine stA hs (k:=?_);intro w hs)|(refine al hs (k:=?_);intro b w hz hs)|refine qRg ?_|refine Nx.h ?_|fail)
      have h9:=hs.get (b:=b) (by repeat (first | exact At.head | (with_reducible apply At.tail)))
      have oP:=hs.onlyF [] (by simp [k7]) (by simp [D0])
      have k7':=oP.block k7 (by simp)
      refine xc_cutB (fun (_:Unit)=>[(5,.pointer (some ⟨cb,0,none⟩)),(7,.pointer (some ⟨b7,0,none⟩)),(8,.bool (c.run != 0)),(9,.pointer (some ⟨b,0,none⟩)),(10,.int .i64 e),(11,.int .u64 (IntKind.u64.wrap (allP pl))),(25,.slice (some ⟨b0,off,none⟩) xs.length cap),(26,.int .i64 (xs.length:Nat)),(27,.int .i64 (i:Nat))]) (fun _ w'=>Only [] w w') ?_ ?_
      · refine xc_loopS (fun (j:Nat)=>[(5,.pointer (some ⟨cb,0,none⟩)),(7,.pointer (some ⟨b7,0,none⟩)),(8,.bool (c.run != 0)),(9,.pointer (some ⟨b,0,none⟩)),(10,.int .i64 e),(11,.int .u64 (IntKind.u64.wrap (allP (pl.take j)))),(25,.slice (some ⟨b0,off,none⟩) xs.length cap),(26,.int .i64 (xs.length:Nat)),(27,.int .i64 (i:Nat)),(41,.slice ap pl.length cp),(42,.int .i64 (pl.length:Nat)),(43,.int .i64 (j:Nat))])
          (fun j w'=>j≤pl.length∧Only [] w w') (fun j=>pl.length - j) 0 (by (repeat (first | exact agree_nil | (apply agree_cons;exact rfl)))) ⟨Nat.zero_le _,Only.refl _ _⟩ fun j env wl ⟨hj,hol⟩=>?_
        clear hs
        have hs:=St.nil wl
        repeat' (first|refine vs (k:=?_)|refine qRg ?_|refine Nx.h ?_|(refine xc_if rfl (fun hc=>?_) (fun hc=>?_))|fail)
        · have hjl:j < pl.length:=by omega
          obtain ⟨bb,off2,cs2,E2,fz2,hab,hb2,hcs2⟩:=hP (List.ne_nil_of_mem (List.getElem_mem hjl))
          have hpk2:=hcs2 j pl[j] (List.getElem?_eq_getElem hjl)
          have ej:=nx64 (m:=pl.length) hjl (by omega)
          have et:=allP_take hjl
          generalize pl[j]=y at *
          rw [hab]
          refine ix (h0:=(by omega)) (h1:=(by omega)) (k:=?_)
          refine lhK (vs:=y.cells) ((oP.trans hol).block hb2 (by simp)) hpk2 (k:=?_)
          refine al hs (k:=?_);clear hs;intro b12 w12 hz12 hs
          refine stA hs (k:=?_);clear hs;intro w13 hs
          repeat' (first|refine vs (k:=?_)|refine qRg ?_|refine Nx.h ?_|fail)
          refine loopS_next (j+1) (by show pl.length - (j+1) < pl.length - j;omega) ?_ ⟨by show j+1≤_;omega,hol.trans (hs.only0 rfl)⟩
          have e11:IntKind.u64.wrap (IntKind.u64.wrap (allP (pl.take j))+y.ns)=IntKind.u64.wrap (allP (pl.take (j+1))):=by rw [wrap_add64,et]
          (repeat (first | exact agree_nil | (apply agree_cons;first | exact rfl | exact congrArg (Value.int .u64) e11 | exact congrArg (Value.int .i64) ej)))
        · have ej:j=pl.length:=by omega
          subst ej
          rw [List.take_length]
          exact cutB_exit () (by (repeat (first | exact agree_nil | (apply agree_cons;exact rfl)))) hol
      rintro _ env w9 ho9
      have m7:=ho9.block k7' (by simp)
      have m9:=ho9.block h9 (by simp)
      have hC9:=(hC7.only oP).only ho9
      have hoT:=(hoA7.trans oP).trans ho9
      clear hs
      have hs:=((St.nil w9).trackT m7).trackT m9
      have d0:=hq.1
      refine then_of ?_
      repeat (refine xc_seq ?_)
      refine xc_cutN (fun (_:Unit)=>[(5,.pointer (some ⟨cb,0,none⟩)),(25,.slice (some ⟨b0,off,none⟩) xs.length cap),(26,.int .i64 (xs.length:Nat)),(27,.int .i64 (i:Nat)),(88,.bool false)]) (fun _ w=>Only [] w9 w) ?_ ?_
      · refine xc_region ?_ ?_;exact rfl
        repeat' (first|refine vs (k:=?_)|fail)
        refine rem8 (b:=10) d0.1 (by decide) (k:=?_)
        refine vs (k:=?_)
        by_cases g6:6 < q.d % 10
        · rw [show decide (6 < q.d % 10)=true from decide_eq_true g6]
          by_cases he:e=0
          · subst he
            by_cases hr:c.run=0
            · rw [show (c.run != 0)=false by simpa using hr,fp2 g6 rfl hr]
              repeat' (first|refine vs (k:=?_)|refine ps (k:=?_)|fail)
              refine rem8 (b:=10) d0.1 (by decide) (k:=?_)
              repeat' (first|refine vs (k:=?_)|refine ps (k:=?_)|refine Nx.h ?_|((with_reducible apply xs_guard);exact rfl;exact rfl;intro c hc;(fail_if_success have:true=c:=hc);(fail_if_success have:false=c:=hc);cases c)|fail)
              all_goals first | (exact absurd hc (by simp;omega)) | exact cutN_normal () (by (repeat (first | exact agree_nil | (apply agree_cons;exact rfl)))) (hs.onlyF [] (by simp [m7,m9]) (by simp [D0]))
            · rw [show (c.run != 0)=true by simpa using hr,fp1 g6 rfl hr,u64_id hq.2.2.2.1]
              repeat' (first|refine vs (k:=?_)|refine ps (k:=?_)|refine Nx.h ?_|((with_reducible apply xs_guard);exact rfl;exact rfl;intro c hc;(fail_if_success have:true=c:=hc);(fail_if_success have:false=c:=hc);cases c)|fail)
              · refine rem8 (b:=10) d0.1 (by decide) (k:=?_)
                repeat' (first|refine vs (k:=?_)|refine ps (k:=?_)|refine Nx.h ?_|((with_reducible apply xs_guard);exact rfl;exact rfl;intro c hc;(fail_if_success have:true=c:=hc);(fail_if_success have:false=c:=hc);cases c)|fail)
                all_goals first | (exact absurd hc (by simp;omega)) | exact cutN_normal () (by (repeat (first | exact agree_nil | (apply agree_cons;exact rfl)))) (hs.onlyF [] (by simp [m7,m9]) (by simp [D0]))
              · exact absurd hc (by simp)
          · iterate 3 refine vs (k:=?_)
            rw [show (e == 0)=false by simpa using he]
            repeat' (first|refine vs (k:=?_)|refine ps (k:=?_)|fail)
            refine rem8 (b:=10) d0.1 (by decide) (k:=?_)
            repeat' (first|refine vs (k:=?_)|refine ps (k:=?_)|refine Nx.h ?_|((with_reducible apply xs_guard);exact rfl;exact rfl;intro c hc;(fail_if_success have:true=c:=hc);(fail_if_success have:false=c:=hc);cases c)|fail)
            all_goals first | (exact absurd hc (by simp;omega)) | exact cutN_normal () (by (repeat (first | exact agree_nil | (apply agree_cons;exact rfl)))) (hs.onlyF [] (by simp [m7,m9]) (by simp [D0]))
        · rw [show decide (6 < q.d % 10)=false from decide_eq_false g6]
          have ep:=fp3 (by omega)
          subst ep
          repeat' (first|refine vs (k:=?_)|refine ps (k:=?_)|fail)
          refine rem8 (b:=10) d0.1 (by decide) (k:=?_)
          refine vs (k:=?_)
          rw [show decide (q.d % 10 < 7)=true from decide_eq_true (by omega)]
          repeat' (first|refine vs (k:=?_)|refine Nx.h ?_|fail)
          exact cutN_normal () (by (repeat (first | exact agree_nil | (apply agree_cons;exact rfl)))) (hs.onlyF [] (by simp [m7,m9]) (by simp [D0]))
      rintro _ env w10 ho10
      have hC10:=hC9.only ho10
      obtain ⟨sb,qb,mb,Fs,eF,p1',p2',hS1,hQ1,ms1⟩:=hC10.opn
      have hRn:=hI2.runs
      have hA32:c2.A.l.length≤32:=by obtain ⟨s,h⟩:=hS1.rep;exact h.le
      have hrr:In64 c2.run:=by obtain ⟨_,_,_,_,_,_,hr⟩:=hC10;exact hr
      clear hs
      have hs:=((St.nil w10).trackT p1').trackT p2'
      repeat' (first|refine Nx.h ?_|refine qCf ?_|fail)
      refine dr [] hs (k:=?_);intro hX w hs
      refine tk 0 hX (k:=?_)
      refine tk 3 hX (k:=?_)
      refine tk 4 hX (k:=?_)
      refine tk 5 hX (k:=?_)
      refine tk 6 hX (k:=?_)
      refine dt 1 hX (k:=?_)
      have hoa:=hs.onlyF [] (by simp [p1',p2']) (by simp [D0])
      (with_reducible apply xs_call);exact rfl;exact rfl;exact crun_ret cb c2 F' _ (hC10.only hoa)
      rintro v8 w8 ⟨rfl,hob⟩;replace hs:=hs.call0 hob
      refine XS.nil ?_
      refine dn (k:=?_)
      refine tk 2 hX (k:=?_)
      refine dt 7 hX (k:=?_)
      have hoa:=hs.onlyF [] (by simp [p1',p2']) (by simp [D0])
      (with_reducible apply xs_call);exact rfl;exact rfl;exact arunnable_ret sb c2.A Fs _ (hS1.only hoa)
      rintro v8 w8 ⟨rfl,hob⟩;replace hs:=hs.call0 hob
      refine XS.nil ?_
      refine dn (k:=?_)
      refine tk 8 hX (k:=?_)
      by_cases hr:c2.run=0
      · have hnil:=hRn.2 hr
        have hrn:¬ 0 < runN c2.A.l:=fun h=>hRn.1.2 h hr
        have hln:c2.A.l.length=0:=by rw [hnil];rfl
        refine xa_set 91 (v := .bool false) (congrArg Value.bool (show (c2.run != 0)=false by simpa using hr)) ?_
        refine xa_set 97 (v := .bool false) (congrArg Value.bool (show decide (0 < ((runN c2.A.l:Nat):Int))=false by simp;omega)) ?_
        refine tk 9 hX (k:=?_)
        refine tk 10 hX (k:=?_)
        refine tk 11 hX (k:=?_)
        refine dt 12 hX (k:=?_)
        have hoa:=hs.onlyF [] (by simp [p1',p2']) (by simp [D0])
        (with_reducible apply xs_call);exact rfl;exact rfl;exact crun_ret cb c2 F' _ (hC10.only hoa)
        rintro v8 w8 ⟨rfl,hob⟩;replace hs:=hs.call0 hob
        refine XS.nil ?_
        refine dn (k:=?_)
        refine tk 13 hX (k:=?_)
        refine xa_set 102 (v := .bool true) (congrArg Value.bool (show (c2.run == 0)=true by simpa using hr)) ?_
        refine tk 14 hX (k:=?_)
        refine tk 15 hX (k:=?_)
        refine tk 16 hX (k:=?_)
        refine tk 17 hX (k:=?_)
        refine tk 18 hX (k:=?_)
        refine tk 19 hX (k:=?_)
        refine tk 20 hX (k:=?_)
        refine tk 21 hX (k:=?_)
        refine dt 22 hX (k:=?_)
        have hoa:=hs.onlyF [] (by simp [p1',p2']) (by simp [D0])
        (with_reducible apply xs_call);exact rfl;exact rfl;exact alen_ret qb c2.A _ (hQ1.only hoa)
        rw [hln]
        rintro v8 w8 ⟨rfl,hob⟩;replace hs:=hs.call0 hob
        refine XS.nil ?_
        refine dn (k:=?_)
        refine tk 23 hX (k:=?_)
        refine tk 24 hX (k:=?_)
        refine tk 25 hX (k:=?_)
        refine en (k:=?_)
        repeat' (first|refine vs (k:=?_)|refine qRg ?_|refine Nx.h ?_|refine qCf ?_|fail)
        have hoa:=hs.onlyF [] (by simp [p1',p2']) (by simp [D0])
        (with_reducible apply xs_call);exact rfl;exact rfl;exact crun_ret cb c2 F' _ (hC10.only hoa)
        rw [hr]
        rintro v w' ⟨rfl,ho⟩;replace hs:=hs.call0 ho;repeat' (first|refine vs (k:=?_)|refine qRg ?_|refine Nx.h ?_|refine qCt ?_|fail)
        have hoz:=hs.onlyF [] (by simp [p1',p2']) (by simp [D0])
        refine loopS_next (i+1,F') (by show xs.length - (i+1) < xs.length - i;omega) (by (repeat (first | exact agree_nil | (apply agree_cons;first | exact rfl | exact congrArg (Value.int .i64) ei)))) ⟨by show i+1≤_;omega,by show CAt _ cb (actsC (newC clock) (xs.take (i+1))) F';rw [eA];exact hC10.only hoz,hF',(hoT.trans ho10).trans hoz,by show InvC (actsC (newC clock) (xs.take (i+1)));rw [eA];exact hI2⟩
      · obtain ⟨a,ha,era,hpos,haw,hov⟩:∃ a∈c2.A.l,c2.run=idR a∧0 < idR a∧a.1.asleep=false∧0≤ovA c2.A a:=by
          rcases hI2 with ⟨h1,_⟩ | h
          · exact absurd h1 hr
          · exact h
        obtain ⟨s,hrep⟩:=hS1.rep
        have hf:findR c2.A.l c2.run=some a:=by rw [era];exact findR_at hrep.o ha
        have hg:getL c2.A.l c2.run=a.1:=by unfold getL;rw [hf]
        have how:owedA c2.A c2.run=cmpI (ovA c2.A a) 0:=by unfold owedA;rw [hf]
        have how0:0≤owedA c2.A c2.run:=by rw [how];exact cmp_nonneg.2 hov
        refine xa_set 91 (v := .bool true) (congrArg Value.bool (show (c2.run != 0)=true by simpa using hr)) ?_
        refine xa_set 97 (v := .bool true) (congrArg Value.bool (show decide (0 < ((runN c2.A.l:Nat):Int))=true by have:=hRn.1.1 hr;simp;omega)) ?_
        refine tk 9 hX (k:=?_)
        refine tk 10 hX (k:=?_)
        refine tk 11 hX (k:=?_)
        refine dt 12 hX (k:=?_)
        have hoa:=hs.onlyF [] (by simp [p1',p2']) (by simp [D0])
        (with_reducible apply xs_call);exact rfl;exact rfl;exact crun_ret cb c2 F' _ (hC10.only hoa)
        rintro v8 w8 ⟨rfl,hob⟩;replace hs:=hs.call0 hob
        refine XS.nil ?_
        refine dn (k:=?_)
        refine tk 13 hX (k:=?_)
        refine xa_set 102 (v := .bool false) (congrArg Value.bool (show (c2.run == 0)=false by simpa using hr)) ?_
        refine tk 14 hX (k:=?_)
        refine pt 15 hX (k:=?_)
        refine pt 16 hX (k:=?_)
        refine pt 17 hX (k:=?_)
        refine pt 18 hX (k:=?_)
        refine pt 19 hX (k:=?_)
        refine pt 20 hX (k:=?_)
        refine pt 21 hX (k:=?_)
        refine pt 22 hX (k:=?_)
        refine pt 23 hX (k:=?_)
        refine tk 24 hX (k:=?_)
        refine tk 25 hX (k:=?_)
        refine en (k:=?_)
        repeat' (first|refine vs (k:=?_)|refine qRg ?_|refine Nx.h ?_|refine qCf ?_|fail)
        have hoa:=hs.onlyF [] (by simp [p1',p2']) (by simp [D0])
        (with_reducible apply xs_call);exact rfl;exact rfl;exact crun_ret cb c2 F' _ (hC10.only hoa)
        rintro v w' ⟨rfl,ho⟩;replace hs:=hs.call0 ho;repeat' (first|refine vs (k:=?_)|refine qRg ?_|refine Nx.h ?_|(refine xc_if rfl (fun hc=>?_) (fun hc=>?_))|fail)
        · exact absurd (by simpa using hc) hr
        refine dr [] hs (k:=?_);intro hX w hs
        refine tk 0 hX (k:=?_)
        refine tk 1 hX (k:=?_)
        refine tk 2 hX (k:=?_)
        refine tk 3 hX (k:=?_)
        refine tk 4 hX (k:=?_)
        refine pd0 10 14 hs (k:=?_);intro f X w hp;have hs:=hp.st
        apply xa_pend 5 10 (f:=f) (X:=X) hX hp;exact rfl;exact rfl;(apply makes_alloc tabOk;exact rfl);kernel_rfl;kernel_rfl;kernel_rfl;kernel_rfl;(intro X Y;(repeat (first | exact pgg_base | refine pgg_step ?_ (by exact rfl))));(intro w' hs;first|exact se_hold hs.hold|exact se_hold hs.hold.tail|exact se_done rfl);intro f X w hp;have hs:=hp.st
        have hoa:=hs.onlyF [] (by simp [p1',p2']) (by simp [D0])
        (with_reducible apply xs_call);exact rfl;exact rfl;exact crun_ret cb c2 F' _ (hC10.only hoa)
        rintro v w' ⟨rfl,ho⟩;replace hp:=hp.only ho;replace hs:=hp.st;repeat' (first|refine Nx.h ?_|fail)
        refine dn (k:=?_)
        apply xa_pend 6 10 (f:=f) (X:=X) hX hp;exact rfl;exact rfl;(apply makes_alloc tabOk;exact rfl);kernel_rfl;kernel_rfl;kernel_rfl;kernel_rfl;(intro X Y;(repeat (first | exact pgg_base | refine pgg_step ?_ (by exact rfl))));(intro w' hs;first|exact se_hold hs.hold|exact se_hold hs.hold.tail|exact se_done rfl);intro f X w hp;have hs:=hp.st
        have hoa:=hs.onlyF [] (by simp [p1',p2']) (by simp [D0])
        (with_reducible apply xs_call);exact rfl;exact rfl;exact areq_ret sb c2.A Fs c2.run _ (hS1.only hoa) hrr
        rw [hg,hf]
        rintro v w' ⟨rfl,ho⟩;replace hp:=hp.only ho;replace hs:=hp.st;repeat' (first|refine Nx.h ?_|fail)
        refine dn (k:=?_)
        refine tk 7 hX (hc:=by cases f <;> kernel_rfl) (k:=?_)
        refine tk 8 hX (hc:=by cases f <;> kernel_rfl) (k:=?_)
        refine tk 9 hX (hc:=by cases f <;> kernel_rfl) (k:=?_)
        apply xa_pendE 10 (f:=f) (X:=X) hX hp;exact rfl;(apply makes_alloc tabOk;exact rfl);kernel_rfl;kernel_rfl;(intro X Y;(repeat (first | exact pgg_base | refine pgg_step ?_ (by exact rfl))));(intro w' hs;first|exact se_hold hs.hold|exact se_hold hs.hold.tail|exact se_done rfl);intro b w hI hs
        refine dt 11 hX (k:=?_)
        repeat' (first|(refine stA hs (k:=?_);intro w hs)|refine Nx.h ?_|fail)
        refine dn (k:=?_)
        refine tk 12 hX (k:=?_)
        refine en (k:=?_)
        repeat' (first|refine Nx.h ?_|fail)
        refine dr [] hs (k:=?_);intro hX w hs
        refine tk 0 hX (k:=?_)
        refine tk 1 hX (k:=?_)
        refine tk 2 hX (k:=?_)
        refine tk 3 hX (k:=?_)
        refine tk 4 hX (k:=?_)
        refine tk 5 hX (k:=?_)
        refine tk 6 hX (k:=?_)
        refine tk 7 hX (k:=?_)
        refine dt 8 hX (k:=?_)
        have hoa:=hs.onlyF [] (by simp [p1',p2']) (by simp [D0])
        (with_reducible apply xs_call);exact rfl;exact rfl;exact crun_ret cb c2 F' _ (hC10.only hoa)
        rintro v w' ⟨rfl,ho⟩;replace hs:=hs.call0 ho;repeat' (first|refine Nx.h ?_|fail)
        refine dn (k:=?_)
        refine dt 9 hX (k:=?_)
        have hoa:=hs.onlyF [] (by simp [p1',p2']) (by simp [D0])
        (with_reducible apply xs_call);exact rfl;exact rfl;exact aowed_ret qb c2.A c2.run _ (hQ1.only hoa) hrr
        rw [hf]
        rintro v w' ⟨rfl,ho⟩;replace hs:=hs.call0 ho;repeat' (first|refine Nx.h ?_|fail)
        refine dn (k:=?_)
        refine tk 10 hX (k:=?_)
        refine tk 11 hX (k:=?_)
        refine tk 12 hX (k:=?_)
        refine tk 13 hX (k:=?_)
        refine tk 14 hX (k:=?_)
        refine en (k:=?_)
        have hoz:=hs.onlyF [] (by simp [p1',p2']) (by simp [D0])
        repeat' (first|refine vs (k:=?_)|refine ps (k:=?_)|refine qRg ?_|refine Nx.h ?_|refine qCt ?_|((with_reducible apply xs_guard);exact rfl;exact rfl;intro c hc;(fail_if_success have:true=c:=hc);(fail_if_success have:false=c:=hc);cases c)|(refine xc_if rfl (fun hc=>?_) (fun hc=>?_))|fail)
        all_goals first
          | (exact absurd hc (by rw [haw];decide))
          | (exact absurd hc (by simp;omega))
          | (exact loopS_next (i+1,F') (by show xs.length - (i+1) < xs.length - i;omega) (by (repeat (first | exact agree_nil | (apply agree_cons;first | exact rfl | exact congrArg (Value.int .i64) ei)))) ⟨by show i+1≤_;omega,by show CAt _ cb (actsC (newC clock) (xs.take (i+1))) F';rw [eA];exact hC10.only hoz,hF',(hoT.trans ho10).trans hoz,by show InvC (actsC (newC clock) (xs.take (i+1)));rw [eA];exact hI2⟩)
    · exact cutB_exit () (by (repeat (first | exact agree_nil | (apply agree_cons;exact rfl)))) hoL
  · rintro _ env w ho
    clear hs
    have hs:=St.nil w
    repeat' (first|refine vs (k:=?_)|refine qRg ?_|refine Nx.h ?_|fail)
    first | refine rt (hq:=?_) | refine rt' (hq:=?_)
    exact ⟨rfl,ho.trans (hs.only0 rfl)⟩
end Go.Proofs.YtkbcfknnieggbaaGreatDoorX

namespace Go.Proofs.YtkbcfknnieggbaaGreatDoorX
open Go Go.RowKit Go.ChangeShapes Go.WideShapes Go.ChangeAt
set_option maxRecDepth 100000 in
theorem coreWorks_lifted (os:Os) (started:os.Started) (H:Type) (enc:TypeId × Value→H) :
    ReturnsInHanded {} Tryz.checked os 5 .any (fun w args => (YtkbcfknnieggbaaGreatDoor.Rows.coreWorksSpec.pre enc Tryz.prog Tryz.f5 [] false w args ∧ laidMetH Tryz.prog [("math/bits.deBruijn32tab", YtkbcfknnieggbaaGreatDoor.Rows.laid_math_bits_deBruijn32tab), ("math/bits.deBruijn64tab", YtkbcfknnieggbaaGreatDoor.Rows.laid_math_bits_deBruijn64tab), ("internal/strconv.uint64pow10", YtkbcfknnieggbaaGreatDoor.Rows.laid_internal_strconv_uint64pow10)] w) ∧ sizedMet enc Tryz.prog Tryz.f5 (OpenSpec.ofChange YtkbcfknnieggbaaGreatDoor.Rows.coreWorksSpec) false w args) (YtkbcfknnieggbaaGreatDoor.Rows.coreWorksSpec.post enc Tryz.prog Tryz.f5 false true false false) := by
  refine returnsInHanded_of_change_and (C := Tryz.checked) (X := fun w _ => laidMetH Tryz.prog [("math/bits.deBruijn32tab", YtkbcfknnieggbaaGreatDoor.Rows.laid_math_bits_deBruijn32tab), ("math/bits.deBruijn64tab", YtkbcfknnieggbaaGreatDoor.Rows.laid_math_bits_deBruijn64tab), ("internal/strconv.uint64pow10", YtkbcfknnieggbaaGreatDoor.Rows.laid_internal_strconv_uint64pow10)] w) (fun _ _ _ hh h => h.of_heap hh) own started (by kernel_rfl) Tryz.func5
    (ChangeSpec.witness_shaped (enc := enc) (C := Tryz.checked) (os := os) (X := fun w _ => laidMetH Tryz.prog [("math/bits.deBruijn32tab", YtkbcfknnieggbaaGreatDoor.Rows.laid_math_bits_deBruijn32tab), ("math/bits.deBruijn64tab", YtkbcfknnieggbaaGreatDoor.Rows.laid_math_bits_deBruijn64tab), ("internal/strconv.uint64pow10", YtkbcfknnieggbaaGreatDoor.Rows.laid_internal_strconv_uint64pow10)] w) false (World.doorLaid Tryz.prog 24 os) #[.int .u64 0, .slice none 0 0] 8 rfl (World.shaped_of_RefB (by kernel_rfl) (by kernel_rfl)) (by kernel_rfl) (by kernel_rfl) (by kernel_rfl) (door_met os _)) ?_
  intro W base args ds gs before hval0 hW hcnd hsz0 hL _
  have hP:=pows_of hL
  have hval:∀ (j:Nat) t v,Tryz.f5.params[j]?=some t→args[j]?=some v→Value.okWide Tryz.prog W .any base t v:=hval0
  have hW':=hW
  obtain ⟨p,q,hA0,hV,rfl,hfz,hnd⟩:=hW
  have hA:DataW.TrodAll enc Tryz.prog W 0 (fun _=>true) true Tryz.f5.params.toList args.toList ds p:=hA0
  rw [Tryz.params5] at hA hval
  obtain ⟨v0,vs0,d0,ds0,p0,q0,hargs,rfl,rfl,h0,r0⟩:=trodAll_cons hA
  obtain ⟨v1,vs1,d1,ds1,p1,q1,rfl,rfl,rfl,h1,r1⟩:=trodAll_cons r0
  obtain ⟨rfl,rfl,rfl⟩:=trodAll_nil r1
  obtain rfl:args=#[v0,v1]:=by cases args;simp_all
  obtain ⟨rfl,rfl⟩:=trodVars_none hV
  have lt0:∀ x∈p0,x.block < W.heap.size:=by obtain ⟨m,hm⟩:=h0;exact DataW.trod_lt m _ _ _ hm
  have k0:=h0
  obtain ⟨x0,rfl,_,_,w0⟩:=open_int (t:=22) (k := .u64) (by kernel_rfl) (hval 0 _ v0 rfl rfl) k0
  have b0:(0:Int)≤x0∧x0 < 18446744073709551616:=by
    have h:=int_of w0
    have e1:IntKind.u64.min=0:=rfl
    have e2:IntKind.u64.max=18446744073709551615:=rfl
    omega
  have lt1:∀ x∈p1,x.block < W.heap.size:=by obtain ⟨m,hm⟩:=h1;exact DataW.trod_lt m _ _ _ hm
  have k1:=h1
  obtain ⟨x1,hw1,hx1⟩:=open_acts18 (hval 1 _ v1 rfl rfl) k1
  clear hA0 hval0 hsz0
  refine (ret_calls (by kernel_rfl) (coreWorks_ret x0 x1 v1 b0 hx1 W hw1 hP)).mono fun e W' ⟨v,he,hv,ho⟩=>?_
  subst he hv
  have bel:=ho.below
  exact ⟨_,rfl,_,_,_,[],_,[],hW',trodAll_mk1 (shut_bool (by kernel_rfl) _),(trodAll_cons_mk (Below.trod laidOut (by kernel_rfl) (of_decide_eq_true (by kernel_rfl)) h0 bel lt0) (trodAll_cons_mk (Below.trod laidOut (by kernel_rfl) (of_decide_eq_true (by kernel_rfl)) h1 bel lt1) trodAll_mk0)),rfl,bel.frame _,fun h=>by cases h⟩
end Go.Proofs.YtkbcfknnieggbaaGreatDoorX
namespace Go.Proofs.YtkbcfknnieggbaaGreatDoor
open Go Go.RowKit Go.ChangeShapes Go.WideShapes Go.ChangeAt
theorem coreWorks_nm : Tryz.prog.funcNamed "turnstone/turnstonelaw18.CoreWorks" = some 5 := by kernel_rfl
theorem coreWorks_ip:(Rows.coreWorksRow.inPlace == Tryz.prog.inPlace 5)=true:=by kernel_rfl
theorem coreWorks_un:(Rows.coreWorksRow.unfollowed == Tryz.prog.unfollowed 5)=true:=by kernel_rfl
theorem coreWorks_rc:(Rows.coreWorksRow.recurses == Tryz.prog.recurses 5)=true:=by kernel_rfl
theorem coreWorks_nd:(Rows.coreWorksRow.named == Tryz.prog.varsNamed 5)=true:=by kernel_rfl
theorem coreWorks_holds:Rows.CoreWorksSaid :=
  OpenClaim.holds_of_wide 5 Tryz.f5 rfl rfl rfl rfl rfl rfl rfl ⟨rfl,rfl,rfl,rfl,rfl⟩ rfl rfl rfl rfl rfl coreWorks_nm Tryz.func5
    (by unfold joinedFacts;exact (and_mk (and_mk (and_mk (and_mk (and_mk (and_mk (and_mk (and_mk (and_mk (and_mk (and_mk (and_mk (and_mk (and_mk (and_mk (and_mk (and_mk (and_mk (and_mk (and_mk (and_mk (and_mk (and_mk (and_mk (and_mk (and_mk (and_mk (and_mk (and_mk (and_mk (and_mk (by kernel_rfl) pf_laid) pf_maps) (by kernel_rfl)) (by kernel_rfl)) (by kernel_rfl)) (by kernel_rfl)) (by kernel_rfl)) (by kernel_rfl)) coreWorks_ip) coreWorks_un) coreWorks_rc) coreWorks_nd) (by kernel_rfl)) (by kernel_rfl)) (by kernel_rfl)) (by kernel_rfl)) (by kernel_rfl)) (by kernel_rfl)) (by kernel_rfl)) (by kernel_rfl)) (by kernel_rfl)) pf_keys) (by kernel_rfl)) pf_heard) pf_enter) pf_lift) pf_make) (by kernel_rfl)) (by kernel_rfl)) (by kernel_rfl)) (by kernel_rfl)))
    (of_decide_eq_true (by kernel_rfl)) (by unfold Func.isWrapper;first | (rw [if_pos (by decide +kernel)];kernel_rfl) | (rw [if_neg (by decide +kernel)];exact ⟨rfl,rfl⟩))
    (fun os started H enc _=>YtkbcfknnieggbaaGreatDoorX.coreWorks_lifted os started H enc)
theorem coreWorks_w:Rows.coreWorksRow.wfByText (OpenSpec.ofChange Rows.coreWorksSpec)=true:=by kernel_rfl
theorem coreWorks_mn:Tryz.prog.mainIs=some (Rows.coreWorksCard.stood.harness.1,Rows.coreWorksCard.stood.harness.2.toList):=by kernel_rfl
theorem coreWorks_lk:Rows.coreWorksCard.stood.looks=Tryz.prog.looks []:=by kernel_rfl
theorem coreWorks_gs:false=Rows.coreWorksRow.goesBy Tryz.prog:=by kernel_rfl
theorem coreWorks_card:Rows.CoreWorksCardSaid :=
  Claim7.holds_tied_plain_at .later [] [.data,.data,.data] true Rows.coreWorksCard.stood.harness Rows.coreWorksCard.stood.looks
    coreWorks_holds (fun _ h=>by cases h) coreWorks_w (fun _ h=>by cases h) coreWorks_row_tie rfl ⟨rfl,rfl⟩ coreWorks_mn rfl
    (fun f fn hf hfn=>by
      obtain rfl:f=5:=Option.some.inj (coreWorks_nm.symm.trans hf) |>.symm
      obtain rfl:fn=Tryz.f5:=(Option.some.inj (Tryz.func5.symm.trans hfn)).symm
      exact ⟨coreWorks_lk,fun j t ht=>by
        rw [Tryz.params5] at ht
        have hm:t∈[22,62]:=by simpa using Array.mem_of_getElem? ht
        have hall:([22,62].all fun u=>!Tryz.prog.wantsStandIn u)=true:=by kernel_rfl
        exact (show Tryz.prog.wantsStandIn t=false by simpa using List.all_eq_true.1 hall t hm)⟩)
    coreWorks_gs
end Go.Proofs.YtkbcfknnieggbaaGreatDoor
