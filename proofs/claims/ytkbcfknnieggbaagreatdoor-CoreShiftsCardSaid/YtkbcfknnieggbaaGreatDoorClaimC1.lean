/- Proved: law18.CoreShifts returns true for every two clocks and every slice of acts, and its arguments read as before; no conditions -/
import Derived.Test.YtkbcfknnieggbaaGreatDoorBaseU10
import Derived.Test.YtkbcfknnieggbaaGreatDoorCards
import Derived.SevenTiedAt
set_option linter.unusedVariables false
set_option linter.unusedSimpArgs false
set_option maxRecDepth 100000
namespace Go.Proofs.YtkbcfknnieggbaaGreatDoorX
open Go Go.RowKit
attribute [local irreducible] XS XC XA thenE blockE retE loopE loopS cutB cutN doneE SE
theorem neWd (x:Int):(!(cellEq (.int .i64 (x / 18446744073709551616)) (.int .i64 (x / 18446744073709551616)) && cellEq (.int .u64 (x % 18446744073709551616)) (.int .u64 (x % 18446744073709551616))))=false:=by
  show (!((x / 18446744073709551616 == x / 18446744073709551616) && (x % 18446744073709551616 == x % 18446744073709551616)))=false
  simp
theorem ls_rq {w:World} {v:Value} {l:List RT} {G:List Nat} (h:SlV w 51 10 v l.length (flatR l) G):∃ ad cap,v = .slice ad l.length cap∧(l≠[]→∃ (b off:Nat) (cs:List Value) (E:TypeId) (fz:Nat × Nat),ad=some ⟨b,off,none⟩∧w.heap[b]?=some (.cells cs.toArray E fz)∧∀ (i:Nat) (x:RT),l[i]?=some x→Pick cs (off+i*10) 10 x.1.cells):=by
  obtain ⟨ad,cap,rfl,hD⟩:=(rs_rq h).x
  refine ⟨ad,cap,by rw [List.length_map,List.length_map],fun hn=>?_⟩
  obtain ⟨b,off,cs,E,fz,h1,h2,h3⟩:=hD (fun k=>hn (List.map_eq_nil_iff.1 (List.map_eq_nil_iff.1 k)))
  exact ⟨b,off,cs,E,fz,h1,h2,fun i x hx=>h3 i _ (by rw [List.getElem?_map,List.getElem?_map,hx];rfl)⟩
end Go.Proofs.YtkbcfknnieggbaaGreatDoorX

namespace Go.Proofs.YtkbcfknnieggbaaGreatDoorX
open Go Go.RowKit
theorem tickd {c:Cs} {a:Ac18} (ha:a.In) (h:6 < a.d % 10):doC c a=tickC c a.ns:=by
  unfold doC
  rw [if_neg (by omega),if_neg (by omega),if_neg (by omega),if_neg (by omega),if_neg (by omega),if_neg (by omega)]
def partsOf (c:Cs) (a:Ac18):List Pr:=(tryR (doC c a).1 (doC c a).2.1 (doC c a).2.2).p
theorem parts_none {c:Cs} {a:Ac18} (h:a.d % 10≤6) (hd:0≤a.d):partsOf c a=[]:=by
  unfold partsOf tryR
  split
  · show (doC c a).2.2.p=[]
    unfold doC
    by_cases c1:a.d % 10 < 2
    · rw [if_pos c1];rfl
    rw [if_neg c1]
    by_cases c2:a.d % 10=2
    · rw [if_pos c2];rfl
    rw [if_neg c2]
    by_cases c3:a.d % 10=3
    · rw [if_pos c3];rfl
    rw [if_neg c3]
    by_cases c4:a.d % 10=4
    · rw [if_pos c4];rfl
    rw [if_neg c4]
    by_cases c5:a.d % 10=5
    · rw [if_pos c5];rfl
    rw [if_neg c5]
    by_cases c6:a.d % 10=6
    · rw [if_pos c6];rfl
    omega
  · rfl
end Go.Proofs.YtkbcfknnieggbaaGreatDoorX

namespace Go.Proofs.YtkbcfknnieggbaaGreatDoorX
open Go Go.RowKit
attribute [local irreducible] XS XC XA thenE blockE retE loopE loopS cutB cutN doneE SE
end Go.Proofs.YtkbcfknnieggbaaGreatDoorX

namespace Go.Proofs.YtkbcfknnieggbaaGreatDoorX
open Go Go.RowKit
open IB (IT flatT)
attribute [local irreducible] XS XC XA thenE blockE retE loopE loopS cutB cutN doneE SE
theorem pick_at2 {cs:List Value} {off m:Nat} {vs:List Value} (h:Pick cs off m vs):∀ (j:Nat) v,vs[j]?=some v→cs[off+j]?=some v:=by
  induction h with
  | nil=>intro j v e;simp at e
  | @cons off m v vs h1 _ ih =>
    intro j u e
    cases j with
    | zero=>simp at e;subst e;exact h1
    | succ j =>
      have:=ih j u (by simpa using e)
      rw [show off+(j+1)=off+1+j by omega];exact this
theorem aspread_ret (qb:Nat) (A:As) (w0:World) (h:QuAt w0 qb A):Ret Tryz.prog 39 #[.pointer (some ⟨qb,0,none⟩)] w0 fun v w'=>v = .int .u64 (spr (nowA A) (its A.l))∧Only [] w0 w':=by
  obtain ⟨s,F,h1,h2⟩:=h
  have hsm:=h2.small
  have hs:=St.nil w0
  refine ret_of_xc Tryz.func39 (by kernel_rfl) rfl Tryz.ntmps39 rfl rfl rfl ?_
  repeat' (first|refine vs (k:=?_)|refine qRg ?_|refine Nx.h ?_|fail)
  (with_reducible apply xs_call);exact rfl;exact rfl;exact anow_ret qb A _ ⟨s,F,h1.only (hs.only0 rfl),h2⟩
  rintro v w' ⟨rfl,ho⟩;replace hs:=hs.call0 ho;repeat' (first|refine vs (k:=?_)|fail)
  (with_reducible apply xs_call);exact rfl;exact rfl;exact qitems_ret qb s.q F _ (h1.only (hs.only0 rfl)) (by omega)
  rintro v w1 ⟨⟨G,hG,_⟩,ho1⟩;replace hs:=hs.call0 ho1
  skip
  have hI:ItsAt w1 v (plain s.q.t.list):=SlV.ls hG (xs:=(plain s.q.t.list).map It.cells) (by unfold flatT plain;rw [List.map_map];rfl) (by rw [List.length_map];unfold plain;rw [List.length_map]) (fun x hx=>by obtain ⟨y,_,rfl⟩:=List.mem_map.1 hx;rfl)
  (with_reducible apply xs_call);exact rfl;exact rfl;exact spread_ret (nowA A) (plain s.q.t.list) v (by unfold plain;rw [List.length_map];omega) _ hI
  rw [spr_mem (l':=its A.l) (fun x=>h2.pits.mem_iff)]
  rintro v w' ⟨rfl,ho⟩;replace hs:=hs.call0 ho;repeat' (first|refine vs (k:=?_)|refine Nx.h ?_|fail)
  first | refine rt (hq:=?_) | refine rt' (hq:=?_)
  exact ⟨rfl,hs.only0 rfl⟩
theorem aspr_sh (t:Int) (A:As):spr (nowA (shA t A)) (its (shA t A).l)=spr (nowA A) (its A.l):=by
  rw [now_sh]
  show spr (lat (nowA A) t) (its (shL t A.l))=_
  rw [its_sh,spr_sh]
theorem diff_sh {n c o:Int} (hn:U64 n):IntKind.u64.wrap (lat n (IntKind.u64.wrap (o - c)) - n)=IntKind.u64.wrap (o - c):=by
  rw [wrap_u64,wrap_u64]
  unfold lat
  unfold U64 at hn
  omega
theorem CAt.nowU {w:World} {cb:Nat} {c:Cs} {F:List Nat} (h:CAt w cb c F):U64 (nowA c.A):=by
  obtain ⟨_,qb,_,_,_,_,_,_,hQ,_⟩:=h.opn
  exact hQ.nowU
theorem ls_gn {w:World} {v:Value} {l:List Gn} {G:List Nat} (h:SlG w v l G):∃ ad cap,v = .slice ad l.length cap∧(l≠[]→∃ (b off:Nat) (cs:List Value) (fz:Nat × Nat),ad=some ⟨b,off,none⟩∧w.heap[b]?=some (.cells cs.toArray 53 fz)∧∀ (i:Nat) (x:Gn),l[i]?=some x→Pick cs (off+i*13) 13 x.cells):=by
  obtain ⟨ad,cap,rfl,hD⟩:=SlV.ls h (xs:=l.map Gn.cells) rfl (List.length_map _).symm (fun x hx=>by obtain ⟨y,_,rfl⟩:=List.mem_map.1 hx;rfl)
  refine ⟨ad,cap,by rw [List.length_map],fun hn=>?_⟩
  obtain ⟨b,off,cs,fz,h1,_,h2,h3⟩:=hD (fun k=>hn (List.map_eq_nil_iff.1 k))
  exact ⟨b,off,cs,fz,h1,h2,fun i x hx=>h3 i _ (by rw [List.getElem?_map,hx];rfl)⟩
theorem rows_pr {w:World} {v:Value} {l:List Pr} {G:List Nat} (h:SlP w v l G):LsAt w 75 3 v (l.map Pr.cells):=SlV.ls h (xs:=l.map Pr.cells) rfl (List.length_map _).symm (fun x hx=>by obtain ⟨y,_,rfl⟩:=List.mem_map.1 hx;rfl)
section
variable {ops : Array Oper} {QE : Exit → Env → World → Prop} {n : Nat} {rest : List Oper} {env : Env} {w wb : World} {D : Ctx} {H : List Ent} {E : List Nat} {fuel : Nat} {listed : Array Bool} {d : Option Nat} {op : Op} {ty : Nat} {pos : String} {aft : Array Edge} {g : Option (Nat × Bool)}
theorem tkA (i:Nat) {v:Value} (hX:XH ops E QE n) (hi:ops[i]?=some ⟨d,op,ty,pos,aft,g⟩:=by exact rfl) (hc:takeOk ops E listed i=true:=by as_aux_lemma=>kernel_rfl) (hS:SE E H listed w:=by (first | exact se_hold hs.hold | exact se_hold (hold_sim hs.hold rfl) | exact se_hold (hold_sim hs.hold.tail rfl) | exact se_hold (hR hs rfl) | exact se_hold hs.hold.tail | exact se_hold hs.hold.tail.tail | exact se_hold hs.hold.tail.tail.tail | exact se_done rfl)) (hw:wantedE ops env g=true:=by exact rfl)
    (hr:∀ w,(isLoad ⟨d,op,ty,pos,aft,g⟩=true→Hold H w)→(execOp (ev env) (⟨d,op,ty,pos,aft,g⟩:Oper)).run Tryz.prog w = .ok (.value v) w:=by intro w' hH;(first | ((with_reducible apply r_move);(conv=>lhs;whnf)) | ((with_reducible apply r_assign);(conv=>lhs;whnf)) | ((with_reducible apply r_nilCheck);exact rfl) | ((with_reducible apply r_fieldAddr);exact tabOk;exact rfl;exact rfl;(conv=>lhs;whnf)) | ((with_reducible apply r_load);exact tabOk;exact rfl;exact rfl;(first | exact hs.hold | exact hH rfl | assumption);(repeat (first | exact At.head | (with_reducible apply At.tail)));exact rfl) | ((with_reducible apply r_loadA);exact tabOk;exact rfl;exact rfl;(first | exact hs.hold | exact hH rfl | assumption);(repeat (first | exact At.head | (with_reducible apply At.tail)));(repeat (first | exact Pick.nil | (apply Pick.cons;exact rfl)))) | ((with_reducible apply r_extract);exact rfl;exact rfl) | ((with_reducible apply r_pick);exact rfl;(conv=>lhs;whnf)) | ((with_reducible apply r_bin);exact rfl;exact rfl;exact rfl) | ((with_reducible apply r_shrC);exact rfl;exact rfl;exact shAmt rfl rfl rfl) | ((with_reducible apply r_shlC);exact rfl;exact rfl;exact shAmt rfl rfl rfl) | ((with_reducible apply r_andM);exact rfl;exact rfl;exact rfl;exact rfl;(first | omega | exact (u64_rng _).1);(first | omega | exact (u64_rng _).2)) | ((with_reducible apply r_quoU);exact rfl;exact rfl;(first | omega | exact (u64_rng _).1);(first | omega | exact (u64_rng _).2);omega) | ((with_reducible apply r_quoS);exact rfl;exact rfl;omega;omega;omega) | ((with_reducible apply r_remS);exact rfl;exact rfl;omega;omega) | ((with_reducible apply r_remU);exact rfl;exact rfl;(first | omega | exact (u64_rng _).1);(first | omega | exact (u64_rng _).2);omega) | ((with_reducible apply r_conv);exact tabOk;exact rfl;exact rfl;exact rfl) | ((with_reducible apply r_not);exact rfl) | ((with_reducible apply r_eqB);exact tabOk;exact rfl;exact rfl;exact rfl) | ((with_reducible apply r_neB);exact tabOk;exact rfl;exact rfl;exact rfl) | ((with_reducible apply r_eqNil);exact tabOk;exact rfl;exact rfl;exact rfl) | ((with_reducible apply r_neNil);exact tabOk;exact rfl;exact rfl;exact rfl) | ((with_reducible apply r_lenS);exact tabOk;exact rfl;exact rfl;exact rfl) | ((with_reducible apply r_maxI);exact rfl;exact rfl) | ((with_reducible apply r_minI);exact rfl;exact rfl) | (with_reducible apply r_makeFunc) | ((with_reducible apply r_neg);exact rfl) | ((with_reducible apply r_nilCheckF);exact rfl) | ((with_reducible apply r_eqA);exact tabOk;exact rfl;exact rfl;exact rfl;(repeat (first | exact Zip.nil | ((with_reducible apply Zip.last);exact rfl;exact rfl;exact rfl;exact rfl) | ((with_reducible apply Zip.cons);exact rfl;exact rfl;exact rfl;exact rfl)))) | ((with_reducible apply r_neA);exact tabOk;exact rfl;exact rfl;exact rfl;(repeat (first | exact Zip.nil | ((with_reducible apply Zip.last);exact rfl;exact rfl;exact rfl;exact rfl) | ((with_reducible apply Zip.cons);exact rfl;exact rfl;exact rfl;exact rfl)))) | ((with_reducible apply r_build);exact tabOk;exact rfl;exact rfl;(repeat (first | exact Bld.nil | (apply Bld.one;exact rfl;(conv=>lhs;whnf);exact rfl;(repeat (first | exact PutL.nil | apply PutL.skip | apply PutL.cons))) | (apply Bld.agg;exact rfl;exact rfl;exact rfl;(repeat (first | exact PutL.nil | apply PutL.skip | apply PutL.cons))))))))
    (k:XA Tryz.prog ops E H QE n fuel (listed.setIfInBounds i true) (updO env d v) w):XA Tryz.prog ops E H QE n (fuel+1) listed env w:=xa_take hX hi hc hS hw hr k
theorem dtA (i:Nat) (hX:XH ops E QE n) (hi:ops[i]?=some ⟨d,op,ty,pos,aft,g⟩:=by exact rfl) (hr:Region.ready .any ops listed=[i]:=by as_aux_lemma=>kernel_rfl)
    (k:XS Tryz.prog ops (doneE Tryz.prog ops E H QE n fuel (listed.setIfInBounds i true)) n [⟨d,op,ty,pos,aft,g⟩] env w):XA Tryz.prog ops E H QE n (fuel+1) listed env w:=xa_do' i hX hi hr k
end
set_option maxHeartbeats 32000000 in
theorem coreShifts_ret (clock o:Int) (xs:List Ac18) (sl:Value) (hc0:U64 clock) (hoU:U64 o) (hx:∀ a∈xs,a.In) (w0:World) (hL:LsX w0 5 sl (xs.map Ac18.cells)) (ht:Pows w0):Ret Tryz.prog 10 #[.int .u64 clock,.int .u64 o,sl] w0 fun v w'=>v = .bool true∧Only [] w0 w':=by
  have hL0:=hL
  obtain ⟨ad,cap,rfl,hD⟩:=hL
  rw [List.length_map] at hL0 ⊢
  have hs:=St.nil w0
  refine ret_of_xc Tryz.func10 (by kernel_rfl) rfl Tryz.ntmps10 rfl rfl rfl ?_
  repeat' (first|refine vs (k:=?_)|refine qRg ?_|refine Nx.h ?_|fail)
  (with_reducible apply xs_call);exact rfl;exact rfl;exact awake18_ret _ (tab_only ht (hs.only0 rfl))
  rintro v w' ⟨rfl,ho⟩;replace hs:=hs.call0 ho;repeat' (first|refine vs (k:=?_)|refine qRg ?_|refine Nx.h ?_|refine qCf ?_|fail)
  (with_reducible apply xs_call);exact rfl;exact rfl;exact light_ret xs _ hx _ (hL0.only (hs.only0 rfl))
  rintro v w1 ⟨⟨bl,rfl,hbl⟩,ho1⟩;replace hs:=hs.call0 ho1
  cases bl with
  | false =>
    repeat' (first|refine vs (k:=?_)|refine qRg ?_|refine Nx.h ?_|refine qCt ?_|fail)
    first | refine rt (hq:=?_) | refine rt' (hq:=?_)
    exact ⟨rfl,hs.only0 rfl⟩
  | true =>
  have hm:=hbl rfl
  repeat' (first|refine vs (k:=?_)|refine qRg ?_|refine Nx.h ?_|refine qCf ?_|fail)
  have hoB:=hs.only0 rfl
  (with_reducible apply xs_call);exact rfl;exact rfl;exact cnew_ret clock hc0 _
  rintro v w2 ⟨⟨cb,F1,rfl,hC1,hF1⟩,ho2⟩
  have hoA:=hoB.trans ho2
  have hzB:=hoB.size
  have hzA:=hoA.size
  have hF1':∀ k∈F1,w0.heap.size≤k:=fun k hk=>by have:=hF1 k hk;omega
  clear hs
  have hs:=St.nil w2
  repeat' (first|refine vs (k:=?_)|fail)
  have hoD:=hs.only0 rfl
  (with_reducible apply xs_call);exact rfl;exact rfl;exact cnew_ret o hoU _
  rintro v w3 ⟨⟨db,G1,rfl,hD1,hG1⟩,ho3⟩
  rw [newC_sh hc0 hoU] at hD1
  generalize htt:IntKind.u64.wrap (o - clock)=t at *
  have hzD:=hoD.size
  have hT0:TwoC w0 cb db (newC clock) (shC t (newC clock)) F1 G1 w3:=⟨(hC1.only hoD).only ho3,hD1,fun k hk hk2=>by have:=(hC1.only hoD).lt k hk;have:=hG1 k hk2;omega,hF1',fun k hk=>by have:=hG1 k hk;omega,(hoA.trans hoD).trans ho3⟩
  clear hs
  have hs:=St.nil w3
  repeat' (first|refine vs (k:=?_)|refine qRg ?_|refine Nx.h ?_|fail)
  refine xc_cutB (fun (_:Unit)=>[]) (fun _ w=>Only [] w0 w) ?_ ?_
  · refine xc_loopS (fun (x:Nat × List Nat × List Nat)=>[(0,.int .u64 clock),(1,.int .u64 o),(7,.pointer (some ⟨cb,0,none⟩)),(8,.pointer (some ⟨db,0,none⟩)),(32,.slice ad xs.length cap),(33,.int .i64 (xs.length:Nat)),(34,.int .i64 (x.1:Nat))])
      (fun x w=>x.1≤xs.length∧TwoC w0 cb db (actsC (newC clock) (xs.take x.1)) (shC t (actsC (newC clock) (xs.take x.1))) x.2.1 x.2.2 w) (fun x=>xs.length - x.1) (0,F1,G1) (by (repeat (first | exact agree_nil | (apply agree_cons;exact rfl)))) ⟨Nat.zero_le _,hT0.keep (hs.only0 rfl)⟩ fun x env wl ⟨hi,hT⟩=>?_
    obtain ⟨i,F,G⟩:=x
    simp only at hi hT
    clear hs
    have hs:=St.nil wl
    repeat' (first|refine vs (k:=?_)|refine qRg ?_|refine Nx.h ?_|(refine xc_if rfl (fun hc=>?_) (fun hc=>?_))|fail)
    · have hlt:i < xs.length:=by omega
      obtain ⟨b0,off,cs,E,fz,rfl,hb,hcs⟩:=hD (fun h=>by have:=congrArg List.length h;rw [List.length_map,List.length_nil] at this;omega)
      have hpk:=hcs i (Ac18.cells xs[i]) (by rw [List.getElem?_map,List.getElem?_eq_getElem hlt];rfl)
      have ei:=nx64 (m:=xs.length) hlt (by omega)
      have hq:=hx xs[i] (List.getElem_mem hlt)
      have eA:actsC (newC clock) (xs.take (i+1))=tryC (actsC (newC clock) (xs.take i)) (doC (actsC (newC clock) (xs.take i)) xs[i]).1 (doC (actsC (newC clock) (xs.take i)) xs[i]).2.1:=by rw [take_next hlt,actsC_snoc];rfl
      generalize xs[i]=q at *
      generalize actsC (newC clock) (xs.take i)=c at *
      have hnow:=hT.a.nowU
      have hsh:=act_sh t c q hq (fun p hp=>plM_in hnow hq.2.2.1 hp)
      have hRc:RepC c:=hT.a.repS
      refine ix (h0:=(by omega)) (h1:=(by omega)) (k:=?_)
      refine lhK (vs:=q.cells) (hT.o.block hb (by simp)) hpk (k:=?_)
      refine al hs (k:=?_);clear hs;intro b7 w4 hz4 hs
      refine stA hs (k:=?_);clear hs;intro w5 hs
      repeat' (first|refine vs (k:=?_)|refine qRg ?_|refine Nx.h ?_|fail)
      have ho5:=hs.only0 rfl
      have h7:=hs.get (b:=b7) (by repeat (first | exact At.head | (with_reducible apply At.tail)))
      have g7:=hs.new (b7,true) (by simp) rfl
      simp only at g7
      (with_reducible apply xs_call);exact rfl;exact rfl;exact act_ret cb c F q hq _ (hT.keep ho5).a
      rintro v w7 ⟨rv,rfl,T⟩
      obtain ⟨F',hT7⟩:=(hT.keep ho5).left T
      obtain ⟨⟨vg,vp,Gg,Gp,rfl,p1,p2⟩,_,ho7⟩:=T
      have n7:b7≠cb:=fun e=>by have:=hT.a.lt cb hT.a.mem;omega
      have m7:b7≠db:=fun e=>by have:=hT.b.lt db hT.b.mem;omega
      have k7:=ho7.block h7 (by simp [n7])
      have hnl:(tryR (doC c q).1 (doC c q).2.1 (doC c q).2.2).p.length < 9223372036854775807:=by
        have:(tryR (doC c q).1 (doC c q).2.1 (doC c q).2.2).p.length≤1099511627776:=by
          by_cases h:6 < q.d % 10
          · unfold tryR
            split
            · rw [tickd hq h] at *
              show (tickC c q.ns).2.2.p.length≤_
              unfold tickC
              split
              · rename_i hcc
                have:=tick_parts (q.ns.toNat+1) q.ns c .none (by omega) hcc.2
                have e1:Rp.none.p.length=0:=rfl
                rw [e1] at this
                omega
              · exact Nat.zero_le _
            · exact Nat.zero_le _
          · have:=parts_none (c:=c) (a:=q) (by omega) hq.1.1
            unfold partsOf at this
            rw [this];exact Nat.zero_le _
        omega
      have hgl:(tryR (doC c q).1 (doC c q).2.1 (doC c q).2.2).g.length < 9223372036854775807:=by
        obtain ⟨s1,hs1⟩:=repC_do hRc q
        have g1:(goneC (doC c q).2.1).length≤32:=Nat.le_trans (gone_len _ _) hs1.le
        have g2:(doC c q).2.2.g.length≤32:=by
          obtain ⟨s2,hs2⟩:=hRc
          by_cases h:6 < q.d % 10
          · rw [tickd hq h];exact (tick_bounds hs2 q.ns).2
          · unfold doC
            repeat' split
            all_goals first | exact Nat.zero_le _ | exact (tick_bounds hs2 q.ns).2
        unfold tryR
        split
        · show ((doC c q).2.2.g ++ goneC (doC c q).2.1).length < _
          rw [List.length_append];omega
        · show (0:Nat) < _;omega
      have hshE:(doC (shC t c) q).1=(doC c q).1:=by
        have:=congrArg Prod.fst hsh
        exact this
      have hshC:tryC (shC t c) (doC (shC t c) q).1 (doC (shC t c) q).2.1=shC t (tryC c (doC c q).1 (doC c q).2.1):=congrArg (fun z=>z.2.1) hsh
      have hshR:tryR (doC (shC t c) q).1 (doC (shC t c) q).2.1 (doC (shC t c) q).2.2=shRp t (tryR (doC c q).1 (doC c q).2.1 (doC c q).2.2):=congrArg (fun z=>z.2.2) hsh
      obtain ⟨ag,cg,rfl⟩:=slv_form p1
      obtain ⟨ap,cp,rfl⟩:=slv_form p2
      clear hs
      have hs:=(St.nil w7).trackT k7
      repeat' (first|refine vs (k:=?_)|(refine stA hs (k:=?_);intro w hs)|(refine al hs (k:=?_);intro b w hz hs)|refine qRg ?_|refine Nx.h ?_|fail)
      have h11:=hs.get (b:=b) (by repeat (first | exact At.head | (with_reducible apply At.tail)))
      obtain ⟨b11,hb11⟩:∃ k,k=b:=⟨_,rfl⟩
      rw [← hb11] at hs h11
      rw [← hb11]
      have ho8:=hs.onlyF [] (by simp [k7]) (by simp [D0])
      have hT8:=hT7.keep ho8
      (with_reducible apply xs_call);exact rfl;exact rfl;exact act_ret db (shC t c) G q hq _ hT8.b
      rintro v w9 ⟨rv,rfl,T⟩
      obtain ⟨G',hT9⟩:=hT8.right T
      obtain ⟨⟨vg2,vp2,Gg2,Gp2,rfl,p3,p4⟩,_,ho9⟩:=T
      rw [hshC] at hT9
      rw [hshR] at p3 p4
      rw [hshE]
      obtain ⟨_,_,_,_,_,hdbo,_⟩:=hT8.b.opn
      have p1':=(p1.keep ho8 (by simp)).keep ho9 (fun k hk hm=>by obtain rfl:=List.mem_singleton.1 hm;exact slv_ne (p1.keep ho8 (by simp)) hdbo (by decide) hk)
      have p2':=(p2.keep ho8 (by simp)).keep ho9 (fun k hk hm=>by obtain rfl:=List.mem_singleton.1 hm;exact slv_ne (p2.keep ho8 (by simp)) hdbo (by decide) hk)
      have n11:b11≠db:=blocks_ne h11 hdbo (by decide)
      have k11:=ho9.block h11 (by simp [n11])
      obtain ⟨ag2,cg2,rfl⟩:=slv_form p3
      obtain ⟨ap2,cp2,rfl⟩:=slv_form p4
      generalize tryR (doC c q).1 (doC c q).2.1 (doC c q).2.2=R at *
      generalize (doC c q).1=e at *
      generalize tryC c e (doC c q).2.1=c2 at *
      clear hs
      have hs:=(St.nil w9).trackT k11
      repeat' (first|refine vs (k:=?_)|(refine stA hs (k:=?_);intro w hs)|(refine al hs (k:=?_);intro b w hz hs)|refine Nx.h ?_|fail)
      have h13:=hs.get (b:=b) (by repeat (first | exact At.head | (with_reducible apply At.tail)))
      obtain ⟨b13,hb13⟩:∃ k,k=b:=⟨_,rfl⟩
      rw [← hb13] at hs h13
      rw [← hb13]
      have oQ:=hs.onlyF [] (by simp [k11]) (by simp [D0])
      have k11:=oQ.block k11 (by simp)
      have hT10:=hT9.keep oQ
      have p1a:=p1'.keep oQ (by simp)
      have p2a:=p2'.keep oQ (by simp)
      have p3a:=p3.keep oQ (by simp)
      have p4a:=p4.keep oQ (by simp)
      obtain ⟨ag',cg',e1,hA1⟩:=ls_gn p1a
      cases e1
      obtain ⟨ag2',cg2',e2,hA2⟩:=ls_gn p3a
      cases e2
      obtain ⟨sb,qb,mb,Fs,eF,c1o,s1o,hS1,hQ1,ms1⟩:=hT10.a.opn
      obtain ⟨ub,rb,nb,Us,eU,c2o,s2o,hS2,hQ2,ms2⟩:=hT10.b.opn
      have n1:=hT10.ne
      have n2:ub≠sb:=fun k=>hT10.d sb (by rw [eF];simp [ms1]) (by rw [eU,← k];simp [ms2])
      have d1:db≠sb:=blocks_ne c2o s1o (by decide)
      have d2:ub≠cb:=blocks_ne s2o c1o (by decide)
      have d3:ub≠db:=blocks_ne s2o c2o (by decide)
      have z1:db≠b11:=blocks_ne c2o k11 (by decide)
      have z2:ub≠b11:=blocks_ne s2o k11 (by decide)
      have z3:db≠b13:=blocks_ne c2o h13 (by decide)
      have z4:ub≠b13:=blocks_ne s2o h13 (by decide)
      have nd:b13≠b11:=by
        have nd:=hs.nd
        simp only [List.map_cons,List.map_nil,List.nodup_cons,List.mem_cons,List.not_mem_nil,or_false,not_or] at nd
        exact nd.1
      have hA32:c2.A.l.length≤32:=by obtain ⟨s,h⟩:=hS1.rep;exact h.le
      have hnow2:U64 (nowA c2.A):=hQ1.nowU
      clear hs
      have hs:=((((St.nil _).track k11 (by simp)).track h13 (by simpa using nd)).trackT c1o).trackT s1o
      replace hs:=hs.track c2o (by simp [n1,d1,z1,z3])
      replace hs:=hs.track s2o (by simp [n2,d2,d3,z2,z4])
      refine dr [] hs (k:=?_);intro hX w hs
      refine tkA 0 hX (k:=?_)
      refine tkA 1 hX (k:=?_)
      refine tkA 2 hX (k:=?_)
      refine xa_set 52 (v := .bool false) (congrArg Value.bool (show (e != e)=false by simp)) ?_
      refine tkA 3 hX (k:=?_)
      refine tkA 4 hX (k:=?_)
      refine tkA 6 hX (k:=?_)
      refine dtA 5 hX (k:=?_)
      have hoa:=hs.onlyF [] (by simp [k11,h13,c1o,s1o,c2o,s2o]) (by simp [D0])
      (with_reducible apply xs_call);exact rfl;exact rfl;exact crun_ret cb c2 F' _ (hT10.keep hoa).a
      rintro v8 w8 ⟨rfl,hob⟩;replace hs:=hs.call0 hob
      refine XS.nil ?_
      refine dn (k:=?_)
      refine dtA 7 hX (k:=?_)
      have hoa:=hs.onlyF [] (by simp [k11,h13,c1o,s1o,c2o,s2o]) (by simp [D0])
      (with_reducible apply xs_call);exact rfl;exact rfl;exact crun_ret db (shC t c2) G' _ (hT10.keep hoa).b
      rintro v8 w8 ⟨rfl,hob⟩;replace hs:=hs.call0 hob
      refine XS.nil ?_
      refine dn (k:=?_)
      refine tkA 8 hX (k:=?_)
      refine xa_set 58 (v := .bool false) (congrArg Value.bool (show (c2.run != c2.run)=false by simp)) ?_
      refine tkA 9 hX (k:=?_)
      refine tkA 10 hX (k:=?_)
      refine tkA 11 hX (k:=?_)
      refine tkA 13 hX (k:=?_)
      refine dtA 12 hX (k:=?_)
      have hoa:=hs.onlyF [] (by simp [k11,h13,c1o,s1o,c2o,s2o]) (by simp [D0])
      (with_reducible apply xs_call);exact rfl;exact rfl;exact ccarried_ret cb c2 F' _ (hT10.keep hoa).a
      rintro v8 w8 ⟨rfl,hob⟩;replace hs:=hs.call0 hob
      refine XS.nil ?_
      refine dn (k:=?_)
      refine dtA 14 hX (k:=?_)
      have hoa:=hs.onlyF [] (by simp [k11,h13,c1o,s1o,c2o,s2o]) (by simp [D0])
      (with_reducible apply xs_call);exact rfl;exact rfl;exact ccarried_ret db (shC t c2) G' _ (hT10.keep hoa).b
      rintro v8 w8 ⟨rfl,hob⟩;replace hs:=hs.call0 hob
      refine XS.nil ?_
      refine dn (k:=?_)
      refine tkA 15 hX (k:=?_)
      refine xa_set 65 (v := .bool false) (congrArg Value.bool (neWd c2.carr)) ?_
      refine tkA 16 hX (k:=?_)
      refine tkA 17 hX (k:=?_)
      refine tkA 18 hX (k:=?_)
      refine tkA 19 hX (k:=?_)
      refine tkA 20 hX (k:=?_)
      refine tkA 21 hX (k:=?_)
      refine dtA 22 hX (k:=?_)
      have hoa:=hs.onlyF [] (by simp [k11,h13,c1o,s1o,c2o,s2o]) (by simp [D0])
      (with_reducible apply xs_call);exact rfl;exact rfl;exact eqP_ret _ _ R.p R.p (by omega) _ (rows_pr (p2a.keep hoa (by simp))) (rows_pr (p4a.keep hoa (by simp)))
      rintro v8 w8 ⟨rfl,hob⟩;replace hs:=hs.call0 hob
      refine XS.nil ?_
      refine dn (k:=?_)
      refine xa_set 72 (v := .bool true) (congrArg Value.bool (decide_eq_true rfl)) ?_
      refine tkA 23 hX (k:=?_)
      refine tkA 24 hX (k:=?_)
      refine tkA 25 hX (k:=?_)
      refine tkA 26 hX (k:=?_)
      refine tkA 27 hX (k:=?_)
      refine tkA 28 hX (k:=?_)
      refine tkA 29 hX (k:=?_)
      refine tkA 30 hX (k:=?_)
      refine tkA 31 hX (k:=?_)
      refine tkA 32 hX (k:=?_)
      refine xa_set 82 (v := .bool false) (congrArg Value.bool (show (((R.g.length:Nat):Int) != (((shRp t R).g.length:Nat):Int))=false by show (((R.g.length:Nat):Int) != (((R.g.map (shG t)).length:Nat):Int))=false;rw [List.length_map];simp)) ?_
      refine tkA 33 hX (k:=?_)
      refine tkA 34 hX (k:=?_)
      refine tkA 35 hX (k:=?_)
      refine tkA 36 hX (k:=?_)
      refine tkA 37 hX (k:=?_)
      refine tkA 38 hX (k:=?_)
      refine tkA 39 hX (k:=?_)
      refine tkA 40 hX (k:=?_)
      refine tkA 41 hX (k:=?_)
      refine tkA 43 hX (k:=?_)
      refine tkA 44 hX (k:=?_)
      refine tkA 45 hX (k:=?_)
      refine tkA 46 hX (k:=?_)
      refine tkA 47 hX (k:=?_)
      refine tkA 48 hX (k:=?_)
      refine tkA 49 hX (k:=?_)
      refine dtA 42 hX (k:=?_)
      have hoa:=hs.onlyF [] (by simp [k11,h13,c1o,s1o,c2o,s2o]) (by simp [D0])
      (with_reducible apply xs_call);exact rfl;exact rfl;exact alen_ret qb c2.A _ (hQ1.only hoa)
      rintro v8 w8 ⟨rfl,hob⟩;replace hs:=hs.call0 hob
      refine XS.nil ?_
      refine dn (k:=?_)
      refine dtA 50 hX (k:=?_)
      have hoa:=hs.onlyF [] (by simp [k11,h13,c1o,s1o,c2o,s2o]) (by simp [D0])
      (with_reducible apply xs_call);exact rfl;exact rfl;exact alen_ret rb (shA t c2.A) _ (hQ2.only hoa)
      rw [len_sh]
      rintro v8 w8 ⟨rfl,hob⟩;replace hs:=hs.call0 hob
      refine XS.nil ?_
      refine dn (k:=?_)
      refine tkA 51 hX (k:=?_)
      refine xa_set 101 (v := .bool false) (congrArg Value.bool (show (((c2.A.l.length:Nat):Int) != ((c2.A.l.length:Nat):Int))=false by simp)) ?_
      refine tkA 52 hX (k:=?_)
      refine tkA 53 hX (k:=?_)
      refine tkA 54 hX (k:=?_)
      refine tkA 55 hX (k:=?_)
      refine tkA 56 hX (k:=?_)
      refine tkA 57 hX (k:=?_)
      refine tkA 58 hX (k:=?_)
      refine tkA 59 hX (k:=?_)
      refine tkA 60 hX (k:=?_)
      refine tkA 62 hX (k:=?_)
      refine tkA 63 hX (k:=?_)
      refine tkA 64 hX (k:=?_)
      refine tkA 65 hX (k:=?_)
      refine tkA 66 hX (k:=?_)
      refine tkA 67 hX (k:=?_)
      refine tkA 68 hX (k:=?_)
      refine dtA 61 hX (k:=?_)
      have hoa:=hs.onlyF [] (by simp [k11,h13,c1o,s1o,c2o,s2o]) (by simp [D0])
      (with_reducible apply xs_call);exact rfl;exact rfl;exact aspread_ret qb c2.A _ (hQ1.only hoa)
      rintro v8 w8 ⟨rfl,hob⟩;replace hs:=hs.call0 hob
      refine XS.nil ?_
      refine dn (k:=?_)
      refine dtA 69 hX (k:=?_)
      have hoa:=hs.onlyF [] (by simp [k11,h13,c1o,s1o,c2o,s2o]) (by simp [D0])
      (with_reducible apply xs_call);exact rfl;exact rfl;exact aspread_ret rb (shA t c2.A) _ (hQ2.only hoa)
      rw [aspr_sh]
      rintro v8 w8 ⟨rfl,hob⟩;replace hs:=hs.call0 hob
      refine XS.nil ?_
      refine dn (k:=?_)
      refine tkA 70 hX (k:=?_)
      refine xa_set 120 (v := .bool false) (congrArg Value.bool (show (spr (nowA c2.A) (its c2.A.l) != spr (nowA c2.A) (its c2.A.l))=false by simp)) ?_
      refine tkA 71 hX (k:=?_)
      refine tkA 72 hX (k:=?_)
      refine tkA 73 hX (k:=?_)
      refine tkA 74 hX (k:=?_)
      refine tkA 75 hX (k:=?_)
      refine tkA 76 hX (k:=?_)
      refine tkA 77 hX (k:=?_)
      refine tkA 78 hX (k:=?_)
      refine tkA 79 hX (k:=?_)
      refine tkA 81 hX (k:=?_)
      refine tkA 82 hX (k:=?_)
      refine tkA 83 hX (k:=?_)
      refine tkA 84 hX (k:=?_)
      refine tkA 85 hX (k:=?_)
      refine tkA 86 hX (k:=?_)
      refine tkA 87 hX (k:=?_)
      refine tkA 90 hX (k:=?_)
      refine tkA 91 hX (k:=?_)
      refine tkA 92 hX (k:=?_)
      refine dtA 80 hX (k:=?_)
      have hoa:=hs.onlyF [] (by simp [k11,h13,c1o,s1o,c2o,s2o]) (by simp [D0])
      (with_reducible apply xs_call);exact rfl;exact rfl;exact anow_ret rb (shA t c2.A) _ (hQ2.only hoa)
      rw [now_sh]
      rintro v8 w8 ⟨rfl,hob⟩;replace hs:=hs.call0 hob
      refine XS.nil ?_
      refine dn (k:=?_)
      refine dtA 88 hX (k:=?_)
      have hoa:=hs.onlyF [] (by simp [k11,h13,c1o,s1o,c2o,s2o]) (by simp [D0])
      (with_reducible apply xs_call);exact rfl;exact rfl;exact anow_ret qb c2.A _ (hQ1.only hoa)
      rintro v8 w8 ⟨rfl,hob⟩;replace hs:=hs.call0 hob
      refine XS.nil ?_
      refine dn (k:=?_)
      refine tkA 89 hX (k:=?_)
      refine tkA 93 hX (k:=?_)
      refine xa_set 143 (v := .bool false) (congrArg Value.bool (show (IntKind.u64.wrap (lat (nowA c2.A) t - nowA c2.A) != IntKind.u64.wrap (o - clock))=false by rw [← htt,diff_sh hnow2];simp)) ?_
      refine tkA 94 hX (k:=?_)
      refine en (k:=?_)
      have oR:=hs.onlyF [] (by simp [k11,h13,c1o,s1o,c2o,s2o]) (by simp [D0])
      have hT11:=hT10.keep oR
      have k11:=oR.block k11 (by simp)
      have h13:=oR.block h13 (by simp)
      repeat' (first|refine vs (k:=?_)|refine qRg ?_|refine Nx.h ?_|refine qCf ?_|fail)
      refine xc_cutB (fun (_:Unit)=>[(0,.int .u64 clock),(1,.int .u64 o),(7,.pointer (some ⟨cb,0,none⟩)),(8,.pointer (some ⟨db,0,none⟩)),(32,.slice (some ⟨b0,off,none⟩) xs.length cap),(33,.int .i64 (xs.length:Nat)),(34,.int .i64 (i:Nat))]) (fun _ w'=>Only [] w8 w') ?_ ?_
      · refine xc_loopS (fun (j:Nat)=>[(0,.int .u64 clock),(1,.int .u64 o),(7,.pointer (some ⟨cb,0,none⟩)),(8,.pointer (some ⟨db,0,none⟩)),(13,.pointer (some ⟨b13,0,none⟩)),(32,.slice (some ⟨b0,off,none⟩) xs.length cap),(33,.int .i64 (xs.length:Nat)),(34,.int .i64 (i:Nat)),(146,.slice ag R.g.length cg),(147,.int .i64 (R.g.length:Nat)),(148,.int .i64 (j:Nat))])
          (fun j w'=>j≤R.g.length∧Only [] w8 w') (fun j=>R.g.length - j) 0 (by (repeat (first | exact agree_nil | (apply agree_cons;exact rfl)))) ⟨Nat.zero_le _,Only.refl _ _⟩ fun j env wl ⟨hj,hol⟩=>?_
        clear hs
        have hs:=St.nil wl
        repeat' (first|refine vs (k:=?_)|refine qRg ?_|refine Nx.h ?_|(refine xc_if rfl (fun hc=>?_) (fun hc=>?_))|fail)
        · have hjl:j < R.g.length:=by omega
          clear hs
          have hne:(shRp t R).g≠[]:=fun h=>by
            have h:R.g.map (shG t)=[]:=h
            rw [List.map_eq_nil_iff.1 h] at hjl
            cases hjl
          obtain ⟨bb,off2,cs2,fz2,rfl,hb2,hcs2⟩:=hA1 (List.ne_nil_of_mem (List.getElem_mem hjl))
          obtain ⟨bb3,off3,cs3,fz3,rfl,hb3,hcs3⟩:=hA2 hne
          have hpk2:=hcs2 j R.g[j] (List.getElem?_eq_getElem hjl)
          have hpk3:=hcs3 j (shG t R.g[j]) (by show (R.g.map (shG t))[j]?=_;rw [List.getElem?_map,List.getElem?_eq_getElem hjl];rfl)
          have ej:=nx64 (m:=R.g.length) hjl (by omega)
          have el:(shRp t R).g.length=R.g.length:=List.length_map _
          generalize R.g[j]=gn at *
          have hb2:=hol.block (oR.block hb2 (by simp)) (by simp)
          have hb3:=hol.block (oR.block hb3 (by simp)) (by simp)
          have h13:=hol.block h13 (by simp)
          have lb3:=lt_of_block hb3
          have nb3:bb3≠b13:=blocks_ne hb3 h13 (by decide)
          have hs:=St.nil wl
          refine ix (h0:=(by omega)) (h1:=(by omega)) (k:=?_)
          refine lhK (vs:=gn.cells) hb2 hpk2 (k:=?_)
          refine al hs (k:=?_);clear hs;intro b16 w20 hz20 hs
          refine vs (k:=?_)
          refine stA hs (k:=?_);clear hs;intro w21 hs
          have h16:=hs.get (b:=b16) (by repeat (first | exact At.head | (with_reducible apply At.tail)))
          have g16:=hs.new (b16,true) (by simp) rfl
          simp only at g16
          have o21:=hs.only0 rfl
          have hb3:=o21.block hb3 (by simp)
          have h13:=o21.block h13 (by simp)
          have n1316:b13≠b16:=blocks_ne h13 h16 (by decide)
          have n316:bb3≠b16:=by omega
          clear hs
          have hs:=(((St.nil w21).track h16 (by simp)).track h13 (by simpa using n1316)).track hb3 (by simp [nb3,n316])
          have c0:=pick_at2 hpk3 0 _ rfl
          have c1:=pick_at2 hpk3 1 _ rfl
          have c2':=pick_at2 hpk3 2 _ rfl
          repeat' (first|refine Nx.h ?_|fail)
          refine dr [] hs (k:=?_);intro hX w hs
          refine tk 0 hX (k:=?_)
          refine tk 1 hX (k:=?_)
          refine tk 2 hX (k:=?_)
          refine tk 3 hX (k:=?_)
          refine tk 4 hX (k:=?_)
          refine tk 5 hX (hr:=fun w' hH=>r_indexAddr tabOk rfl rfl rfl (by omega) (by rw [el];omega)) (k:=?_)
          refine tk 6 hX (k:=?_)
          refine tk 7 hX (hr:=fun w' hH=>r_load tabOk rfl rfl (hH rfl) At.head c0) (k:=?_)
          refine tk 8 hX (k:=?_)
          refine xa_set 161 (v := .bool false) (congrArg Value.bool (show (gn.id != gn.id)=false by simp)) ?_
          refine tk 9 hX (k:=?_)
          refine tk 10 hX (k:=?_)
          refine tk 11 hX (k:=?_)
          refine tk 12 hX (k:=?_)
          refine tk 13 hX (k:=?_)
          refine tk 14 hX (k:=?_)
          refine tk 15 hX (hr:=fun w' hH=>r_indexAddr tabOk rfl rfl rfl (by omega) (by rw [el];omega)) (k:=?_)
          refine tk 16 hX (k:=?_)
          refine tk 17 hX (hr:=fun w' hH=>r_loadA tabOk rfl rfl (hH rfl) At.head (Pick.cons c1 (Pick.cons c2' Pick.nil))) (k:=?_)
          refine tk 18 hX (k:=?_)
          refine xa_set 171 (v := .bool false) (congrArg Value.bool (neWd gn.lag)) ?_
          refine tk 19 hX (k:=?_)
          refine en (k:=?_)
          repeat' (first|refine vs (k:=?_)|refine qRg ?_|refine Nx.h ?_|refine qCf ?_|fail)
          exact loopS_next (j+1) (by show R.g.length - (j+1) < R.g.length - j;omega) (by (repeat (first | exact agree_nil | (apply agree_cons;first | exact rfl | exact congrArg (Value.int .i64) ej)))) ⟨by show j+1≤_;omega,(hol.trans o21).trans (hs.onlyF [] (by simp [h16,h13,hb3]) (by simp [D0]))⟩
        · exact cutB_exit () (by (repeat (first | exact agree_nil | (apply agree_cons;exact rfl)))) hol
      rintro _ env w12 ho12
      have oS:=oR.trans ho12
      have hT12:=hT11.keep ho12
      have q1:=oS.block c1o (by simp)
      have q2:=oS.block s1o (by simp)
      have q3:=oS.block c2o (by simp)
      have q4:=oS.block s2o (by simp)
      have hS12:=hS1.only oS
      have hQ12:=hQ1.only oS
      have hR12:=hQ2.only oS
      clear hs
      have hs:=((St.nil w12).trackT q1).trackT q2
      repeat' (first|refine vs (k:=?_)|refine qRg ?_|refine Nx.h ?_|fail)
      have hoa:=hs.onlyF [] (by simp [q1,q2]) (by simp [D0])
      (with_reducible apply xs_call);exact rfl;exact rfl;exact areqs_ret sb c2.A Fs _ (hS12.only hoa)
      rintro v w13 ⟨⟨Gc,hGc,_⟩,ho13⟩
      have hoE:=hoa.trans ho13
      obtain ⟨ad1,cp1,rfl,hD1⟩:=ls_rq hGc
      have hTE:=hT12.keep hoE
      have hfm:=fun (y:RT) (hy:y∈c2.A.l)=>findR_mem hy
      clear hs
      have hs:=St.nil w13
      repeat' (first|refine vs (k:=?_)|refine Nx.h ?_|fail)
      refine xc_cutB (fun (_:Unit)=>[(0,.int .u64 clock),(1,.int .u64 o),(7,.pointer (some ⟨cb,0,none⟩)),(8,.pointer (some ⟨db,0,none⟩)),(32,.slice (some ⟨b0,off,none⟩) xs.length cap),(33,.int .i64 (xs.length:Nat)),(34,.int .i64 (i:Nat))]) (fun _ w=>Only [] w13 w) ?_ ?_
      · refine xc_loopS (fun (j:Nat)=>[(0,.int .u64 clock),(1,.int .u64 o),(7,.pointer (some ⟨cb,0,none⟩)),(8,.pointer (some ⟨db,0,none⟩)),(32,.slice (some ⟨b0,off,none⟩) xs.length cap),(33,.int .i64 (xs.length:Nat)),(34,.int .i64 (i:Nat)),(178,.slice ad1 c2.A.l.length cp1),(179,.int .i64 (c2.A.l.length:Nat)),(180,.int .i64 (j:Nat))])
          (fun j w=>j≤c2.A.l.length∧Only [] w13 w) (fun j=>c2.A.l.length - j) 0 (by (repeat (first | exact agree_nil | (apply agree_cons;exact rfl)))) ⟨Nat.zero_le _,hs.only0 rfl⟩ fun j env wl ⟨hj,hol⟩=>?_
        clear hs
        have hs:=St.nil wl
        repeat' (first|refine vs (k:=?_)|refine qRg ?_|refine Nx.h ?_|(refine xc_if rfl (fun hc=>?_) (fun hc=>?_))|fail)
        · have hjl:j < c2.A.l.length:=by omega
          obtain ⟨bb,off2,cs2,E2,fz2,hab,hb2,hcs2⟩:=hD1 (List.ne_nil_of_mem (List.getElem_mem hjl))
          have hpk2:=hcs2 j c2.A.l[j] (List.getElem?_eq_getElem hjl)
          have hfi:=hfm _ (List.getElem_mem hjl)
          have ej:=nx64 (m:=c2.A.l.length) hjl (by omega)
          generalize c2.A.l[j]=y at *
          rw [hab]
          refine ix (h0:=(by omega)) (h1:=(by omega)) (k:=?_)
          refine lhK (vs:=y.1.cells) (hol.block hb2 (by simp)) hpk2 (k:=?_)
          refine al hs (k:=?_);clear hs;intro b18 w20 hz20 hs
          refine stA hs (k:=?_);clear hs;intro w21 hs
          have h18:=hs.get (b:=b18) (by repeat (first | exact At.head | (with_reducible apply At.tail)))
          have ho21':=hs.only0 rfl
          have ho21:=(hoE.trans hol).trans ho21'
          have u1:=ho21.block q1 (by simp)
          have u2:=ho21.block q2 (by simp)
          have u3:=ho21.block q3 (by simp)
          have u4:=ho21.block q4 (by simp)
          have hid:In64 y.1.i.id:=y.2.1.2.1
          have y3:db≠b18:=blocks_ne u3 h18 (by decide)
          have y4:ub≠b18:=blocks_ne u4 h18 (by decide)
          clear hs
          have hs:=((((St.nil _).trackT h18).trackT u1).trackT u2).track u3 (by simp [n1,d1,y3])
          replace hs:=hs.track u4 (by simp [n2,d2,d3,y4])
          repeat' (first|refine Nx.h ?_|fail)
          refine dr [] hs (k:=?_);intro hX w hs
          refine tk 0 hX (k:=?_)
          refine tk 1 hX (k:=?_)
          refine tk 2 hX (k:=?_)
          refine tk 3 hX (k:=?_)
          refine tk 4 hX (k:=?_)
          refine tk 5 hX (k:=?_)
          refine tk 6 hX (k:=?_)
          refine tk 7 hX (k:=?_)
          refine tk 8 hX (k:=?_)
          refine tk 9 hX (k:=?_)
          refine pd0 14 19 hs (k:=?_);intro f X w hp;have hs:=hp.st
          apply xa_pend 10 14 (f:=f) (X:=X) hX hp;exact rfl;exact rfl;(apply makes_alloc tabOk;exact rfl);kernel_rfl;kernel_rfl;kernel_rfl;kernel_rfl;(intro X Y;(repeat (first | exact pgg_base | refine pgg_step ?_ (by exact rfl))));(intro w' hs;first|exact se_hold hs.hold|exact se_hold hs.hold.tail|exact se_done rfl);intro f X w hp;have hs:=hp.st
          have hoa2:=hs.onlyF [] (by simp [h18,u1,u2,u3,u4]) (by simp [D0])
          (with_reducible apply xs_call);exact rfl;exact rfl;exact alag_ret qb c2.A y.1.i.id _ ((hQ12.only ho21).only hoa2) hid
          rintro v w' ⟨rfl,ho⟩;replace hp:=hp.only ho;replace hs:=hp.st;repeat' (first|refine Nx.h ?_|fail)
          refine dn (k:=?_)
          refine tk 11 hX (hc:=by cases f <;> kernel_rfl) (k:=?_)
          refine tk 12 hX (hc:=by cases f <;> kernel_rfl) (k:=?_)
          refine tk 13 hX (hc:=by cases f <;> kernel_rfl) (k:=?_)
          apply xa_pendE 14 (f:=f) (X:=X) hX hp;exact rfl;(apply makes_alloc tabOk;exact rfl);kernel_rfl;kernel_rfl;(intro X Y;(repeat (first | exact pgg_base | refine pgg_step ?_ (by exact rfl))));(intro w' hs;first|exact se_hold hs.hold|exact se_hold hs.hold.tail|exact se_done rfl);intro b w hI hs
          refine dt 15 hX (k:=?_)
          repeat' (first|(refine stA hs (k:=?_);intro w hs)|refine Nx.h ?_|fail)
          refine dn (k:=?_)
          refine tk 16 hX (k:=?_)
          refine en (k:=?_)
          repeat' (first|refine Nx.h ?_|fail)
          refine dr [] hs (k:=?_);intro hX w hs
          refine tk 0 hX (k:=?_)
          refine tk 1 hX (k:=?_)
          refine tk 2 hX (k:=?_)
          refine tk 3 hX (k:=?_)
          refine tk 4 hX (k:=?_)
          refine tk 5 hX (k:=?_)
          refine tk 6 hX (k:=?_)
          refine tk 7 hX (k:=?_)
          refine tk 8 hX (k:=?_)
          refine tk 9 hX (k:=?_)
          refine pd0 14 21 hs (k:=?_);intro f X w hp;have hs:=hp.st
          apply xa_pend 10 14 (f:=f) (X:=X) hX hp;exact rfl;exact rfl;(apply makes_alloc tabOk;exact rfl);kernel_rfl;kernel_rfl;kernel_rfl;kernel_rfl;(intro X Y;(repeat (first | exact pgg_base | refine pgg_step ?_ (by exact rfl))));(intro w' hs;first|exact se_hold hs.hold|exact se_hold hs.hold.tail|exact se_done rfl);intro f X w hp;have hs:=hp.st
          have hoa2:=hs.onlyF [] (by simp [h18,u1,u2,u3,u4]) (by simp [D0])
          (with_reducible apply xs_call);exact rfl;exact rfl;exact alag_ret rb (shA t c2.A) y.1.i.id _ ((hR12.only ho21).only hoa2) hid
          rw [lag_sh,findS_sh,show (findR c2.A.l y.1.i.id).isSome=true from hfi]
          rintro v w' ⟨rfl,ho⟩;replace hp:=hp.only ho;replace hs:=hp.st;repeat' (first|refine Nx.h ?_|fail)
          refine dn (k:=?_)
          refine tk 11 hX (hc:=by cases f <;> kernel_rfl) (k:=?_)
          refine tk 12 hX (hc:=by cases f <;> kernel_rfl) (k:=?_)
          refine tk 13 hX (hc:=by cases f <;> kernel_rfl) (k:=?_)
          apply xa_pendE 14 (f:=f) (X:=X) hX hp;exact rfl;(apply makes_alloc tabOk;exact rfl);kernel_rfl;kernel_rfl;(intro X Y;(repeat (first | exact pgg_base | refine pgg_step ?_ (by exact rfl))));(intro w' hs;first|exact se_hold hs.hold|exact se_hold hs.hold.tail|exact se_done rfl);intro b w hI hs
          refine dt 15 hX (k:=?_)
          repeat' (first|(refine stA hs (k:=?_);intro w hs)|refine Nx.h ?_|fail)
          refine dn (k:=?_)
          refine tk 16 hX (k:=?_)
          refine en (k:=?_)
          have hoz:=hs.onlyF [] (by simp [h18,u1,u2,u3,u4]) (by simp [D0])
          repeat' (first|refine vs (k:=?_)|refine ps (k:=?_)|refine qRg ?_|refine Nx.h ?_|refine qCt ?_|refine qCf ?_|((with_reducible apply xs_guard);exact rfl;exact rfl;intro c hc;(fail_if_success have:true=c:=hc);(fail_if_success have:false=c:=hc);cases c)|fail)
          all_goals first
            | (exact absurd hc (by rw [neWd];decide))
            | (exact loopS_next (j+1) (by show c2.A.l.length - (j+1) < c2.A.l.length - j;omega) (by (repeat (first | exact agree_nil | (apply agree_cons;first | exact rfl | exact congrArg (Value.int .i64) ej)))) ⟨by show j+1≤_;omega,(hol.trans ho21').trans hoz⟩)
        · exact cutB_exit () (by (repeat (first | exact agree_nil | (apply agree_cons;exact rfl)))) hol
      · rintro _ env w14 ho14
        clear hs
        have hs:=St.nil w14
        repeat' (first|refine vs (k:=?_)|refine qRg ?_|refine Nx.h ?_|fail)
        refine loopS_next (i+1,F',G') (by show xs.length - (i+1) < xs.length - i;omega) (by (repeat (first | exact agree_nil | (apply agree_cons;first | exact rfl | exact congrArg (Value.int .i64) ei)))) ⟨by show i+1≤_;omega,?_⟩
        show TwoC w0 cb db (actsC (newC clock) (xs.take (i+1))) (shC t (actsC (newC clock) (xs.take (i+1)))) F' G' _
        rw [eA]
        exact (hTE.keep ho14).keep (hs.only0 rfl)
    · exact cutB_exit () (by (repeat (first | exact agree_nil | (apply agree_cons;exact rfl)))) hT.o
  · rintro _ env w ho
    clear hs
    have hs:=St.nil w
    repeat' (first|refine vs (k:=?_)|refine qRg ?_|refine Nx.h ?_|fail)
    first | refine rt (hq:=?_) | refine rt' (hq:=?_)
    exact ⟨rfl,ho.trans (hs.only0 rfl)⟩
end Go.Proofs.YtkbcfknnieggbaaGreatDoorX

namespace Go.Proofs.YtkbcfknnieggbaaGreatDoorX
open Go Go.RowKit Go.ChangeShapes Go.WideShapes Go.ChangeAt
set_option maxRecDepth 100000 in
theorem coreShifts_lifted (os:Os) (started:os.Started) (H:Type) (enc:TypeId × Value→H) :
    ReturnsInHanded {} Tryz.checked os 10 .any (fun w args => (YtkbcfknnieggbaaGreatDoor.Rows.coreShiftsSpec.pre enc Tryz.prog Tryz.f10 [] false w args ∧ laidMetH Tryz.prog [("math/bits.deBruijn32tab", YtkbcfknnieggbaaGreatDoor.Rows.laid_math_bits_deBruijn32tab), ("math/bits.deBruijn64tab", YtkbcfknnieggbaaGreatDoor.Rows.laid_math_bits_deBruijn64tab), ("internal/strconv.uint64pow10", YtkbcfknnieggbaaGreatDoor.Rows.laid_internal_strconv_uint64pow10)] w) ∧ sizedMet enc Tryz.prog Tryz.f10 (OpenSpec.ofChange YtkbcfknnieggbaaGreatDoor.Rows.coreShiftsSpec) false w args) (YtkbcfknnieggbaaGreatDoor.Rows.coreShiftsSpec.post enc Tryz.prog Tryz.f10 false true false false) := by
  refine returnsInHanded_of_change_and (C := Tryz.checked) (X := fun w _ => laidMetH Tryz.prog [("math/bits.deBruijn32tab", YtkbcfknnieggbaaGreatDoor.Rows.laid_math_bits_deBruijn32tab), ("math/bits.deBruijn64tab", YtkbcfknnieggbaaGreatDoor.Rows.laid_math_bits_deBruijn64tab), ("internal/strconv.uint64pow10", YtkbcfknnieggbaaGreatDoor.Rows.laid_internal_strconv_uint64pow10)] w) (fun _ _ _ hh h => h.of_heap hh) own started (by kernel_rfl) Tryz.func10
    (ChangeSpec.witness_shaped (enc := enc) (C := Tryz.checked) (os := os) (X := fun w _ => laidMetH Tryz.prog [("math/bits.deBruijn32tab", YtkbcfknnieggbaaGreatDoor.Rows.laid_math_bits_deBruijn32tab), ("math/bits.deBruijn64tab", YtkbcfknnieggbaaGreatDoor.Rows.laid_math_bits_deBruijn64tab), ("internal/strconv.uint64pow10", YtkbcfknnieggbaaGreatDoor.Rows.laid_internal_strconv_uint64pow10)] w) false (World.doorLaid Tryz.prog 24 os) #[.int .u64 0, .int .u64 0, .slice none 0 0] 8 rfl (World.shaped_of_RefB (by kernel_rfl) (by kernel_rfl)) (by kernel_rfl) (by kernel_rfl) (by kernel_rfl) (door_met os _)) ?_
  intro W base args ds gs before hval0 hW hcnd hsz0 hL _
  have hP:=pows_of hL
  have hval:∀ (j:Nat) t v,Tryz.f10.params[j]?=some t→args[j]?=some v→Value.okWide Tryz.prog W .any base t v:=hval0
  have hW':=hW
  obtain ⟨p,q,hA0,hV,rfl,hfz,hnd⟩:=hW
  have hA:DataW.TrodAll enc Tryz.prog W 0 (fun _=>true) true Tryz.f10.params.toList args.toList ds p:=hA0
  rw [Tryz.params10] at hA hval
  obtain ⟨v0,vs0,d0,ds0,p0,q0,hargs,rfl,rfl,h0,r0⟩:=trodAll_cons hA
  obtain ⟨v1,vs1,d1,ds1,p1,q1,rfl,rfl,rfl,h1,r1⟩:=trodAll_cons r0
  obtain ⟨v2,vs2,d2,ds2,p2,q2,rfl,rfl,rfl,h2,r2⟩:=trodAll_cons r1
  obtain ⟨rfl,rfl,rfl⟩:=trodAll_nil r2
  obtain rfl:args=#[v0,v1,v2]:=by cases args;simp_all
  obtain ⟨rfl,rfl⟩:=trodVars_none hV
  have lt0:∀ x∈p0,x.block < W.heap.size:=by obtain ⟨m,hm⟩:=h0;exact DataW.trod_lt m _ _ _ hm
  have k0:=h0
  obtain ⟨x0,rfl,_,_,w0⟩:=open_int (t:=22) (k := .u64) (by kernel_rfl) (hval 0 _ v0 rfl rfl) k0
  have b0:(0:Int)≤x0∧x0 < 18446744073709551616:=by
    have h:=int_of w0
    have e1:IntKind.u64.min=0:=rfl
    have e2:IntKind.u64.max=18446744073709551615:=rfl
    omega
  have lt1:∀ x∈p1,x.block < W.heap.size:=by obtain ⟨m,hm⟩:=h1;exact DataW.trod_lt m _ _ _ hm
  have k1:=h1
  obtain ⟨x1,rfl,_,_,w1⟩:=open_int (t:=22) (k := .u64) (by kernel_rfl) (hval 1 _ v1 rfl rfl) k1
  have b1:(0:Int)≤x1∧x1 < 18446744073709551616:=by
    have h:=int_of w1
    have e1:IntKind.u64.min=0:=rfl
    have e2:IntKind.u64.max=18446744073709551615:=rfl
    omega
  have lt2:∀ x∈p2,x.block < W.heap.size:=by obtain ⟨m,hm⟩:=h2;exact DataW.trod_lt m _ _ _ hm
  have k2:=h2
  obtain ⟨x2,hw2,hx2⟩:=open_acts18 (hval 2 _ v2 rfl rfl) k2
  clear hA0 hval0 hsz0
  refine (ret_calls (by kernel_rfl) (coreShifts_ret x0 x1 x2 v2 b0 b1 hx2 W hw2 hP)).mono fun e W' ⟨v,he,hv,ho⟩=>?_
  subst he hv
  have bel:=ho.below
  exact ⟨_,rfl,_,_,_,[],_,[],hW',trodAll_mk1 (shut_bool (by kernel_rfl) _),(trodAll_cons_mk (Below.trod laidOut (by kernel_rfl) (of_decide_eq_true (by kernel_rfl)) h0 bel lt0) (trodAll_cons_mk (Below.trod laidOut (by kernel_rfl) (of_decide_eq_true (by kernel_rfl)) h1 bel lt1) (trodAll_cons_mk (Below.trod laidOut (by kernel_rfl) (of_decide_eq_true (by kernel_rfl)) h2 bel lt2) trodAll_mk0))),rfl,bel.frame _,fun h=>by cases h⟩
end Go.Proofs.YtkbcfknnieggbaaGreatDoorX
namespace Go.Proofs.YtkbcfknnieggbaaGreatDoor
open Go Go.RowKit Go.ChangeShapes Go.WideShapes Go.ChangeAt
theorem coreShifts_nm : Tryz.prog.funcNamed "turnstone/turnstonelaw18.CoreShifts" = some 10 := by kernel_rfl
theorem coreShifts_ip:(Rows.coreShiftsRow.inPlace == Tryz.prog.inPlace 10)=true:=by kernel_rfl
theorem coreShifts_un:(Rows.coreShiftsRow.unfollowed == Tryz.prog.unfollowed 10)=true:=by kernel_rfl
theorem coreShifts_rc:(Rows.coreShiftsRow.recurses == Tryz.prog.recurses 10)=true:=by kernel_rfl
theorem coreShifts_nd:(Rows.coreShiftsRow.named == Tryz.prog.varsNamed 10)=true:=by kernel_rfl
theorem coreShifts_holds:Rows.CoreShiftsSaid :=
  OpenClaim.holds_of_wide 10 Tryz.f10 rfl rfl rfl rfl rfl rfl rfl ⟨rfl,rfl,rfl,rfl,rfl⟩ rfl rfl rfl rfl rfl coreShifts_nm Tryz.func10
    (by unfold joinedFacts;exact (and_mk (and_mk (and_mk (and_mk (and_mk (and_mk (and_mk (and_mk (and_mk (and_mk (and_mk (and_mk (and_mk (and_mk (and_mk (and_mk (and_mk (and_mk (and_mk (and_mk (and_mk (and_mk (and_mk (and_mk (and_mk (and_mk (and_mk (and_mk (and_mk (and_mk (and_mk (by kernel_rfl) pf_laid) pf_maps) (by kernel_rfl)) (by kernel_rfl)) (by kernel_rfl)) (by kernel_rfl)) (by kernel_rfl)) (by kernel_rfl)) coreShifts_ip) coreShifts_un) coreShifts_rc) coreShifts_nd) (by kernel_rfl)) (by kernel_rfl)) (by kernel_rfl)) (by kernel_rfl)) (by kernel_rfl)) (by kernel_rfl)) (by kernel_rfl)) (by kernel_rfl)) (by kernel_rfl)) pf_keys) (by kernel_rfl)) pf_heard) pf_enter) pf_lift) pf_make) (by kernel_rfl)) (by kernel_rfl)) (by kernel_rfl)) (by kernel_rfl)))
    (of_decide_eq_true (by kernel_rfl)) (by unfold Func.isWrapper;first | (rw [if_pos (by decide +kernel)];kernel_rfl) | (rw [if_neg (by decide +kernel)];exact ⟨rfl,rfl⟩))
    (fun os started H enc _=>YtkbcfknnieggbaaGreatDoorX.coreShifts_lifted os started H enc)
theorem coreShifts_w:Rows.coreShiftsRow.wfByText (OpenSpec.ofChange Rows.coreShiftsSpec)=true:=by kernel_rfl
theorem coreShifts_mn:Tryz.prog.mainIs=some (Rows.coreShiftsCard.stood.harness.1,Rows.coreShiftsCard.stood.harness.2.toList):=by kernel_rfl
theorem coreShifts_lk:Rows.coreShiftsCard.stood.looks=Tryz.prog.looks []:=by kernel_rfl
theorem coreShifts_gs:false=Rows.coreShiftsRow.goesBy Tryz.prog:=by kernel_rfl
theorem coreShifts_card:Rows.CoreShiftsCardSaid :=
  Claim7.holds_tied_plain_at .later [] [.data,.data,.data] true Rows.coreShiftsCard.stood.harness Rows.coreShiftsCard.stood.looks
    coreShifts_holds (fun _ h=>by cases h) coreShifts_w (fun _ h=>by cases h) coreShifts_row_tie rfl ⟨rfl,rfl⟩ coreShifts_mn rfl
    (fun f fn hf hfn=>by
      obtain rfl:f=10:=Option.some.inj (coreShifts_nm.symm.trans hf) |>.symm
      obtain rfl:fn=Tryz.f10:=(Option.some.inj (Tryz.func10.symm.trans hfn)).symm
      exact ⟨coreShifts_lk,fun j t ht=>by
        rw [Tryz.params10] at ht
        have hm:t∈[22,22,62]:=by simpa using Array.mem_of_getElem? ht
        have hall:([22,22,62].all fun u=>!Tryz.prog.wantsStandIn u)=true:=by kernel_rfl
        exact (show Tryz.prog.wantsStandIn t=false by simpa using List.all_eq_true.1 hall t hm)⟩)
    coreShifts_gs
end Go.Proofs.YtkbcfknnieggbaaGreatDoor
