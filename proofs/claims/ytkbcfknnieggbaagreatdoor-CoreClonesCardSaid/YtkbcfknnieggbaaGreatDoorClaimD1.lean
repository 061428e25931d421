/- Proved: law18.CoreClones returns true for every clock, every slice of acts and every number, and its arguments read as before; no conditions -/
import Derived.Test.YtkbcfknnieggbaaGreatDoorBaseU10
import Derived.Test.YtkbcfknnieggbaaGreatDoorCards
import Derived.SevenTiedAt
set_option linter.unusedVariables false
set_option linter.unusedSimpArgs false
set_option maxRecDepth 100000
namespace Go.Proofs.YtkbcfknnieggbaaGreatDoorX
open Go Go.RowKit
attribute [local irreducible] XS XC XA thenE blockE retE loopE loopS cutB cutN doneE SE
theorem neWd (x:Int):(!(cellEq (.int .i64 (x / 18446744073709551616)) (.int .i64 (x / 18446744073709551616)) && cellEq (.int .u64 (x % 18446744073709551616)) (.int .u64 (x % 18446744073709551616))))=false:=by
  show (!((x / 18446744073709551616 == x / 18446744073709551616) && (x % 18446744073709551616 == x % 18446744073709551616)))=false
  simp
end Go.Proofs.YtkbcfknnieggbaaGreatDoorX

namespace Go.Proofs.YtkbcfknnieggbaaGreatDoorX
open Go Go.RowKit Go.ChangeShapes Go.WideShapes Go.ChangeAt
set_option maxRecDepth 100000 in
theorem open_cap {H:Type} {enc:TypeId × Value→H} {W:World} {r:Reach} {b0 base:Nat} {spare:Nat→Bool} {held:Bool} {v:Value} {d:DataW H} {p:List MemPlace} {t e:Nat}
    (ht:Tryz.prog.underlying t=some (.slice e)) (hv:Value.okWide Tryz.prog W r b0 t v) (h:DataW.Trod enc Tryz.prog W base spare held t v d p):∀ ad n cap,v = .slice ad n cap→n≤cap:=by
  intro ad n cap hn
  obtain ⟨a0,len,cap0,rfl⟩:=okWide_slice ht hv
  cases hn
  obtain ⟨fuel,hf⟩:=h
  rcases Deep.open_slice ht hf with ⟨hc,hx⟩ | ⟨a,len',cap',m,n',D,Pl,hc,hb,hl,hm,hmm,hx,hall⟩
  · obtain ⟨h1,h2,h3⟩:ad=none∧n=0∧cap=0:=by injection hc with h1 h2;injection h1 with h1 h2 h3;exact ⟨h1,h2,h3⟩
    omega
  · obtain ⟨h1,h2,h3⟩:ad=some a∧n=len'∧cap=cap':=by injection hc with h1 h2;injection h1 with h1 h2 h3;exact ⟨h1,h2,h3⟩
    omega
section
variable {P : Program} {T : Tab} {d : Option Nat} {ty : Nat} {pos : String} {aft : Array Edge} {g : Option (Nat × Bool)} {env : Env} {w : World}
theorem r_sliceG (hT:TabOk P T) {t e size bytes m c:Nat} {a:Option Addr} {x:Operand} {lo hi:Option Operand} {l h:Nat} (ht:look t T.sls=some (e,size,bytes)) (hx:ev env x = .slice a m c)
    (hlo:Lo env lo l) (hhi:Hi env hi m h) (h1:l≤h) (h2:h≤c) :
    (execOp (ev env) (⟨d,.slice t x lo hi none,ty,pos,aft,g⟩:Oper)).run P w = .ok (.value (.slice (if c=l then a else a.map (·.add (l*size))) (h - l) (c - l))) w:=by
  obtain ⟨hu,ii,hi',hs,_⟩:=sl_parts (hT.sl ht)
  cases hi with
  | some o2 =>
    obtain ⟨k2,hhi⟩:=hhi
    cases lo with
    | some o1 =>
      obtain ⟨k1,hlo⟩:=hlo
      simp [execOp,Instr.sliceAt,Sem.run_bind,run_underlying' hu,hx,Instr.slice,Instr.sliceBounds,bound_some hhi h2,bound_some hlo h1,sizeOf,run_typeInfo' hi',hs]
    | none =>
      have hl:l=0:=hlo
      subst hl
      simp [execOp,Instr.sliceAt,Sem.run_bind,run_underlying' hu,hx,Instr.slice,Instr.sliceBounds,bound_some hhi h2,sizeOf,run_typeInfo' hi',hs]
  | none =>
    have hh:h=m:=hhi
    subst hh
    cases lo with
    | some o1 =>
      obtain ⟨k1,hlo⟩:=hlo
      simp [execOp,Instr.sliceAt,Sem.run_bind,run_underlying' hu,hx,Instr.slice,Instr.sliceBounds,bound_some hlo h1,sizeOf,run_typeInfo' hi',hs]
    | none =>
      have hl:l=0:=hlo
      subst hl
      simp [execOp,Instr.sliceAt,Sem.run_bind,run_underlying' hu,hx,Instr.slice,Instr.sliceBounds,sizeOf,run_typeInfo' hi',hs]
end
theorem LsX.sub {w:World} {k m c l h:Nat} {ad:Option Addr} {xs:List (List Value)} (hL:LsX w k (.slice ad m c) xs) (h1:l≤h) (h2:h≤m) (h3:m≤c):LsX w k (.slice (if c=l then ad else ad.map (·.add (l*k))) (h - l) (c - l)) ((xs.drop l).take (h - l)):=by
  obtain ⟨ad',cap',e,hD⟩:=hL
  cases e
  refine ⟨_,_,by rw [List.length_take,List.length_drop,Nat.min_eq_left (by omega)],fun hn=>?_⟩
  have hx:xs≠[]:=fun e=>hn (by rw [e];simp)
  have hlt:l < h:=by
    rcases Nat.lt_or_ge l h with q | q
    · exact q
    · exact absurd (by rw [Nat.sub_eq_zero_of_le q,List.take_zero]) hn
  obtain ⟨b,off,cs,E,fz,rfl,hb,hc⟩:=hD hx
  refine ⟨b,off+l*k,cs,E,fz,?_,hb,fun i x hi=>?_⟩
  · rw [if_neg (by omega)]
    simp [add_addr]
  · have hi2:xs[l+i]?=some x:=by
      rw [List.getElem?_take] at hi
      split at hi
      · rwa [List.getElem?_drop] at hi
      · cases hi
    have:=hc (l+i) x hi2
    rwa [show off+l*k+i*k=off+(l+i)*k by rw [Nat.add_mul];omega]
end Go.Proofs.YtkbcfknnieggbaaGreatDoorX

namespace Go.Proofs.YtkbcfknnieggbaaGreatDoorX
open Go Go.RowKit
attribute [local irreducible] XS XC XA thenE blockE retE loopE loopS cutB cutN doneE SE
theorem act_snoc (c:Cs) {l:List Ac18} {i:Nat} (h:i < l.length):actsC c (l.take (i+1))=tryC (actsC c (l.take i)) (doC (actsC c (l.take i)) l[i]).1 (doC (actsC c (l.take i)) l[i]).2.1:=by rw [take_next h,actsC_snoc];rfl
theorem LsX.acts {w:World} {ad:Option Addr} {n c:Nat} {l:List Ac18} (h:LsX w 5 (.slice ad n c) (l.map Ac18.cells)):n=l.length∧(l≠[]→∃ (b off:Nat) (cs:List Value) (E:TypeId) (fz:Nat × Nat),ad=some ⟨b,off,none⟩∧w.heap[b]?=some (.cells cs.toArray E fz)∧∀ (i:Nat) (x:Ac18),l[i]?=some x→Pick cs (off+i*5) 5 x.cells):=by
  obtain ⟨ad',cap',e,hD⟩:=h
  cases e
  refine ⟨by rw [List.length_map],fun hn=>?_⟩
  obtain ⟨b,off,cs,E,fz,h1,h2,h3⟩:=hD (fun k=>hn (List.map_eq_nil_iff.1 k))
  exact ⟨b,off,cs,E,fz,h1,h2,fun i x hx=>h3 i _ (by rw [List.getElem?_map,hx];rfl)⟩
set_option maxHeartbeats 32000000 in
theorem coreClones_ret (clock:Int) (xs:List Ac18) (sl:Value) (n:Int) (hc0:U64 clock) (hx:∀ a∈xs,a.In) (hn:0≤n∧n < 256) (w0:World) (hL:LsX w0 5 sl (xs.map Ac18.cells)) (hcap:∀ ad n cap,sl = .slice ad n cap→n≤cap) (ht:Pows w0):Ret Tryz.prog 9 #[.int .u64 clock,sl,.int .u8 n] w0 fun v w'=>v = .bool true∧Only [] w0 w':=by
  have hL0:=hL
  obtain ⟨ad,cap,rfl,hD⟩:=hL
  have hcp:=hcap _ _ _ rfl
  rw [List.length_map] at hL0 hcp ⊢
  have hs:=St.nil w0
  refine ret_of_xc Tryz.func9 (by kernel_rfl) rfl Tryz.ntmps9 rfl rfl rfl ?_
  repeat' (first|refine vs (k:=?_)|refine qRg ?_|refine Nx.h ?_|fail)
  (with_reducible apply xs_call);exact rfl;exact rfl;exact awake18_ret _ (tab_only ht (hs.only0 rfl))
  rintro v w' ⟨rfl,ho⟩;replace hs:=hs.call0 ho;repeat' (first|refine vs (k:=?_)|refine qRg ?_|refine Nx.h ?_|refine qCf ?_|fail)
  (with_reducible apply xs_call);exact rfl;exact rfl;exact light_ret xs _ hx _ (hL0.only (hs.only0 rfl))
  rintro v w1 ⟨⟨bl,rfl,hbl⟩,ho1⟩;replace hs:=hs.call0 ho1
  cases bl with
  | false =>
    repeat' (first|refine vs (k:=?_)|refine qRg ?_|refine Nx.h ?_|refine qCt ?_|fail)
    first | refine rt (hq:=?_) | refine rt' (hq:=?_)
    exact ⟨rfl,hs.only0 rfl⟩
  | true =>
  have hm:=hbl rfl
  repeat' (first|refine vs (k:=?_)|refine qRg ?_|refine Nx.h ?_|refine qCf ?_|fail)
  have hoB:=hs.only0 rfl
  (with_reducible apply xs_call);exact rfl;exact rfl;exact cnew_ret clock hc0 _
  rintro v w2 ⟨⟨cb,F1,rfl,hC1,hF1⟩,ho2⟩
  have hoA:=hoB.trans ho2
  have hzB:=hoB.size
  have hF1':∀ k∈F1,w0.heap.size≤k:=fun k hk=>by have:=hF1 k hk;omega
  clear hs
  have hs:=St.nil w2
  repeat' (first|refine vs (k:=?_)|refine qRg ?_|refine Nx.h ?_|fail)
  have hoC:=hs.only0 rfl
  have hC2:=hC1.only hoC
  (with_reducible apply xs_call);exact rfl;exact rfl;exact tickT_ret cb (newC clock) F1 5 _ hC2 ⟨by decide,by decide⟩
  have eT:tickC (newC clock) 5=(0,newC clock,.none):=tick_none rfl (by decide) (by decide)
  have eC:tryC (newC clock) 0 (newC clock)=newC clock:=by
    show (if (0:Int)=0 then setC (newC clock) else newC clock)=newC clock
    rw [if_pos rfl,setC_nil rfl];rfl
  have eR:tryR 0 (newC clock) .none = .none:=by
    show (if (0:Int)=0 then (⟨Rp.none.g ++ goneC (newC clock),Rp.none.p⟩:Rp) else .none) = .none
    rw [if_pos rfl]
    have:goneC (newC clock)=[]:=by unfold goneC;rw [flushA_nil rfl]
    rw [this];rfl
  rw [eT]
  rintro v w3 ⟨rv,rfl,T⟩
  obtain ⟨⟨vg,vp,Gg,Gp,rfl,p1,p2⟩,⟨F2,hC3,hF2⟩,ho3⟩:=T
  rw [eR] at p1 p2
  rw [eC] at hC3
  obtain ⟨ag,cg,rfl⟩:=slv_form p1
  obtain ⟨ap,cp,rfl⟩:=slv_form p2
  have hzC:=hoC.size
  have hzA:=hoA.size
  have hF2':∀ k∈F2,w0.heap.size≤k:=fun k hk=>by
    rcases hF2 k hk with h | h
    · exact hF1' k h
    · omega
  have ho30:Only [] w0 w3:=(hoA.trans hoC).step ho3 (fun k hk => .inr (by obtain rfl:=List.mem_singleton.1 hk;exact hF1' _ hC2.mem))
  obtain ⟨sb,qb,mb,Fs,eF,c1o,s1o,hS1,hQ1,ms1⟩:=hC3.opn
  clear hs p1 p2
  have hs:=((St.nil w3).trackT c1o).trackT s1o
  repeat' (first|refine vs (k:=?_)|(refine stA hs (k:=?_);intro w hs)|(refine al hs (k:=?_);intro b w hz hs)|refine qRg ?_|refine Nx.h ?_|fail)
  have hoa:=hs.onlyF [] (by simp [c1o,s1o]) (by simp [D0])
  (with_reducible apply xs_call);exact rfl;exact rfl;exact anow_ret qb (newC clock).A _ (hQ1.only hoa)
  rw [show nowA (newC clock).A=clock from rfl]
  rintro v w' ⟨rfl,ho⟩;replace hs:=hs.call0 ho;repeat' (first|refine vs (k:=?_)|refine qRg ?_|refine Nx.h ?_|(refine xc_cond rfl (fun hc=>?_) (fun hc=>?_))|fail)
  · exact absurd hc (by simp)
  obtain ⟨k,hk1,hk2⟩:∃ k:Nat,(if ((xs.length:Nat):Int) < IntKind.i64.wrap n then ((xs.length:Nat):Int) else IntKind.i64.wrap n)=((k:Nat):Int)∧k≤xs.length:=by
    have e:IntKind.i64.wrap n=n:=i64_small (by omega) (by omega)
    rw [e]
    by_cases h:((xs.length:Nat):Int) < n
    · exact ⟨xs.length,if_pos h,Nat.le_refl _⟩
    · exact ⟨n.toNat,by rw [if_neg h];omega,by omega⟩
  rw [hk1]
  have hsubY:=(hL0.sub (l:=0) (h:=k) (Nat.zero_le _) hk2 hcp)
  have hsubZ:=(hL0.sub (l:=k) (h:=xs.length) hk2 (Nat.le_refl _) hcp)
  rw [← List.map_drop,← List.map_take,List.drop_zero,Nat.sub_zero,Nat.sub_zero] at hsubY
  rw [← List.map_drop,← List.map_take] at hsubZ
  have eZ:(xs.drop k).take (xs.length - k)=xs.drop k:=List.take_of_length_le (by rw [List.length_drop];exact Nat.le_refl _)
  rw [eZ] at hsubZ
  obtain ⟨eY1,hYD⟩:=hsubY.acts
  obtain ⟨eZ1,hZD⟩:=hsubZ.acts
  have hYin:∀ a∈xs.take k,a.In:=fun a ha=>hx a (List.mem_of_mem_take ha)
  have hZin:∀ a∈xs.drop k,a.In:=fun a ha=>hx a (List.mem_of_mem_drop ha)
  have hYl:(xs.take k).length≤40:=by rw [List.length_take];omega
  have hZl:(xs.drop k).length≤40:=by rw [List.length_drop];omega
  have hsl1:∀ (env:Env) (w:World) (pos:String) (aft:Array Edge) (x:Operand) (o:Operand) (t:Nat),True:=fun _ _ _ _ _ _ _=>trivial
  refine xs_val rfl (r_sliceG (l:=0) (h:=k) tabOk rfl rfl rfl ⟨.i64,rfl⟩ (Nat.zero_le _) (by omega)) ?_
  rw [Nat.sub_zero,Nat.sub_zero]
  generalize hA1:(if cap=0 then ad else ad.map (·.add (0*5)))=A1 at *
  generalize hZ1:(if cap=k then ad else ad.map (·.add (k*5)))=A2 at *
  generalize xs.take k=Y at *
  repeat' (first|refine vs (k:=?_)|refine Nx.h ?_|fail)
  have hoW:=hs.onlyF [] (by simp [c1o,s1o]) (by simp [D0])
  refine xc_cutB (fun (F:List Nat)=>[(0,.int .u64 clock),(1,.slice ad xs.length cap),(7,.pointer (some ⟨cb,0,none⟩)),(10,.int .i64 (k:Nat))]) (fun F w=>CAt w cb (actsC (newC clock) Y) F∧(∀ k∈F,w0.heap.size≤k)∧Only [] w0 w) ?_ ?_
  · refine xc_loopS (fun (x:Nat × List Nat)=>[(0,.int .u64 clock),(1,.slice ad xs.length cap),(7,.pointer (some ⟨cb,0,none⟩)),(10,.int .i64 (k:Nat)),(62,.slice A1 k cap),(63,.int .i64 (k:Nat)),(64,.int .i64 (x.1:Nat))])
      (fun x w=>x.1≤Y.length∧CAt w cb (actsC (newC clock) (Y.take x.1)) x.2∧(∀ k∈x.2,w0.heap.size≤k)∧Only [] w0 w) (fun x=>Y.length - x.1) (0,F2) (by (repeat (first | exact agree_nil | (apply agree_cons;exact rfl)))) ⟨Nat.zero_le _,hC3.only hoW,hF2',ho30.trans hoW⟩ fun x env wl ⟨hi,hC,hF,hoL⟩=>?_
    obtain ⟨i,F⟩:=x
    simp only at hi hC hF
    clear hs
    have hs:=St.nil wl
    repeat' (first|refine vs (k:=?_)|refine qRg ?_|refine Nx.h ?_|(refine xc_if rfl (fun hc=>?_) (fun hc=>?_))|fail)
    · have hlt:i < Y.length:=by omega
      obtain ⟨b0,off,cs,E,fz,hab,hb,hcs⟩:=hYD (List.ne_nil_of_mem (List.getElem_mem hlt))
      have hpk:=hcs i Y[i] (List.getElem?_eq_getElem hlt)
      have ei:=nx64 (m:=Y.length) hlt (by omega)
      have hq:=hYin Y[i] (List.getElem_mem hlt)
      have eA:=act_snoc (newC clock) hlt
      generalize Y[i]=q at *
      generalize actsC (newC clock) (Y.take i)=c at *
      rw [hab]
      refine ix (h0:=(by omega)) (h1:=(by omega)) (k:=?_)
      refine lhK (vs:=q.cells) (hoL.block hb (by simp)) hpk (k:=?_)
      refine al hs (k:=?_);clear hs;intro b12 w10 hz10 hs
      refine stA hs (k:=?_);clear hs;intro w11 hs
      repeat' (first|refine vs (k:=?_)|refine qRg ?_|refine Nx.h ?_|fail)
      have ho11:=hs.only0 rfl
      (with_reducible apply xs_call);exact rfl;exact rfl;exact act_ret cb c F q hq _ (hC.only ho11)
      rintro v w12 ⟨rv,rfl,T⟩
      obtain ⟨ag,cg,ap,cp,rfl⟩:=T.form
      obtain ⟨_,⟨F',hC12,hF12⟩,ho12⟩:=T
      have hz11:=ho11.size
      have hzL:=hoL.size
      have hF':∀ k∈F',w0.heap.size≤k:=fun k hk=>by
        rcases hF12 k hk with h | h
        · exact hF k h
        · omega
      have hoA12:Only [] w0 w12:=(hoL.trans ho11).step ho12 (fun k hk => .inr (by obtain rfl:=List.mem_singleton.1 hk;exact hF _ hC.mem))
      clear hs
      have hs:=St.nil w12
      repeat' (first|refine vs (k:=?_)|refine qRg ?_|refine Nx.h ?_|fail)
      have hoz:=hs.only0 rfl
      rw [← hab]
      refine loopS_next (i+1,F') (by show Y.length - (i+1) < Y.length - i;omega) (by (repeat (first | exact agree_nil | (apply agree_cons;first | exact rfl | exact congrArg (Value.int .i64) ei)))) ⟨by show i+1≤_;omega,by show CAt _ cb (actsC (newC clock) (Y.take (i+1))) F';rw [eA];exact hC12.only hoz,hF',hoA12.trans hoz⟩
    · have e:i=Y.length:=by omega
      subst e
      rw [List.take_length] at hC
      exact cutB_exit F (by (repeat (first | exact agree_nil | (apply agree_cons;exact rfl)))) ⟨hC,hF,hoL⟩
  rintro F env w20 ⟨hC20,hF20,ho20⟩
  clear hs c1o s1o hS1 hQ1 eF hC3
  generalize hc0':actsC (newC clock) Y=c0 at *
  have hs:=St.nil w20
  repeat' (first|refine vs (k:=?_)|refine qRg ?_|refine Nx.h ?_|fail)
  have hoX:=hs.only0 rfl
  (with_reducible apply xs_call);exact rfl;exact rfl;exact cclone_ret cb c0 F _ (hC20.only hoX)
  rintro v w21 ⟨⟨db,G,rfl,hD21,hG⟩,ho21⟩
  have T0:TwoC w0 cb db c0 c0 F G w21:=TwoC.clone (hC20.only hoX) hF20 (ho20.trans hoX) hD21 hG ho21
  obtain ⟨sb,qb,mb,Fs,eF,c1o,s1o,hS1,hQ1,ms1⟩:=T0.a.opn
  clear hs
  have hs:=((St.nil w21).trackT c1o).trackT s1o
  repeat' (first|refine vs (k:=?_)|refine qRg ?_|refine Nx.h ?_|fail)
  have hoa:=hs.onlyF [] (by simp [c1o,s1o]) (by simp [D0])
  (with_reducible apply xs_call);exact rfl;exact rfl;exact areqs_ret sb c0.A Fs _ (hS1.only hoa)
  rintro v w22 ⟨⟨GW,hGW,_⟩,ho22⟩
  obtain ⟨adw,cpw,rfl⟩:=slv_form hGW
  have T1:=T0.keep (hoa.trans ho22)
  clear hs
  have hs:=St.nil w22
  repeat' (first|refine vs (k:=?_)|refine qRg ?_|refine Nx.h ?_|fail)
  refine xs_val rfl (r_sliceG (l:=k) (h:=xs.length) tabOk rfl rfl ⟨.i64,rfl⟩ rfl hk2 hcp) ?_
  rw [hZ1]
  generalize xs.drop k=Z at *
  repeat' (first|refine vs (k:=?_)|refine Nx.h ?_|fail)
  have hoW2:=hs.only0 rfl
  refine xc_cutB (fun (X:List Nat)=>[(1,.slice ad xs.length cap),(7,.pointer (some ⟨cb,0,none⟩)),(10,.int .i64 (k:Nat)),(13,.pointer (some ⟨db,0,none⟩)),(14,.slice adw c0.A.l.length cpw)]) (fun X w=>TwoC w0 cb db c0 (actsC c0 Z) F X w∧SlV w 51 10 (.slice adw c0.A.l.length cpw) c0.A.l.length (flatR c0.A.l) GW) ?_ ?_
  · refine xc_loopS (fun (x:Nat × List Nat)=>[(1,.slice ad xs.length cap),(7,.pointer (some ⟨cb,0,none⟩)),(10,.int .i64 (k:Nat)),(13,.pointer (some ⟨db,0,none⟩)),(14,.slice adw c0.A.l.length cpw),(81,.slice A2 (xs.length - k) (cap - k)),(82,.int .i64 ((xs.length - k:Nat):Int)),(83,.int .i64 (x.1:Nat))])
      (fun x w=>x.1≤Z.length∧TwoC w0 cb db c0 (actsC c0 (Z.take x.1)) F x.2 w∧SlV w 51 10 (.slice adw c0.A.l.length cpw) c0.A.l.length (flatR c0.A.l) GW) (fun x=>Z.length - x.1) (0,G) (by (repeat (first | exact agree_nil | (apply agree_cons;exact rfl)))) ⟨Nat.zero_le _,T1.keep hoW2,hGW.keep hoW2 (by simp)⟩ fun x env wl ⟨hi,hT,hW⟩=>?_
    obtain ⟨i,X⟩:=x
    simp only at hi hT
    clear hs
    have hs:=St.nil wl
    repeat' (first|refine vs (k:=?_)|refine qRg ?_|refine Nx.h ?_|(refine xc_if rfl (fun hc=>?_) (fun hc=>?_))|fail)
    · have hlt:i < Z.length:=by omega
      obtain ⟨b0,off,cs,E,fz,hab,hb,hcs⟩:=hZD (List.ne_nil_of_mem (List.getElem_mem hlt))
      have hpk:=hcs i Z[i] (List.getElem?_eq_getElem hlt)
      have ei:=nx64 (m:=Z.length) hlt (by omega)
      have hq:=hZin Z[i] (List.getElem_mem hlt)
      have eA:=act_snoc c0 hlt
      generalize Z[i]=q at *
      generalize actsC c0 (Z.take i)=c at *
      rw [hab]
      refine ix (h0:=(by omega)) (h1:=(by omega)) (k:=?_)
      refine lhK (vs:=q.cells) (hT.o.block hb (by simp)) hpk (k:=?_)
      refine al hs (k:=?_);clear hs;intro b12 w10 hz10 hs
      refine stA hs (k:=?_);clear hs;intro w11 hs
      repeat' (first|refine vs (k:=?_)|refine qRg ?_|refine Nx.h ?_|fail)
      have ho11:=hs.only0 rfl
      have hT11:=hT.keep ho11
      (with_reducible apply xs_call);exact rfl;exact rfl;exact act_ret db c X q hq _ hT11.b
      rintro v w12 ⟨rv,rfl,T⟩
      obtain ⟨ag,cg,ap,cp,rfl⟩:=T.form
      obtain ⟨X',hT12⟩:=hT11.right T
      obtain ⟨_,_,_,_,_,hdbo,_⟩:=hT11.b.opn
      have hW11:=hW.keep ho11 (by simp)
      have hW12:=hW11.keep T.2.2 (fun kk hk hm=>by obtain rfl:=List.mem_singleton.1 hm;exact slv_ne hW11 hdbo (by decide) hk)
      clear hs
      have hs:=St.nil w12
      repeat' (first|refine vs (k:=?_)|refine qRg ?_|refine Nx.h ?_|fail)
      have hoz:=hs.only0 rfl
      rw [← hab]
      refine loopS_next (i+1,X') (by show Z.length - (i+1) < Z.length - i;omega) (by (repeat (first | exact agree_nil | (apply agree_cons;first | exact rfl | exact congrArg (Value.int .i64) ei)))) ⟨by show i+1≤_;omega,?_,hW12.keep hoz (by simp)⟩
      show TwoC w0 cb db c0 (actsC c0 (Z.take (i+1))) F X' _
      rw [eA]
      exact hT12.keep hoz
    · have e:i=Z.length:=by omega
      subst e
      rw [List.take_length] at hT
      exact cutB_exit X (by (repeat (first | exact agree_nil | (apply agree_cons;exact rfl)))) ⟨hT,hW⟩
  rintro G env w30 ⟨hT30,hW30⟩
  clear hs c1o s1o hS1 hQ1 eF
  obtain ⟨d0,hd0⟩:∃ d0,d0=actsC c0 Z:=⟨_,rfl⟩
  rw [← hd0] at hT30
  obtain ⟨sb,qb,mb,Fs,eF,c1o,s1o,hS1,hQ1,ms1⟩:=hT30.a.opn
  have hlen:(c0.A.l.map Subtype.val).length≤9223372036854775807:=by obtain ⟨s,h⟩:=hS1.rep;rw [List.length_map];have:=h.le;omega
  have hs:=((St.nil w30).trackT c1o).trackT s1o
  repeat' (first|refine vs (k:=?_)|refine qRg ?_|refine Nx.h ?_|fail)
  have hoa:=hs.onlyF [] (by simp [c1o,s1o]) (by simp [D0])
  (with_reducible apply xs_call);exact rfl;exact rfl;exact areqs_ret sb c0.A Fs _ (hS1.only hoa)
  rintro v w31 ⟨⟨GX,hGX,_⟩,ho31⟩;replace hs:=hs.call0 ho31
  repeat' (first|refine vs (k:=?_)|fail)
  (with_reducible apply xs_call);exact rfl;exact rfl;exact eqR_ret _ _ (c0.A.l.map Subtype.val) (c0.A.l.map Subtype.val) hlen _ (rs_rq hGX) (rs_rq ((hW30.keep hoa (by simp)).keep ho31 (by simp)))
  rw [show decide (c0.A.l.map Subtype.val=c0.A.l.map Subtype.val)=true from decide_eq_true rfl]
  rintro v w' ⟨rfl,ho⟩;replace hs:=hs.call0 ho;repeat' (first|refine vs (k:=?_)|refine qRg ?_|refine Nx.h ?_|refine qCf ?_|fail)
  have hT31:=hT30.keep (hs.onlyF [] (by simp [c1o,s1o]) (by simp [D0]))
  clear hs
  have hs:=St.nil w'
  refine xs_val rfl (r_sliceG (l:=k) (h:=xs.length) tabOk rfl rfl ⟨.i64,rfl⟩ rfl hk2 hcp) ?_
  rw [hZ1]
  repeat' (first|refine vs (k:=?_)|refine Nx.h ?_|fail)
  have hoW3:=hs.only0 rfl
  refine xc_cutB (fun (X:List Nat)=>[(1,.slice ad xs.length cap),(7,.pointer (some ⟨cb,0,none⟩)),(10,.int .i64 (k:Nat)),(13,.pointer (some ⟨db,0,none⟩))]) (fun X w=>TwoC w0 cb db (actsC c0 Z) d0 X G w) ?_ ?_
  · refine xc_loopS (fun (x:Nat × List Nat)=>[(1,.slice ad xs.length cap),(7,.pointer (some ⟨cb,0,none⟩)),(10,.int .i64 (k:Nat)),(13,.pointer (some ⟨db,0,none⟩)),(101,.slice A2 (xs.length - k) (cap - k)),(102,.int .i64 ((xs.length - k:Nat):Int)),(103,.int .i64 (x.1:Nat))])
      (fun x w=>x.1≤Z.length∧TwoC w0 cb db (actsC c0 (Z.take x.1)) d0 x.2 G w) (fun x=>Z.length - x.1) (0,F) (by (repeat (first | exact agree_nil | (apply agree_cons;exact rfl)))) ⟨Nat.zero_le _,hT31.keep hoW3⟩ fun x env wl ⟨hi,hT⟩=>?_
    obtain ⟨i,X⟩:=x
    simp only at hi hT
    clear hs
    have hs:=St.nil wl
    repeat' (first|refine vs (k:=?_)|refine qRg ?_|refine Nx.h ?_|(refine xc_if rfl (fun hc=>?_) (fun hc=>?_))|fail)
    · have hlt:i < Z.length:=by omega
      obtain ⟨b0,off,cs,E,fz,hab,hb,hcs⟩:=hZD (List.ne_nil_of_mem (List.getElem_mem hlt))
      have hpk:=hcs i Z[i] (List.getElem?_eq_getElem hlt)
      have ei:=nx64 (m:=Z.length) hlt (by omega)
      have hq:=hZin Z[i] (List.getElem_mem hlt)
      have eA:=act_snoc c0 hlt
      generalize Z[i]=q at *
      generalize actsC c0 (Z.take i)=c at *
      rw [hab]
      refine ix (h0:=(by omega)) (h1:=(by omega)) (k:=?_)
      refine lhK (vs:=q.cells) (hT.o.block hb (by simp)) hpk (k:=?_)
      refine al hs (k:=?_);clear hs;intro b12 w10 hz10 hs
      refine stA hs (k:=?_);clear hs;intro w11 hs
      repeat' (first|refine vs (k:=?_)|refine qRg ?_|refine Nx.h ?_|fail)
      have ho11:=hs.only0 rfl
      have hT11:=hT.keep ho11
      (with_reducible apply xs_call);exact rfl;exact rfl;exact act_ret cb c X q hq _ hT11.a
      rintro v w12 ⟨rv,rfl,T⟩
      obtain ⟨ag,cg,ap,cp,rfl⟩:=T.form
      obtain ⟨X',hT12⟩:=hT11.left T
      clear hs
      have hs:=St.nil w12
      repeat' (first|refine vs (k:=?_)|refine qRg ?_|refine Nx.h ?_|fail)
      have hoz:=hs.only0 rfl
      rw [← hab]
      refine loopS_next (i+1,X') (by show Z.length - (i+1) < Z.length - i;omega) (by (repeat (first | exact agree_nil | (apply agree_cons;first | exact rfl | exact congrArg (Value.int .i64) ei)))) ⟨by show i+1≤_;omega,?_⟩
      show TwoC w0 cb db (actsC c0 (Z.take (i+1))) d0 X' G _
      rw [eA]
      exact hT12.keep hoz
    · have e:i=Z.length:=by omega
      subst e
      rw [List.take_length] at hT
      exact cutB_exit X (by (repeat (first | exact agree_nil | (apply agree_cons;exact rfl)))) hT
  rintro F env w40 hT40
  rw [← hd0] at hT40
  clear hs c1o s1o hS1 hQ1 eF
  obtain ⟨sb,qb,mb,Fs,eF,c1o,s1o,hS1,hQ1,ms1⟩:=hT40.a.opn
  obtain ⟨ub,rb,nb,Us,eU,c2o,s2o,hS2,hQ2,ms2⟩:=hT40.b.opn
  have n1:=hT40.ne
  have n2:ub≠sb:=fun k=>hT40.d sb (by rw [eF];simp [ms1]) (by rw [eU,← k];simp [ms2])
  have d1:db≠sb:=blocks_ne c2o s1o (by decide)
  have d2:ub≠cb:=blocks_ne s2o c1o (by decide)
  have d3:ub≠db:=blocks_ne s2o c2o (by decide)
  have hlen:(d0.A.l.map Subtype.val).length≤9223372036854775807:=by obtain ⟨s,h⟩:=hS1.rep;rw [List.length_map];have:=h.le;omega
  have hs:=(((St.nil w40).trackT c1o).trackT s1o).track c2o (by simp [n1,d1])
  replace hs:=hs.track s2o (by simp [n2,d2,d3])
  repeat' (first|refine Nx.h ?_|fail)
  refine dr [] hs (k:=?_);intro hX w hs
  refine tk 0 hX (k:=?_)
  refine tk 1 hX (k:=?_)
  refine tk 2 hX (k:=?_)
  refine tk 3 hX (k:=?_)
  refine tk 5 hX (k:=?_)
  refine tk 6 hX (k:=?_)
  refine tk 7 hX (k:=?_)
  refine tk 8 hX (k:=?_)
  refine dt 4 hX (k:=?_)
  have hoa:=hs.onlyF [] (by simp [c1o,s1o,c2o,s2o]) (by simp [D0])
  (with_reducible apply xs_call);exact rfl;exact rfl;exact areqs_ret sb d0.A Fs _ (hS1.only hoa)
  rintro v9 w9 ⟨⟨Ga,hGa,_⟩,hob⟩;replace hs:=hs.call0 hob
  refine XS.nil ?_
  refine dn (k:=?_)
  refine dt 9 hX (k:=?_)
  have hoa:=hs.onlyF [] (by simp [c1o,s1o,c2o,s2o]) (by simp [D0])
  (with_reducible apply xs_call);exact rfl;exact rfl;exact areqs_ret ub d0.A Us _ (hS2.only hoa)
  rintro v10 w10 ⟨⟨Gb,hGb,_⟩,hoc⟩;replace hs:=hs.call0 hoc
  refine XS.nil ?_
  refine dn (k:=?_)
  refine dt 10 hX (k:=?_)
  (with_reducible apply xs_call);exact rfl;exact rfl;exact eqR_ret _ _ (d0.A.l.map Subtype.val) (d0.A.l.map Subtype.val) hlen _ (rs_rq (hGa.keep hoc (by simp))) (rs_rq hGb)
  rintro v8 w8 ⟨rfl,hob⟩;replace hs:=hs.call0 hob
  refine XS.nil ?_
  refine dn (k:=?_)
  refine xa_set 121 (v := .bool true) (congrArg Value.bool (decide_eq_true rfl)) ?_
  refine tk 11 hX (k:=?_)
  refine tk 12 hX (k:=?_)
  refine tk 14 hX (k:=?_)
  refine dt 13 hX (k:=?_)
  have hoa:=hs.onlyF [] (by simp [c1o,s1o,c2o,s2o]) (by simp [D0])
  (with_reducible apply xs_call);exact rfl;exact rfl;exact crun_ret cb d0 F _ (hT40.keep hoa).a
  rintro v8 w8 ⟨rfl,hob⟩;replace hs:=hs.call0 hob
  refine XS.nil ?_
  refine dn (k:=?_)
  refine dt 15 hX (k:=?_)
  have hoa:=hs.onlyF [] (by simp [c1o,s1o,c2o,s2o]) (by simp [D0])
  (with_reducible apply xs_call);exact rfl;exact rfl;exact crun_ret db d0 G _ (hT40.keep hoa).b
  rintro v8 w8 ⟨rfl,hob⟩;replace hs:=hs.call0 hob
  refine XS.nil ?_
  refine dn (k:=?_)
  refine tk 16 hX (k:=?_)
  refine xa_set 127 (v := .bool true) (congrArg Value.bool (show (d0.run == d0.run)=true by simp)) ?_
  refine tk 17 hX (k:=?_)
  refine tk 18 hX (k:=?_)
  refine tk 19 hX (k:=?_)
  refine tk 21 hX (k:=?_)
  refine dt 20 hX (k:=?_)
  have hoa:=hs.onlyF [] (by simp [c1o,s1o,c2o,s2o]) (by simp [D0])
  (with_reducible apply xs_call);exact rfl;exact rfl;exact ccarried_ret cb d0 F _ (hT40.keep hoa).a
  rintro v8 w8 ⟨rfl,hob⟩;replace hs:=hs.call0 hob
  refine XS.nil ?_
  refine dn (k:=?_)
  refine dt 22 hX (k:=?_)
  have hoa:=hs.onlyF [] (by simp [c1o,s1o,c2o,s2o]) (by simp [D0])
  (with_reducible apply xs_call);exact rfl;exact rfl;exact ccarried_ret db d0 G _ (hT40.keep hoa).b
  rintro v8 w8 ⟨rfl,hob⟩;replace hs:=hs.call0 hob
  refine XS.nil ?_
  refine dn (k:=?_)
  refine tk 23 hX (k:=?_)
  refine xa_set 134 (v := .bool true) (congrArg Value.bool (by have:=neWd d0.carr;simpa using this)) ?_
  refine tk 24 hX (k:=?_)
  refine tk 25 hX (k:=?_)
  refine tk 26 hX (k:=?_)
  refine tk 27 hX (k:=?_)
  refine tk 28 hX (k:=?_)
  refine tk 29 hX (k:=?_)
  refine tk 30 hX (k:=?_)
  refine tk 31 hX (k:=?_)
  refine tk 32 hX (k:=?_)
  refine tk 34 hX (k:=?_)
  refine tk 35 hX (k:=?_)
  refine tk 36 hX (k:=?_)
  refine tk 37 hX (k:=?_)
  refine tk 38 hX (k:=?_)
  refine tk 39 hX (k:=?_)
  refine tk 40 hX (k:=?_)
  refine dt 33 hX (k:=?_)
  have hoa:=hs.onlyF [] (by simp [c1o,s1o,c2o,s2o]) (by simp [D0])
  (with_reducible apply xs_call);exact rfl;exact rfl;exact anow_ret qb d0.A _ (hQ1.only hoa)
  rintro v8 w8 ⟨rfl,hob⟩;replace hs:=hs.call0 hob
  refine XS.nil ?_
  refine dn (k:=?_)
  refine dt 41 hX (k:=?_)
  have hoa:=hs.onlyF [] (by simp [c1o,s1o,c2o,s2o]) (by simp [D0])
  (with_reducible apply xs_call);exact rfl;exact rfl;exact anow_ret rb d0.A _ (hQ2.only hoa)
  rintro v8 w8 ⟨rfl,hob⟩;replace hs:=hs.call0 hob
  refine XS.nil ?_
  refine dn (k:=?_)
  refine tk 42 hX (k:=?_)
  refine xa_set 153 (v := .bool true) (congrArg Value.bool (show (nowA d0.A == nowA d0.A)=true by simp)) ?_
  refine tk 43 hX (k:=?_)
  refine tk 44 hX (k:=?_)
  refine en (k:=?_)
  repeat' (first|refine Nx.h ?_|fail)
  first | refine rt (hq:=?_) | refine rt' (hq:=?_)
  exact ⟨rfl,hT40.o.trans (hs.onlyF [] (by simp [c1o,s1o,c2o,s2o]) (by simp [D0]))⟩
end Go.Proofs.YtkbcfknnieggbaaGreatDoorX

namespace Go.Proofs.YtkbcfknnieggbaaGreatDoorX
open Go Go.RowKit Go.ChangeShapes Go.WideShapes Go.ChangeAt
set_option maxRecDepth 100000 in
theorem coreClones_lifted (os:Os) (started:os.Started) (H:Type) (enc:TypeId × Value→H) :
    ReturnsInHanded {} Tryz.checked os 9 .any (fun w args => (YtkbcfknnieggbaaGreatDoor.Rows.coreClonesSpec.pre enc Tryz.prog Tryz.f9 [] false w args ∧ laidMetH Tryz.prog [("math/bits.deBruijn32tab", YtkbcfknnieggbaaGreatDoor.Rows.laid_math_bits_deBruijn32tab), ("math/bits.deBruijn64tab", YtkbcfknnieggbaaGreatDoor.Rows.laid_math_bits_deBruijn64tab), ("internal/strconv.uint64pow10", YtkbcfknnieggbaaGreatDoor.Rows.laid_internal_strconv_uint64pow10)] w) ∧ sizedMet enc Tryz.prog Tryz.f9 (OpenSpec.ofChange YtkbcfknnieggbaaGreatDoor.Rows.coreClonesSpec) false w args) (YtkbcfknnieggbaaGreatDoor.Rows.coreClonesSpec.post enc Tryz.prog Tryz.f9 false true false false) := by
  refine returnsInHanded_of_change_and (C := Tryz.checked) (X := fun w _ => laidMetH Tryz.prog [("math/bits.deBruijn32tab", YtkbcfknnieggbaaGreatDoor.Rows.laid_math_bits_deBruijn32tab), ("math/bits.deBruijn64tab", YtkbcfknnieggbaaGreatDoor.Rows.laid_math_bits_deBruijn64tab), ("internal/strconv.uint64pow10", YtkbcfknnieggbaaGreatDoor.Rows.laid_internal_strconv_uint64pow10)] w) (fun _ _ _ hh h => h.of_heap hh) own started (by kernel_rfl) Tryz.func9
    (ChangeSpec.witness_shaped (enc := enc) (C := Tryz.checked) (os := os) (X := fun w _ => laidMetH Tryz.prog [("math/bits.deBruijn32tab", YtkbcfknnieggbaaGreatDoor.Rows.laid_math_bits_deBruijn32tab), ("math/bits.deBruijn64tab", YtkbcfknnieggbaaGreatDoor.Rows.laid_math_bits_deBruijn64tab), ("internal/strconv.uint64pow10", YtkbcfknnieggbaaGreatDoor.Rows.laid_internal_strconv_uint64pow10)] w) false (World.doorLaid Tryz.prog 24 os) #[.int .u64 0, .slice none 0 0, .int .u8 0] 8 rfl (World.shaped_of_RefB (by kernel_rfl) (by kernel_rfl)) (by kernel_rfl) (by kernel_rfl) (by kernel_rfl) (door_met os _)) ?_
  intro W base args ds gs before hval0 hW hcnd hsz0 hL _
  have hP:=pows_of hL
  have hval:∀ (j:Nat) t v,Tryz.f9.params[j]?=some t→args[j]?=some v→Value.okWide Tryz.prog W .any base t v:=hval0
  have hW':=hW
  obtain ⟨p,q,hA0,hV,rfl,hfz,hnd⟩:=hW
  have hA:DataW.TrodAll enc Tryz.prog W 0 (fun _=>true) true Tryz.f9.params.toList args.toList ds p:=hA0
  rw [Tryz.params9] at hA hval
  obtain ⟨v0,vs0,d0,ds0,p0,q0,hargs,rfl,rfl,h0,r0⟩:=trodAll_cons hA
  obtain ⟨v1,vs1,d1,ds1,p1,q1,rfl,rfl,rfl,h1,r1⟩:=trodAll_cons r0
  obtain ⟨v2,vs2,d2,ds2,p2,q2,rfl,rfl,rfl,h2,r2⟩:=trodAll_cons r1
  obtain ⟨rfl,rfl,rfl⟩:=trodAll_nil r2
  obtain rfl:args=#[v0,v1,v2]:=by cases args;simp_all
  obtain ⟨rfl,rfl⟩:=trodVars_none hV
  have lt0:∀ x∈p0,x.block < W.heap.size:=by obtain ⟨m,hm⟩:=h0;exact DataW.trod_lt m _ _ _ hm
  have k0:=h0
  obtain ⟨x0,rfl,_,_,w0⟩:=open_int (t:=22) (k := .u64) (by kernel_rfl) (hval 0 _ v0 rfl rfl) k0
  have b0:(0:Int)≤x0∧x0 < 18446744073709551616:=by
    have h:=int_of w0
    have e1:IntKind.u64.min=0:=rfl
    have e2:IntKind.u64.max=18446744073709551615:=rfl
    omega
  have lt1:∀ x∈p1,x.block < W.heap.size:=by obtain ⟨m,hm⟩:=h1;exact DataW.trod_lt m _ _ _ hm
  have k1:=h1
  obtain ⟨x1,hw1,hx1⟩:=open_acts18 (hval 1 _ v1 rfl rfl) k1
  have lt2:∀ x∈p2,x.block < W.heap.size:=by obtain ⟨m,hm⟩:=h2;exact DataW.trod_lt m _ _ _ hm
  have k2:=h2
  obtain ⟨x2,rfl,_,_,w2⟩:=open_int (t:=5) (k := .u8) (by kernel_rfl) (hval 2 _ v2 rfl rfl) k2
  have b2:(0:Int)≤x2∧x2 < 256:=by
    have h:=int_of w2
    have e1:IntKind.u8.min=0:=rfl
    have e2:IntKind.u8.max=255:=rfl
    omega
  clear hA0 hval0 hsz0
  refine (ret_calls (by kernel_rfl) (coreClones_ret x0 x1 v1 x2 b0 hx1 b2 W hw1 (open_cap (t:=62) (e:=68) (by kernel_rfl) (hval 1 _ v1 rfl rfl) h1) hP)).mono fun e W' ⟨v,he,hv,ho⟩=>?_
  subst he hv
  have bel:=ho.below
  exact ⟨_,rfl,_,_,_,[],_,[],hW',trodAll_mk1 (shut_bool (by kernel_rfl) _),(trodAll_cons_mk (Below.trod laidOut (by kernel_rfl) (of_decide_eq_true (by kernel_rfl)) h0 bel lt0) (trodAll_cons_mk (Below.trod laidOut (by kernel_rfl) (of_decide_eq_true (by kernel_rfl)) h1 bel lt1) (trodAll_cons_mk (Below.trod laidOut (by kernel_rfl) (of_decide_eq_true (by kernel_rfl)) h2 bel lt2) trodAll_mk0))),rfl,bel.frame _,fun h=>by cases h⟩
end Go.Proofs.YtkbcfknnieggbaaGreatDoorX
namespace Go.Proofs.YtkbcfknnieggbaaGreatDoor
open Go Go.RowKit Go.ChangeShapes Go.WideShapes Go.ChangeAt
theorem coreClones_nm : Tryz.prog.funcNamed "turnstone/turnstonelaw18.CoreClones" = some 9 := by kernel_rfl
theorem coreClones_ip:(Rows.coreClonesRow.inPlace == Tryz.prog.inPlace 9)=true:=by kernel_rfl
theorem coreClones_un:(Rows.coreClonesRow.unfollowed == Tryz.prog.unfollowed 9)=true:=by kernel_rfl
theorem coreClones_rc:(Rows.coreClonesRow.recurses == Tryz.prog.recurses 9)=true:=by kernel_rfl
theorem coreClones_nd:(Rows.coreClonesRow.named == Tryz.prog.varsNamed 9)=true:=by kernel_rfl
theorem coreClones_holds:Rows.CoreClonesSaid :=
  OpenClaim.holds_of_wide 9 Tryz.f9 rfl rfl rfl rfl rfl rfl rfl ⟨rfl,rfl,rfl,rfl,rfl⟩ rfl rfl rfl rfl rfl coreClones_nm Tryz.func9
    (by unfold joinedFacts;exact (and_mk (and_mk (and_mk (and_mk (and_mk (and_mk (and_mk (and_mk (and_mk (and_mk (and_mk (and_mk (and_mk (and_mk (and_mk (and_mk (and_mk (and_mk (and_mk (and_mk (and_mk (and_mk (and_mk (and_mk (and_mk (and_mk (and_mk (and_mk (and_mk (and_mk (and_mk (by kernel_rfl) pf_laid) pf_maps) (by kernel_rfl)) (by kernel_rfl)) (by kernel_rfl)) (by kernel_rfl)) (by kernel_rfl)) (by kernel_rfl)) coreClones_ip) coreClones_un) coreClones_rc) coreClones_nd) (by kernel_rfl)) (by kernel_rfl)) (by kernel_rfl)) (by kernel_rfl)) (by kernel_rfl)) (by kernel_rfl)) (by kernel_rfl)) (by kernel_rfl)) (by kernel_rfl)) pf_keys) (by kernel_rfl)) pf_heard) pf_enter) pf_lift) pf_make) (by kernel_rfl)) (by kernel_rfl)) (by kernel_rfl)) (by kernel_rfl)))
    (of_decide_eq_true (by kernel_rfl)) (by unfold Func.isWrapper;first | (rw [if_pos (by decide +kernel)];kernel_rfl) | (rw [if_neg (by decide +kernel)];exact ⟨rfl,rfl⟩))
    (fun os started H enc _=>YtkbcfknnieggbaaGreatDoorX.coreClones_lifted os started H enc)
theorem coreClones_w:Rows.coreClonesRow.wfByText (OpenSpec.ofChange Rows.coreClonesSpec)=true:=by kernel_rfl
theorem coreClones_mn:Tryz.prog.mainIs=some (Rows.coreClonesCard.stood.harness.1,Rows.coreClonesCard.stood.harness.2.toList):=by kernel_rfl
theorem coreClones_lk:Rows.coreClonesCard.stood.looks=Tryz.prog.looks []:=by kernel_rfl
theorem coreClones_gs:false=Rows.coreClonesRow.goesBy Tryz.prog:=by kernel_rfl
theorem coreClones_card:Rows.CoreClonesCardSaid :=
  Claim7.holds_tied_plain_at .later [] [.data,.data,.data] true Rows.coreClonesCard.stood.harness Rows.coreClonesCard.stood.looks
    coreClones_holds (fun _ h=>by cases h) coreClones_w (fun _ h=>by cases h) coreClones_row_tie rfl ⟨rfl,rfl⟩ coreClones_mn rfl
    (fun f fn hf hfn=>by
      obtain rfl:f=9:=Option.some.inj (coreClones_nm.symm.trans hf) |>.symm
      obtain rfl:fn=Tryz.f9:=(Option.some.inj (Tryz.func9.symm.trans hfn)).symm
      exact ⟨coreClones_lk,fun j t ht=>by
        rw [Tryz.params9] at ht
        have hm:t∈[22,62,5]:=by simpa using Array.mem_of_getElem? ht
        have hall:([22,62,5].all fun u=>!Tryz.prog.wantsStandIn u)=true:=by kernel_rfl
        exact (show Tryz.prog.wantsStandIn t=false by simpa using List.all_eq_true.1 hall t hm)⟩)
    coreClones_gs
end Go.Proofs.YtkbcfknnieggbaaGreatDoor
