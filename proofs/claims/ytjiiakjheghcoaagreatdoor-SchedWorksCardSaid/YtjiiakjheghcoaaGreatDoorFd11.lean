/- Proved: after each call somebody runs on each core on which a task is Runnable -/
import Derived.Test.YtjiiakjheghcoaaGreatDoorFd10
import Derived.Test.YtjiiakjheghcoaaGreatDoorCards
import Derived.SevenTiedAt
set_option linter.unusedVariables false
set_option linter.unusedSimpArgs false
set_option maxRecDepth 100000
set_option maxHeartbeats 64000000
set_option linter.unusedSectionVars false
namespace Go.Proofs.Q0
open Go Go.RowKit Go.ChangeShapes Go.WideShapes Go.ChangeAt
theorem Po (os:Os) (started:os.Started) (H:Type) (enc:TypeId × Value→H) :
 ReturnsInHanded {} Tryz.checked os 3 .any (fun w args => (YtjiiakjheghcoaaGreatDoor.Rows.schedWorksSpec.pre enc Tryz.prog Tryz.f3 [] false w args ∧ laidMetH Tryz.prog [("math/bits.deBruijn32tab", YtjiiakjheghcoaaGreatDoor.Rows.laid_math_bits_deBruijn32tab), ("math/bits.deBruijn64tab", YtjiiakjheghcoaaGreatDoor.Rows.laid_math_bits_deBruijn64tab), ("internal/strconv.uint64pow10", YtjiiakjheghcoaaGreatDoor.Rows.laid_internal_strconv_uint64pow10)] w) ∧ sizedMet enc Tryz.prog Tryz.f3 (OpenSpec.ofChange YtjiiakjheghcoaaGreatDoor.Rows.schedWorksSpec) false w args) (YtjiiakjheghcoaaGreatDoor.Rows.schedWorksSpec.post enc Tryz.prog Tryz.f3 false true false false) := by
 refine returnsInHanded_of_change_and (C := Tryz.checked) (X := fun w _ => laidMetH Tryz.prog [("math/bits.deBruijn32tab", YtjiiakjheghcoaaGreatDoor.Rows.laid_math_bits_deBruijn32tab), ("math/bits.deBruijn64tab", YtjiiakjheghcoaaGreatDoor.Rows.laid_math_bits_deBruijn64tab), ("internal/strconv.uint64pow10", YtjiiakjheghcoaaGreatDoor.Rows.laid_internal_strconv_uint64pow10)] w) (fun _ _ _ hh h => h.of_heap hh) own started (by kernel_rfl) Tryz.func3
  (ChangeSpec.witness_shaped (enc := enc) (C := Tryz.checked) (os := os) (X := fun w _ => laidMetH Tryz.prog [("math/bits.deBruijn32tab", YtjiiakjheghcoaaGreatDoor.Rows.laid_math_bits_deBruijn32tab), ("math/bits.deBruijn64tab", YtjiiakjheghcoaaGreatDoor.Rows.laid_math_bits_deBruijn64tab), ("internal/strconv.uint64pow10", YtjiiakjheghcoaaGreatDoor.Rows.laid_internal_strconv_uint64pow10)] w) false (World.doorLaid Tryz.prog 24 os) #[.agg #[.int .i64 0, .int .i64 0, .int .u64 0, .int .u64 0, .int .u64 0], .slice none 0 0] 8 rfl (World.shaped_of_RefB (by kernel_rfl) (by kernel_rfl)) (by kernel_rfl) (by kernel_rfl) (by kernel_rfl) (door_met os _)) ?_
 intro W base args ds gs before sZ hW aCr aAz hL _;have hP:=vI hL;have hval:∀ (j:Nat) t v,Tryz.f3.params[j]?=some t→args[j]?=some v→Value.okWide Tryz.prog W .any base t v:=sZ;have hW':=hW;obtain ⟨p,q,iK,hV,rfl,hfz,hnd⟩:=hW;have hA:DataW.TrodAll enc Tryz.prog W 0 (fun _=>true) true Tryz.f3.params.toList args.toList ds p:=iK;rw [Tryz.params3] at hA hval;obtain ⟨v0,vs0,d0,ds0,p0,q0,hargs,rfl,rfl,h0,r0⟩:=trodAll_cons hA;obtain ⟨v1,vs1,d1,ds1,p1,q1,rfl,rfl,rfl,h1,r1⟩:=trodAll_cons r0;obtain ⟨rfl,rfl,rfl⟩:=trodAll_nil r1;obtain rfl:args=#[v0,v1]:=by cases args;simp_all
 obtain ⟨rfl,rfl⟩:=trodVars_none hV;have lt0:∀ x∈p0,x.block < W.heap.size:=by obtain ⟨m,hm⟩:=h0;exact DataW.trod_lt m _ _ _ hm
 have k0:=h0;obtain ⟨x0,hx0,rfl⟩:=pF (hval 0 _ v0 rfl rfl) k0;have Vt:∀ x∈p1,x.block < W.heap.size:=by obtain ⟨m,hm⟩:=h1;exact DataW.trod_lt m _ _ _ hm
 have k1:=h1;obtain ⟨x1,hw1,hx1⟩:=YP (hval 1 _ v1 rfl rfl) k1;clear iK sZ aAz;refine (ret_calls (by kernel_rfl) (T1 x0 x1 _ hx0 hx1 W hw1 hP)).mono fun e W' ⟨v,he,hv,ho⟩=>?_;subst he hv;have bel:=ho.below;exact ⟨_,rfl,_,_,_,[],_,[],hW',trodAll_mk1 (shut_bool (by kernel_rfl) _),(trodAll_cons_mk (Below.trod laidOut (by kernel_rfl) (of_decide_eq_true (by kernel_rfl)) h0 bel lt0) (trodAll_cons_mk (Below.trod laidOut (by kernel_rfl) (of_decide_eq_true (by kernel_rfl)) h1 bel Vt) trodAll_mk0)),rfl,bel.frame _,fun h=>by cases h⟩
end Go.Proofs.Q0
namespace Go.Proofs.YtjiiakjheghcoaaGreatDoor
open Go Go.RowKit Go.ChangeShapes Go.WideShapes Go.ChangeAt
theorem Nw : Tryz.prog.funcNamed "turnstone/turnstonelaw21.SchedWorks" = some 3 := by kernel_rfl
theorem VI:(Rows.schedWorksRow.inPlace == Tryz.prog.inPlace 3)=true:=by kernel_rfl
theorem Uy:(Rows.schedWorksRow.unfollowed == Tryz.prog.unfollowed 3)=true:=by kernel_rfl
theorem VD:(Rows.schedWorksRow.recurses == Tryz.prog.recurses 3)=true:=by kernel_rfl
theorem VH:(Rows.schedWorksRow.named == Tryz.prog.varsNamed 3)=true:=by kernel_rfl
theorem R7:Rows.SchedWorksSaid :=
 OpenClaim.holds_of_wide 3 Tryz.f3 rfl rfl rfl rfl rfl rfl rfl ⟨rfl,rfl,rfl,rfl,rfl⟩ rfl rfl rfl rfl rfl Nw Tryz.func3
  (by unfold joinedFacts;exact (and_mk (and_mk (and_mk (and_mk (and_mk (and_mk (and_mk (and_mk (and_mk (and_mk (and_mk (and_mk (and_mk (and_mk (and_mk (and_mk (and_mk (and_mk (and_mk (and_mk (and_mk (and_mk (and_mk (and_mk (and_mk (and_mk (and_mk (and_mk (and_mk (and_mk (and_mk (by kernel_rfl) tW) uS) (by kernel_rfl)) (by kernel_rfl)) (by kernel_rfl)) (by kernel_rfl)) (by kernel_rfl)) (by kernel_rfl)) VI) Uy) VD) VH) (by kernel_rfl)) (by kernel_rfl)) (by kernel_rfl)) (by kernel_rfl)) (by kernel_rfl)) (by kernel_rfl)) (by kernel_rfl)) (by kernel_rfl)) (by kernel_rfl)) vD) (by kernel_rfl)) mR) oI) uY) tE) (by kernel_rfl)) (by kernel_rfl)) (by kernel_rfl)) (by kernel_rfl)))
  (of_decide_eq_true (by kernel_rfl)) (by unfold Func.isWrapper;first | (rw [if_pos (by decide +kernel)];kernel_rfl) | (rw [if_neg (by decide +kernel)];exact ⟨rfl,rfl⟩))
  (fun os started H enc _=>Q0.Po os started H enc)
theorem W4:Rows.schedWorksRow.wfByText (OpenSpec.ofChange Rows.schedWorksSpec)=true:=by kernel_rfl
theorem VF:Tryz.prog.mainIs=some (Rows.schedWorksCard.stood.harness.1,Rows.schedWorksCard.stood.harness.2.toList):=by kernel_rfl
theorem VE:Rows.schedWorksCard.stood.looks=Tryz.prog.looks []:=by kernel_rfl
theorem VB:false=Rows.schedWorksRow.goesBy Tryz.prog:=by kernel_rfl
theorem schedWorks_card:Rows.SchedWorksCardSaid :=
 Claim7.holds_tied_plain_at .later [] [.data,.data,.data] true Rows.schedWorksCard.stood.harness Rows.schedWorksCard.stood.looks
  R7 (fun _ h=>by cases h) W4 (fun _ h=>by cases h) schedWorks_row_tie rfl ⟨rfl,rfl⟩ VF rfl
  (fun f fn hf hfn=>by
   obtain rfl:f=3:=Option.some.inj (Nw.symm.trans hf) |>.symm
   obtain rfl:fn=Tryz.f3:=(Option.some.inj (Tryz.func3.symm.trans hfn)).symm
   exact ⟨VE,fun j t ht=>by
    rw [Tryz.params3] at ht;have hm:t∈[24,25]:=by simpa using Array.mem_of_getElem? ht
    have hall:([24,25].all fun u=>!Tryz.prog.wantsStandIn u)=true:=by kernel_rfl
    exact (show Tryz.prog.wantsStandIn t=false by simpa using List.all_eq_true.1 hall t hm)⟩)
  VB
end Go.Proofs.YtjiiakjheghcoaaGreatDoor
