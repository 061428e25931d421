/- Proved: of a nil system nothing is told, and each call on it answers with the error for nil; no arguments -/
import Derived.Test.YtalffooghioekaaGreatDoorBaseN11
import Derived.Test.YtalffooghioekaaGreatDoorRows
import Derived.WalkKit
import Derived.ProofKit
import Derived.OpenShut
import Derived.ShutString
import Derived.ChangeOld
import Derived.Below
import Derived.SizedLaws
import Derived.Lib.SmallJoins
import Derived.JoinedOf
import Derived.Test.YtalffooghioekaaGreatDoorTie
import Derived.Lib.LaidTab
import Derived.Stop.LaidErr
import Derived.MakeChecks
import Derived.LaidMore
import Derived.LaidLaws
import Derived.Test.YtalffooghioekaaGreatDoorCards
import Derived.SevenTiedAt
set_option linter.unusedVariables false
set_option linter.unusedSimpArgs false
set_option maxRecDepth 100000
namespace Go.Proofs.YtalffooghioekaaGreatDoorX
open Go Go.RowKit Go.ChangeShapes Go.WideShapes Go.ChangeAt
theorem own:ownKnob Tryz.prog.godebug=none:=by kernel_rfl
end Go.Proofs.YtalffooghioekaaGreatDoorX

namespace Go.Proofs.YtalffooghioekaaGreatDoor
open Go
theorem pf_laid:laidOutB Tryz.prog=true:=by kernel_rfl
theorem pf_maps:mapsRowed Tryz.prog=true:=by kernel_rfl
theorem pf_keys:(true == Tryz.prog.plainKeys)=true:=by kernel_rfl
theorem pf_heard:Tryz.prog.stopsHeard=true:=by kernel_rfl
theorem pf_enter:Tryz.prog.mayEnter=true:=by kernel_rfl
theorem pf_lift:(false == Tryz.prog.liftsFinal)=true:=by kernel_rfl
theorem pf_make:(Tryz.prog.make == some .cut)=true:=by kernel_rfl
theorem and_mk {a b:Bool} (h:a=true) (k:b=true):(a && b)=true:=by rw [h,k];rfl
end Go.Proofs.YtalffooghioekaaGreatDoor

namespace Go.Proofs.YtalffooghioekaaGreatDoorX
open Go
theorem door_met (os : Os) (args : Array Value) : laidMetH Tryz.prog [("math/bits.deBruijn32tab", YtalffooghioekaaGreatDoor.Rows.laid_math_bits_deBruijn32tab), ("math/bits.deBruijn64tab", YtalffooghioekaaGreatDoor.Rows.laid_math_bits_deBruijn64tab), ("internal/strconv.uint64pow10", YtalffooghioekaaGreatDoor.Rows.laid_internal_strconv_uint64pow10)] ((World.doorLaid Tryz.prog 24 os).forCall (fun _ _ => 0) ⟨#[], args, []⟩).memory :=
  laidMetH_of_parts3 (fuel:=8) (laidMet_of_run' 8 (by kernel_rfl) (by kernel_rfl)) (by kernel_rfl) (by kernel_rfl)
theorem pows_of {W : World} (h : laidMetH Tryz.prog [("math/bits.deBruijn32tab", YtalffooghioekaaGreatDoor.Rows.laid_math_bits_deBruijn32tab), ("math/bits.deBruijn64tab", YtalffooghioekaaGreatDoor.Rows.laid_math_bits_deBruijn64tab), ("internal/strconv.uint64pow10", YtalffooghioekaaGreatDoor.Rows.laid_internal_strconv_uint64pow10)] W) : Pows W := by
  rw [MakeChecks.laidMetH_plain _ _ _ (by kernel_rfl)] at h
  have h2:=h.tail.tail
  exact Lib.tabIs_of_head (g := (Tryz.prog.globalNamed "internal/strconv.uint64pow10").getD 0) (t := 326) (e := 22) (n := 20) (by kernel_rfl) (by kernel_rfl) (by kernel_rfl) (by kernel_rfl) (by kernel_rfl) (by kernel_rfl) h2
end Go.Proofs.YtalffooghioekaaGreatDoorX

namespace Go.Proofs.YtalffooghioekaaGreatDoorX
open Go Go.RowKit Go.ChangeShapes Go.WideShapes Go.ChangeAt
set_option maxRecDepth 100000 in
theorem schedNone_lifted (os:Os) (started:os.Started) (H:Type) (enc:TypeId × Value→H) :
    ReturnsInHanded {} Tryz.checked os 7 .any (fun w args => (YtalffooghioekaaGreatDoor.Rows.schedNoneSpec.pre enc Tryz.prog Tryz.f7 [] false w args ∧ laidMetH Tryz.prog [("math/bits.deBruijn32tab", YtalffooghioekaaGreatDoor.Rows.laid_math_bits_deBruijn32tab), ("math/bits.deBruijn64tab", YtalffooghioekaaGreatDoor.Rows.laid_math_bits_deBruijn64tab), ("internal/strconv.uint64pow10", YtalffooghioekaaGreatDoor.Rows.laid_internal_strconv_uint64pow10)] w) ∧ sizedMet enc Tryz.prog Tryz.f7 (OpenSpec.ofChange YtalffooghioekaaGreatDoor.Rows.schedNoneSpec) false w args) (YtalffooghioekaaGreatDoor.Rows.schedNoneSpec.post enc Tryz.prog Tryz.f7 false true false false) := by
  refine returnsInHanded_of_change_and (C := Tryz.checked) (X := fun w _ => laidMetH Tryz.prog [("math/bits.deBruijn32tab", YtalffooghioekaaGreatDoor.Rows.laid_math_bits_deBruijn32tab), ("math/bits.deBruijn64tab", YtalffooghioekaaGreatDoor.Rows.laid_math_bits_deBruijn64tab), ("internal/strconv.uint64pow10", YtalffooghioekaaGreatDoor.Rows.laid_internal_strconv_uint64pow10)] w) (fun _ _ _ hh h => h.of_heap hh) own started (by kernel_rfl) Tryz.func7
    (ChangeSpec.witness_shaped (enc := enc) (C := Tryz.checked) (os := os) (X := fun w _ => laidMetH Tryz.prog [("math/bits.deBruijn32tab", YtalffooghioekaaGreatDoor.Rows.laid_math_bits_deBruijn32tab), ("math/bits.deBruijn64tab", YtalffooghioekaaGreatDoor.Rows.laid_math_bits_deBruijn64tab), ("internal/strconv.uint64pow10", YtalffooghioekaaGreatDoor.Rows.laid_internal_strconv_uint64pow10)] w) false (World.doorLaid Tryz.prog 24 os) #[] 8 rfl (World.shaped_of_RefB (by kernel_rfl) (by kernel_rfl)) (by kernel_rfl) (by kernel_rfl) (by kernel_rfl) (door_met os _)) ?_
  intro W base args ds gs before hval0 hW hcnd hsz0 hL _
  have hP:=pows_of hL
  have hval:∀ (j:Nat) t v,Tryz.f7.params[j]?=some t→args[j]?=some v→Value.okWide Tryz.prog W .any base t v:=hval0
  have hW':=hW
  obtain ⟨p,q,hA0,hV,rfl,hfz,hnd⟩:=hW
  have hA:DataW.TrodAll enc Tryz.prog W 0 (fun _=>true) true Tryz.f7.params.toList args.toList ds p:=hA0
  rw [Tryz.params7] at hA hval
  obtain ⟨hargs,rfl,rfl⟩:=trodAll_nil hA
  obtain rfl:args=#[]:=by cases args;simp_all
  obtain ⟨rfl,rfl⟩:=trodVars_none hV
  clear hA0 hval0 hsz0
  refine (ret_calls (by kernel_rfl) (schedNone_ret _ hP)).mono fun e W' ⟨v,he,hv,ho⟩=>?_
  subst he hv
  have bel:=ho.below
  exact ⟨_,rfl,_,_,_,[],_,[],hW',trodAll_mk1 (shut_bool (by kernel_rfl) _),trodAll_mk0,rfl,bel.frame _,fun h=>by cases h⟩
end Go.Proofs.YtalffooghioekaaGreatDoorX
namespace Go.Proofs.YtalffooghioekaaGreatDoor
open Go Go.RowKit Go.ChangeShapes Go.WideShapes Go.ChangeAt
theorem schedNone_nm : Tryz.prog.funcNamed "turnstone/turnstonelaw21.SchedNone" = some 7 := by kernel_rfl
theorem schedNone_ip:(Rows.schedNoneRow.inPlace == Tryz.prog.inPlace 7)=true:=by kernel_rfl
theorem schedNone_un:(Rows.schedNoneRow.unfollowed == Tryz.prog.unfollowed 7)=true:=by kernel_rfl
theorem schedNone_rc:(Rows.schedNoneRow.recurses == Tryz.prog.recurses 7)=true:=by kernel_rfl
theorem schedNone_nd:(Rows.schedNoneRow.named == Tryz.prog.varsNamed 7)=true:=by kernel_rfl
theorem schedNone_holds:Rows.SchedNoneSaid :=
  OpenClaim.holds_of_wide 7 Tryz.f7 rfl rfl rfl rfl rfl rfl rfl ⟨rfl,rfl,rfl,rfl,rfl⟩ rfl rfl rfl rfl rfl schedNone_nm Tryz.func7
    (by unfold joinedFacts;exact (and_mk (and_mk (and_mk (and_mk (and_mk (and_mk (and_mk (and_mk (and_mk (and_mk (and_mk (and_mk (and_mk (and_mk (and_mk (and_mk (and_mk (and_mk (and_mk (and_mk (and_mk (and_mk (and_mk (and_mk (and_mk (and_mk (and_mk (and_mk (and_mk (and_mk (and_mk (by kernel_rfl) pf_laid) pf_maps) (by kernel_rfl)) (by kernel_rfl)) (by kernel_rfl)) (by kernel_rfl)) (by kernel_rfl)) (by kernel_rfl)) schedNone_ip) schedNone_un) schedNone_rc) schedNone_nd) (by kernel_rfl)) (by kernel_rfl)) (by kernel_rfl)) (by kernel_rfl)) (by kernel_rfl)) (by kernel_rfl)) (by kernel_rfl)) (by kernel_rfl)) (by kernel_rfl)) pf_keys) (by kernel_rfl)) pf_heard) pf_enter) pf_lift) pf_make) (by kernel_rfl)) (by kernel_rfl)) (by kernel_rfl)) (by kernel_rfl)))
    (of_decide_eq_true (by kernel_rfl)) (by unfold Func.isWrapper;first | (rw [if_pos (by decide +kernel)];kernel_rfl) | (rw [if_neg (by decide +kernel)];exact ⟨rfl,rfl⟩))
    (fun os started H enc _=>YtalffooghioekaaGreatDoorX.schedNone_lifted os started H enc)
theorem schedNone_w:Rows.schedNoneRow.wfByText (OpenSpec.ofChange Rows.schedNoneSpec)=true:=by kernel_rfl
theorem schedNone_mn:Tryz.prog.mainIs=some (Rows.schedNoneCard.stood.harness.1,Rows.schedNoneCard.stood.harness.2.toList):=by kernel_rfl
theorem schedNone_lk:Rows.schedNoneCard.stood.looks=Tryz.prog.looks []:=by kernel_rfl
theorem schedNone_gs:false=Rows.schedNoneRow.goesBy Tryz.prog:=by kernel_rfl
theorem schedNone_card:Rows.SchedNoneCardSaid :=
  Claim7.holds_tied_plain_at .later [] [.data,.data,.data] true Rows.schedNoneCard.stood.harness Rows.schedNoneCard.stood.looks
    schedNone_holds (fun _ h=>by cases h) schedNone_w (fun _ h=>by cases h) schedNone_row_tie rfl ⟨rfl,rfl⟩ schedNone_mn rfl
    (fun f fn hf hfn=>by
      obtain rfl:f=7:=Option.some.inj (schedNone_nm.symm.trans hf) |>.symm
      obtain rfl:fn=Tryz.f7:=(Option.some.inj (Tryz.func7.symm.trans hfn)).symm
      exact ⟨schedNone_lk,fun j t ht=>by
        rw [Tryz.params7] at ht
        have hm:t∈[]:=by simpa using Array.mem_of_getElem? ht
        have hall:([].all fun u=>!Tryz.prog.wantsStandIn u)=true:=by kernel_rfl
        exact (show Tryz.prog.wantsStandIn t=false by simpa using List.all_eq_true.1 hall t hm)⟩)
    schedNone_gs
end Go.Proofs.YtalffooghioekaaGreatDoor
