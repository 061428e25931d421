/- Proved: of a nil core nothing is told, and each call on it answers with the error for nil; no arguments -/
import Derived.Test.YthablfhijlommaaGreatDoorC10
import Derived.Test.YthablfhijlommaaGreatDoorCards
import Derived.SevenTiedAt
set_option linter.unusedVariables false
set_option linter.unusedSimpArgs false
set_option maxRecDepth 100000
namespace Go.Proofs.YthablfhijlommaaGreatDoorX
open Go Go.RowKit Go.ChangeShapes Go.WideShapes Go.ChangeAt
set_option maxRecDepth 100000 in
theorem coreNone_lifted (os : Os) (started : os.Started) (H : Type) (enc : TypeId × Value → H) :
    ReturnsInHanded {} Tryz.checked os 9 .any (fun w args => (YthablfhijlommaaGreatDoor.Rows.coreNoneSpec.pre enc Tryz.prog Tryz.f9 [] false w args ∧ laidMetH Tryz.prog [("math/bits.deBruijn32tab", YthablfhijlommaaGreatDoor.Rows.laid_math_bits_deBruijn32tab), ("math/bits.deBruijn64tab", YthablfhijlommaaGreatDoor.Rows.laid_math_bits_deBruijn64tab), ("internal/strconv.uint64pow10", YthablfhijlommaaGreatDoor.Rows.laid_internal_strconv_uint64pow10)] w) ∧ sizedMet enc Tryz.prog Tryz.f9 (OpenSpec.ofChange YthablfhijlommaaGreatDoor.Rows.coreNoneSpec) false w args) (YthablfhijlommaaGreatDoor.Rows.coreNoneSpec.post enc Tryz.prog Tryz.f9 false true false false) := by
  refine returnsInHanded_of_change_and (C := Tryz.checked) (X := fun w _ => laidMetH Tryz.prog [("math/bits.deBruijn32tab", YthablfhijlommaaGreatDoor.Rows.laid_math_bits_deBruijn32tab), ("math/bits.deBruijn64tab", YthablfhijlommaaGreatDoor.Rows.laid_math_bits_deBruijn64tab), ("internal/strconv.uint64pow10", YthablfhijlommaaGreatDoor.Rows.laid_internal_strconv_uint64pow10)] w) (fun _ _ _ hh h => h.of_heap hh) own started (by kernel_rfl) Tryz.func9
    (ChangeSpec.witness_shaped (enc := enc) (C := Tryz.checked) (os := os) (X := fun w _ => laidMetH Tryz.prog [("math/bits.deBruijn32tab", YthablfhijlommaaGreatDoor.Rows.laid_math_bits_deBruijn32tab), ("math/bits.deBruijn64tab", YthablfhijlommaaGreatDoor.Rows.laid_math_bits_deBruijn64tab), ("internal/strconv.uint64pow10", YthablfhijlommaaGreatDoor.Rows.laid_internal_strconv_uint64pow10)] w) false (World.doorLaid Tryz.prog 24 os) #[] 8 rfl (World.shaped_of_RefB (by kernel_rfl) (by kernel_rfl)) (by kernel_rfl) (by kernel_rfl) (by kernel_rfl) (door_met os _)) ?_
  intro W base args ds gs before hval0 hW hcnd hsz0 hL _
  have hP := pows_of hL
  have hval : ∀ (j : Nat) t v, Tryz.f9.params[j]? = some t → args[j]? = some v → Value.okWide Tryz.prog W .any base t v := hval0
  have hW' := hW
  obtain ⟨p, q, hA0, hV, rfl, hfz, hnd⟩ := hW
  have hA : DataW.TrodAll enc Tryz.prog W 0 (fun _ => true) true Tryz.f9.params.toList args.toList ds p := hA0
  rw [Tryz.params9] at hA hval
  obtain ⟨hargs, rfl, rfl⟩ := trodAll_nil hA
  obtain rfl : args = #[] := by cases args; simp_all
  obtain ⟨rfl, rfl⟩ := trodVars_none hV
  clear hA0 hval0 hsz0
  refine (ret_calls (by kernel_rfl) (coreNone_ret W hP)).mono fun e W' ⟨v, he, hv, ho⟩ => ?_
  subst he hv
  have bel := ho.below
  exact ⟨_, rfl, _, _, _, [], _, [], hW', trodAll_mk1 (shut_bool (by kernel_rfl) _), trodAll_mk0, rfl, bel.frame _, fun h => by cases h⟩
end Go.Proofs.YthablfhijlommaaGreatDoorX
namespace Go.Proofs.YthablfhijlommaaGreatDoor
open Go Go.RowKit Go.ChangeShapes Go.WideShapes Go.ChangeAt
theorem coreNone_nm : Tryz.prog.funcNamed "turnstone/turnstonelaw18.CoreNone" = some 9 := by kernel_rfl
theorem coreNone_ip : (Rows.coreNoneRow.inPlace == Tryz.prog.inPlace 9) = true := by kernel_rfl
theorem coreNone_un : (Rows.coreNoneRow.unfollowed == Tryz.prog.unfollowed 9) = true := by kernel_rfl
theorem coreNone_rc : (Rows.coreNoneRow.recurses == Tryz.prog.recurses 9) = true := by kernel_rfl
theorem coreNone_nd : (Rows.coreNoneRow.named == Tryz.prog.varsNamed 9) = true := by kernel_rfl
theorem coreNone_holds : Rows.CoreNoneSaid :=
  OpenClaim.holds_of_wide 9 Tryz.f9 rfl rfl rfl rfl rfl rfl rfl ⟨rfl, rfl, rfl, rfl, rfl⟩ rfl rfl rfl rfl rfl coreNone_nm Tryz.func9
    (by unfold joinedFacts; exact (and_mk (and_mk (and_mk (and_mk (and_mk (and_mk (and_mk (and_mk (and_mk (and_mk (and_mk (and_mk (and_mk (and_mk (and_mk (and_mk (and_mk (and_mk (and_mk (and_mk (and_mk (and_mk (and_mk (and_mk (and_mk (and_mk (and_mk (and_mk (and_mk (and_mk (and_mk (by kernel_rfl) pf_laid) pf_maps) (by kernel_rfl)) (by kernel_rfl)) (by kernel_rfl)) (by kernel_rfl)) (by kernel_rfl)) (by kernel_rfl)) coreNone_ip) coreNone_un) coreNone_rc) coreNone_nd) (by kernel_rfl)) (by kernel_rfl)) (by kernel_rfl)) (by kernel_rfl)) (by kernel_rfl)) (by kernel_rfl)) (by kernel_rfl)) (by kernel_rfl)) (by kernel_rfl)) pf_keys) (by kernel_rfl)) pf_heard) pf_enter) pf_lift) pf_make) (by kernel_rfl)) (by kernel_rfl)) (by kernel_rfl)) (by kernel_rfl)))
    (of_decide_eq_true (by kernel_rfl)) (by unfold Func.isWrapper; first | (rw [if_pos (by decide +kernel)]; kernel_rfl) | (rw [if_neg (by decide +kernel)]; exact ⟨rfl, rfl⟩))
    (fun os started H enc _ => YthablfhijlommaaGreatDoorX.coreNone_lifted os started H enc)
theorem coreNone_w : Rows.coreNoneRow.wfByText (OpenSpec.ofChange Rows.coreNoneSpec) = true := by kernel_rfl
theorem coreNone_mn : Tryz.prog.mainIs = some (Rows.coreNoneCard.stood.harness.1, Rows.coreNoneCard.stood.harness.2.toList) := by kernel_rfl
theorem coreNone_lk : Rows.coreNoneCard.stood.looks = Tryz.prog.looks [] := by kernel_rfl
theorem coreNone_gs : false = Rows.coreNoneRow.goesBy Tryz.prog := by kernel_rfl
theorem coreNone_card : Rows.CoreNoneCardSaid :=
  Claim7.holds_tied_plain_at .later [] [.data, .data, .data] true Rows.coreNoneCard.stood.harness Rows.coreNoneCard.stood.looks
    coreNone_holds (fun _ h => by cases h) coreNone_w (fun _ h => by cases h) coreNone_row_tie rfl ⟨rfl, rfl⟩ coreNone_mn rfl
    (fun f fn hf hfn => by
      obtain rfl : f = 9 := Option.some.inj (coreNone_nm.symm.trans hf) |>.symm
      obtain rfl : fn = Tryz.f9 := (Option.some.inj (Tryz.func9.symm.trans hfn)).symm
      exact ⟨coreNone_lk, fun j t ht => by
        rw [Tryz.params9] at ht
        have hm : t ∈ [] := by simpa using Array.mem_of_getElem? ht
        have hall : ([].all fun u => !Tryz.prog.wantsStandIn u) = true := by kernel_rfl
        exact (show Tryz.prog.wantsStandIn t = false by simpa using List.all_eq_true.1 hall t hm)⟩)
    coreNone_gs
end Go.Proofs.YthablfhijlommaaGreatDoor
