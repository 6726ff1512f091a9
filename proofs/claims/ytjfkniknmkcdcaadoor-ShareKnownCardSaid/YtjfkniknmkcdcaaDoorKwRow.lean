/- Proved: ShareKnown returns true ; the table of factorials reads as the program's text lays it (tied). -/
import Derived.Test.YtjfkniknmkcdcaaDoorTie
import Derived.Test.YtjfkniknmkcdcaaDoorCards
import Derived.Test.YtjfkniknmkcdcaaDoorKw
import Derived.Test.YtjfkniknmkcdcaaDoorLd
namespace Go.Proofs.YtjfkniknmkcdcaaDoor.shareKnown
open Go Go.ChangeShapes Go.WideShapes Go.ChangeAt Go.RowKit

set_option maxRecDepth 100000 in
theorem lifted (os : Os) (started : os.Started) (H : Type) (enc : TypeId × Value → H) :
    ReturnsInHanded {} Tryd.checked os 5 .any (fun w args => (Rows.shareKnownSpec.pre enc Tryd.prog Tryd.f5 Rows.shareKnownRow.domain false w args ∧ laidMetH Tryd.prog Ld.laid w) ∧ sizedMet enc Tryd.prog Tryd.f5 (OpenSpec.ofChange Rows.shareKnownSpec) false w args)
      (Rows.shareKnownSpec.post enc Tryd.prog Tryd.f5 false true false false) := by
  refine returnsInHanded_of_change_and (C := Tryd.checked) (X := fun w _ => laidMetH Tryd.prog Ld.laid w) (fun _ _ _ hh h => h.of_heap hh) Ld.own started (by kernel_rfl) Tryd.func5
    (ChangeSpec.witness_shaped (enc := enc) (C := Tryd.checked) (os := os) (X := fun w _ => laidMetH Tryd.prog Ld.laid w) false (World.laidAll Tryd.prog os Ld.laid) #[] 8 (World.laidAll_os _ _ _)
      (World.shaped_of_ZipB (by kernel_rfl) (by kernel_rfl)) (by kernel_rfl) (by kernel_rfl) (by kernel_rfl)
      (by rw [MakeChecks.laidMetH_plain _ _ _ (by kernel_rfl)]; exact laidMet_laidAll _ (by kernel_rfl) (by kernel_rfl))) ?_
  intro W base args ds gs before hval0 hW hcnd _ hL _
  have hval : ∀ (j : Nat) t v, Tryd.f5.params[j]? = some t → args[j]? = some v → Value.okWide Tryd.prog W .any base t v := hval0
  have hW' := hW
  obtain ⟨p, q, hA0, hV, rfl, hfz, hnd⟩ := hW
  have hA : DataW.TrodAll enc Tryd.prog W 0 (fun _ => true) true Tryd.f5.params.toList args.toList ds p := hA0
  rw [Tryd.params5] at hA hval
  obtain ⟨hargs, rfl, rfl⟩ := trodAll_nil hA
  obtain rfl : args = #[] := by cases args; simp_all
  obtain ⟨rfl, rfl⟩ := trodVars_none hV
  clear hA0 hval0
  refine (shareKnown_walk W (Ld.fac hL)).mono fun e W' ⟨he, hb⟩ => ?_
  subst he
  exact ⟨_, rfl, R.law_post Ld.laidOut (by kernel_rfl) (by kernel_rfl) Tryd.underlying4 hW' (by kernel_rfl) rfl rfl rfl hb⟩

theorem said : Rows.ShareKnownSaid :=
  OpenClaim.holds_of_wide 5 Tryd.f5 rfl rfl rfl rfl rfl rfl rfl ⟨rfl, rfl, rfl, rfl, rfl⟩ rfl rfl rfl rfl rfl (by kernel_rfl) Tryd.func5 (by kernel_rfl)
    (of_decide_eq_true (by kernel_rfl)) (by unfold Func.isWrapper; first | (rw [if_pos (by decide +kernel)]; kernel_rfl) | (rw [if_neg (by decide +kernel)]; exact ⟨rfl, rfl⟩))
    (fun os started H enc _ => lifted os started H enc)
theorem holds : Rows.ShareKnownCardSaid :=
  Claim7.holds_tied_plain_at .later [] [.data] true Rows.shareKnownCard.stood.harness false said (fun _ h => by cases h) (by kernel_rfl) (fun _ h => by cases h) shareKnown_row_tie rfl ⟨rfl, rfl⟩ (by kernel_rfl) rfl
    (fun f fn hf hfn => by
      obtain rfl : f = 5 := Option.some.inj ((show Tryd.prog.funcNamed "abaculus/abaculuslaw37.ShareKnown" = some 5 by kernel_rfl).symm.trans hf) |>.symm
      obtain rfl : fn = Tryd.f5 := (Option.some.inj (Tryd.func5.symm.trans hfn)).symm
      exact ⟨by kernel_rfl, fun j t ht => by
        rw [Tryd.params5] at ht
        simp at ht⟩)
    (by kernel_rfl)
end Go.Proofs.YtjfkniknmkcdcaaDoor.shareKnown
#print axioms Go.Proofs.YtjfkniknmkcdcaaDoor.shareKnown.holds
