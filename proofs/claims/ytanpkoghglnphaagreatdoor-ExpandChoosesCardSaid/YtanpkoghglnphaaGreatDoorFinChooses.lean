import Derived.Test.YtanpkoghglnphaaGreatDoorWitness
namespace Go.Proofs.YtanpkoghglnphaaGreatDoor
open Go.ChangeShapes Go.WideShapes Go.ChangeAt Go.RowKit Go.Sx
set_option maxRecDepth 1000000
theorem own18 : ownKnob Tryz.prog.godebug = none := by kernel_rfl
theorem reads4 (os : Os) {H : Type} (enc : TypeId × Value → H) : ∃ places, DataW.whole enc Tryz.prog ((laidWorld os).forCall (fun _ _ => 0) ⟨#[], #[.string ⟨⟨[]⟩⟩, .bool false, .bool false], []⟩).memory Tryz.f4.params.toList Rows.expandChoosesSpec.vars false #[Value.string ⟨⟨[]⟩⟩, Value.bool false, Value.bool false].toList 8 = some ([.lit (.string []), .lit (.bool false), .lit (.bool false)], [], places) :=
  ⟨[], by kernel_rfl⟩
theorem lifted4 (os : Os) (started : os.Started) (H : Type) (enc : TypeId × Value → H) (F : Stop.Interp) :
    ReturnsInHanded {} Tryz.checked os 4 .any ((OpenSpec.ofChange Rows.expandChoosesSpec).preRow enc Tryz.prog Tryz.f4 Rows.expandChoosesRow.domain false Rows.expandChoosesRow.laid) (((OpenSpec.ofChange Rows.expandChoosesSpec).at F).post enc Tryz.prog Tryz.f4 false true false false) := by
  obtain ⟨places, hx⟩ := reads4 os enc
  refine returnsInHanded_of_row (C := Tryz.checked) (s := OpenSpec.ofChange Rows.expandChoosesSpec) own18 started (by kernel_rfl) Tryz.func4
    (witness_row_at (enc := enc) (C := Tryz.checked) false (laidWorld os) #[.string ⟨⟨[]⟩⟩, .bool false, .bool false] rfl (by kernel_rfl) (by kernel_rfl) (by kernel_rfl)
      (OpenSpec.preRow_of_cond 8 hx (by kernel_rfl) (fun k hk => by cases hk) (by kernel_rfl) (laid_met os))) ?_
  intro W base args ds gs before hval hW _ _ _ hL _ _
  exact contract4 H enc W base args ds gs before hval hW
theorem said4 : Rows.ExpandChoosesSaid :=
  OpenClaim.holds_of_cond 4 Tryz.f4 rfl rfl rfl rfl rfl rfl rfl ⟨rfl, rfl, rfl, rfl, rfl⟩ rfl rfl rfl rfl rfl (by kernel_rfl) Tryz.func4 (by kernel_rfl)
    (of_decide_eq_true (by kernel_rfl)) (by unfold Func.isWrapper; first | (rw [if_pos (by decide +kernel)]; kernel_rfl) | (rw [if_neg (by decide +kernel)]; exact ⟨rfl, rfl⟩))
    (fun os started H enc _ F => by rw [OpenClaim.pre_eq_preRow]; exact lifted4 os started H enc F)
end Go.Proofs.YtanpkoghglnphaaGreatDoor
