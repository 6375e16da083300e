/- The law ExpandArgs of the given program returns true for any arguments and any IFS, and never panics: its card, tied to the program. Conditions: none but those of the given statement. -/
import Derived.Test.YtanpkoghglnphaaGreatDoorFinArgs
namespace Go.Proofs.YtanpkoghglnphaaGreatDoor
open Go.ChangeShapes Go.WideShapes Go.ChangeAt Go.RowKit Go.Sx
set_option maxRecDepth 1000000
theorem plain9 (f : FuncId) (fn : Func) (hf : Tryz.pinned.checked.prog.funcNamed "almoner/almonerlaw18.ExpandArgs" = some f) (hfn : Tryz.pinned.checked.prog.funcs[f]? = some fn) :
    true = Tryz.pinned.checked.prog.looks [] ∧ ∀ (j : Nat) t, fn.params[j]? = some t → Tryz.pinned.checked.prog.wantsStandIn t = false := by
  obtain rfl : f = 9 := Option.some.inj ((show Tryz.prog.funcNamed "almoner/almonerlaw18.ExpandArgs" = some 9 by kernel_rfl).symm.trans hf) |>.symm
  obtain rfl : fn = Tryz.f9 := (Option.some.inj (Tryz.func9.symm.trans hfn)).symm
  refine ⟨by kernel_rfl, fun j t ht => ?_⟩
  rw [Tryz.params9] at ht
  have := Array.mem_of_getElem? ht
  simp at this
  rcases this with rfl | rfl
  · exact (show Tryz.prog.wantsStandIn 22 = false by kernel_rfl)
  · exact (show Tryz.prog.wantsStandIn 9 = false by kernel_rfl)
theorem card9 : Rows.ExpandArgsCardSaid :=
  Claim7.holds_tied_plain_at .later [] _ _ _ _ said9 (fun _ h => by cases h) (by kernel_rfl) (fun _ h => by cases h) expandArgs_row_tie rfl ⟨rfl, rfl⟩ (by kernel_rfl) rfl plain9 (by kernel_rfl)
end Go.Proofs.YtanpkoghglnphaaGreatDoor
