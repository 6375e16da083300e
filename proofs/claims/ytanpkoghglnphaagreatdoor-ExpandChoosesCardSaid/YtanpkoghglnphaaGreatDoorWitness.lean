import Derived.Test.YtanpkoghglnphaaGreatDoorCardChooses
namespace Go.Proofs.YtanpkoghglnphaaGreatDoor
open Go.ChangeShapes Go.WideShapes Go.ChangeAt Go.RowKit Go.Sx
noncomputable def flatD : Nat → DataW Unit → List Value
  | n + 1, .lit l => [l.value]
  | n + 1, .agg ds => ds.flatMap (flatD n)
  | _, _ => []
noncomputable def withCells (l : List Value) : Obj → Obj
  | .cells _ t frozen => .cells ⟨l⟩ t frozen
  | o => o
noncomputable def errCell (i : Nat) (bs : List UInt8) : Obj := .cells #[.string ⟨⟨bs⟩⟩] 249
/-- a world for the witness: the settled one, the tables holding what their initialisers lay -/
noncomputable def laidWorld (os : Os) : World :=
  let w := World.holding Tryz.prog os ⟨#[errCell 0 [105, 110, 118, 97, 108, 105, 100, 32, 115, 121, 110, 116, 97, 120], errCell 1 [118, 97, 108, 117, 101, 32, 111, 117, 116, 32, 111, 102, 32, 114, 97, 110, 103, 101]], #[], []⟩
  let n := (World.settled Tryz.prog os).heap.size
  { w with heap := (((((((w.heap.modify 1 (withCells (flatD 5 Rows.laid_internal_strconv_uint64pow10))).modify 2 (withCells (flatD 5 Go.Pinned.utf8First))).modify 3 (withCells (flatD 5 Rows.laid_unicode_utf8_acceptRanges))).modify 4 (withCells [.iface 247 (.pointer (some ⟨n, 0, none⟩))])).modify 5 (withCells [.iface 247 (.pointer (some ⟨n + 1, 0, none⟩))])).modify 6 (withCells (flatD 5 Rows.laid_math_bits_deBruijn32tab))).modify 7 (withCells (flatD 5 Rows.laid_math_bits_deBruijn64tab))) }
set_option maxRecDepth 1000000
theorem laid_met (os : Os) : laidMet Tryz.prog Rows.expandChoosesRow.laid ((laidWorld os).forCall (fun _ _ => 0) ⟨#[], #[.string ⟨⟨[]⟩⟩, .bool false, .bool false], []⟩).memory :=
  laidMet_of_run' 12 (by kernel_rfl) (by kernel_rfl)
end Go.Proofs.YtanpkoghglnphaaGreatDoor
