import Derived.Test.YtanpkoghglnphaaGreatDoorSxH
import Derived.WalkKit
import Derived.ProofKit
import Derived.OpenShut
import Derived.Deep.DeepHandedRow
import Derived.Lib.LaidTab
import Derived.ChangeMaps5
import Derived.Test.YtanpkoghglnphaaGreatDoorCards
import Derived.Test.YtanpkoghglnphaaGreatDoorTie
namespace Go.Sx
open Go.ChangeShapes Go.WideShapes Go.ChangeAt Go.RowKit
/-- as the kit's 'post_of_same', where what is frozen stays so below the elder heap's end alone -/
theorem post_of_kept {H : Type} {enc : TypeId × Value → H} {P : Program} {f : Func} {s : ChangeSpec} {apart fresh handsOn again : Bool} {W W' : World} {args : Array Value} {v : Value} {ds gs : List (DataW H)} {before pa pv : List MemPlace}
    (hW : DataW.Whole enc P f.params.toList s.vars apart W args.toList ds gs before)
    (hres : ∀ (b : Nat) (sp : Nat → Bool) (hd : Bool), DataW.TrodAll enc P W' b sp hd f.resultTypes.toList (v.resultList f.resultTypes.size) (s.fn H (ds ++ gs)).results [])
    (hargs : ∀ sp : Nat → Bool, (∀ p ∈ before, sp p.block = true) → DataW.TrodAll enc P W' 0 sp true f.params.toList args.toList (s.fn H (ds ++ gs)).args pa)
    (hvars : ∀ sp : Nat → Bool, (∀ p ∈ before, sp p.block = true) → DataW.TrodVars enc P W' sp s.vars (s.fn H (ds ++ gs)).vars pv)
    (hps : before = pa ++ pv) (hk : Kept W W')
    (hok : ∀ (j : Nat) (t : TypeId) (r : Value), f.resultTypes[j]? = some t → (v.resultList f.resultTypes.size)[j]? = some r → Value.okWide P W' .any 0 t r) :
    s.post enc P f apart fresh handsOn again W args v W' := by
  have hlt : ∀ p ∈ before, p.block < W.heap.size := fun p hp => hW.lt p hp
  have hold : ∀ p ∈ before, (fun b => decide (b < W.heap.size)) p.block = true := fun p hp => by simpa using hlt p hp
  refine ⟨ds, gs, before, [], pa, pv, hW, hres _ _ _, hargs _ hold, hvars _ hold, World.keptBut_mono (fun p hp => ⟨hp, ?_⟩) (hk.but (· ∈ before)), fun _ => ?_⟩
  · rw [hps, List.mem_append] at hp
    exact Or.inr hp
  · obtain ⟨_, _, _, _, _, hz, hn⟩ := hW
    refine ⟨hok, _, _, ([] ++ pa) ++ pv, ⟨[] ++ pa, pv, trodAll_append (hargs _ (fun _ _ => rfl)) (hres _ _ _), hvars _ (fun _ _ => rfl), rfl, ?_, ?_⟩, ?_⟩
    · intro b off hp
      have hin : MemPlace.cell b off ∈ before := by rw [hps]; simpa using hp
      rw [hk.frozen ⟨b, off, none⟩ (hlt _ hin)]
      exact hz b off hin
    · intro ha
      have := hn ha
      rw [hps] at this
      simpa using this
    · intro p hp _
      rw [hps]
      simpa using hp
end Go.Sx
namespace Go.Proofs.YtanpkoghglnphaaGreatDoor
open Go.ChangeShapes Go.WideShapes Go.ChangeAt Go.RowKit Go.Sx
noncomputable def flatD : Nat → DataW Unit → List Value
  | n + 1, .lit l => [l.value]
  | n + 1, .agg ds => ds.flatMap (flatD n)
  | _, _ => []
noncomputable def withCells (l : List Value) : Obj → Obj
  | .cells _ t frozen => .cells ⟨l⟩ t frozen
  | o => o
noncomputable def errCell (i : Nat) (bs : List UInt8) : Obj := .cells #[.string ⟨⟨bs⟩⟩] 249
/-- a world for the witness: the settled one, the tables holding what their initialisers lay -/
noncomputable def laidWorld (os : Os) : World :=
  let w := World.holding Tryz.prog os ⟨#[errCell 0 [105, 110, 118, 97, 108, 105, 100, 32, 115, 121, 110, 116, 97, 120], errCell 1 [118, 97, 108, 117, 101, 32, 111, 117, 116, 32, 111, 102, 32, 114, 97, 110, 103, 101]], #[], []⟩
  let n := (World.settled Tryz.prog os).heap.size
  { w with heap := (((((((w.heap.modify 1 (withCells (flatD 5 Rows.laid_internal_strconv_uint64pow10))).modify 2 (withCells (flatD 5 Go.Pinned.utf8First))).modify 3 (withCells (flatD 5 Rows.laid_unicode_utf8_acceptRanges))).modify 4 (withCells [.iface 247 (.pointer (some ⟨n, 0, none⟩))])).modify 5 (withCells [.iface 247 (.pointer (some ⟨n + 1, 0, none⟩))])).modify 6 (withCells (flatD 5 Rows.laid_math_bits_deBruijn32tab))).modify 7 (withCells (flatD 5 Rows.laid_math_bits_deBruijn64tab))) }
end Go.Proofs.YtanpkoghglnphaaGreatDoor
