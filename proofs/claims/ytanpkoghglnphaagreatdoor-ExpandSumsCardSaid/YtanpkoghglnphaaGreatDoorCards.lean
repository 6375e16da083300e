/-
  DERIVED. GIVEN WITH THE SEED: THE CARDS: each row of YtanpkoghglnphaaGreatDoorRows.lean that lists a variable, with what it lists TIED to the program's text (the seventh form; the later family's looks); each row that meets fmt, with fmt's text TOLD by the authors' own Lean function (tested against real Go, not proved from fmt's source: count such statements apart). THE CARD IS WHAT COUNTS. Prove the row's statement (the work); the ties are given (YtanpkoghglnphaaGreatDoorTie.lean); close each card by the builder's one call (the guide's Derived/Test/ToyasCard.lean, 'card_holds'). Laid BY PROGRAM, IN A SANDBOX (cutbox-door.mjs). By AI agents, Wed Nov 11 2026. No macro, syntax, notation, axiom, sorry.
-/
import Derived.Test.YtanpkoghglnphaaGreatDoorRows
import GoSem.ClaimSeven
namespace Go.Proofs.YtanpkoghglnphaaGreatDoor
namespace Rows

/-- THE TIED CARD OF 'almonerlaw18.ExpandSplits'. -/
def expandSplitsCard : Claim7 := { stood := { row := expandSplitsRow, standIns := [], harness := (true, "0b9ba8502dd2ef332c2f7f9bc2c9fe5cbe2ffcbfbb360c42e947dd25fc511b3e"), looks := true }, kinds := [], alts := [], laidByText := true, laidKinds := [.data, .data, .data, .data, .sentinel, .sentinel, .pinned], laidTests := true, laidLooks := .later }
def ExpandSplitsCardSaid : Prop := Claim7.holds Tryz.pinned (.plain (OpenSpec.ofChange expandSplitsSpec)) expandSplitsCard

/-- THE TIED CARD OF 'almonerlaw18.ExpandChooses'. -/
def expandChoosesCard : Claim7 := { stood := { row := expandChoosesRow, standIns := [], harness := (true, "0b9ba8502dd2ef332c2f7f9bc2c9fe5cbe2ffcbfbb360c42e947dd25fc511b3e"), looks := true }, kinds := [], alts := [], laidByText := true, laidKinds := [.data, .data, .data, .data, .sentinel, .sentinel, .pinned], laidTests := true, laidLooks := .later }
def ExpandChoosesCardSaid : Prop := Claim7.holds Tryz.pinned (.plain (OpenSpec.ofChange expandChoosesSpec)) expandChoosesCard

/-- THE TIED CARD OF 'almonerlaw18.ExpandNeeds'. -/
def expandNeedsCard : Claim7 := { stood := { row := expandNeedsRow, standIns := [], harness := (true, "0b9ba8502dd2ef332c2f7f9bc2c9fe5cbe2ffcbfbb360c42e947dd25fc511b3e"), looks := true }, kinds := [], alts := [], laidByText := true, laidKinds := [.data, .data, .data, .data, .sentinel, .sentinel, .pinned], laidTests := true, laidLooks := .later }
def ExpandNeedsCardSaid : Prop := Claim7.holds Tryz.pinned (.plain (OpenSpec.ofChange expandNeedsSpec)) expandNeedsCard

/-- THE TIED CARD OF 'almonerlaw18.ExpandCuts'. -/
def expandCutsCard : Claim7 := { stood := { row := expandCutsRow, standIns := [], harness := (true, "0b9ba8502dd2ef332c2f7f9bc2c9fe5cbe2ffcbfbb360c42e947dd25fc511b3e"), looks := true }, kinds := [], alts := [], laidByText := true, laidKinds := [.data, .data, .data, .data, .sentinel, .sentinel, .pinned], laidTests := true, laidLooks := .later }
def ExpandCutsCardSaid : Prop := Claim7.holds Tryz.pinned (.plain (OpenSpec.ofChange expandCutsSpec)) expandCutsCard

/-- THE TIED CARD OF 'almonerlaw18.ExpandStar'. -/
def expandStarCard : Claim7 := { stood := { row := expandStarRow, standIns := [], harness := (true, "0b9ba8502dd2ef332c2f7f9bc2c9fe5cbe2ffcbfbb360c42e947dd25fc511b3e"), looks := true }, kinds := [], alts := [], laidByText := true, laidKinds := [.data, .data, .data, .data, .sentinel, .sentinel, .pinned], laidTests := true, laidLooks := .later }
def ExpandStarCardSaid : Prop := Claim7.holds Tryz.pinned (.plain (OpenSpec.ofChange expandStarSpec)) expandStarCard

/-- THE TIED CARD OF 'almonerlaw18.ExpandSums'. -/
def expandSumsCard : Claim7 := { stood := { row := expandSumsRow, standIns := [], harness := (true, "0b9ba8502dd2ef332c2f7f9bc2c9fe5cbe2ffcbfbb360c42e947dd25fc511b3e"), looks := true }, kinds := [], alts := [], laidByText := true, laidKinds := [.data, .data, .data, .data, .sentinel, .sentinel, .pinned], laidTests := true, laidLooks := .later }
def ExpandSumsCardSaid : Prop := Claim7.holds Tryz.pinned (.plain (OpenSpec.ofChange expandSumsSpec)) expandSumsCard

/-- THE TIED CARD OF 'almonerlaw18.ExpandArgs'. -/
def expandArgsCard : Claim7 := { stood := { row := expandArgsRow, standIns := [], harness := (true, "0b9ba8502dd2ef332c2f7f9bc2c9fe5cbe2ffcbfbb360c42e947dd25fc511b3e"), looks := true }, kinds := [], alts := [], laidByText := true, laidKinds := [.data, .data, .data, .data, .sentinel, .sentinel, .pinned], laidTests := true, laidLooks := .later }
def ExpandArgsCardSaid : Prop := Claim7.holds Tryz.pinned (.plain (OpenSpec.ofChange expandArgsSpec)) expandArgsCard

/-- THE SECOND FORM's CARD OF 'almonerlaw18.ExpandSplits'. -/
def expandSplitsUptoCard : Claim7 := { stood := { row := expandSplitsUptoRow, standIns := [], harness := (true, "0b9ba8502dd2ef332c2f7f9bc2c9fe5cbe2ffcbfbb360c42e947dd25fc511b3e"), looks := true }, kinds := [], alts := [], laidByText := true, laidKinds := [.data, .data, .data, .data, .sentinel, .sentinel, .pinned], laidTests := true, laidLooks := .later }
def ExpandSplitsUptoCardSaid : Prop := Claim7.holds Tryz.pinned (.plain (OpenSpec.upto expandSplitsSpec)) expandSplitsUptoCard

/-- THE SECOND FORM's CARD OF 'almonerlaw18.ExpandChooses'. -/
def expandChoosesUptoCard : Claim7 := { stood := { row := expandChoosesUptoRow, standIns := [], harness := (true, "0b9ba8502dd2ef332c2f7f9bc2c9fe5cbe2ffcbfbb360c42e947dd25fc511b3e"), looks := true }, kinds := [], alts := [], laidByText := true, laidKinds := [.data, .data, .data, .data, .sentinel, .sentinel, .pinned], laidTests := true, laidLooks := .later }
def ExpandChoosesUptoCardSaid : Prop := Claim7.holds Tryz.pinned (.plain (OpenSpec.upto expandChoosesSpec)) expandChoosesUptoCard

/-- THE SECOND FORM's CARD OF 'almonerlaw18.ExpandNeeds'. -/
def expandNeedsUptoCard : Claim7 := { stood := { row := expandNeedsUptoRow, standIns := [], harness := (true, "0b9ba8502dd2ef332c2f7f9bc2c9fe5cbe2ffcbfbb360c42e947dd25fc511b3e"), looks := true }, kinds := [], alts := [], laidByText := true, laidKinds := [.data, .data, .data, .data, .sentinel, .sentinel, .pinned], laidTests := true, laidLooks := .later }
def ExpandNeedsUptoCardSaid : Prop := Claim7.holds Tryz.pinned (.plain (OpenSpec.upto expandNeedsSpec)) expandNeedsUptoCard

/-- THE SECOND FORM's CARD OF 'almonerlaw18.ExpandCuts'. -/
def expandCutsUptoCard : Claim7 := { stood := { row := expandCutsUptoRow, standIns := [], harness := (true, "0b9ba8502dd2ef332c2f7f9bc2c9fe5cbe2ffcbfbb360c42e947dd25fc511b3e"), looks := true }, kinds := [], alts := [], laidByText := true, laidKinds := [.data, .data, .data, .data, .sentinel, .sentinel, .pinned], laidTests := true, laidLooks := .later }
def ExpandCutsUptoCardSaid : Prop := Claim7.holds Tryz.pinned (.plain (OpenSpec.upto expandCutsSpec)) expandCutsUptoCard

/-- THE SECOND FORM's CARD OF 'almonerlaw18.ExpandStar'. -/
def expandStarUptoCard : Claim7 := { stood := { row := expandStarUptoRow, standIns := [], harness := (true, "0b9ba8502dd2ef332c2f7f9bc2c9fe5cbe2ffcbfbb360c42e947dd25fc511b3e"), looks := true }, kinds := [], alts := [], laidByText := true, laidKinds := [.data, .data, .data, .data, .sentinel, .sentinel, .pinned], laidTests := true, laidLooks := .later }
def ExpandStarUptoCardSaid : Prop := Claim7.holds Tryz.pinned (.plain (OpenSpec.upto expandStarSpec)) expandStarUptoCard

/-- THE SECOND FORM's CARD OF 'almonerlaw18.ExpandSums'. -/
def expandSumsUptoCard : Claim7 := { stood := { row := expandSumsUptoRow, standIns := [], harness := (true, "0b9ba8502dd2ef332c2f7f9bc2c9fe5cbe2ffcbfbb360c42e947dd25fc511b3e"), looks := true }, kinds := [], alts := [], laidByText := true, laidKinds := [.data, .data, .data, .data, .sentinel, .sentinel, .pinned], laidTests := true, laidLooks := .later }
def ExpandSumsUptoCardSaid : Prop := Claim7.holds Tryz.pinned (.plain (OpenSpec.upto expandSumsSpec)) expandSumsUptoCard

/-- THE SECOND FORM's CARD OF 'almonerlaw18.ExpandArgs'. -/
def expandArgsUptoCard : Claim7 := { stood := { row := expandArgsUptoRow, standIns := [], harness := (true, "0b9ba8502dd2ef332c2f7f9bc2c9fe5cbe2ffcbfbb360c42e947dd25fc511b3e"), looks := true }, kinds := [], alts := [], laidByText := true, laidKinds := [.data, .data, .data, .data, .sentinel, .sentinel, .pinned], laidTests := true, laidLooks := .later }
def ExpandArgsUptoCardSaid : Prop := Claim7.holds Tryz.pinned (.plain (OpenSpec.upto expandArgsSpec)) expandArgsUptoCard
end Rows
end Go.Proofs.YtanpkoghglnphaaGreatDoor
