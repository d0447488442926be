/-
  DERIVED. GIVEN WITH THE SEED: THE CARDS: each row of YtmedobeogdnkfaaDoorRows.lean that lists a variable, with what it lists TIED to the program's text (the seventh form; the later family's looks); each row that meets fmt, with fmt's text TOLD by the authors' own Lean function (tested against real Go, not proved from fmt's source: count such statements apart). THE CARD IS WHAT COUNTS. Prove the row's statement (the work); the ties are given (YtmedobeogdnkfaaDoorTie.lean); close each card by the builder's one call (the guide's Derived/Test/ToyasCard.lean, 'card_holds'). Laid BY PROGRAM, IN A SANDBOX (cutbox-door.mjs). By AI agents, Wed Nov 11 2026. No macro, syntax, notation, axiom, sorry.
-/
import Derived.Test.YtmedobeogdnkfaaDoorRows
import GoSem.ClaimSeven
namespace Go.Proofs.YtmedobeogdnkfaaDoor
namespace Rows

/-- THE TIED CARD OF 'salchowlaw03.BlakeSums'. -/
def blakeSumsCard : Claim7 := { stood := { row := blakeSumsRow, standIns := [], harness := (true, "d6a6f87d4ecaf1a37a5281313ec84caa1f641c994b1a5bdf3ec08a0bd639bba5"), looks := false }, kinds := [], alts := [], laidByText := true, laidKinds := [.data, .data, .data], laidTests := true, laidLooks := .later }
def BlakeSumsCardSaid : Prop := Claim7.holds Tryd.pinned (.plain (OpenSpec.ofChange blakeSumsSpec)) blakeSumsCard

/-- THE TIED CARD OF 'salchowlaw03.BlakeClones'. -/
def blakeClonesCard : Claim7 := { stood := { row := blakeClonesRow, standIns := [], harness := (true, "d6a6f87d4ecaf1a37a5281313ec84caa1f641c994b1a5bdf3ec08a0bd639bba5"), looks := false }, kinds := [], alts := [], laidByText := true, laidKinds := [.data, .data, .data], laidTests := true, laidLooks := .later }
def BlakeClonesCardSaid : Prop := Claim7.holds Tryd.pinned (.plain (OpenSpec.ofChange blakeClonesSpec)) blakeClonesCard

/-- THE TIED CARD OF 'salchowlaw03.BlakeKeys'. -/
def blakeKeysCard : Claim7 := { stood := { row := blakeKeysRow, standIns := [], harness := (true, "d6a6f87d4ecaf1a37a5281313ec84caa1f641c994b1a5bdf3ec08a0bd639bba5"), looks := false }, kinds := [], alts := [], laidByText := true, laidKinds := [.data, .data, .data], laidTests := true, laidLooks := .later }
def BlakeKeysCardSaid : Prop := Claim7.holds Tryd.pinned (.plain (OpenSpec.ofChange blakeKeysSpec)) blakeKeysCard

/-- THE TIED CARD OF 'salchowlaw03.BlakeKeyed'. -/
def blakeKeyedCard : Claim7 := { stood := { row := blakeKeyedRow, standIns := [], harness := (true, "d6a6f87d4ecaf1a37a5281313ec84caa1f641c994b1a5bdf3ec08a0bd639bba5"), looks := false }, kinds := [], alts := [], laidByText := true, laidKinds := [.data, .data, .data], laidTests := true, laidLooks := .later }
def BlakeKeyedCardSaid : Prop := Claim7.holds Tryd.pinned (.plain (OpenSpec.ofChange blakeKeyedSpec)) blakeKeyedCard

/-- THE TIED CARD OF 'salchowlaw03.BlakeWrites'. -/
def blakeWritesCard : Claim7 := { stood := { row := blakeWritesRow, standIns := [], harness := (true, "d6a6f87d4ecaf1a37a5281313ec84caa1f641c994b1a5bdf3ec08a0bd639bba5"), looks := false }, kinds := [], alts := [], laidByText := true, laidKinds := [.data, .data, .data], laidTests := true, laidLooks := .later }
def BlakeWritesCardSaid : Prop := Claim7.holds Tryd.pinned (.plain (OpenSpec.ofChange blakeWritesSpec)) blakeWritesCard

/-- THE TIED CARD OF 'salchowlaw03.BlakeHex'. -/
def blakeHexCard : Claim7 := { stood := { row := blakeHexRow, standIns := [], harness := (true, "d6a6f87d4ecaf1a37a5281313ec84caa1f641c994b1a5bdf3ec08a0bd639bba5"), looks := false }, kinds := [], alts := [], laidByText := true, laidKinds := [.data, .data, .data], laidTests := true, laidLooks := .later }
def BlakeHexCardSaid : Prop := Claim7.holds Tryd.pinned (.plain (OpenSpec.ofChange blakeHexSpec)) blakeHexCard

/-- THE TIED CARD OF 'salchowlaw03.BlakeUnhex'. -/
def blakeUnhexCard : Claim7 := { stood := { row := blakeUnhexRow, standIns := [], harness := (true, "d6a6f87d4ecaf1a37a5281313ec84caa1f641c994b1a5bdf3ec08a0bd639bba5"), looks := false }, kinds := [], alts := [], laidByText := true, laidKinds := [.data, .data, .data], laidTests := true, laidLooks := .later }
def BlakeUnhexCardSaid : Prop := Claim7.holds Tryd.pinned (.plain (OpenSpec.ofChange blakeUnhexSpec)) blakeUnhexCard

/-- THE SECOND FORM's CARD OF 'salchowlaw03.BlakeSums'. -/
def blakeSumsUptoCard : Claim7 := { stood := { row := blakeSumsUptoRow, standIns := [], harness := (true, "d6a6f87d4ecaf1a37a5281313ec84caa1f641c994b1a5bdf3ec08a0bd639bba5"), looks := false }, kinds := [], alts := [], laidByText := true, laidKinds := [.data, .data, .data], laidTests := true, laidLooks := .later }
def BlakeSumsUptoCardSaid : Prop := Claim7.holds Tryd.pinned (.plain (OpenSpec.upto blakeSumsSpec)) blakeSumsUptoCard

/-- THE SECOND FORM's CARD OF 'salchowlaw03.BlakeClones'. -/
def blakeClonesUptoCard : Claim7 := { stood := { row := blakeClonesUptoRow, standIns := [], harness := (true, "d6a6f87d4ecaf1a37a5281313ec84caa1f641c994b1a5bdf3ec08a0bd639bba5"), looks := false }, kinds := [], alts := [], laidByText := true, laidKinds := [.data, .data, .data], laidTests := true, laidLooks := .later }
def BlakeClonesUptoCardSaid : Prop := Claim7.holds Tryd.pinned (.plain (OpenSpec.upto blakeClonesSpec)) blakeClonesUptoCard

/-- THE SECOND FORM's CARD OF 'salchowlaw03.BlakeKeys'. -/
def blakeKeysUptoCard : Claim7 := { stood := { row := blakeKeysUptoRow, standIns := [], harness := (true, "d6a6f87d4ecaf1a37a5281313ec84caa1f641c994b1a5bdf3ec08a0bd639bba5"), looks := false }, kinds := [], alts := [], laidByText := true, laidKinds := [.data, .data, .data], laidTests := true, laidLooks := .later }
def BlakeKeysUptoCardSaid : Prop := Claim7.holds Tryd.pinned (.plain (OpenSpec.upto blakeKeysSpec)) blakeKeysUptoCard

/-- THE SECOND FORM's CARD OF 'salchowlaw03.BlakeKeyed'. -/
def blakeKeyedUptoCard : Claim7 := { stood := { row := blakeKeyedUptoRow, standIns := [], harness := (true, "d6a6f87d4ecaf1a37a5281313ec84caa1f641c994b1a5bdf3ec08a0bd639bba5"), looks := false }, kinds := [], alts := [], laidByText := true, laidKinds := [.data, .data, .data], laidTests := true, laidLooks := .later }
def BlakeKeyedUptoCardSaid : Prop := Claim7.holds Tryd.pinned (.plain (OpenSpec.upto blakeKeyedSpec)) blakeKeyedUptoCard

/-- THE SECOND FORM's CARD OF 'salchowlaw03.BlakeWrites'. -/
def blakeWritesUptoCard : Claim7 := { stood := { row := blakeWritesUptoRow, standIns := [], harness := (true, "d6a6f87d4ecaf1a37a5281313ec84caa1f641c994b1a5bdf3ec08a0bd639bba5"), looks := false }, kinds := [], alts := [], laidByText := true, laidKinds := [.data, .data, .data], laidTests := true, laidLooks := .later }
def BlakeWritesUptoCardSaid : Prop := Claim7.holds Tryd.pinned (.plain (OpenSpec.upto blakeWritesSpec)) blakeWritesUptoCard

/-- THE SECOND FORM's CARD OF 'salchowlaw03.BlakeHex'. -/
def blakeHexUptoCard : Claim7 := { stood := { row := blakeHexUptoRow, standIns := [], harness := (true, "d6a6f87d4ecaf1a37a5281313ec84caa1f641c994b1a5bdf3ec08a0bd639bba5"), looks := false }, kinds := [], alts := [], laidByText := true, laidKinds := [.data, .data, .data], laidTests := true, laidLooks := .later }
def BlakeHexUptoCardSaid : Prop := Claim7.holds Tryd.pinned (.plain (OpenSpec.upto blakeHexSpec)) blakeHexUptoCard

/-- THE SECOND FORM's CARD OF 'salchowlaw03.BlakeUnhex'. -/
def blakeUnhexUptoCard : Claim7 := { stood := { row := blakeUnhexUptoRow, standIns := [], harness := (true, "d6a6f87d4ecaf1a37a5281313ec84caa1f641c994b1a5bdf3ec08a0bd639bba5"), looks := false }, kinds := [], alts := [], laidByText := true, laidKinds := [.data, .data, .data], laidTests := true, laidLooks := .later }
def BlakeUnhexUptoCardSaid : Prop := Claim7.holds Tryd.pinned (.plain (OpenSpec.upto blakeUnhexSpec)) blakeUnhexUptoCard
end Rows
end Go.Proofs.YtmedobeogdnkfaaDoor
