/-
  DERIVED. GIVEN WITH THE SEED: THE PROGRAM's TIES (one call each: nine closed facts by the kernel) AND EACH ROW's TIE, after the 31st guide's Derived/Test/Toyas{Tie, Card}.lean. No idea stands in it: it is a product of the set-up. Laid BY PROGRAM, IN A SANDBOX (cutbox-door.mjs). By AI agents, Wed Nov 11 2026. No macro, syntax, notation, axiom, sorry.
-/
import Derived.Test.YtmedobeogdnkfaaDoorRows
import Derived.LaidByTextLater
import Derived.SevenTiedAt
import Derived.LaidSub
import Derived.LaidOnce
namespace Go.Proofs.YtmedobeogdnkfaaDoor
open Go
set_option maxRecDepth 100000
theorem seatTie1 : Tryd.prog.laidByTextLater [("salchow/blake.iv", Rows.laid_salchow_blake_iv), ("salchow/blake.sigma", Rows.laid_salchow_blake_sigma), ("salchow/blake.lanes", Rows.laid_salchow_blake_lanes)] [.data, .data, .data] true :=
  Program.laidByTextLater_by_one 42 8 161 (by kernel_rfl) (by kernel_rfl) (by kernel_rfl) (by kernel_rfl) (by kernel_rfl) (by kernel_rfl) (fun _ _ => by kernel_rfl)
theorem noOwnUnsafe : Tryd.pinned.checked.prog.headLifts.contains "ownunsafe" = false := by kernel_rfl
theorem tie : Tryd.prog.laidByTextLater [("salchow/blake.iv", Rows.laid_salchow_blake_iv), ("salchow/blake.sigma", Rows.laid_salchow_blake_sigma), ("salchow/blake.lanes", Rows.laid_salchow_blake_lanes)] [.data, .data, .data] true :=
  Program.laidByTextLater.sub seatTie1 ["salchow/blake.iv", "salchow/blake.sigma", "salchow/blake.lanes"] (by kernel_rfl) (by kernel_rfl)
theorem blakeSums_row_tie : Rows.blakeSumsRow.laidByTextAt .later Tryd.pinned [.data, .data, .data] true :=
  OpenClaim.laidByTextAt_later rfl rfl tie noOwnUnsafe
theorem blakeClones_row_tie : Rows.blakeClonesRow.laidByTextAt .later Tryd.pinned [.data, .data, .data] true :=
  OpenClaim.laidByTextAt_later rfl rfl tie noOwnUnsafe
theorem blakeKeys_row_tie : Rows.blakeKeysRow.laidByTextAt .later Tryd.pinned [.data, .data, .data] true :=
  OpenClaim.laidByTextAt_later rfl rfl tie noOwnUnsafe
theorem blakeKeyed_row_tie : Rows.blakeKeyedRow.laidByTextAt .later Tryd.pinned [.data, .data, .data] true :=
  OpenClaim.laidByTextAt_later rfl rfl tie noOwnUnsafe
theorem blakeWrites_row_tie : Rows.blakeWritesRow.laidByTextAt .later Tryd.pinned [.data, .data, .data] true :=
  OpenClaim.laidByTextAt_later rfl rfl tie noOwnUnsafe
theorem blakeHex_row_tie : Rows.blakeHexRow.laidByTextAt .later Tryd.pinned [.data, .data, .data] true :=
  OpenClaim.laidByTextAt_later rfl rfl tie noOwnUnsafe
theorem blakeUnhex_row_tie : Rows.blakeUnhexRow.laidByTextAt .later Tryd.pinned [.data, .data, .data] true :=
  OpenClaim.laidByTextAt_later rfl rfl tie noOwnUnsafe
theorem blakeSumsUpto_row_tie : Rows.blakeSumsUptoRow.laidByTextAt .later Tryd.pinned [.data, .data, .data] true :=
  OpenClaim.laidByTextAt_later rfl rfl tie noOwnUnsafe
theorem blakeClonesUpto_row_tie : Rows.blakeClonesUptoRow.laidByTextAt .later Tryd.pinned [.data, .data, .data] true :=
  OpenClaim.laidByTextAt_later rfl rfl tie noOwnUnsafe
theorem blakeKeysUpto_row_tie : Rows.blakeKeysUptoRow.laidByTextAt .later Tryd.pinned [.data, .data, .data] true :=
  OpenClaim.laidByTextAt_later rfl rfl tie noOwnUnsafe
theorem blakeKeyedUpto_row_tie : Rows.blakeKeyedUptoRow.laidByTextAt .later Tryd.pinned [.data, .data, .data] true :=
  OpenClaim.laidByTextAt_later rfl rfl tie noOwnUnsafe
theorem blakeWritesUpto_row_tie : Rows.blakeWritesUptoRow.laidByTextAt .later Tryd.pinned [.data, .data, .data] true :=
  OpenClaim.laidByTextAt_later rfl rfl tie noOwnUnsafe
theorem blakeHexUpto_row_tie : Rows.blakeHexUptoRow.laidByTextAt .later Tryd.pinned [.data, .data, .data] true :=
  OpenClaim.laidByTextAt_later rfl rfl tie noOwnUnsafe
theorem blakeUnhexUpto_row_tie : Rows.blakeUnhexUptoRow.laidByTextAt .later Tryd.pinned [.data, .data, .data] true :=
  OpenClaim.laidByTextAt_later rfl rfl tie noOwnUnsafe
end Go.Proofs.YtmedobeogdnkfaaDoor
