/-
  NARROWER THAN 'FOR EVERY INPUT', by the rows' own cells (each row's printed sentence says how): BlakeSums: laid · BlakeClones: laid · BlakeKeys: laid · BlakeKeyed: laid · BlakeWrites: laid · BlakeHex: laid · BlakeUnhex: laid.
  DERIVED. THE GIVEN ROWS OF THIS SEAT. 7 by the template 'for every input the law returns true; each argument reads behind the call as it read before'; 0 by the template 'total and deterministic' (their statements: YtmedobeogdnkfaaDoorTotals.lean).
  GIVEN WITH THE SEED: the statements are not yours to turn. If you find one false, say at which input.
  Laid BY PROGRAM, IN A SANDBOX (cutbox-rows.mjs): the forced cells as the released guide's own fill.sh prints them over the translation 67791b68c89e851b… (all of the seat's roots in one cut). By AI agents, Wed Nov 11 2026. No macro, syntax, notation, axiom, sorry.
-/
import Derived.Test.YtmedobeogdnkfaaDoorChecked
import GoSem.Claim
import GoSem.ClaimJoined
import GoSem.ClaimMapViews
import Derived.JoinedTies
import Derived.KernelRfl
namespace Go.Proofs.YtmedobeogdnkfaaDoor
/- THE CELL 'sum', in the pinned program and in every row, IS THE sha256 OF THE DUMP (.gsa) THAT YtmedobeogdnkfaaDoorProg.lean LOADS. Nothing in Lean hashes anything: it is a label: what it is worth is what the hold of that sum in a sandbox is worth. -/
noncomputable def Tryd.pinned : Pinned := { name := "ytmedobeogdnkfaadoor", sum := "67791b68c89e851b4c3237fd47eff2e2128ad5f9c29a27e606a60cb0348f4384", checked := Tryd.checked }
namespace Rows
def none {H : Type} : Left H := { results := [], args := [] }

/- WHAT THE LISTED PACKAGE-LEVEL VARIABLES READ AS WHEN THE CALL BEGINS. Each datum BY PROGRAM (the guide's laid-datum.mjs) off the statement by which the dump's own 'gosem.cut.vars' lays the variable. In a bare row this is a premise. The card (YtmedobeogdnkfaaDoorCards.lean) ties it to the program's text. -/
def laid_salchow_blake_iv {H : Type} : DataW H := .agg [.lit (.int .u32 1779033703), .lit (.int .u32 3144134277), .lit (.int .u32 1013904242), .lit (.int .u32 2773480762), .lit (.int .u32 1359893119), .lit (.int .u32 2600822924), .lit (.int .u32 528734635), .lit (.int .u32 1541459225)]
def laid_salchow_blake_sigma {H : Type} : DataW H := .agg [.agg [.lit (.int .u8 0), .lit (.int .u8 1), .lit (.int .u8 2), .lit (.int .u8 3), .lit (.int .u8 4), .lit (.int .u8 5), .lit (.int .u8 6), .lit (.int .u8 7), .lit (.int .u8 8), .lit (.int .u8 9), .lit (.int .u8 10), .lit (.int .u8 11), .lit (.int .u8 12), .lit (.int .u8 13), .lit (.int .u8 14), .lit (.int .u8 15)], .agg [.lit (.int .u8 14), .lit (.int .u8 10), .lit (.int .u8 4), .lit (.int .u8 8), .lit (.int .u8 9), .lit (.int .u8 15), .lit (.int .u8 13), .lit (.int .u8 6), .lit (.int .u8 1), .lit (.int .u8 12), .lit (.int .u8 0), .lit (.int .u8 2), .lit (.int .u8 11), .lit (.int .u8 7), .lit (.int .u8 5), .lit (.int .u8 3)], .agg [.lit (.int .u8 11), .lit (.int .u8 8), .lit (.int .u8 12), .lit (.int .u8 0), .lit (.int .u8 5), .lit (.int .u8 2), .lit (.int .u8 15), .lit (.int .u8 13), .lit (.int .u8 10), .lit (.int .u8 14), .lit (.int .u8 3), .lit (.int .u8 6), .lit (.int .u8 7), .lit (.int .u8 1), .lit (.int .u8 9), .lit (.int .u8 4)], .agg [.lit (.int .u8 7), .lit (.int .u8 9), .lit (.int .u8 3), .lit (.int .u8 1), .lit (.int .u8 13), .lit (.int .u8 12), .lit (.int .u8 11), .lit (.int .u8 14), .lit (.int .u8 2), .lit (.int .u8 6), .lit (.int .u8 5), .lit (.int .u8 10), .lit (.int .u8 4), .lit (.int .u8 0), .lit (.int .u8 15), .lit (.int .u8 8)], .agg [.lit (.int .u8 9), .lit (.int .u8 0), .lit (.int .u8 5), .lit (.int .u8 7), .lit (.int .u8 2), .lit (.int .u8 4), .lit (.int .u8 10), .lit (.int .u8 15), .lit (.int .u8 14), .lit (.int .u8 1), .lit (.int .u8 11), .lit (.int .u8 12), .lit (.int .u8 6), .lit (.int .u8 8), .lit (.int .u8 3), .lit (.int .u8 13)], .agg [.lit (.int .u8 2), .lit (.int .u8 12), .lit (.int .u8 6), .lit (.int .u8 10), .lit (.int .u8 0), .lit (.int .u8 11), .lit (.int .u8 8), .lit (.int .u8 3), .lit (.int .u8 4), .lit (.int .u8 13), .lit (.int .u8 7), .lit (.int .u8 5), .lit (.int .u8 15), .lit (.int .u8 14), .lit (.int .u8 1), .lit (.int .u8 9)], .agg [.lit (.int .u8 12), .lit (.int .u8 5), .lit (.int .u8 1), .lit (.int .u8 15), .lit (.int .u8 14), .lit (.int .u8 13), .lit (.int .u8 4), .lit (.int .u8 10), .lit (.int .u8 0), .lit (.int .u8 7), .lit (.int .u8 6), .lit (.int .u8 3), .lit (.int .u8 9), .lit (.int .u8 2), .lit (.int .u8 8), .lit (.int .u8 11)], .agg [.lit (.int .u8 13), .lit (.int .u8 11), .lit (.int .u8 7), .lit (.int .u8 14), .lit (.int .u8 12), .lit (.int .u8 1), .lit (.int .u8 3), .lit (.int .u8 9), .lit (.int .u8 5), .lit (.int .u8 0), .lit (.int .u8 15), .lit (.int .u8 4), .lit (.int .u8 8), .lit (.int .u8 6), .lit (.int .u8 2), .lit (.int .u8 10)], .agg [.lit (.int .u8 6), .lit (.int .u8 15), .lit (.int .u8 14), .lit (.int .u8 9), .lit (.int .u8 11), .lit (.int .u8 3), .lit (.int .u8 0), .lit (.int .u8 8), .lit (.int .u8 12), .lit (.int .u8 2), .lit (.int .u8 13), .lit (.int .u8 7), .lit (.int .u8 1), .lit (.int .u8 4), .lit (.int .u8 10), .lit (.int .u8 5)], .agg [.lit (.int .u8 10), .lit (.int .u8 2), .lit (.int .u8 8), .lit (.int .u8 4), .lit (.int .u8 7), .lit (.int .u8 6), .lit (.int .u8 1), .lit (.int .u8 5), .lit (.int .u8 15), .lit (.int .u8 11), .lit (.int .u8 9), .lit (.int .u8 14), .lit (.int .u8 3), .lit (.int .u8 12), .lit (.int .u8 13), .lit (.int .u8 0)]]
def laid_salchow_blake_lanes {H : Type} : DataW H := .agg [.agg [.lit (.int .u8 0), .lit (.int .u8 4), .lit (.int .u8 8), .lit (.int .u8 12)], .agg [.lit (.int .u8 1), .lit (.int .u8 5), .lit (.int .u8 9), .lit (.int .u8 13)], .agg [.lit (.int .u8 2), .lit (.int .u8 6), .lit (.int .u8 10), .lit (.int .u8 14)], .agg [.lit (.int .u8 3), .lit (.int .u8 7), .lit (.int .u8 11), .lit (.int .u8 15)], .agg [.lit (.int .u8 0), .lit (.int .u8 5), .lit (.int .u8 10), .lit (.int .u8 15)], .agg [.lit (.int .u8 1), .lit (.int .u8 6), .lit (.int .u8 11), .lit (.int .u8 12)], .agg [.lit (.int .u8 2), .lit (.int .u8 7), .lit (.int .u8 8), .lit (.int .u8 13)], .agg [.lit (.int .u8 3), .lit (.int .u8 4), .lit (.int .u8 9), .lit (.int .u8 14)]]

/-- 'salchowlaw03.BlakeSums': WHATEVER THE INPUT: true; the input reads as it did. -/
def blakeSumsSpec : ChangeSpec := { name := "blakeSums", fn := fun _ => fun
  | [d] => { results := [.lit (.bool true)], args := [d] }
  | _ => none }
def blakeSumsRow : OpenClaim := { program := "ytmedobeogdnkfaadoor", sum := "67791b68c89e851b4c3237fd47eff2e2128ad5f9c29a27e606a60cb0348f4384", func := "salchow/salchowlaw03.BlakeSums", spec := "blakeSums", named := ["salchow/blake.iv", "salchow/blake.sigma", "salchow/blake.lanes"], apart := false, laid := [("salchow/blake.iv", laid_salchow_blake_iv), ("salchow/blake.sigma", laid_salchow_blake_sigma), ("salchow/blake.lanes", laid_salchow_blake_lanes)] }
def BlakeSumsSaid : Prop := blakeSumsRow.holds Tryd.pinned (OpenSpec.ofChange blakeSumsSpec)

/-- ITS FALSE NEIGHBOUR: 'it returns false'. Refute it at one input. -/
def blakeSumsWrong : ChangeSpec := { name := "blakeSums", fn := fun _ => fun
  | [d] => { results := [.lit (.bool false)], args := [d] }
  | _ => none }
def BlakeSumsWrongFalsely : Prop := blakeSumsRow.holds Tryd.pinned (OpenSpec.ofChange blakeSumsWrong)

/-- 'salchowlaw03.BlakeClones': WHATEVER THE INPUT: true; the input reads as it did. -/
def blakeClonesSpec : ChangeSpec := { name := "blakeClones", fn := fun _ => fun
  | [d1, d2, d3] => { results := [.lit (.bool true)], args := [d1, d2, d3] }
  | _ => none }
def blakeClonesRow : OpenClaim := { program := "ytmedobeogdnkfaadoor", sum := "67791b68c89e851b4c3237fd47eff2e2128ad5f9c29a27e606a60cb0348f4384", func := "salchow/salchowlaw03.BlakeClones", spec := "blakeClones", named := ["salchow/blake.iv", "salchow/blake.sigma", "salchow/blake.lanes"], apart := false, laid := [("salchow/blake.iv", laid_salchow_blake_iv), ("salchow/blake.sigma", laid_salchow_blake_sigma), ("salchow/blake.lanes", laid_salchow_blake_lanes)] }
def BlakeClonesSaid : Prop := blakeClonesRow.holds Tryd.pinned (OpenSpec.ofChange blakeClonesSpec)

/-- ITS FALSE NEIGHBOUR: 'it returns false'. Refute it at one input. -/
def blakeClonesWrong : ChangeSpec := { name := "blakeClones", fn := fun _ => fun
  | [d1, d2, d3] => { results := [.lit (.bool false)], args := [d1, d2, d3] }
  | _ => none }
def BlakeClonesWrongFalsely : Prop := blakeClonesRow.holds Tryd.pinned (OpenSpec.ofChange blakeClonesWrong)

/-- 'salchowlaw03.BlakeKeys': WHATEVER THE INPUT: true; the input reads as it did. -/
def blakeKeysSpec : ChangeSpec := { name := "blakeKeys", fn := fun _ => fun
  | [d1, d2, d3] => { results := [.lit (.bool true)], args := [d1, d2, d3] }
  | _ => none }
def blakeKeysRow : OpenClaim := { program := "ytmedobeogdnkfaadoor", sum := "67791b68c89e851b4c3237fd47eff2e2128ad5f9c29a27e606a60cb0348f4384", func := "salchow/salchowlaw03.BlakeKeys", spec := "blakeKeys", named := ["salchow/blake.iv", "salchow/blake.sigma", "salchow/blake.lanes"], apart := false, laid := [("salchow/blake.iv", laid_salchow_blake_iv), ("salchow/blake.sigma", laid_salchow_blake_sigma), ("salchow/blake.lanes", laid_salchow_blake_lanes)] }
def BlakeKeysSaid : Prop := blakeKeysRow.holds Tryd.pinned (OpenSpec.ofChange blakeKeysSpec)

/-- ITS FALSE NEIGHBOUR: 'it returns false'. Refute it at one input. -/
def blakeKeysWrong : ChangeSpec := { name := "blakeKeys", fn := fun _ => fun
  | [d1, d2, d3] => { results := [.lit (.bool false)], args := [d1, d2, d3] }
  | _ => none }
def BlakeKeysWrongFalsely : Prop := blakeKeysRow.holds Tryd.pinned (OpenSpec.ofChange blakeKeysWrong)

/-- 'salchowlaw03.BlakeKeyed': WHATEVER THE INPUT: true; the input reads as it did. -/
def blakeKeyedSpec : ChangeSpec := { name := "blakeKeyed", fn := fun _ => fun
  | [d1, d2] => { results := [.lit (.bool true)], args := [d1, d2] }
  | _ => none }
def blakeKeyedRow : OpenClaim := { program := "ytmedobeogdnkfaadoor", sum := "67791b68c89e851b4c3237fd47eff2e2128ad5f9c29a27e606a60cb0348f4384", func := "salchow/salchowlaw03.BlakeKeyed", spec := "blakeKeyed", named := ["salchow/blake.iv", "salchow/blake.sigma", "salchow/blake.lanes"], apart := false, laid := [("salchow/blake.iv", laid_salchow_blake_iv), ("salchow/blake.sigma", laid_salchow_blake_sigma), ("salchow/blake.lanes", laid_salchow_blake_lanes)] }
def BlakeKeyedSaid : Prop := blakeKeyedRow.holds Tryd.pinned (OpenSpec.ofChange blakeKeyedSpec)

/-- ITS FALSE NEIGHBOUR: 'it returns false'. Refute it at one input. -/
def blakeKeyedWrong : ChangeSpec := { name := "blakeKeyed", fn := fun _ => fun
  | [d1, d2] => { results := [.lit (.bool false)], args := [d1, d2] }
  | _ => none }
def BlakeKeyedWrongFalsely : Prop := blakeKeyedRow.holds Tryd.pinned (OpenSpec.ofChange blakeKeyedWrong)

/-- 'salchowlaw03.BlakeWrites': WHATEVER THE INPUT: true; the input reads as it did. -/
def blakeWritesSpec : ChangeSpec := { name := "blakeWrites", fn := fun _ => fun
  | [d1, d2] => { results := [.lit (.bool true)], args := [d1, d2] }
  | _ => none }
def blakeWritesRow : OpenClaim := { program := "ytmedobeogdnkfaadoor", sum := "67791b68c89e851b4c3237fd47eff2e2128ad5f9c29a27e606a60cb0348f4384", func := "salchow/salchowlaw03.BlakeWrites", spec := "blakeWrites", named := ["salchow/blake.iv", "salchow/blake.sigma", "salchow/blake.lanes"], apart := false, laid := [("salchow/blake.iv", laid_salchow_blake_iv), ("salchow/blake.sigma", laid_salchow_blake_sigma), ("salchow/blake.lanes", laid_salchow_blake_lanes)] }
def BlakeWritesSaid : Prop := blakeWritesRow.holds Tryd.pinned (OpenSpec.ofChange blakeWritesSpec)

/-- ITS FALSE NEIGHBOUR: 'it returns false'. Refute it at one input. -/
def blakeWritesWrong : ChangeSpec := { name := "blakeWrites", fn := fun _ => fun
  | [d1, d2] => { results := [.lit (.bool false)], args := [d1, d2] }
  | _ => none }
def BlakeWritesWrongFalsely : Prop := blakeWritesRow.holds Tryd.pinned (OpenSpec.ofChange blakeWritesWrong)

/-- 'salchowlaw03.BlakeHex': WHATEVER THE INPUT: true; the input reads as it did. -/
def blakeHexSpec : ChangeSpec := { name := "blakeHex", fn := fun _ => fun
  | [d] => { results := [.lit (.bool true)], args := [d] }
  | _ => none }
def blakeHexRow : OpenClaim := { program := "ytmedobeogdnkfaadoor", sum := "67791b68c89e851b4c3237fd47eff2e2128ad5f9c29a27e606a60cb0348f4384", func := "salchow/salchowlaw03.BlakeHex", spec := "blakeHex", named := ["salchow/blake.iv", "salchow/blake.sigma", "salchow/blake.lanes"], apart := false, laid := [("salchow/blake.iv", laid_salchow_blake_iv), ("salchow/blake.sigma", laid_salchow_blake_sigma), ("salchow/blake.lanes", laid_salchow_blake_lanes)] }
def BlakeHexSaid : Prop := blakeHexRow.holds Tryd.pinned (OpenSpec.ofChange blakeHexSpec)

/-- ITS FALSE NEIGHBOUR: 'it returns false'. Refute it at one input. -/
def blakeHexWrong : ChangeSpec := { name := "blakeHex", fn := fun _ => fun
  | [d] => { results := [.lit (.bool false)], args := [d] }
  | _ => none }
def BlakeHexWrongFalsely : Prop := blakeHexRow.holds Tryd.pinned (OpenSpec.ofChange blakeHexWrong)

/-- 'salchowlaw03.BlakeUnhex': WHATEVER THE INPUT: true; the input reads as it did. -/
def blakeUnhexSpec : ChangeSpec := { name := "blakeUnhex", fn := fun _ => fun
  | [d] => { results := [.lit (.bool true)], args := [d] }
  | _ => none }
def blakeUnhexRow : OpenClaim := { program := "ytmedobeogdnkfaadoor", sum := "67791b68c89e851b4c3237fd47eff2e2128ad5f9c29a27e606a60cb0348f4384", func := "salchow/salchowlaw03.BlakeUnhex", spec := "blakeUnhex", named := ["salchow/blake.iv", "salchow/blake.sigma", "salchow/blake.lanes"], apart := false, laid := [("salchow/blake.iv", laid_salchow_blake_iv), ("salchow/blake.sigma", laid_salchow_blake_sigma), ("salchow/blake.lanes", laid_salchow_blake_lanes)] }
def BlakeUnhexSaid : Prop := blakeUnhexRow.holds Tryd.pinned (OpenSpec.ofChange blakeUnhexSpec)

/-- ITS FALSE NEIGHBOUR: 'it returns false'. Refute it at one input. -/
def blakeUnhexWrong : ChangeSpec := { name := "blakeUnhex", fn := fun _ => fun
  | [d] => { results := [.lit (.bool false)], args := [d] }
  | _ => none }
def BlakeUnhexWrongFalsely : Prop := blakeUnhexRow.holds Tryd.pinned (OpenSpec.ofChange blakeUnhexWrong)

/- THE SECOND FORM. 'bulk': how many values and letters a reading holds, each counted each time it is reached (what is shared counts as often as it is met; a slice's spare places count too). A statement '..UptoSaid' is the law's where the arguments, and the package variables that the reading takes, are together of bulk at most 1048576: NARROWER than '..Said'. Prove '..Said' where nothing that the law and all that it calls make is longer than what came in: it says more and counts as full. Else prove '..UptoSaid'. A law counts once. -/
mutual
def uptoBulk {H : Type} : DataW H → Nat
  | .lit (.string bytes) => bytes.length + 1
  | .lit _ => 1
  | .nil => 1
  | .ptr d => uptoBulk d + 1
  | .slice elems spare => uptoBulkAll elems + uptoBulkAll spare + 1
  | .agg parts => uptoBulkAll parts + 1
  | .iface _ d => uptoBulk d + 1
  | .map entries => uptoBulkEntries entries + 1
  | .held _ => 1
def uptoBulkAll {H : Type} : List (DataW H) → Nat
  | [] => 0
  | d :: r => uptoBulk d + uptoBulkAll r
def uptoBulkEntries {H : Type} : List (Lit × DataW H) → Nat
  | [] => 0
  | x :: r => uptoBulkEntry x + uptoBulkEntries r
def uptoBulkEntry {H : Type} : Lit × DataW H → Nat
  | (.string bytes, d) => bytes.length + uptoBulk d + 1
  | (_, d) => uptoBulk d + 1
 end
def uptoSmall : (H : Type) → List (DataW H) → Bool := fun _ ds => decide (uptoBulkAll ds ≤ 1048576)
def OpenSpec.upto (s : _root_.Go.ChangeSpec) : _root_.Go.OpenSpec := { _root_.Go.OpenSpec.ofChange s with cond := some uptoSmall }

/-- 'salchowlaw03.BlakeSums', WHERE WHAT IT READS IS OF BULK AT MOST 1048576: true; the input reads as it did. -/
def blakeSumsUptoRow : OpenClaim := { program := "ytmedobeogdnkfaadoor", sum := "67791b68c89e851b4c3237fd47eff2e2128ad5f9c29a27e606a60cb0348f4384", func := "salchow/salchowlaw03.BlakeSums", spec := "blakeSums", named := ["salchow/blake.iv", "salchow/blake.sigma", "salchow/blake.lanes"], apart := false, laid := [("salchow/blake.iv", laid_salchow_blake_iv), ("salchow/blake.sigma", laid_salchow_blake_sigma), ("salchow/blake.lanes", laid_salchow_blake_lanes)], narrowed := true }
def BlakeSumsUptoSaid : Prop := blakeSumsUptoRow.holds Tryd.pinned (OpenSpec.upto blakeSumsSpec)

/-- 'salchowlaw03.BlakeClones', WHERE WHAT IT READS IS OF BULK AT MOST 1048576: true; the input reads as it did. -/
def blakeClonesUptoRow : OpenClaim := { program := "ytmedobeogdnkfaadoor", sum := "67791b68c89e851b4c3237fd47eff2e2128ad5f9c29a27e606a60cb0348f4384", func := "salchow/salchowlaw03.BlakeClones", spec := "blakeClones", named := ["salchow/blake.iv", "salchow/blake.sigma", "salchow/blake.lanes"], apart := false, laid := [("salchow/blake.iv", laid_salchow_blake_iv), ("salchow/blake.sigma", laid_salchow_blake_sigma), ("salchow/blake.lanes", laid_salchow_blake_lanes)], narrowed := true }
def BlakeClonesUptoSaid : Prop := blakeClonesUptoRow.holds Tryd.pinned (OpenSpec.upto blakeClonesSpec)

/-- 'salchowlaw03.BlakeKeys', WHERE WHAT IT READS IS OF BULK AT MOST 1048576: true; the input reads as it did. -/
def blakeKeysUptoRow : OpenClaim := { program := "ytmedobeogdnkfaadoor", sum := "67791b68c89e851b4c3237fd47eff2e2128ad5f9c29a27e606a60cb0348f4384", func := "salchow/salchowlaw03.BlakeKeys", spec := "blakeKeys", named := ["salchow/blake.iv", "salchow/blake.sigma", "salchow/blake.lanes"], apart := false, laid := [("salchow/blake.iv", laid_salchow_blake_iv), ("salchow/blake.sigma", laid_salchow_blake_sigma), ("salchow/blake.lanes", laid_salchow_blake_lanes)], narrowed := true }
def BlakeKeysUptoSaid : Prop := blakeKeysUptoRow.holds Tryd.pinned (OpenSpec.upto blakeKeysSpec)

/-- 'salchowlaw03.BlakeKeyed', WHERE WHAT IT READS IS OF BULK AT MOST 1048576: true; the input reads as it did. -/
def blakeKeyedUptoRow : OpenClaim := { program := "ytmedobeogdnkfaadoor", sum := "67791b68c89e851b4c3237fd47eff2e2128ad5f9c29a27e606a60cb0348f4384", func := "salchow/salchowlaw03.BlakeKeyed", spec := "blakeKeyed", named := ["salchow/blake.iv", "salchow/blake.sigma", "salchow/blake.lanes"], apart := false, laid := [("salchow/blake.iv", laid_salchow_blake_iv), ("salchow/blake.sigma", laid_salchow_blake_sigma), ("salchow/blake.lanes", laid_salchow_blake_lanes)], narrowed := true }
def BlakeKeyedUptoSaid : Prop := blakeKeyedUptoRow.holds Tryd.pinned (OpenSpec.upto blakeKeyedSpec)

/-- 'salchowlaw03.BlakeWrites', WHERE WHAT IT READS IS OF BULK AT MOST 1048576: true; the input reads as it did. -/
def blakeWritesUptoRow : OpenClaim := { program := "ytmedobeogdnkfaadoor", sum := "67791b68c89e851b4c3237fd47eff2e2128ad5f9c29a27e606a60cb0348f4384", func := "salchow/salchowlaw03.BlakeWrites", spec := "blakeWrites", named := ["salchow/blake.iv", "salchow/blake.sigma", "salchow/blake.lanes"], apart := false, laid := [("salchow/blake.iv", laid_salchow_blake_iv), ("salchow/blake.sigma", laid_salchow_blake_sigma), ("salchow/blake.lanes", laid_salchow_blake_lanes)], narrowed := true }
def BlakeWritesUptoSaid : Prop := blakeWritesUptoRow.holds Tryd.pinned (OpenSpec.upto blakeWritesSpec)

/-- 'salchowlaw03.BlakeHex', WHERE WHAT IT READS IS OF BULK AT MOST 1048576: true; the input reads as it did. -/
def blakeHexUptoRow : OpenClaim := { program := "ytmedobeogdnkfaadoor", sum := "67791b68c89e851b4c3237fd47eff2e2128ad5f9c29a27e606a60cb0348f4384", func := "salchow/salchowlaw03.BlakeHex", spec := "blakeHex", named := ["salchow/blake.iv", "salchow/blake.sigma", "salchow/blake.lanes"], apart := false, laid := [("salchow/blake.iv", laid_salchow_blake_iv), ("salchow/blake.sigma", laid_salchow_blake_sigma), ("salchow/blake.lanes", laid_salchow_blake_lanes)], narrowed := true }
def BlakeHexUptoSaid : Prop := blakeHexUptoRow.holds Tryd.pinned (OpenSpec.upto blakeHexSpec)

/-- 'salchowlaw03.BlakeUnhex', WHERE WHAT IT READS IS OF BULK AT MOST 1048576: true; the input reads as it did. -/
def blakeUnhexUptoRow : OpenClaim := { program := "ytmedobeogdnkfaadoor", sum := "67791b68c89e851b4c3237fd47eff2e2128ad5f9c29a27e606a60cb0348f4384", func := "salchow/salchowlaw03.BlakeUnhex", spec := "blakeUnhex", named := ["salchow/blake.iv", "salchow/blake.sigma", "salchow/blake.lanes"], apart := false, laid := [("salchow/blake.iv", laid_salchow_blake_iv), ("salchow/blake.sigma", laid_salchow_blake_sigma), ("salchow/blake.lanes", laid_salchow_blake_lanes)], narrowed := true }
def BlakeUnhexUptoSaid : Prop := blakeUnhexUptoRow.holds Tryd.pinned (OpenSpec.upto blakeUnhexSpec)

end Rows
end Go.Proofs.YtmedobeogdnkfaaDoor
