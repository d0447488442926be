/- The methods of strings.Builder and strings.Repeat by the shelf's contracts: WriteByte, WriteString, String, Repeat. -/
import Derived.Test.YthaglbgembfpeaaShelf
import Derived.Shelf.Strings.Builder1
import Derived.WalkKit
namespace Go.Proofs.Ythaglbgembfpeaa
open Go.Shelf Go.RowKit Go.Proofs

def renWB : Ren := ⟨fun | 167 => 30 | n => Try.lays105_ren.f n, Try.lays105_ren.t, Try.lays105_ren.g⟩
theorem extraWB : Builder.Extra Try.prog renWB := { sizeBuilder := Try.Builder_Extra_105.sizeBuilder, liesBuilder := Try.Builder_Extra_105.liesBuilder, t5 := Try.Builder_Extra_105.t5, a5 := Try.Builder_Extra_105.a5, z5 := Try.Builder_Extra_105.z5, v5 := Try.Builder_Extra_105.v5, infoByte := Try.Builder_Extra_105.infoByte, cellsByte := Try.Builder_Extra_105.cellsByte, sizeByte := Try.Builder_Extra_105.sizeByte, neB5 := Try.Builder_Extra_105.neB5 }
theorem laysWB : Lays.n167 Try.prog renWB := {
  mixed := by kernel_rfl, f167 := Try.func30.trans (congrArg some (by kernel_rfl)), f240 := Try.func43.trans (congrArg some (by kernel_rfl)), f276 := Try.lays105.f276,
  t0 := Try.lays105.t0, a0 := Try.lays105.a0, z0 := Try.lays105.z0, v0 := Try.lays105.v0, t4 := Try.lays105.t4, a4 := Try.lays105.a4, z4 := Try.lays105.z4, v4 := Try.lays105.v4, t5 := Try.lays105.t5, a5 := Try.lays105.a5, z5 := Try.lays105.z5, v5 := Try.lays105.v5,
  t9 := Try.lays105.t9, a9 := Try.lays105.a9, z9 := Try.lays105.z9, v9 := Try.lays105.v9, t20 := Try.lays105.t20, a20 := Try.lays105.a20, z20 := Try.lays105.z20, v20 := Try.lays105.v20, t37 := Try.lays105.t37, a37 := Try.lays105.a37, z37 := Try.lays105.z37, v37 := Try.lays105.v37,
  t70 := Try.lays105.t70, a70 := Try.lays105.a70, z70 := Try.lays105.z70, v70 := Try.lays105.v70, t72 := Try.lays105.t72, a72 := Try.lays105.a72, z72 := Try.lays105.z72, v72 := Try.lays105.v72, t75 := Try.lays105.t75, a75 := Try.lays105.a75, z75 := Try.lays105.z75, v75 := Try.lays105.v75,
  t164 := Try.lays105.t164, a164 := Try.lays105.a164, z164 := Try.lays105.z164, v164 := Try.lays105.v164 }
theorem writeByte_any (B b : Nat) (bs : List Value) (c : Int) (w : World) (h : Lib.IsBuilder 57 5 B b bs w) (hlen : bs.length + 1 ≤ 140737488355328) (hBw : B ≤ w.heap.size) :
    Calls Try.prog 30 #[.pointer (some ⟨b, 0, none⟩), .int .u8 c] w fun e w' => e = .returned .nilIface ∧ (Lib.BuilderAt 57 5 B b (.pointer (some ⟨b, 0, none⟩)) (bs ++ [.int .u8 c]) w' ∧ Below B w w') :=
  Any.Builder_WriteByte laysWB extraWB B b bs c w h hlen hBw
theorem writeString_any (B b : Nat) (bs : List Value) (s : ByteArray) (w : World) (h : Lib.IsBuilder 57 5 B b bs w) (hlen : bs.length + s.size ≤ 140737488355328) (hBw : B ≤ w.heap.size) :
    Calls Try.prog 31 #[.pointer (some ⟨b, 0, none⟩), .string s] w fun e w' => e = .returned (.tuple #[.int .i64 s.size, .nilIface]) ∧ (Lib.BuilderAt 57 5 B b (.pointer (some ⟨b, 0, none⟩)) (bs ++ Lib.strCells s) w' ∧ Below B w w') :=
  Any.Builder_WriteString { Try.lays105 with } Try.Builder_Extra_105 B b bs s w h hlen hBw
end Go.Proofs.Ythaglbgembfpeaa
