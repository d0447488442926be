/- The plain law of the reference's Print: outTo; of small; and what Check lets through. No Go in it. -/
import Derived.Test.YthaglbgembfpeaaGChk
namespace Go.Proofs.Ythaglbgembfpeaa
open Go.RowKit Go.Proofs.Ythaglbgembfpeaa.P Go.Proofs.YthaglbgembfpeaaW.PrintWords Go.Proofs.YthaglbgembfpeaaW.PrintLast

def ofL (L : List UInt8) : ByteArray := ⟨L.toArray⟩
theorem ofL_size (L : List UInt8) : (ofL L).size = L.length := by show L.toArray.size = _; simp
theorem ofL_append (L M : List UInt8) : ofL L ++ ofL M = ofL (L ++ M) := by
  apply ByteArray.ext
  show (ofL L ++ ofL M).data = _
  rw [ByteArray.data_append]
  show L.toArray ++ M.toArray = (L ++ M).toArray
  simp
theorem ofL_self (s : ByteArray) : ofL s.data.toList = s := by
  apply ByteArray.ext; show s.data.toList.toArray = s.data; simp
theorem okItem_of {l : List S49} (h : checkS l = 0) : l.length ≤ 30 ∧ ∀ j : Nat, j < l.length → okItem (rd_T49 l j) := by
  have h0 : shapesS l = 0 := by
    unfold checkS at h
    split at h
    · assumption
    · exact h
  unfold shapesS at h0
  split at h0
  · cases h0
  · rename_i hl
    split at h0
    · rename_i hc
      split at h0
      · rename_i hd
        refine ⟨by omega, fun j hj => ?_⟩
        have hm := rd_mem l j hj
        have c := List.all_eq_true.1 hc _ hm
        have d := of_decide_eq_true (List.all_eq_true.1 hd _ hm)
        exact ⟨c, d.1, d.2⟩
      · cases h0
    · cases h0

end Go.Proofs.Ythaglbgembfpeaa
