/-
  Texts as lists of bytes. Helper lemmas; no statement of the seat is proved here.
-/
import Derived.Test.YtmmopcceabdecaaGreatDoorBase
import Derived.Lib.Bytes
namespace Go.Proofs.YtmmopcceabdecaaGreatDoor
open Go.RowKit
set_option linter.unusedVariables false

/-- a list of bytes as a text -/
def bs (l : List UInt8) : ByteArray := ⟨l.toArray⟩
theorem bs_list (l : List UInt8) : (bs l).data.toList = l := rfl
theorem bs_size (l : List UInt8) : (bs l).size = l.length := by simp [bs, ByteArray.size]
theorem bs_toList (l : List UInt8) : (bs l).toList = l := Lib.toList_data _
theorem bs_append (l m : List UInt8) : bs l ++ bs m = bs (l ++ m) := by
  apply ByteArray.ext; simp [bs]
theorem bs_extract (l : List UInt8) (a b : Nat) : (bs l).extract a b = bs ((l.drop a).take (b - a)) := by
  apply ByteArray.ext
  simp [bs, ByteArray.data_extract, List.extract_toArray]
theorem str_ext (s : ByteArray) : s = bs s.data.toList := by apply ByteArray.ext; simp [bs]

theorem bs_inj' {a b : List UInt8} (h : bs a = bs b) : a = b := by
  have := congrArg (fun s : ByteArray => s.data.toList) h
  exact this
theorem bs_eqv (a b : List UInt8) : ((bs a).toList == (bs b).toList) = (a == b) := by rw [bs_toList, bs_toList]
theorem bs_getE (l : List UInt8) (j : Nat) (h : j < (bs l).size) : (bs l)[j] = l[j]'(by rw [bs_size] at h; exact h) := rfl
end Go.Proofs.YtmmopcceabdecaaGreatDoor
