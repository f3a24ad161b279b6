/- Texts as bytes: what the texts of the layers above 1 want of layer 15's first text. -/
import Derived.Test.YtfpdmgmolhddnaaDoorOpen2
import Derived.Laws.OwnMore
namespace Go.Proofs.YtfpdmgmolhddnaaDoor
open Go Go.RowKit
set_option linter.unusedSimpArgs false
set_option linter.unusedVariables false

theorem ba_at (s : ByteArray) (k : Nat) (h : k < s.size) : s.data.toList[k]? = some s[k] := by
  have h' : k < s.data.size := h
  rw [Array.getElem?_toList, Array.getElem?_eq_getElem h']
  rfl

theorem wrap_u8 (b : UInt8) : wrap64 (b.toNat : Int) = b.toNat := by
  have := UInt8.toNat_lt b
  unfold wrap64
  omega

theorem ba_size (s : ByteArray) : s.data.toList.length = s.size := by rw [Array.length_toList]; rfl
theorem ne_nil (s : ByteArray) (h : 0 < s.size) : s.toList.isEmpty = false := by
  rw [ByteArray.toList_eq]
  have h' : 0 < s.data.toList.length := by rw [Array.length_toList]; exact h
  cases hd : s.data.toList with
  | nil => rw [hd] at h'; exact absurd h' (by decide)
  | cons a l => rfl
theorem ba_ext {a b : ByteArray} (h : a.data.toList = b.data.toList) : a = b := ByteArray.ext (Array.toList_inj.1 h)
theorem ba_nil {s : ByteArray} (h : s.size = 0) : s = ByteArray.empty := by
  apply ByteArray.ext
  exact Array.eq_empty_of_size_eq_zero (by have : s.data.size = s.size := rfl; omega)
end Go.Proofs.YtfpdmgmolhddnaaDoor
