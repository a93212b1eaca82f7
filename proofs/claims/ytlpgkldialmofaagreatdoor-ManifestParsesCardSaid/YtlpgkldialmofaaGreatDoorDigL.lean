/- Bytes as rows, digits: small words. -/
import Derived.Test.YtlpgkldialmofaaGreatDoorVerL
import Derived.Test.YtlpgkldialmofaaGreatDoorBlkS
namespace Go.Proofs.YtlpgkldialmofaaGreatDoor
/-- a row of bytes as Go's string -/
def ba (l : List UInt8) : ByteArray := ⟨l.toArray⟩
theorem ba_size (l : List UInt8) : (ba l).size = l.length := by show l.toArray.size = _; rw [List.size_toArray]
theorem ba_data (l : List UInt8) : (ba l).data.toList = l := rfl
theorem ba_of (s : ByteArray) : ba s.data.toList = s := by
  apply ByteArray.ext
  simp [ba]
theorem ba_app (l l' : List UInt8) : ba (l ++ l') = ba l ++ ba l' := by
  apply ByteArray.ext
  simp [ba]
theorem dec_lt {u : Nat} (h : u < 10) : Lib.decDigits u = [UInt8.ofNat (48 + u)] := by rw [Lib.decDigits, dif_pos h]
theorem dec_ge {u : Nat} (h : ¬ u < 10) : Lib.decDigits u = Lib.decDigits (u / 10) ++ [UInt8.ofNat (48 + u % 10)] := by rw [Lib.decDigits, dif_neg h]
theorem dec_len (k u : Nat) (h : u < 10 ^ (k + 1)) : (Lib.decDigits u).length ≤ k + 1 := dec_length k u h
end Go.Proofs.YtlpgkldialmofaaGreatDoor
