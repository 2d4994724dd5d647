import Derived.Test.YtapinbbflfkglaaGreatDoorVFb23
namespace Go.Proofs.YtapinbbflfkglaaGreatDoor
open Go.RowKit Go.Lib Go.Sort
set_option maxRecDepth 100000
theorem dec_getD {D j : Nat} (h : j < Lib.nDigits D) : (Lib.decDigits D).getD j 0 = Lib.dg D (Lib.nDigits D - 1 - j) := by
  rw [List.getD_eq_getElem?_getD, Lib.decDigits_eq]
  simp [h]
theorem dg_toNat (D j : Nat) : (Lib.dg D j).toNat = 48 + D / 10 ^ j % 10 := by
  unfold Lib.dg
  have : D / 10 ^ j % 10 < 10 := Nat.mod_lt _ (by omega)
  rw [UInt8.toNat_ofNat_of_lt' (by simp [UInt8.size]; omega)]
end Go.Proofs.YtapinbbflfkglaaGreatDoor
