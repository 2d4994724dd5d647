import Derived.Test.YtapinbbflfkglaaGreatDoorVFb14
namespace Go.Proofs.YtapinbbflfkglaaGreatDoor
open Go.RowKit Go.Lib Go.Sort
set_option maxRecDepth 100000
def prA (e : Int) : Nat := Fp.numA (pOf e)
def prB (e : Int) : Nat := Fp.denB (pOf e) * 2 ^ (128 + fxS e)
theorem pm_hilo (p : Int) : Fp.pmOf p + loOf p = hiOf p * 2 ^ 64 := by
  unfold loOf hiOf
  generalize Fp.pmOf p = x
  omega
def sgB (neg : Bool) : List UInt8 := if neg then [45] else []
end Go.Proofs.YtapinbbflfkglaaGreatDoor
