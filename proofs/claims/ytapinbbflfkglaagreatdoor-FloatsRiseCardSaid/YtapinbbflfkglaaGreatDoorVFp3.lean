import Derived.Test.YtapinbbflfkglaaGreatDoorVFp1
import Ieee.Arith
namespace Go.Proofs.YtapinbbflfkglaaGreatDoor
namespace Fp
open Ieee
def vn (k : Nat) : Nat := mant k * 2 ^ plc k
theorem vn_vl (k : Nat) : vl k = 2 * vn k := by unfold vl vn; rw [Nat.mul_assoc]
theorem vn_lt {a b : Nat} : vn a < vn b ↔ a < b := by
  have h : ∀ {a b : Nat}, a < b → vn a < vn b := fun h => by have := vl_lt h; rw [vn_vl, vn_vl] at this; omega
  constructor
  · intro hv
    apply Classical.byContradiction
    intro hn
    by_cases e : a = b
    · subst e; omega
    · have := h (a := b) (b := a) (by omega); omega
  · exact h
def inf : Nat := 9218868437227405312
def half : Nat := 9223372036854775808
theorem dbl_sign : Format.signWeight double = half := rfl
theorem dbl_inf : Format.infRung double = inf := rfl
theorem dbl_bin : Format.binade double = 4503599627370496 := rfl
theorem dbl_least : Format.leastPlace double = -1074 := rfl
theorem read_fin {b : Nat} (h : b % half < inf) : double.read b = .number (b / half % 2 == 1) (mant (b % half)) (-1074 + (plc (b % half) : Int)) := by
  unfold Format.read
  rw [dbl_sign, dbl_inf, dbl_bin, dbl_least]
  dsimp only
  generalize b % half = r at *
  by_cases h1 : r < 4503599627370496
  · rw [if_pos h1]
    have e : r / 2 ^ 52 = 0 := by simp only [Nat.reducePow]; omega
    unfold mant plc
    rw [if_pos e, e]; rfl
  · rw [if_neg h1, if_pos h]
    have e : ¬ r / 2 ^ 52 = 0 := by simp only [Nat.reducePow]; omega
    unfold mant plc
    rw [if_neg e]
theorem read_inf {b : Nat} (h : b % half = inf) : double.read b = .infinity (b / half % 2 == 1) := by
  unfold Format.read
  rw [dbl_sign, dbl_inf, dbl_bin, dbl_least]
  dsimp only
  rw [h]
  rw [if_neg (by decide), if_neg (by decide), if_pos rfl]
theorem read_nan {b : Nat} (h : inf < b % half) : double.read b = .nan (b / half % 2 == 1) (b % half - inf) := by
  unfold Format.read
  rw [dbl_sign, dbl_inf, dbl_bin, dbl_least]
  dsimp only
  have h0 : 4503599627370496 ≤ inf := by decide
  rw [if_neg (by omega), if_neg (by omega), if_neg (by omega)]
def sv (b : Nat) : Int := if b / half % 2 == 1 then -(b % half : Nat) else (b % half : Nat)
theorem signed_eq (s : Bool) (m u : Nat) : signed s m u = if s then -((m * 2 ^ u : Nat) : Int) else ((m * 2 ^ u : Nat) : Int) := by
  unfold signed; rw [Nat.shiftLeft_eq]
theorem compare_of {x y x' y' : Int} (h1 : x < y ↔ x' < y') (h2 : y < x ↔ y' < x') : compare x y = compare x' y' := by
  rcases Int.lt_trichotomy x y with h | h | h
  · rw [Int.compare_eq_lt.2 h, Int.compare_eq_lt.2 (h1.1 h)]
  · subst h
    have : x' = y' := by
      have := h1; have := h2; omega
    rw [this, Int.compare_eq_eq.2 rfl, Int.compare_eq_eq.2 rfl]
  · rw [Int.compare_eq_gt.2 h, Int.compare_eq_gt.2 (h2.1 h)]
theorem order_nan {a b : Nat} (h : inf < a % half ∨ inf < b % half) : double.order a b = none := by
  unfold Format.order
  rcases h with h | h
  · rw [read_nan h]; rfl
  · rw [read_nan h]; cases double.read a <;> rfl
theorem order_eq {a b : Nat} (ha : a % half ≤ inf) (hb : b % half ≤ inf) : double.order a b = some (compare (sv a) (sv b)) := by
  unfold Format.order sv
  by_cases ha1 : a % half = inf
  · by_cases hb1 : b % half = inf
    · rw [read_inf ha1, read_inf hb1, ha1, hb1]
      unfold Datum.order
      have hi : (0 : Int) < (inf : Nat) := by decide
      generalize ((inf : Nat) : Int) = I at *
      cases (a / half % 2 == 1) <;> cases (b / half % 2 == 1) <;> simp only [if_true, if_false, Bool.false_eq_true] <;> congr 1 <;> symm <;>
        first | (rw [Int.compare_eq_eq.2 rfl]; rfl) | (rw [Int.compare_eq_gt.2 (by omega)]; rfl) | (rw [Int.compare_eq_lt.2 (by omega)]; rfl)
    · rw [read_inf ha1, read_fin (b := b) (by omega), ha1]
      unfold Datum.order
      have hb2 : ((b % half : Nat) : Int) < (inf : Nat) := Int.ofNat_lt.2 (by omega)
      have hb0 : (0 : Int) ≤ ((b % half : Nat) : Int) := by omega
      generalize ((inf : Nat) : Int) = I at *
      generalize ((b % half : Nat) : Int) = J at *
      cases (a / half % 2 == 1) <;> cases (b / half % 2 == 1) <;> simp only [if_true, if_false, Bool.false_eq_true] <;> congr 1 <;> symm <;>
        first | (rw [Int.compare_eq_gt.2 (by omega)]; rfl) | (rw [Int.compare_eq_lt.2 (by omega)]; rfl) | (rw [Int.compare_eq_gt.2 (by omega)]) | (rw [Int.compare_eq_lt.2 (by omega)])
  · by_cases hb1 : b % half = inf
    · rw [read_inf hb1, read_fin (b := a) (by omega), hb1]
      unfold Datum.order
      have hb2 : ((a % half : Nat) : Int) < (inf : Nat) := Int.ofNat_lt.2 (by omega)
      have hb0 : (0 : Int) ≤ ((a % half : Nat) : Int) := by omega
      generalize ((inf : Nat) : Int) = I at *
      generalize ((a % half : Nat) : Int) = J at *
      cases (a / half % 2 == 1) <;> cases (b / half % 2 == 1) <;> simp only [if_true, if_false, Bool.false_eq_true] <;> congr 1 <;> symm <;>
        first | (rw [Int.compare_eq_gt.2 (by omega)]; rfl) | (rw [Int.compare_eq_lt.2 (by omega)]; rfl) | (rw [Int.compare_eq_gt.2 (by omega)]) | (rw [Int.compare_eq_lt.2 (by omega)])
    · rw [read_fin (b := a) (by omega), read_fin (b := b) (by omega)]
      unfold Datum.order
      dsimp only
      generalize hx : a % half = x at *
      generalize hy : b % half = y at *
      obtain ⟨c, h1, h2⟩ : ∃ c : Nat, plc x = (-1074 + (plc x : Int) - min (-1074 + (plc x : Int)) (-1074 + (plc y : Int))).toNat + c ∧ plc y = (-1074 + (plc y : Int) - min (-1074 + (plc x : Int)) (-1074 + (plc y : Int))).toNat + c := ⟨min (plc x) (plc y), by omega, by omega⟩
      generalize (-1074 + (plc x : Int) - min (-1074 + (plc x : Int)) (-1074 + (plc y : Int))).toNat = u at *
      generalize (-1074 + (plc y : Int) - min (-1074 + (plc x : Int)) (-1074 + (plc y : Int))).toNat = v at *
      have ex : vn x = mant x * 2 ^ u * 2 ^ c := by unfold vn; rw [h1, Nat.pow_add, Nat.mul_assoc]
      have ey : vn y = mant y * 2 ^ v * 2 ^ c := by unfold vn; rw [h2, Nat.pow_add, Nat.mul_assoc]
      have hc : 0 < 2 ^ c := Nat.two_pow_pos c
      have k1 : mant x * 2 ^ u < mant y * 2 ^ v ↔ x < y := by
        rw [← vn_lt (a := x) (b := y), ex, ey]; exact (Nat.mul_lt_mul_right hc).symm
      have k2 : mant y * 2 ^ v < mant x * 2 ^ u ↔ y < x := by
        rw [← vn_lt (a := y) (b := x), ex, ey]; exact (Nat.mul_lt_mul_right hc).symm
      have z1 : mant x * 2 ^ u = 0 ↔ x = 0 := by
        have h0 : vn 0 = 0 := by decide
        have hv : vn x = 0 ↔ x = 0 := by
          constructor
          · intro h
            apply Classical.byContradiction
            intro hn
            have := vn_lt.2 (show 0 < x by omega)
            omega
          · intro h; rw [h]; exact h0
        rw [← hv, ex]
        constructor
        · intro h; rw [h]; exact Nat.zero_mul _
        · intro h; rcases Nat.mul_eq_zero.1 h with h | h
          · exact h
          · omega
      have z2 : mant y * 2 ^ v = 0 ↔ y = 0 := by
        have h0 : vn 0 = 0 := by decide
        have hv : vn y = 0 ↔ y = 0 := by
          constructor
          · intro h
            apply Classical.byContradiction
            intro hn
            have := vn_lt.2 (show 0 < y by omega)
            omega
          · intro h; rw [h]; exact h0
        rw [← hv, ey]
        constructor
        · intro h; rw [h]; exact Nat.zero_mul _
        · intro h; rcases Nat.mul_eq_zero.1 h with h | h
          · exact h
          · omega
      rw [signed_eq, signed_eq]
      generalize mant x * 2 ^ u = X at *
      generalize mant y * 2 ^ v = Y at *
      congr 1
      apply compare_of <;> cases (a / half % 2 == 1) <;> cases (b / half % 2 == 1) <;> simp only [if_true, if_false, Bool.false_eq_true] <;> omega
end Fp
end Go.Proofs.YtapinbbflfkglaaGreatDoor
