import Derived.Test.YtapinbbflfkglaaGreatDoorVRm
namespace Go.Proofs.YtapinbbflfkglaaGreatDoor.PFloatsParses
open Go.RowKit Go.Proofs.YtapinbbflfkglaaGreatDoorW.PrintWords Go.Proofs.YtapinbbflfkglaaGreatDoorW.PrintLast Go.Proofs.YtapinbbflfkglaaGreatDoorW.PrintMore
attribute [local go_sem] max2_int min2_int max_two min_two max_three min_three max_four min_four
set_option linter.unusedVariables false
set_option linter.unusedSimpArgs false
mutual
def rhizomeref02_Read.j0 : Nat → ByteArray → Bool → Option (Bool × ByteArray × Int × Bool)
  | 0, _, _ => none
  | k + 1, x0, x19 => if x19 = true then (some (false, (⟨#[]⟩ : ByteArray), 0, false)) else (if 0 < (x0.size : Int) then (if (bt x0 0) = 45 then (rhizomeref02_Read.j1 k x0 ((bt x0 0) == 45) 1) else (rhizomeref02_Read.j1 k x0 ((bt x0 0) == 45) 0)) else (none))
def rhizomeref02_Read.j1 : Nat → ByteArray → Bool → Int → Option (Bool × ByteArray × Int × Bool)
  | 0, _, _, _ => none
  | k + 1, x0, x5, x6 => (rhizomeref02_digits.f k x0 x6).bind fun t312 => (if t312 = 0 then (rhizomeref02_Read.j2 k x0 x5 x6 t312 true) else (if t312 > 1 then (if 0 ≤ x6 then (if x6 < (x0.size : Int) then (rhizomeref02_Read.j2 k x0 x5 x6 t312 ((bt x0 x6) == 48)) else (none)) else (none)) else (rhizomeref02_Read.j2 k x0 x5 x6 t312 false)))
def rhizomeref02_Read.j2 : Nat → ByteArray → Bool → Int → Int → Bool → Option (Bool × ByteArray × Int × Bool)
  | 0, _, _, _, _, _ => none
  | k + 1, x0, x5, x6, x7, x39 => if x39 = true then (some (false, (⟨#[]⟩ : ByteArray), 0, false)) else (if 0 ≤ x6 then (if x6 ≤ (wrap64 (x6 + x7)) then (if (wrap64 (x6 + x7)) ≤ (x0.size : Int) then (if (wrap64 (x6 + x7)) < (x0.size : Int) then (if 0 ≤ (wrap64 (x6 + x7)) then (rhizomeref02_Read.j3 k x0 x5 (wrap64 (x6 + x7)) ((bt x0 (wrap64 (x6 + x7))) == 46) (x0.extract (x6 : Int).toNat ((wrap64 (x6 + x7)) : Int).toNat) 0) else (none)) else (rhizomeref02_Read.j3 k x0 x5 (wrap64 (x6 + x7)) false (x0.extract (x6 : Int).toNat ((wrap64 (x6 + x7)) : Int).toNat) 0)) else (none)) else (none)) else (none))
def rhizomeref02_Read.j3 : Nat → ByteArray → Bool → Int → Bool → ByteArray → Int → Option (Bool × ByteArray × Int × Bool)
  | 0, _, _, _, _, _, _ => none
  | k + 1, x0, x5, x6, x60, x314000, x314001 => if x60 = true then ((rhizomeref02_digits.f k x0 (wrap64 (x6 + 1))).bind fun t314 => (if t314 = 0 then (some (false, (⟨#[]⟩ : ByteArray), 0, false)) else (if 0 ≤ (wrap64 (x6 + 1)) then (if (wrap64 (x6 + 1)) ≤ (wrap64 ((wrap64 (x6 + 1)) + t314)) then (if (wrap64 ((wrap64 (x6 + 1)) + t314)) ≤ (x0.size : Int) then (if x314000.size + (x0.extract ((wrap64 (x6 + 1)) : Int).toNat ((wrap64 ((wrap64 (x6 + 1)) + t314)) : Int).toNat).size ≤ 9223372036854775807 then (rhizomeref02_Read.j4 k x0 x5 (wrap64 (x6 + (wrap64 (1 + t314)))) (x314000 ++ (x0.extract ((wrap64 (x6 + 1)) : Int).toNat ((wrap64 ((wrap64 (x6 + 1)) + t314)) : Int).toNat)) (wrap64 (-t314))) else (none)) else (none)) else (none)) else (none)))) else (rhizomeref02_Read.j4 k x0 x5 x6 x314000 x314001)
def rhizomeref02_Read.j4 : Nat → ByteArray → Bool → Int → ByteArray → Int → Option (Bool × ByteArray × Int × Bool)
  | 0, _, _, _, _, _ => none
  | k + 1, x0, x5, x6, x314000, x314001 => if x6 < (x0.size : Int) then (if 0 ≤ x6 then (if (bt x0 x6) = 101 then (rhizomeref02_Read.j5 k x0 x5 x6 true x314000 x314001) else (rhizomeref02_Read.j5 k x0 x5 x6 ((bt x0 x6) == 69) x314000 x314001)) else (none)) else (rhizomeref02_Read.j5 k x0 x5 x6 false x314000 x314001)
def rhizomeref02_Read.j5 : Nat → ByteArray → Bool → Int → Bool → ByteArray → Int → Option (Bool × ByteArray × Int × Bool)
  | 0, _, _, _, _, _, _ => none
  | k + 1, x0, x5, x6, x102, x314000, x314001 => if x102 = true then (if (wrap64 (x6 + 1)) < (x0.size : Int) then (if 0 ≤ (wrap64 (x6 + 1)) then (rhizomeref02_Read.j6 k x0 x5 (wrap64 (x6 + 1)) ((bt x0 (wrap64 (x6 + 1))) == 45) x314000 x314001) else (none)) else (rhizomeref02_Read.j6 k x0 x5 (wrap64 (x6 + 1)) false x314000 x314001)) else ((rhizomeref02_cut.f k x314000 x314001).bind fun bt320 => (some (x5, bt320.1, bt320.2, (x6 == (x0.size : Int)))))
def rhizomeref02_Read.j6 : Nat → ByteArray → Bool → Int → Bool → ByteArray → Int → Option (Bool × ByteArray × Int × Bool)
  | 0, _, _, _, _, _, _ => none
  | k + 1, x0, x5, x6, x9, x314000, x314001 => if x6 < (x0.size : Int) then (if 0 ≤ x6 then (if (bt x0 x6) = 45 then (rhizomeref02_Read.j7 k x0 x5 x6 x9 true x314000 x314001) else (rhizomeref02_Read.j7 k x0 x5 x6 x9 ((bt x0 x6) == 43) x314000 x314001)) else (none)) else (rhizomeref02_Read.j7 k x0 x5 x6 x9 false x314000 x314001)
def rhizomeref02_Read.j7 : Nat → ByteArray → Bool → Int → Bool → Bool → ByteArray → Int → Option (Bool × ByteArray × Int × Bool)
  | 0, _, _, _, _, _, _, _ => none
  | k + 1, x0, x5, x6, x9, x130, x314000, x314001 => if x130 = true then (rhizomeref02_Read.j8 k x0 x5 (wrap64 (x6 + 1)) x9 x314000 x314001) else (rhizomeref02_Read.j8 k x0 x5 x6 x9 x314000 x314001)
def rhizomeref02_Read.j8 : Nat → ByteArray → Bool → Int → Bool → ByteArray → Int → Option (Bool × ByteArray × Int × Bool)
  | 0, _, _, _, _, _, _ => none
  | k + 1, x0, x5, x6, x9, x314000, x314001 => (rhizomeref02_digits.f k x0 x6).bind fun t315 => (if t315 = 0 then (some (false, (⟨#[]⟩ : ByteArray), 0, false)) else (rhizomeref02_Read.l0 k x0 x5 x6 t315 x9 0 0 x314000 x314001))
def rhizomeref02_Read.l0 : Nat → ByteArray → Bool → Int → Int → Bool → Int → Int → ByteArray → Int → Option (Bool × ByteArray × Int × Bool)
  | 0, _, _, _, _, _, _, _, _, _ => none
  | k + 1, x0, x5, x6, x7, x9, x10, x11, x314000, x314001 => if x11 < x7 then (if 0 ≤ (wrap64 (x6 + x11)) then (if (wrap64 (x6 + x11)) < (x0.size : Int) then (rhizomeref02_Read.l0 k x0 x5 x6 x7 x9 (mn 100000 (wrap64 ((wrap64 (10 * x10)) + (((bt x0 (wrap64 (x6 + x11))) - 48) % 256)))) (wrap64 (x11 + 1)) x314000 x314001) else (none)) else (none)) else (if x9 = true then ((rhizomeref02_cut.f k x314000 (wrap64 (x314001 + (wrap64 (-x10))))).bind fun bt316 => (some (x5, bt316.1, bt316.2, ((wrap64 (x6 + x7)) == (x0.size : Int))))) else ((rhizomeref02_cut.f k x314000 (wrap64 (x314001 + x10))).bind fun bt318 => (some (x5, bt318.1, bt318.2, ((wrap64 (x6 + x7)) == (x0.size : Int))))))
end
def rhizomeref02_Read.f (k : Nat) (a0 : ByteArray) : Option (Bool × ByteArray × Int × Bool) := if (a0.size : Int) < 1 then (rhizomeref02_Read.j0 k a0 true) else (rhizomeref02_Read.j0 k a0 (decide ((a0.size : Int) > 64)))
theorem rhizomeref02_Read.mono_l : ∀ k, (∀ y0 y1, LeO (rhizomeref02_Read.j0 k y0 y1) (rhizomeref02_Read.j0 (k + 1) y0 y1)) ∧ (∀ y0 y1 y2, LeO (rhizomeref02_Read.j1 k y0 y1 y2) (rhizomeref02_Read.j1 (k + 1) y0 y1 y2)) ∧ (∀ y0 y1 y2 y3 y4, LeO (rhizomeref02_Read.j2 k y0 y1 y2 y3 y4) (rhizomeref02_Read.j2 (k + 1) y0 y1 y2 y3 y4)) ∧ (∀ y0 y1 y2 y3 y4 y5, LeO (rhizomeref02_Read.j3 k y0 y1 y2 y3 y4 y5) (rhizomeref02_Read.j3 (k + 1) y0 y1 y2 y3 y4 y5)) ∧ (∀ y0 y1 y2 y3 y4, LeO (rhizomeref02_Read.j4 k y0 y1 y2 y3 y4) (rhizomeref02_Read.j4 (k + 1) y0 y1 y2 y3 y4)) ∧ (∀ y0 y1 y2 y3 y4 y5, LeO (rhizomeref02_Read.j5 k y0 y1 y2 y3 y4 y5) (rhizomeref02_Read.j5 (k + 1) y0 y1 y2 y3 y4 y5)) ∧ (∀ y0 y1 y2 y3 y4 y5, LeO (rhizomeref02_Read.j6 k y0 y1 y2 y3 y4 y5) (rhizomeref02_Read.j6 (k + 1) y0 y1 y2 y3 y4 y5)) ∧ (∀ y0 y1 y2 y3 y4 y5 y6, LeO (rhizomeref02_Read.j7 k y0 y1 y2 y3 y4 y5 y6) (rhizomeref02_Read.j7 (k + 1) y0 y1 y2 y3 y4 y5 y6)) ∧ (∀ y0 y1 y2 y3 y4 y5, LeO (rhizomeref02_Read.j8 k y0 y1 y2 y3 y4 y5) (rhizomeref02_Read.j8 (k + 1) y0 y1 y2 y3 y4 y5)) ∧ (∀ y0 y1 y2 y3 y4 y5 y6 y7 y8, LeO (rhizomeref02_Read.l0 k y0 y1 y2 y3 y4 y5 y6 y7 y8) (rhizomeref02_Read.l0 (k + 1) y0 y1 y2 y3 y4 y5 y6 y7 y8))
  | 0 => ⟨fun _ _ r h => by simp [rhizomeref02_Read.j0] at h, fun _ _ _ r h => by simp [rhizomeref02_Read.j1] at h, fun _ _ _ _ _ r h => by simp [rhizomeref02_Read.j2] at h, fun _ _ _ _ _ _ r h => by simp [rhizomeref02_Read.j3] at h, fun _ _ _ _ _ r h => by simp [rhizomeref02_Read.j4] at h, fun _ _ _ _ _ _ r h => by simp [rhizomeref02_Read.j5] at h, fun _ _ _ _ _ _ r h => by simp [rhizomeref02_Read.j6] at h, fun _ _ _ _ _ _ _ r h => by simp [rhizomeref02_Read.j7] at h, fun _ _ _ _ _ _ r h => by simp [rhizomeref02_Read.j8] at h, fun _ _ _ _ _ _ _ _ _ r h => by simp [rhizomeref02_Read.l0] at h⟩
  | k + 1 => by
    obtain ⟨ih0, ih1, ih2, ih3, ih4, ih5, ih6, ih7, ih8, ih9⟩ := rhizomeref02_Read.mono_l k
    refine ⟨?_, ?_, ?_, ?_, ?_, ?_, ?_, ?_, ?_, ?_⟩
    · intro y0 y1
      unfold rhizomeref02_Read.j0
      repeat' first
      | (with_reducible exact ih0 _ _)
      | (with_reducible exact ih1 _ _ _)
      | (with_reducible exact ih2 _ _ _ _ _)
      | (with_reducible exact ih3 _ _ _ _ _ _)
      | (with_reducible exact ih4 _ _ _ _ _)
      | (with_reducible exact ih5 _ _ _ _ _ _)
      | (with_reducible exact ih6 _ _ _ _ _ _)
      | (with_reducible exact ih7 _ _ _ _ _ _ _)
      | (with_reducible exact ih8 _ _ _ _ _ _)
      | (with_reducible exact ih9 _ _ _ _ _ _ _ _ _)
      | (with_reducible exact rhizomeref02_cut.mono _ _ _)
      | (with_reducible exact rhizomeref02_digits.mono _ _ _)
      | (with_reducible exact LeO.refl _)
      | (with_reducible exact LeO.none _)
      | (with_reducible refine LeO.ite ?_ ?_)
      | (with_reducible refine LeO.bind ?_ (fun _ => ?_))
      | exact ih0 _ _
      | exact ih1 _ _ _
      | exact ih2 _ _ _ _ _
      | exact ih3 _ _ _ _ _ _
      | exact ih4 _ _ _ _ _
      | exact ih5 _ _ _ _ _ _
      | exact ih6 _ _ _ _ _ _
      | exact ih7 _ _ _ _ _ _ _
      | exact ih8 _ _ _ _ _ _
      | exact ih9 _ _ _ _ _ _ _ _ _
      | exact rhizomeref02_cut.mono _ _ _
      | exact rhizomeref02_digits.mono _ _ _
      | exact LeO.none _
      | refine LeO.ite ?_ ?_
      | refine LeO.bind ?_ (fun _ => ?_)
    · intro y0 y1 y2
      unfold rhizomeref02_Read.j1
      repeat' first
      | (with_reducible exact ih0 _ _)
      | (with_reducible exact ih1 _ _ _)
      | (with_reducible exact ih2 _ _ _ _ _)
      | (with_reducible exact ih3 _ _ _ _ _ _)
      | (with_reducible exact ih4 _ _ _ _ _)
      | (with_reducible exact ih5 _ _ _ _ _ _)
      | (with_reducible exact ih6 _ _ _ _ _ _)
      | (with_reducible exact ih7 _ _ _ _ _ _ _)
      | (with_reducible exact ih8 _ _ _ _ _ _)
      | (with_reducible exact ih9 _ _ _ _ _ _ _ _ _)
      | (with_reducible exact rhizomeref02_cut.mono _ _ _)
      | (with_reducible exact rhizomeref02_digits.mono _ _ _)
      | (with_reducible exact LeO.refl _)
      | (with_reducible exact LeO.none _)
      | (with_reducible refine LeO.ite ?_ ?_)
      | (with_reducible refine LeO.bind ?_ (fun _ => ?_))
      | exact ih0 _ _
      | exact ih1 _ _ _
      | exact ih2 _ _ _ _ _
      | exact ih3 _ _ _ _ _ _
      | exact ih4 _ _ _ _ _
      | exact ih5 _ _ _ _ _ _
      | exact ih6 _ _ _ _ _ _
      | exact ih7 _ _ _ _ _ _ _
      | exact ih8 _ _ _ _ _ _
      | exact ih9 _ _ _ _ _ _ _ _ _
      | exact rhizomeref02_cut.mono _ _ _
      | exact rhizomeref02_digits.mono _ _ _
      | exact LeO.none _
      | refine LeO.ite ?_ ?_
      | refine LeO.bind ?_ (fun _ => ?_)
    · intro y0 y1 y2 y3 y4
      unfold rhizomeref02_Read.j2
      repeat' first
      | (with_reducible exact ih0 _ _)
      | (with_reducible exact ih1 _ _ _)
      | (with_reducible exact ih2 _ _ _ _ _)
      | (with_reducible exact ih3 _ _ _ _ _ _)
      | (with_reducible exact ih4 _ _ _ _ _)
      | (with_reducible exact ih5 _ _ _ _ _ _)
      | (with_reducible exact ih6 _ _ _ _ _ _)
      | (with_reducible exact ih7 _ _ _ _ _ _ _)
      | (with_reducible exact ih8 _ _ _ _ _ _)
      | (with_reducible exact ih9 _ _ _ _ _ _ _ _ _)
      | (with_reducible exact rhizomeref02_cut.mono _ _ _)
      | (with_reducible exact rhizomeref02_digits.mono _ _ _)
      | (with_reducible exact LeO.refl _)
      | (with_reducible exact LeO.none _)
      | (with_reducible refine LeO.ite ?_ ?_)
      | (with_reducible refine LeO.bind ?_ (fun _ => ?_))
      | exact ih0 _ _
      | exact ih1 _ _ _
      | exact ih2 _ _ _ _ _
      | exact ih3 _ _ _ _ _ _
      | exact ih4 _ _ _ _ _
      | exact ih5 _ _ _ _ _ _
      | exact ih6 _ _ _ _ _ _
      | exact ih7 _ _ _ _ _ _ _
      | exact ih8 _ _ _ _ _ _
      | exact ih9 _ _ _ _ _ _ _ _ _
      | exact rhizomeref02_cut.mono _ _ _
      | exact rhizomeref02_digits.mono _ _ _
      | exact LeO.none _
      | refine LeO.ite ?_ ?_
      | refine LeO.bind ?_ (fun _ => ?_)
    · intro y0 y1 y2 y3 y4 y5
      unfold rhizomeref02_Read.j3
      repeat' first
      | (with_reducible exact ih0 _ _)
      | (with_reducible exact ih1 _ _ _)
      | (with_reducible exact ih2 _ _ _ _ _)
      | (with_reducible exact ih3 _ _ _ _ _ _)
      | (with_reducible exact ih4 _ _ _ _ _)
      | (with_reducible exact ih5 _ _ _ _ _ _)
      | (with_reducible exact ih6 _ _ _ _ _ _)
      | (with_reducible exact ih7 _ _ _ _ _ _ _)
      | (with_reducible exact ih8 _ _ _ _ _ _)
      | (with_reducible exact ih9 _ _ _ _ _ _ _ _ _)
      | (with_reducible exact rhizomeref02_cut.mono _ _ _)
      | (with_reducible exact rhizomeref02_digits.mono _ _ _)
      | (with_reducible exact LeO.refl _)
      | (with_reducible exact LeO.none _)
      | (with_reducible refine LeO.ite ?_ ?_)
      | (with_reducible refine LeO.bind ?_ (fun _ => ?_))
      | exact ih0 _ _
      | exact ih1 _ _ _
      | exact ih2 _ _ _ _ _
      | exact ih3 _ _ _ _ _ _
      | exact ih4 _ _ _ _ _
      | exact ih5 _ _ _ _ _ _
      | exact ih6 _ _ _ _ _ _
      | exact ih7 _ _ _ _ _ _ _
      | exact ih8 _ _ _ _ _ _
      | exact ih9 _ _ _ _ _ _ _ _ _
      | exact rhizomeref02_cut.mono _ _ _
      | exact rhizomeref02_digits.mono _ _ _
      | exact LeO.none _
      | refine LeO.ite ?_ ?_
      | refine LeO.bind ?_ (fun _ => ?_)
    · intro y0 y1 y2 y3 y4
      unfold rhizomeref02_Read.j4
      repeat' first
      | (with_reducible exact ih0 _ _)
      | (with_reducible exact ih1 _ _ _)
      | (with_reducible exact ih2 _ _ _ _ _)
      | (with_reducible exact ih3 _ _ _ _ _ _)
      | (with_reducible exact ih4 _ _ _ _ _)
      | (with_reducible exact ih5 _ _ _ _ _ _)
      | (with_reducible exact ih6 _ _ _ _ _ _)
      | (with_reducible exact ih7 _ _ _ _ _ _ _)
      | (with_reducible exact ih8 _ _ _ _ _ _)
      | (with_reducible exact ih9 _ _ _ _ _ _ _ _ _)
      | (with_reducible exact rhizomeref02_cut.mono _ _ _)
      | (with_reducible exact rhizomeref02_digits.mono _ _ _)
      | (with_reducible exact LeO.refl _)
      | (with_reducible exact LeO.none _)
      | (with_reducible refine LeO.ite ?_ ?_)
      | (with_reducible refine LeO.bind ?_ (fun _ => ?_))
      | exact ih0 _ _
      | exact ih1 _ _ _
      | exact ih2 _ _ _ _ _
      | exact ih3 _ _ _ _ _ _
      | exact ih4 _ _ _ _ _
      | exact ih5 _ _ _ _ _ _
      | exact ih6 _ _ _ _ _ _
      | exact ih7 _ _ _ _ _ _ _
      | exact ih8 _ _ _ _ _ _
      | exact ih9 _ _ _ _ _ _ _ _ _
      | exact rhizomeref02_cut.mono _ _ _
      | exact rhizomeref02_digits.mono _ _ _
      | exact LeO.none _
      | refine LeO.ite ?_ ?_
      | refine LeO.bind ?_ (fun _ => ?_)
    · intro y0 y1 y2 y3 y4 y5
      unfold rhizomeref02_Read.j5
      repeat' first
      | (with_reducible exact ih0 _ _)
      | (with_reducible exact ih1 _ _ _)
      | (with_reducible exact ih2 _ _ _ _ _)
      | (with_reducible exact ih3 _ _ _ _ _ _)
      | (with_reducible exact ih4 _ _ _ _ _)
      | (with_reducible exact ih5 _ _ _ _ _ _)
      | (with_reducible exact ih6 _ _ _ _ _ _)
      | (with_reducible exact ih7 _ _ _ _ _ _ _)
      | (with_reducible exact ih8 _ _ _ _ _ _)
      | (with_reducible exact ih9 _ _ _ _ _ _ _ _ _)
      | (with_reducible exact rhizomeref02_cut.mono _ _ _)
      | (with_reducible exact rhizomeref02_digits.mono _ _ _)
      | (with_reducible exact LeO.refl _)
      | (with_reducible exact LeO.none _)
      | (with_reducible refine LeO.ite ?_ ?_)
      | (with_reducible refine LeO.bind ?_ (fun _ => ?_))
      | exact ih0 _ _
      | exact ih1 _ _ _
      | exact ih2 _ _ _ _ _
      | exact ih3 _ _ _ _ _ _
      | exact ih4 _ _ _ _ _
      | exact ih5 _ _ _ _ _ _
      | exact ih6 _ _ _ _ _ _
      | exact ih7 _ _ _ _ _ _ _
      | exact ih8 _ _ _ _ _ _
      | exact ih9 _ _ _ _ _ _ _ _ _
      | exact rhizomeref02_cut.mono _ _ _
      | exact rhizomeref02_digits.mono _ _ _
      | exact LeO.none _
      | refine LeO.ite ?_ ?_
      | refine LeO.bind ?_ (fun _ => ?_)
    · intro y0 y1 y2 y3 y4 y5
      unfold rhizomeref02_Read.j6
      repeat' first
      | (with_reducible exact ih0 _ _)
      | (with_reducible exact ih1 _ _ _)
      | (with_reducible exact ih2 _ _ _ _ _)
      | (with_reducible exact ih3 _ _ _ _ _ _)
      | (with_reducible exact ih4 _ _ _ _ _)
      | (with_reducible exact ih5 _ _ _ _ _ _)
      | (with_reducible exact ih6 _ _ _ _ _ _)
      | (with_reducible exact ih7 _ _ _ _ _ _ _)
      | (with_reducible exact ih8 _ _ _ _ _ _)
      | (with_reducible exact ih9 _ _ _ _ _ _ _ _ _)
      | (with_reducible exact rhizomeref02_cut.mono _ _ _)
      | (with_reducible exact rhizomeref02_digits.mono _ _ _)
      | (with_reducible exact LeO.refl _)
      | (with_reducible exact LeO.none _)
      | (with_reducible refine LeO.ite ?_ ?_)
      | (with_reducible refine LeO.bind ?_ (fun _ => ?_))
      | exact ih0 _ _
      | exact ih1 _ _ _
      | exact ih2 _ _ _ _ _
      | exact ih3 _ _ _ _ _ _
      | exact ih4 _ _ _ _ _
      | exact ih5 _ _ _ _ _ _
      | exact ih6 _ _ _ _ _ _
      | exact ih7 _ _ _ _ _ _ _
      | exact ih8 _ _ _ _ _ _
      | exact ih9 _ _ _ _ _ _ _ _ _
      | exact rhizomeref02_cut.mono _ _ _
      | exact rhizomeref02_digits.mono _ _ _
      | exact LeO.none _
      | refine LeO.ite ?_ ?_
      | refine LeO.bind ?_ (fun _ => ?_)
    · intro y0 y1 y2 y3 y4 y5 y6
      unfold rhizomeref02_Read.j7
      repeat' first
      | (with_reducible exact ih0 _ _)
      | (with_reducible exact ih1 _ _ _)
      | (with_reducible exact ih2 _ _ _ _ _)
      | (with_reducible exact ih3 _ _ _ _ _ _)
      | (with_reducible exact ih4 _ _ _ _ _)
      | (with_reducible exact ih5 _ _ _ _ _ _)
      | (with_reducible exact ih6 _ _ _ _ _ _)
      | (with_reducible exact ih7 _ _ _ _ _ _ _)
      | (with_reducible exact ih8 _ _ _ _ _ _)
      | (with_reducible exact ih9 _ _ _ _ _ _ _ _ _)
      | (with_reducible exact rhizomeref02_cut.mono _ _ _)
      | (with_reducible exact rhizomeref02_digits.mono _ _ _)
      | (with_reducible exact LeO.refl _)
      | (with_reducible exact LeO.none _)
      | (with_reducible refine LeO.ite ?_ ?_)
      | (with_reducible refine LeO.bind ?_ (fun _ => ?_))
      | exact ih0 _ _
      | exact ih1 _ _ _
      | exact ih2 _ _ _ _ _
      | exact ih3 _ _ _ _ _ _
      | exact ih4 _ _ _ _ _
      | exact ih5 _ _ _ _ _ _
      | exact ih6 _ _ _ _ _ _
      | exact ih7 _ _ _ _ _ _ _
      | exact ih8 _ _ _ _ _ _
      | exact ih9 _ _ _ _ _ _ _ _ _
      | exact rhizomeref02_cut.mono _ _ _
      | exact rhizomeref02_digits.mono _ _ _
      | exact LeO.none _
      | refine LeO.ite ?_ ?_
      | refine LeO.bind ?_ (fun _ => ?_)
    · intro y0 y1 y2 y3 y4 y5
      unfold rhizomeref02_Read.j8
      repeat' first
      | (with_reducible exact ih0 _ _)
      | (with_reducible exact ih1 _ _ _)
      | (with_reducible exact ih2 _ _ _ _ _)
      | (with_reducible exact ih3 _ _ _ _ _ _)
      | (with_reducible exact ih4 _ _ _ _ _)
      | (with_reducible exact ih5 _ _ _ _ _ _)
      | (with_reducible exact ih6 _ _ _ _ _ _)
      | (with_reducible exact ih7 _ _ _ _ _ _ _)
      | (with_reducible exact ih8 _ _ _ _ _ _)
      | (with_reducible exact ih9 _ _ _ _ _ _ _ _ _)
      | (with_reducible exact rhizomeref02_cut.mono _ _ _)
      | (with_reducible exact rhizomeref02_digits.mono _ _ _)
      | (with_reducible exact LeO.refl _)
      | (with_reducible exact LeO.none _)
      | (with_reducible refine LeO.ite ?_ ?_)
      | (with_reducible refine LeO.bind ?_ (fun _ => ?_))
      | exact ih0 _ _
      | exact ih1 _ _ _
      | exact ih2 _ _ _ _ _
      | exact ih3 _ _ _ _ _ _
      | exact ih4 _ _ _ _ _
      | exact ih5 _ _ _ _ _ _
      | exact ih6 _ _ _ _ _ _
      | exact ih7 _ _ _ _ _ _ _
      | exact ih8 _ _ _ _ _ _
      | exact ih9 _ _ _ _ _ _ _ _ _
      | exact rhizomeref02_cut.mono _ _ _
      | exact rhizomeref02_digits.mono _ _ _
      | exact LeO.none _
      | refine LeO.ite ?_ ?_
      | refine LeO.bind ?_ (fun _ => ?_)
    · intro y0 y1 y2 y3 y4 y5 y6 y7 y8
      unfold rhizomeref02_Read.l0
      repeat' first
      | (with_reducible exact ih0 _ _)
      | (with_reducible exact ih1 _ _ _)
      | (with_reducible exact ih2 _ _ _ _ _)
      | (with_reducible exact ih3 _ _ _ _ _ _)
      | (with_reducible exact ih4 _ _ _ _ _)
      | (with_reducible exact ih5 _ _ _ _ _ _)
      | (with_reducible exact ih6 _ _ _ _ _ _)
      | (with_reducible exact ih7 _ _ _ _ _ _ _)
      | (with_reducible exact ih8 _ _ _ _ _ _)
      | (with_reducible exact ih9 _ _ _ _ _ _ _ _ _)
      | (with_reducible exact rhizomeref02_cut.mono _ _ _)
      | (with_reducible exact rhizomeref02_digits.mono _ _ _)
      | (with_reducible exact LeO.refl _)
      | (with_reducible exact LeO.none _)
      | (with_reducible refine LeO.ite ?_ ?_)
      | (with_reducible refine LeO.bind ?_ (fun _ => ?_))
      | exact ih0 _ _
      | exact ih1 _ _ _
      | exact ih2 _ _ _ _ _
      | exact ih3 _ _ _ _ _ _
      | exact ih4 _ _ _ _ _
      | exact ih5 _ _ _ _ _ _
      | exact ih6 _ _ _ _ _ _
      | exact ih7 _ _ _ _ _ _ _
      | exact ih8 _ _ _ _ _ _
      | exact ih9 _ _ _ _ _ _ _ _ _
      | exact rhizomeref02_cut.mono _ _ _
      | exact rhizomeref02_digits.mono _ _ _
      | exact LeO.none _
      | refine LeO.ite ?_ ?_
      | refine LeO.bind ?_ (fun _ => ?_)
theorem rhizomeref02_Read.mono : ∀ a0 k, LeO (rhizomeref02_Read.f k a0) (rhizomeref02_Read.f (k + 1) a0) := by
  intro a0 k
  obtain ⟨ih0, ih1, ih2, ih3, ih4, ih5, ih6, ih7, ih8, ih9⟩ := rhizomeref02_Read.mono_l k
  unfold rhizomeref02_Read.f
  repeat' first
      | (with_reducible exact ih0 _ _)
      | (with_reducible exact ih1 _ _ _)
      | (with_reducible exact ih2 _ _ _ _ _)
      | (with_reducible exact ih3 _ _ _ _ _ _)
      | (with_reducible exact ih4 _ _ _ _ _)
      | (with_reducible exact ih5 _ _ _ _ _ _)
      | (with_reducible exact ih6 _ _ _ _ _ _)
      | (with_reducible exact ih7 _ _ _ _ _ _ _)
      | (with_reducible exact ih8 _ _ _ _ _ _)
      | (with_reducible exact ih9 _ _ _ _ _ _ _ _ _)
      | (with_reducible exact rhizomeref02_cut.mono _ _ _)
      | (with_reducible exact rhizomeref02_digits.mono _ _ _)
      | (with_reducible exact LeO.refl _)
      | (with_reducible exact LeO.none _)
      | (with_reducible refine LeO.ite ?_ ?_)
      | (with_reducible refine LeO.bind ?_ (fun _ => ?_))
      | exact ih0 _ _
      | exact ih1 _ _ _
      | exact ih2 _ _ _ _ _
      | exact ih3 _ _ _ _ _ _
      | exact ih4 _ _ _ _ _
      | exact ih5 _ _ _ _ _ _
      | exact ih6 _ _ _ _ _ _
      | exact ih7 _ _ _ _ _ _ _
      | exact ih8 _ _ _ _ _ _
      | exact ih9 _ _ _ _ _ _ _ _ _
      | exact rhizomeref02_cut.mono _ _ _
      | exact rhizomeref02_digits.mono _ _ _
      | exact LeO.none _
      | refine LeO.ite ?_ ?_
      | refine LeO.bind ?_ (fun _ => ?_)
def rhizomeref02_Read.T16 : Bool × List (List Nat × List Nat) := (true, [([], []), ([0], [0]), ([], []), ([], []), ([3], [3]), ([], []), ([5], [5]), ([], []), ([6, 7], [6, 7]), ([2, 4, 8], [2, 4, 8]), ([1, 9], [1, 9]), ([0, 1, 2, 3, 4, 5, 6, 7, 8, 9, 10], []), ([11, 10, 0, 1, 2, 3, 4, 5, 6, 7, 8, 9, 10], [10, 11])])
def rhizomeref02_Read.B16 : List Nat := [0, 1, 0, 0, 8, 0, 32, 0, 224, 508, 1023, 2047, 4095]
theorem rhizomeref02_Read.tab16 : rtab .any (opsOf Tryz.f29 16) = rhizomeref02_Read.T16 := by kernel_rfl
theorem rhizomeref02_Read.bits16 : waitsOk rhizomeref02_Read.T16.2 rhizomeref02_Read.B16 = true := by kernel_rfl
set_option maxHeartbeats 8000000 in
set_option maxRecDepth 100000 in
theorem rhizomeref02_Read.calls (k : Nat) (a0 : ByteArray) (r1 : Bool) (r2 : ByteArray) (r3 : Int) (r4 : Bool) (w : World) (h : rhizomeref02_Read.f k a0 = some (r1, r2, r3, r4)) :
    Calls Tryz.prog 29 #[.string a0] w fun e w' => e = .returned (.tuple #[.bool r1, .agg #[.string r2, .int .i64 r3], .bool r4]) ∧ Below w.heap.size w w' := by
  have hu39 := Tryz.underlying39
  have HB := Aside0.mk (Below.refl w.heap.size w)
  have H : (if (a0.size : Int) < 1 then (rhizomeref02_Read.j0 k a0 true) else (rhizomeref02_Read.j0 k a0 (decide ((a0.size : Int) > 64)))) = some (r1, r2, r3, r4) := h
  clear h
  have HC2 := Aside0.mk H
  clear H
  go_enter Tryz.func29, Tryz.ntmps29
  go_upto_region 1 with (first | ((with_reducible refine gate_dst (N := 3) rfl ?_); (try (refine gate_guard (by rfl) ?_; dsimp only)); refine box_event ?hg (N := 3) ?hd (cs := #[.string (⟨#[]⟩ : ByteArray), .int .i64 0]) (t := 39) ?hr ?_; (case hd => rfl); (case hg => rfl); (case hr => first | (go_simp; done) | (go_simp; rfl)); intro gb311 hg w3 hbox hb; have n0_ := Aside0.mk (below_step (by repeat (first | (with_reducible first | exact HB.out | apply below_alloc | apply pw_below_drewN | apply below_drew1) | exact HB.out)) hb); have n1_ := Aside0.mk (hbox); have n2_ := Aside0.mk ((by rw [hg]; exact (below_size (by repeat (first | (with_reducible first | exact HB.out | apply below_alloc | apply pw_below_drewN | apply below_drew1) | exact HB.out))) : w.heap.size ≤ gb311)); have n3_ := Aside0.mk ((by rw [hg]; exact (below_size (by repeat (first | (with_reducible first | exact HB.out | apply below_alloc | apply pw_below_drewN | apply below_drew1) | exact HB.out))) : w.heap.size ≤ gb311)); clear HB; have HB := n0_; have BK311 := n1_; have GW311 := n2_; have GE311 := n3_; clear n0_ n1_ n2_ n3_; clear hb hbox hg))
  (try simp only [Act.put, List.setIfInBounds_toArray, List.set_cons_zero, List.set_cons_succ])
  go_cut [19] (fun v19 wc => ∃ (kq : Nat) (x19_1 : Bool), v19 = .bool x19_1 ∧ Aside0 (rhizomeref02_Read.j0 kq a0 x19_1 = some (r1, r2, r3, r4)) ∧ Aside0 (kq ≤ k) ∧ Aside0 (wc.heap[gb311]? = some (.cells #[.string (⟨#[]⟩ : ByteArray), .int .i64 0] 39 (0, 0))) ∧ Aside0 (Below w.heap.size w wc))
  case first =>
    as_aux_lemma =>
    have H := HC2.out
    clear HC2
    by_cases c4 : (a0.size : Int) < 1
    · as_aux_lemma =>
      rw [if_pos c4] at H
      have c4b0 : decide ((a0.size : Int) < 1) = true := decide_eq_true c4
      have c4b1 : decide (a0.size < 1) = true := decide_eq_true (by omega)
      clear c4
      (first | rw [c4b0] | (simp only [i64_w, i32_w]; rw [c4b0]) | skip)
      have H' := Aside0.mk H
      clear H
      go_wp2
      go_meet
      case rel => exact ⟨_, (true), (by first | rfl | (simp; done) | (simp [*]; done)), H', ⟨by first | omega | exact Nat.le_refl _⟩, ⟨by (with_reducible repeat (first | refine blk_drewN ?_ _ | refine blk_drew ?_ | refine blk_alloc ?_ _)); exact BK311.out⟩, ⟨by repeat (first | (with_reducible first | exact HB.out | apply below_alloc | apply pw_below_drewN | apply below_drew1 | refine below_set ?_ GE311.out) | exact HB.out)⟩⟩
    · as_aux_lemma =>
      rw [if_neg c4] at H
      have c4b0 : decide ((a0.size : Int) < 1) = false := decide_eq_false c4
      have c4b1 : decide (a0.size < 1) = false := decide_eq_false (by omega)
      clear c4
      (first | rw [c4b0] | (simp only [i64_w, i32_w]; rw [c4b0]) | skip)
      have H' := Aside0.mk H
      clear H
      go_wp2
      go_meet
      case rel => exact ⟨_, (decide ((a0.size : Int) > 64)), (by first | rfl | (simp; done) | (simp [*]; done)), H', ⟨by first | omega | exact Nat.le_refl _⟩, ⟨by (with_reducible repeat (first | refine blk_drewN ?_ _ | refine blk_drew ?_ | refine blk_alloc ?_ _)); exact BK311.out⟩, ⟨by repeat (first | (with_reducible first | exact HB.out | apply below_alloc | apply pw_below_drewN | apply below_drew1 | refine below_set ?_ GE311.out) | exact HB.out)⟩⟩
  case rest =>
    as_aux_lemma =>
    clear HC2
    try clear c2
    try clear p2
    try clear c4
    try clear c4b0
    try clear c4b1
    obtain ⟨kq, x19_1, rfl, HA, HJ1, BK311, HB⟩ := hcut
    cases kq with
    | zero => exact absurd HA.out (by simp [rhizomeref02_Read.j0])
    | succ kj1 =>
      have H := HA.out
      clear HA
      simp only [rhizomeref02_Read.j0] at H
      by_cases c5 : x19_1 = true
      · as_aux_lemma =>
        subst c5
        have H1 : (some (false, (⟨#[]⟩ : ByteArray), 0, false)) = some (r1, r2, r3, r4) := by rw [if_pos rfl] at H; exact H
        clear H
        have H := H1
        clear H1
        simp only [Option.some.injEq, Prod.mk.injEq] at H
        obtain ⟨rfl, rfl, rfl, rfl⟩ := H
        have hcz6_0 : wc.cell? ⟨gb311, 0, none⟩ = some (.string (⟨#[]⟩ : ByteArray)) := (blk_cell BK311.out 0).trans rfl
        have hcz6_1 : wc.cell? ⟨gb311, 1, none⟩ = some (.int .i64 0) := (blk_cell BK311.out 1).trans rfl
        have hfz6_0 := blk_frozen BK311.out 0
        have hfz6_1 := blk_frozen BK311.out 1
        go_wp2
        refine bodyPost_ret (results_list (rs := [.tmp 2, .cell 3 39, .tmp 4]) rfl (by simp) (.tmp (.cell gb311 39 #[.string (⟨#[]⟩ : ByteArray), .int .i64 0] (0, 0) _ rfl (by (with_reducible repeat (first | refine blk_drewN ?_ _ | refine blk_drew ?_ | refine blk_alloc ?_ _)); refine blk_put (cs := #[.string (⟨#[]⟩ : ByteArray), .int .i64 0]) ?_ 1 _ rfl; (with_reducible repeat (first | refine blk_drewN ?_ _ | refine blk_drew ?_ | refine blk_alloc ?_ _)); refine blk_put (cs := #[.string (⟨#[]⟩ : ByteArray), .int .i64 0]) ?_ 0 _ rfl; (with_reducible repeat (first | refine blk_drewN ?_ _ | refine blk_drew ?_ | refine blk_alloc ?_ _)); exact BK311.out) Tryz.underlying39 rfl (by kernel_rfl) (.tmp .nil)))) rfl ?_
        exact ⟨by first | rfl | (simp [errW_none, errW_some] <;> rfl) | (simp [*, errW_none, errW_some] <;> rfl), by repeat (first | (with_reducible first | exact HB.out | apply below_alloc | apply pw_below_drewN | apply below_drew1 | refine below_set ?_ GE311.out) | exact HB.out)⟩
      · as_aux_lemma =>
        replace c5 := Bool.eq_false_iff.mpr c5
        subst c5
        have H1 : (if 0 < (a0.size : Int) then (if (bt a0 0) = 45 then (rhizomeref02_Read.j1 kj1 a0 ((bt a0 0) == 45) 1) else (rhizomeref02_Read.j1 kj1 a0 ((bt a0 0) == 45) 0)) else (none)) = some (r1, r2, r3, r4) := by rw [if_neg (show ¬ (false = true) by decide)] at H; exact H
        clear H
        have H := H1
        clear H1
        by_cases c7 : 0 < (a0.size : Int)
        · as_aux_lemma =>
          rw [if_pos c7] at H
          have c7b0 : decide (0 < (a0.size : Int)) = true := decide_eq_true c7
          have c7b1 : decide (0 < a0.size) = true := decide_eq_true (by omega)
          clear c7
          have HC9 := Aside0.mk H
          clear H
          have p8 : 0 ≤ (0 : Int) := (by omega)
          have q8 : 0 < a0.size := (by have : (0 : Int) < (a0.size : Int) := of_decide_eq_true (by first | (with_reducible assumption) | assumption); omega)
          have hx8 : ∀ h : 0 < a0.size, ((a0[0]'h).toNat : Int) = bt a0 0 := bt_at a0 0
          clear p8
          have qi8 : (0 < (a0.size : Int)) = True := eq_true (of_decide_eq_true (by first | (with_reducible assumption) | assumption))
          replace q8 := eq_true q8
          go_upto_if 24 with (fail)
          obtain ⟨g45, hg45⟩ : ∃ x : Bool, x = ((bt a0 0) == 45) := ⟨_, rfl⟩
          rw [← hg45]
          go_cut [6] (fun v6 wc => ∃ (kq : Nat) (x6_8 : Int), v6 = .int .i64 x6_8 ∧ Aside0 (rhizomeref02_Read.j1 kq a0 g45 x6_8 = some (r1, r2, r3, r4)) ∧ Aside0 (kq ≤ kj1) ∧ Aside0 (wc.heap[gb311]? = some (.cells #[.string (⟨#[]⟩ : ByteArray), .int .i64 0] 39 (0, 0))) ∧ Aside0 (Below w.heap.size w wc))
          case first =>
            as_aux_lemma =>
            have H := HC9.out
            clear HC9
            by_cases c10 : (bt a0 0) = 45
            · as_aux_lemma =>
              rw [if_pos c10] at H
              have c10b0 : ((bt a0 0) == 45) = true := beq_iff_eq.mpr c10
              have c10b1 : ((bt a0 0) != 45) = false := bne_eq_false_iff_eq.mpr c10
              clear c10
              rw [c10b0] at H
              obtain rfl : g45 = true := by rw [hg45]; exact c10b0
              clear hg45
              have H' := Aside0.mk H
              clear H
              go_wp2
              go_meet
              case rel => exact ⟨_, (1), (by first | rfl | (simp; done) | (simp [*]; done)), H', ⟨by have := HJ1.out; first | omega | exact Nat.le_refl _⟩, ⟨by (with_reducible repeat (first | refine blk_drewN ?_ _ | refine blk_drew ?_ | refine blk_alloc ?_ _)); exact BK311.out⟩, ⟨by repeat (first | (with_reducible first | exact HB.out | apply below_alloc | apply pw_below_drewN | apply below_drew1 | refine below_set ?_ GE311.out) | exact HB.out)⟩⟩
            · as_aux_lemma =>
              rw [if_neg c10] at H
              have c10b0 : ((bt a0 0) == 45) = false := beq_eq_false_iff_ne.mpr c10
              have c10b1 : ((bt a0 0) != 45) = true := bne_iff_ne.mpr c10
              rw [c10b0] at H
              obtain rfl : g45 = false := by rw [hg45]; exact c10b0
              clear hg45
              have H' := Aside0.mk H
              clear H
              go_wp2
              go_meet
              case rel => exact ⟨_, (0), (by first | rfl | (simp; done) | (simp [*]; done)), H', ⟨by have := HJ1.out; first | omega | exact Nat.le_refl _⟩, ⟨by (with_reducible repeat (first | refine blk_drewN ?_ _ | refine blk_drew ?_ | refine blk_alloc ?_ _)); exact BK311.out⟩, ⟨by repeat (first | (with_reducible first | exact HB.out | apply below_alloc | apply pw_below_drewN | apply below_drew1 | refine below_set ?_ GE311.out) | exact HB.out)⟩⟩
          case rest =>
            as_aux_lemma =>
            subst hg45
            clear HC9
            try clear c1
            try clear c2
            try clear p2
            try clear c4
            try clear c4b0
            try clear c4b1
            try clear c5
            try clear c7
            try clear c7b0
            try clear c7b1
            try clear p8
            try clear q8
            try clear hx8
            try clear qi8
            try clear c10
            try clear c10b0
            try clear c10b1
            try clear hcz6_0
            try clear hcz6_1
            try clear hfz6_0
            try clear hfz6_1
            try clear p2
            try clear p8
            try clear q8
            obtain ⟨kq, x6_8, rfl, HA, HJ8, BK311, HB⟩ := hcut
            cases kq with
            | zero => exact absurd HA.out (by simp [rhizomeref02_Read.j1])
            | succ kj8 =>
              have H := HA.out
              clear HA
              simp only [rhizomeref02_Read.j1] at H
              replace H := Option.bind_eq_some_iff.mp H
              obtain ⟨t312, A110, H⟩ := H
              replace H : (if t312 = 0 then (rhizomeref02_Read.j2 kj8 a0 ((bt a0 0) == 45) x6_8 t312 true) else (if t312 > 1 then (if 0 ≤ x6_8 then (if x6_8 < (a0.size : Int) then (rhizomeref02_Read.j2 kj8 a0 ((bt a0 0) == 45) x6_8 t312 ((bt a0 x6_8) == 48)) else (none)) else (none)) else (rhizomeref02_Read.j2 kj8 a0 ((bt a0 0) == 45) x6_8 t312 false))) = some (r1, r2, r3, r4) := H
              have A11 := Aside0.mk A110
              clear A110
              have HC12 := Aside0.mk H
              clear H
              go_upto_region 8 with (first | ((with_reducible refine gate_callee (f := 47) rfl ?_); refine goesL_ (some 27) rfl rfl Tryz.func47 (by kernel_rfl) rfl #[.string a0, .int .i64 x6_8] rfl (by (try simp only [List.map_toArray, List.map_cons, List.map_nil]); first | done | rfl | (simp only [List.length_drop, List.length_take]; rfl)) ?_; (with_reducible refine (rhizomeref02_digits.calls kj8 a0 x6_8 t312 _ A11.out).mono ?_); rintro e w' ⟨rfl, ⟨nd, rfl⟩⟩; refine ⟨_, rfl, ?_⟩))
              (try simp only [Act.put, List.setIfInBounds_toArray, List.set_cons_zero, List.set_cons_succ])
              go_cut [39] (fun v39 wc => ∃ (kq : Nat) (x39_11 : Bool), v39 = .bool x39_11 ∧ Aside0 (rhizomeref02_Read.j2 kq a0 ((bt a0 0) == 45) x6_8 t312 x39_11 = some (r1, r2, r3, r4)) ∧ Aside0 (kq ≤ kj8) ∧ Aside0 (wc.heap[gb311]? = some (.cells #[.string (⟨#[]⟩ : ByteArray), .int .i64 0] 39 (0, 0))) ∧ Aside0 (Below w.heap.size w wc))
              case first =>
                as_aux_lemma =>
                have H := HC12.out
                clear HC12
                by_cases c13 : t312 = 0
                · as_aux_lemma =>
                  rw [if_pos c13] at H
                  have c13b0 : (t312 == 0) = true := beq_iff_eq.mpr c13
                  have c13b1 : (t312 != 0) = false := bne_eq_false_iff_eq.mpr c13
                  clear c13
                  (first | rw [c13b0] | (simp only [i64_w, i32_w]; rw [c13b0]) | skip)
                  have H' := Aside0.mk H
                  clear H
                  go_wp2
                  go_meet
                  case rel => exact ⟨_, (true), (by first | rfl | (simp; done) | (simp [*]; done)), H', ⟨by have := HJ1.out; have := HJ8.out; first | omega | exact Nat.le_refl _⟩, ⟨by (with_reducible repeat (first | refine blk_drewN ?_ _ | refine blk_drew ?_ | refine blk_alloc ?_ _)); exact BK311.out⟩, ⟨by repeat (first | (with_reducible first | exact HB.out | apply below_alloc | apply pw_below_drewN | apply below_drew1 | refine below_set ?_ GE311.out) | exact HB.out)⟩⟩
                · as_aux_lemma =>
                  rw [if_neg c13] at H
                  have c13b0 : (t312 == 0) = false := beq_eq_false_iff_ne.mpr c13
                  have c13b1 : (t312 != 0) = true := bne_iff_ne.mpr c13
                  (first | rw [c13b0] | (simp only [i64_w, i32_w]; rw [c13b0]) | skip)
                  by_cases c14 : t312 > 1
                  · as_aux_lemma =>
                    rw [if_pos c14] at H
                    have c14b0 : decide (1 < t312) = true := decide_eq_true c14
                    clear c14
                    by_cases c15 : 0 ≤ x6_8
                    · as_aux_lemma =>
                      rw [if_pos c15] at H
                      have c15b0 : decide (0 ≤ x6_8) = true := decide_eq_true c15
                      clear c15
                      by_cases c16 : x6_8 < (a0.size : Int)
                      · as_aux_lemma =>
                        rw [if_pos c16] at H
                        have c16b0 : decide (x6_8 < (a0.size : Int)) = true := decide_eq_true c16
                        clear c16
                        have H' := Aside0.mk H
                        clear H
                        have p17 : 0 ≤ (x6_8 : Int) := of_decide_eq_true (by first | (with_reducible assumption) | assumption)
                        have q17 : x6_8 < (a0.size : Int) := of_decide_eq_true (by first | (with_reducible assumption) | assumption)
                        have hx17 := bt_at a0 x6_8
                        replace p17 := eq_true p17
                        replace q17 := eq_true q17
                        go_wp2
                        go_meet
                        case rel => exact ⟨_, (((bt a0 x6_8) == 48)), (by first | rfl | (simp; done) | (simp [*]; done)), H', ⟨by have := HJ1.out; have := HJ8.out; first | omega | exact Nat.le_refl _⟩, ⟨by (with_reducible repeat (first | refine blk_drewN ?_ _ | refine blk_drew ?_ | refine blk_alloc ?_ _)); exact BK311.out⟩, ⟨by repeat (first | (with_reducible first | exact HB.out | apply below_alloc | apply pw_below_drewN | apply below_drew1 | refine below_set ?_ GE311.out) | exact HB.out)⟩⟩
                      · rw [if_neg c16] at H
                        exact absurd H (by simp)
                    · rw [if_neg c15] at H
                      exact absurd H (by simp)
                  · as_aux_lemma =>
                    rw [if_neg c14] at H
                    have c14b0 : decide (1 < t312) = false := decide_eq_false c14
                    clear c14
                    have H' := Aside0.mk H
                    clear H
                    go_wp2
                    go_meet
                    case rel => exact ⟨_, (false), (by first | rfl | (simp; done) | (simp [*]; done)), H', ⟨by have := HJ1.out; have := HJ8.out; first | omega | exact Nat.le_refl _⟩, ⟨by (with_reducible repeat (first | refine blk_drewN ?_ _ | refine blk_drew ?_ | refine blk_alloc ?_ _)); exact BK311.out⟩, ⟨by repeat (first | (with_reducible first | exact HB.out | apply below_alloc | apply pw_below_drewN | apply below_drew1 | refine below_set ?_ GE311.out) | exact HB.out)⟩⟩
              case rest =>
                as_aux_lemma =>
                clear HC12
                try clear c1
                try clear p1
                try clear q1
                try clear hx1
                try clear c2
                try clear p2
                try clear c4
                try clear c4b0
                try clear c4b1
                try clear c5
                try clear c7
                try clear c7b0
                try clear c7b1
                try clear p8
                try clear q8
                try clear hx8
                try clear qi8
                try clear c10
                try clear c10b0
                try clear c10b1
                try clear c13
                try clear c13b0
                try clear c13b1
                try clear c14
                try clear c14b0
                try clear c15
                try clear c15b0
                try clear c16
                try clear c16b0
                try clear p17
                try clear q17
                try clear hx17
                try clear hcz6_0
                try clear hcz6_1
                try clear hfz6_0
                try clear hfz6_1
                try clear p17
                try clear p2
                try clear p8
                try clear q17
                try clear q8
                obtain ⟨kq, x39_11, rfl, HA, HJ11, BK311, HB⟩ := hcut
                cases kq with
                | zero => exact absurd HA.out (by simp [rhizomeref02_Read.j2])
                | succ kj11 =>
                  have H := HA.out
                  clear HA
                  simp only [rhizomeref02_Read.j2] at H
                  by_cases c18 : x39_11 = true
                  · as_aux_lemma =>
                    subst c18
                    have H1 : (some (false, (⟨#[]⟩ : ByteArray), 0, false)) = some (r1, r2, r3, r4) := by rw [if_pos rfl] at H; exact H
                    clear H
                    have H := H1
                    clear H1
                    simp only [Option.some.injEq, Prod.mk.injEq] at H
                    obtain ⟨rfl, rfl, rfl, rfl⟩ := H
                    have hcz19_0 : wc.cell? ⟨gb311, 0, none⟩ = some (.string (⟨#[]⟩ : ByteArray)) := (blk_cell BK311.out 0).trans rfl
                    have hcz19_1 : wc.cell? ⟨gb311, 1, none⟩ = some (.int .i64 0) := (blk_cell BK311.out 1).trans rfl
                    have hfz19_0 := blk_frozen BK311.out 0
                    have hfz19_1 := blk_frozen BK311.out 1
                    go_wp2
                    refine bodyPost_ret (results_list (rs := [.tmp 2, .cell 3 39, .tmp 4]) rfl (by simp) (.tmp (.cell gb311 39 #[.string (⟨#[]⟩ : ByteArray), .int .i64 0] (0, 0) _ rfl (by (with_reducible repeat (first | refine blk_drewN ?_ _ | refine blk_drew ?_ | refine blk_alloc ?_ _)); refine blk_put (cs := #[.string (⟨#[]⟩ : ByteArray), .int .i64 0]) ?_ 1 _ rfl; (with_reducible repeat (first | refine blk_drewN ?_ _ | refine blk_drew ?_ | refine blk_alloc ?_ _)); refine blk_put (cs := #[.string (⟨#[]⟩ : ByteArray), .int .i64 0]) ?_ 0 _ rfl; (with_reducible repeat (first | refine blk_drewN ?_ _ | refine blk_drew ?_ | refine blk_alloc ?_ _)); exact BK311.out) Tryz.underlying39 rfl (by kernel_rfl) (.tmp .nil)))) rfl ?_
                    exact ⟨by first | rfl | (simp [errW_none, errW_some] <;> rfl) | (simp [*, errW_none, errW_some] <;> rfl), by repeat (first | (with_reducible first | exact HB.out | apply below_alloc | apply pw_below_drewN | apply below_drew1 | refine below_set ?_ GE311.out) | exact HB.out)⟩
                  · as_aux_lemma =>
                    replace c18 := Bool.eq_false_iff.mpr c18
                    subst c18
                    have H1 : (if 0 ≤ x6_8 then (if x6_8 ≤ (wrap64 (x6_8 + t312)) then (if (wrap64 (x6_8 + t312)) ≤ (a0.size : Int) then (if (wrap64 (x6_8 + t312)) < (a0.size : Int) then (if 0 ≤ (wrap64 (x6_8 + t312)) then (rhizomeref02_Read.j3 kj11 a0 ((bt a0 0) == 45) (wrap64 (x6_8 + t312)) ((bt a0 (wrap64 (x6_8 + t312))) == 46) (a0.extract (x6_8 : Int).toNat ((wrap64 (x6_8 + t312)) : Int).toNat) 0) else (none)) else (rhizomeref02_Read.j3 kj11 a0 ((bt a0 0) == 45) (wrap64 (x6_8 + t312)) false (a0.extract (x6_8 : Int).toNat ((wrap64 (x6_8 + t312)) : Int).toNat) 0)) else (none)) else (none)) else (none)) = some (r1, r2, r3, r4) := by rw [if_neg (show ¬ (false = true) by decide)] at H; exact H
                    clear H
                    have H := H1
                    clear H1
                    by_cases c20 : 0 ≤ x6_8
                    · as_aux_lemma =>
                      rw [if_pos c20] at H
                      have c20b0 := eq_true c20
                      have c20b1 : decide (0 ≤ x6_8) = true := decide_eq_true c20
                      clear c20
                      by_cases c21 : x6_8 ≤ (wrap64 (x6_8 + t312))
                      · as_aux_lemma =>
                        rw [if_pos c21] at H
                        have c21b0 := eq_true c21
                        have c21b1 : decide (x6_8 ≤ (wrap64 (x6_8 + t312))) = true := decide_eq_true c21
                        by_cases c22 : (wrap64 (x6_8 + t312)) ≤ (a0.size : Int)
                        · as_aux_lemma =>
                          rw [if_pos c22] at H
                          have c22b0 := eq_true c22
                          have c22b1 : decide ((wrap64 (x6_8 + t312)) ≤ (a0.size : Int)) = true := decide_eq_true c22
                          have HC23 := Aside0.mk H
                          clear H
                          go_upto_region 12 with (first | ((with_reducible refine gate_dst (N := 8) rfl ?_); (try (refine gate_guard (by rfl) ?_; dsimp only)); refine box_event ?hg (N := 8) ?hd (cs := #[.string (⟨#[]⟩ : ByteArray), .int .i64 0]) (t := 39) ?hr ?_; (case hd => rfl); (case hg => rfl); (case hr => first | (go_simp; done) | (go_simp; rfl)); intro gb313 hg w24 hbox hb; have n0_ := Aside0.mk (blk_below (g := gb311) (o := .cells #[.string (⟨#[]⟩ : ByteArray), .int .i64 0] 39 (0, 0)) (by (with_reducible repeat (first | refine blk_drewN ?_ _ | refine blk_drew ?_ | refine blk_alloc ?_ _)); exact BK311.out) hb); have n1_ := Aside0.mk (below_step (by repeat (first | (with_reducible first | exact HB.out | apply below_alloc | apply pw_below_drewN | apply below_drew1 | refine below_set ?_ GE311.out) | exact HB.out)) hb); have n2_ := Aside0.mk (hbox); have n3_ := Aside0.mk ((by rw [hg]; exact (below_size (by repeat (first | (with_reducible first | exact HB.out | apply below_alloc | apply pw_below_drewN | apply below_drew1 | refine below_set ?_ GE311.out) | exact HB.out))) : w.heap.size ≤ gb313)); have n4_ := Aside0.mk ((by rw [hg]; exact (below_size (by repeat (first | (with_reducible first | exact HB.out | apply below_alloc | apply pw_below_drewN | apply below_drew1 | refine below_set ?_ GE311.out) | exact HB.out))) : w.heap.size ≤ gb313)); have n5_ := Aside0.mk ((by rw [hg]; exact Nat.ne_of_lt (blk_lt (g := gb311) (o := .cells #[.string (⟨#[]⟩ : ByteArray), .int .i64 0] 39 (0, 0)) (by (with_reducible repeat (first | refine blk_drewN ?_ _ | refine blk_drew ?_ | refine blk_alloc ?_ _)); exact BK311.out)) : gb311 ≠ gb313)); have n6_ := Aside0.mk ((by rw [hg]; exact Nat.ne_of_gt (blk_lt (g := gb311) (o := .cells #[.string (⟨#[]⟩ : ByteArray), .int .i64 0] 39 (0, 0)) (by (with_reducible repeat (first | refine blk_drewN ?_ _ | refine blk_drew ?_ | refine blk_alloc ?_ _)); exact BK311.out)) : gb313 ≠ gb311)); clear BK311; clear HB; have BK311 := n0_; have HB := n1_; have BK313 := n2_; have GW313 := n3_; have GE313 := n4_; have NB311_313 := n5_; have NB313_311 := n6_; clear n0_ n1_ n2_ n3_ n4_ n5_ n6_; clear hb hbox hg; have hnb25 := NB313_311.out; have hnc25 := NB311_313.out; have hcz26_0 : w24.cell? ⟨gb313, 0, none⟩ = some (.string (⟨#[]⟩ : ByteArray)) := (blk_cell BK313.out 0).trans rfl; have hcz26_1 : w24.cell? ⟨gb313, 1, none⟩ = some (.int .i64 0) := (blk_cell BK313.out 1).trans rfl; have hfz26_0 := blk_frozen BK313.out 0; have hfz26_1 := blk_frozen BK313.out 1))
                          (try simp only [Act.put, List.setIfInBounds_toArray, List.set_cons_zero, List.set_cons_succ])
                          go_cut [60] (fun v60 wc => ∃ (kq : Nat) (x60_22 : Bool), v60 = .bool x60_22 ∧ Aside0 (rhizomeref02_Read.j3 kq a0 ((bt a0 0) == 45) (wrap64 (x6_8 + t312)) x60_22 (a0.extract (x6_8 : Int).toNat ((wrap64 (x6_8 + t312)) : Int).toNat) 0 = some (r1, r2, r3, r4)) ∧ Aside0 (kq ≤ kj11) ∧ Aside0 (wc.heap[gb311]? = some (.cells #[.string (⟨#[]⟩ : ByteArray), .int .i64 0] 39 (0, 0))) ∧ Aside0 (wc.heap[gb313]? = some (.cells #[.string (a0.extract (x6_8 : Int).toNat ((wrap64 (x6_8 + t312)) : Int).toNat), .int .i64 0] 39 (0, 0))) ∧ Aside0 (Below w.heap.size w wc))
                          case first =>
                            as_aux_lemma =>
                            have H := HC23.out
                            clear HC23
                            by_cases c27 : (wrap64 (x6_8 + t312)) < (a0.size : Int)
                            · as_aux_lemma =>
                              rw [if_pos c27] at H
                              have c27b0 : decide ((wrap64 (x6_8 + t312)) < (a0.size : Int)) = true := decide_eq_true c27
                              clear c27
                              (first | rw [c27b0] | (simp only [i64_w, i32_w]; rw [c27b0]) | skip)
                              obtain ⟨ji28, hji28⟩ : ∃ j_ : Int, (wrap64 (x6_8 + t312)) = j_ := ⟨_, rfl⟩
                              replace H : (if 0 ≤ (ji28) then (rhizomeref02_Read.j3 kj11 a0 ((bt a0 0) == 45) ji28 ((bt a0 (ji28)) == 46) (a0.extract (x6_8 : Int).toNat ((ji28) : Int).toNat) 0) else (none)) = some (r1, r2, r3, r4) := by first | (rw [hji28] at H; exact H) | (simp only [hji28] at H ⊢; exact H)
                              (try rw [hji28] at c21b0)
                              (try rw [hji28] at c21b1)
                              (try rw [hji28] at c21)
                              (try rw [hji28] at c22b0)
                              (try rw [hji28] at c22b1)
                              (try rw [hji28] at c22)
                              (try rw [hji28] at c27b0)
                              have hji28w : (IntKind.i64.wrap (x6_8 + t312)) = ji28 := (i64_w _).trans hji28
                              by_cases c29 : 0 ≤ (ji28)
                              · as_aux_lemma =>
                                rw [if_pos c29] at H
                                have c29b0 : decide (0 ≤ (ji28)) = true := decide_eq_true c29
                                clear c29
                                have H' := Aside0.mk H
                                clear H
                                have p30 : 0 ≤ ((ji28) : Int) := of_decide_eq_true (by first | (with_reducible assumption) | assumption)
                                have q30 : (ji28) < (a0.size : Int) := of_decide_eq_true (by first | (with_reducible assumption) | assumption)
                                have hx30 := bt_at a0 (ji28)
                                replace p30 := eq_true p30
                                replace q30 := eq_true q30
                                go_wp2
                                go_meet
                                case rel => exact ⟨_, (((bt a0 (ji28)) == 46)), (by first | rfl | (simp; done) | (simp only [← hji28] <;> (first | rfl | simp)) | (simp [*]; done)), (by first | exact H' | (rw [hji28]; exact H')), ⟨by have := HJ1.out; have := HJ8.out; have := HJ11.out; first | omega | exact Nat.le_refl _⟩, ⟨by (with_reducible repeat (first | refine blk_drewN ?_ _ | refine blk_drew ?_ | refine blk_alloc ?_ _)); refine blk_far ?_ NB311_313.out _; (with_reducible repeat (first | refine blk_drewN ?_ _ | refine blk_drew ?_ | refine blk_alloc ?_ _)); refine blk_far ?_ NB311_313.out _; (with_reducible repeat (first | refine blk_drewN ?_ _ | refine blk_drew ?_ | refine blk_alloc ?_ _)); exact BK311.out⟩, ⟨by (with_reducible repeat (first | refine blk_drewN ?_ _ | refine blk_drew ?_ | refine blk_alloc ?_ _)); refine blk_put (cs := #[.string (a0.extract (x6_8 : Int).toNat ((ji28) : Int).toNat), .int .i64 0]) ?_ 1 _ (by first | rfl | (rw [hji28]; rfl)); (with_reducible repeat (first | refine blk_drewN ?_ _ | refine blk_drew ?_ | refine blk_alloc ?_ _)); refine blk_put (cs := #[.string (⟨#[]⟩ : ByteArray), .int .i64 0]) ?_ 0 _ rfl; (with_reducible repeat (first | refine blk_drewN ?_ _ | refine blk_drew ?_ | refine blk_alloc ?_ _)); exact BK313.out⟩, ⟨by repeat (first | (with_reducible first | exact HB.out | apply below_alloc | apply pw_below_drewN | apply below_drew1 | refine below_set ?_ GE311.out | refine below_set ?_ GE313.out) | exact HB.out)⟩⟩
                              · rw [if_neg c29] at H
                                exact absurd H (by simp)
                            · as_aux_lemma =>
                              rw [if_neg c27] at H
                              have c27b0 : decide ((wrap64 (x6_8 + t312)) < (a0.size : Int)) = false := decide_eq_false c27
                              clear c27
                              (first | rw [c27b0] | (simp only [i64_w, i32_w]; rw [c27b0]) | skip)
                              have H' := Aside0.mk H
                              clear H
                              go_wp2
                              go_meet
                              case rel => exact ⟨_, (false), (by first | rfl | (simp; done) | (simp [*]; done)), H', ⟨by have := HJ1.out; have := HJ8.out; have := HJ11.out; first | omega | exact Nat.le_refl _⟩, ⟨by (with_reducible repeat (first | refine blk_drewN ?_ _ | refine blk_drew ?_ | refine blk_alloc ?_ _)); refine blk_far ?_ NB311_313.out _; (with_reducible repeat (first | refine blk_drewN ?_ _ | refine blk_drew ?_ | refine blk_alloc ?_ _)); refine blk_far ?_ NB311_313.out _; (with_reducible repeat (first | refine blk_drewN ?_ _ | refine blk_drew ?_ | refine blk_alloc ?_ _)); exact BK311.out⟩, ⟨by (with_reducible repeat (first | refine blk_drewN ?_ _ | refine blk_drew ?_ | refine blk_alloc ?_ _)); refine blk_put (cs := #[.string (a0.extract (x6_8 : Int).toNat ((wrap64 (x6_8 + t312)) : Int).toNat), .int .i64 0]) ?_ 1 _ rfl; (with_reducible repeat (first | refine blk_drewN ?_ _ | refine blk_drew ?_ | refine blk_alloc ?_ _)); refine blk_put (cs := #[.string (⟨#[]⟩ : ByteArray), .int .i64 0]) ?_ 0 _ rfl; (with_reducible repeat (first | refine blk_drewN ?_ _ | refine blk_drew ?_ | refine blk_alloc ?_ _)); exact BK313.out⟩, ⟨by repeat (first | (with_reducible first | exact HB.out | apply below_alloc | apply pw_below_drewN | apply below_drew1 | refine below_set ?_ GE311.out | refine below_set ?_ GE313.out) | exact HB.out)⟩⟩
                          case rest =>
                            as_aux_lemma =>
                            clear HC23
                            try clear c1
                            try clear p1
                            try clear q1
                            try clear hx1
                            try clear c2
                            try clear p2
                            try clear p3
                            try clear q3
                            try clear hx3
                            try clear c4
                            try clear c4b0
                            try clear c4b1
                            try clear c5
                            try clear p6
                            try clear c7
                            try clear c7b0
                            try clear c7b1
                            try clear p8
                            try clear q8
                            try clear hx8
                            try clear qi8
                            try clear c10
                            try clear c10b0
                            try clear c10b1
                            try clear c13
                            try clear c13b0
                            try clear c13b1
                            try clear c14
                            try clear c14b0
                            try clear c15
                            try clear c15b0
                            try clear c16
                            try clear c16b0
                            try clear p17
                            try clear q17
                            try clear hx17
                            try clear c18
                            try clear c20
                            try clear c20b0
                            try clear c20b1
                            try clear c21
                            try clear c21b0
                            try clear c21b1
                            try clear c22
                            try clear c22b0
                            try clear c22b1
                            try clear c25
                            try clear c27
                            try clear c27b0
                            try clear c29
                            try clear c29b0
                            try clear p30
                            try clear q30
                            try clear hx30
                            try clear hcz19_0
                            try clear hcz19_1
                            try clear hcz26_0
                            try clear hcz26_1
                            try clear hcz6_0
                            try clear hcz6_1
                            try clear hfz19_0
                            try clear hfz19_1
                            try clear hfz26_0
                            try clear hfz26_1
                            try clear hfz6_0
                            try clear hfz6_1
                            try clear p1
                            try clear p17
                            try clear p2
                            try clear p30
                            try clear p8
                            try clear q1
                            try clear q17
                            try clear q30
                            try clear q8
                            obtain ⟨kq, x60_22, rfl, HA, HJ22, BK311, BK313, HB⟩ := hcut
                            cases kq with
                            | zero => exact absurd HA.out (by simp [rhizomeref02_Read.j3])
                            | succ kj22 =>
                              have H := HA.out
                              clear HA
                              simp only [rhizomeref02_Read.j3] at H
                              have HC31 := Aside0.mk H
                              clear H
                              go_upto_if 60 with (fail)
                              go_cut [6] (fun v6 wc => ∃ (kq : Nat) (x6_30 : Int) (x312000_30 : ByteArray) (x312001_30 : Int) (x314000_30 : ByteArray) (x314001_30 : Int), v6 = .int .i64 x6_30 ∧ Aside0 (rhizomeref02_Read.j4 kq a0 ((bt a0 0) == 45) x6_30 x314000_30 x314001_30 = some (r1, r2, r3, r4)) ∧ Aside0 (kq ≤ kj22) ∧ Aside0 (wc.heap[gb311]? = some (.cells #[.string x312000_30, .int .i64 x312001_30] 39 (0, 0))) ∧ Aside0 (wc.heap[gb313]? = some (.cells #[.string x314000_30, .int .i64 x314001_30] 39 (0, 0))) ∧ Aside0 (Below w.heap.size w wc))
                              case first =>
                                as_aux_lemma =>
                                have H := HC31.out
                                clear HC31
                                by_cases c32 : x60_22 = true
                                · as_aux_lemma =>
                                  subst c32
                                  have H1 : ((rhizomeref02_digits.f kj22 a0 (wrap64 ((wrap64 (x6_8 + t312)) + 1))).bind fun t314 => (if t314 = 0 then (some (false, (⟨#[]⟩ : ByteArray), 0, false)) else (if 0 ≤ (wrap64 ((wrap64 (x6_8 + t312)) + 1)) then (if (wrap64 ((wrap64 (x6_8 + t312)) + 1)) ≤ (wrap64 ((wrap64 ((wrap64 (x6_8 + t312)) + 1)) + t314)) then (if (wrap64 ((wrap64 ((wrap64 (x6_8 + t312)) + 1)) + t314)) ≤ (a0.size : Int) then (if (a0.extract (x6_8 : Int).toNat ((wrap64 (x6_8 + t312)) : Int).toNat).size + (a0.extract ((wrap64 ((wrap64 (x6_8 + t312)) + 1)) : Int).toNat ((wrap64 ((wrap64 ((wrap64 (x6_8 + t312)) + 1)) + t314)) : Int).toNat).size ≤ 9223372036854775807 then (rhizomeref02_Read.j4 kj22 a0 ((bt a0 0) == 45) (wrap64 ((wrap64 (x6_8 + t312)) + (wrap64 (1 + t314)))) ((a0.extract (x6_8 : Int).toNat ((wrap64 (x6_8 + t312)) : Int).toNat) ++ (a0.extract ((wrap64 ((wrap64 (x6_8 + t312)) + 1)) : Int).toNat ((wrap64 ((wrap64 ((wrap64 (x6_8 + t312)) + 1)) + t314)) : Int).toNat)) (wrap64 (-t314))) else (none)) else (none)) else (none)) else (none)))) = some (r1, r2, r3, r4) := by rw [if_pos rfl] at H; exact H
                                  clear H
                                  have H := H1
                                  clear H1
                                  replace H := Option.bind_eq_some_iff.mp H
                                  obtain ⟨t314, A330, H⟩ := H
                                  replace H : (if t314 = 0 then (some (false, (⟨#[]⟩ : ByteArray), 0, false)) else (if 0 ≤ (wrap64 ((wrap64 (x6_8 + t312)) + 1)) then (if (wrap64 ((wrap64 (x6_8 + t312)) + 1)) ≤ (wrap64 ((wrap64 ((wrap64 (x6_8 + t312)) + 1)) + t314)) then (if (wrap64 ((wrap64 ((wrap64 (x6_8 + t312)) + 1)) + t314)) ≤ (a0.size : Int) then (if (a0.extract (x6_8 : Int).toNat ((wrap64 (x6_8 + t312)) : Int).toNat).size + (a0.extract ((wrap64 ((wrap64 (x6_8 + t312)) + 1)) : Int).toNat ((wrap64 ((wrap64 ((wrap64 (x6_8 + t312)) + 1)) + t314)) : Int).toNat).size ≤ 9223372036854775807 then (rhizomeref02_Read.j4 kj22 a0 ((bt a0 0) == 45) (wrap64 ((wrap64 (x6_8 + t312)) + (wrap64 (1 + t314)))) ((a0.extract (x6_8 : Int).toNat ((wrap64 (x6_8 + t312)) : Int).toNat) ++ (a0.extract ((wrap64 ((wrap64 (x6_8 + t312)) + 1)) : Int).toNat ((wrap64 ((wrap64 ((wrap64 (x6_8 + t312)) + 1)) + t314)) : Int).toNat)) (wrap64 (-t314))) else (none)) else (none)) else (none)) else (none))) = some (r1, r2, r3, r4) := H
                                  have A33 := Aside0.mk A330
                                  clear A330
                                  by_cases c34 : t314 = 0
                                  · as_aux_lemma =>
                                    rw [if_pos c34] at H
                                    have c34b0 : (t314 == 0) = true := beq_iff_eq.mpr c34
                                    have c34b1 : (t314 != 0) = false := bne_eq_false_iff_eq.mpr c34
                                    clear c34
                                    (first | rw [c34b0] | (simp only [i64_w, i32_w]; rw [c34b0]) | skip)
                                    simp only [Option.some.injEq, Prod.mk.injEq] at H
                                    obtain ⟨rfl, rfl, rfl, rfl⟩ := H
                                    go_wp2_with (first | ((with_reducible refine gate_callee (f := 47) rfl ?_); refine goesL_ (some 64) rfl rfl Tryz.func47 (by kernel_rfl) rfl #[.string a0, .int .i64 (wrap64 ((wrap64 (x6_8 + t312)) + 1))] rfl (by (try simp only [List.map_toArray, List.map_cons, List.map_nil]); first | done | rfl | (simp only [List.length_drop, List.length_take]; rfl)) ?_; (with_reducible refine (rhizomeref02_digits.calls kj22 a0 (wrap64 ((wrap64 (x6_8 + t312)) + 1)) t314 _ A33.out).mono ?_); rintro e w' ⟨rfl, ⟨nd, rfl⟩⟩; refine ⟨_, rfl, ?_⟩; (try (rw [drewN_self wc]; generalize hq_ : World.drewN wc _ = wc; have n0_ : Aside0 (wc.heap[gb311]? = some (.cells #[.string (⟨#[]⟩ : ByteArray), .int .i64 0] 39 (0, 0))) := ⟨by rw [← hq_]; exact (by (with_reducible repeat (first | refine blk_drewN ?_ _ | refine blk_drew ?_ | refine blk_alloc ?_ _)); exact BK311.out)⟩; have n1_ : Aside0 (wc.heap[gb313]? = some (.cells #[.string (a0.extract (x6_8 : Int).toNat ((wrap64 (x6_8 + t312)) : Int).toNat), .int .i64 0] 39 (0, 0))) := ⟨by rw [← hq_]; exact (by (with_reducible repeat (first | refine blk_drewN ?_ _ | refine blk_drew ?_ | refine blk_alloc ?_ _)); exact BK313.out)⟩; have n2_ : Aside0 (Below w.heap.size w wc) := ⟨by rw [← hq_]; exact (by repeat (first | (with_reducible first | exact HB.out | apply below_alloc | apply pw_below_drewN | apply below_drew1 | refine below_set ?_ GE311.out | refine below_set ?_ GE313.out) | exact HB.out))⟩; clear BK311 BK313 HB hq_; have BK311 := n0_; have BK313 := n1_; have HB := n2_; clear n0_ n1_ n2_)); have hnb35 := NB311_313.out; have hnc35 := NB313_311.out; have hcz36_0 : wc.cell? ⟨gb311, 0, none⟩ = some (.string (⟨#[]⟩ : ByteArray)) := (blk_cell BK311.out 0).trans rfl; have hcz36_1 : wc.cell? ⟨gb311, 1, none⟩ = some (.int .i64 0) := (blk_cell BK311.out 1).trans rfl; have hfz36_0 := blk_frozen BK311.out 0; have hfz36_1 := blk_frozen BK311.out 1))
                                    refine bodyPost_ret (results_list (rs := [.tmp 2, .cell 3 39, .tmp 4]) rfl (by simp) (.tmp (.cell gb311 39 #[.string (⟨#[]⟩ : ByteArray), .int .i64 0] (0, 0) _ rfl (by (with_reducible repeat (first | refine blk_drewN ?_ _ | refine blk_drew ?_ | refine blk_alloc ?_ _)); refine blk_put (cs := #[.string (⟨#[]⟩ : ByteArray), .int .i64 0]) ?_ 1 _ rfl; (with_reducible repeat (first | refine blk_drewN ?_ _ | refine blk_drew ?_ | refine blk_alloc ?_ _)); refine blk_put (cs := #[.string (⟨#[]⟩ : ByteArray), .int .i64 0]) ?_ 0 _ rfl; (with_reducible repeat (first | refine blk_drewN ?_ _ | refine blk_drew ?_ | refine blk_alloc ?_ _)); exact BK311.out) Tryz.underlying39 rfl (by kernel_rfl) (.tmp .nil)))) rfl ?_
                                    exact ⟨by first | rfl | (simp [errW_none, errW_some] <;> rfl) | (simp [*, errW_none, errW_some] <;> rfl), by repeat (first | (with_reducible first | exact HB.out | apply below_alloc | apply pw_below_drewN | apply below_drew1 | refine below_set ?_ GE311.out | refine below_set ?_ GE313.out) | exact HB.out)⟩
                                  · as_aux_lemma =>
                                    rw [if_neg c34] at H
                                    have c34b0 : (t314 == 0) = false := beq_eq_false_iff_ne.mpr c34
                                    have c34b1 : (t314 != 0) = true := bne_iff_ne.mpr c34
                                    (first | rw [c34b0] | (simp only [i64_w, i32_w]; rw [c34b0]) | skip)
                                    obtain ⟨ji37, hji37⟩ : ∃ j_ : Int, (wrap64 ((wrap64 (x6_8 + t312)) + 1)) = j_ := ⟨_, rfl⟩
                                    replace H : (if 0 ≤ (ji37) then (if (ji37) ≤ (wrap64 ((ji37) + t314)) then (if (wrap64 ((ji37) + t314)) ≤ (a0.size : Int) then (if (a0.extract (x6_8 : Int).toNat ((wrap64 (x6_8 + t312)) : Int).toNat).size + (a0.extract ((ji37) : Int).toNat ((wrap64 ((ji37) + t314)) : Int).toNat).size ≤ 9223372036854775807 then (rhizomeref02_Read.j4 kj22 a0 ((bt a0 0) == 45) (wrap64 ((wrap64 (x6_8 + t312)) + (wrap64 (1 + t314)))) ((a0.extract (x6_8 : Int).toNat ((wrap64 (x6_8 + t312)) : Int).toNat) ++ (a0.extract ((ji37) : Int).toNat ((wrap64 ((ji37) + t314)) : Int).toNat)) (wrap64 (-t314))) else (none)) else (none)) else (none)) else (none)) = some (r1, r2, r3, r4) := by first | (rw [hji37] at H; exact H) | (simp only [hji37] at H ⊢; exact H)
                                    (try rw [hji37] at A33)
                                    have hji37w : (IntKind.i64.wrap ((wrap64 (x6_8 + t312)) + 1)) = ji37 := (i64_w _).trans hji37
                                    by_cases c38 : 0 ≤ (ji37)
                                    · as_aux_lemma =>
                                      rw [if_pos c38] at H
                                      have c38b0 := eq_true c38
                                      have c38b1 : decide (0 ≤ (ji37)) = true := decide_eq_true c38
                                      clear c38
                                      by_cases c39 : (ji37) ≤ (wrap64 ((ji37) + t314))
                                      · as_aux_lemma =>
                                        rw [if_pos c39] at H
                                        have c39b0 := eq_true c39
                                        have c39b1 : decide ((ji37) ≤ (wrap64 ((ji37) + t314))) = true := decide_eq_true c39
                                        by_cases c40 : (wrap64 ((ji37) + t314)) ≤ (a0.size : Int)
                                        · as_aux_lemma =>
                                          rw [if_pos c40] at H
                                          have c40b0 := eq_true c40
                                          have c40b1 : decide ((wrap64 ((ji37) + t314)) ≤ (a0.size : Int)) = true := decide_eq_true c40
                                          by_cases c41 : (a0.extract (x6_8 : Int).toNat ((wrap64 (x6_8 + t312)) : Int).toNat).size + (a0.extract ((ji37) : Int).toNat ((wrap64 ((ji37) + t314)) : Int).toNat).size ≤ 9223372036854775807
                                          · as_aux_lemma =>
                                            rw [if_pos c41] at H
                                            have c41b0 := eq_true c41
                                            have c41b1 : decide ((a0.extract (x6_8 : Int).toNat ((wrap64 (x6_8 + t312)) : Int).toNat).size + (a0.extract ((ji37) : Int).toNat ((wrap64 ((ji37) + t314)) : Int).toNat).size ≤ 9223372036854775807) = true := decide_eq_true c41
                                            try have c41b2 : (9223372036854775807 < (a0.extract (x6_8 : Int).toNat ((wrap64 (x6_8 + t312)) : Int).toNat).size + (a0.extract ((ji37) : Int).toNat ((wrap64 ((ji37) + t314)) : Int).toNat).size) = False := eq_false (Nat.not_lt.2 c41)
                                            have H' := Aside0.mk H
                                            clear H
                                            try go_wp2_with (first | ((with_reducible refine gate_callee (f := 47) rfl ?_); refine goesL_ (some 64) rfl rfl Tryz.func47 (by kernel_rfl) rfl #[.string a0, .int .i64 ji37] rfl (by (try simp only [List.map_toArray, List.map_cons, List.map_nil]); first | done | (simp only [hji37]; rfl) | rfl | (simp only [List.length_drop, List.length_take]; rfl)) ?_; (with_reducible refine (rhizomeref02_digits.calls kj22 a0 ji37 t314 _ A33.out).mono ?_); rintro e w' ⟨rfl, ⟨nd, rfl⟩⟩; refine ⟨_, rfl, ?_⟩; (try (rw [drewN_self wc]; generalize hq_ : World.drewN wc _ = wc; have n0_ : Aside0 (wc.heap[gb311]? = some (.cells #[.string (⟨#[]⟩ : ByteArray), .int .i64 0] 39 (0, 0))) := ⟨by rw [← hq_]; exact (by (with_reducible repeat (first | refine blk_drewN ?_ _ | refine blk_drew ?_ | refine blk_alloc ?_ _)); exact BK311.out)⟩; have n1_ : Aside0 (wc.heap[gb313]? = some (.cells #[.string (a0.extract (x6_8 : Int).toNat ((wrap64 (x6_8 + t312)) : Int).toNat), .int .i64 0] 39 (0, 0))) := ⟨by rw [← hq_]; exact (by (with_reducible repeat (first | refine blk_drewN ?_ _ | refine blk_drew ?_ | refine blk_alloc ?_ _)); exact BK313.out)⟩; have n2_ : Aside0 (Below w.heap.size w wc) := ⟨by rw [← hq_]; exact (by repeat (first | (with_reducible first | exact HB.out | apply below_alloc | apply pw_below_drewN | apply below_drew1 | refine below_set ?_ GE311.out | refine below_set ?_ GE313.out) | exact HB.out))⟩; clear BK311 BK313 HB hq_; have BK311 := n0_; have BK313 := n1_; have HB := n2_; clear n0_ n1_ n2_))))
                                            have n0_ := Aside0.mk (blk_drew BK311.out)
                                            have n1_ := Aside0.mk (blk_drew BK313.out)
                                            have n2_ := Aside0.mk (below_drew1 HB.out)
                                            clear BK311
                                            clear BK313
                                            clear HB
                                            have BK311 := n0_
                                            have BK313 := n1_
                                            have HB := n2_
                                            clear n0_ n1_ n2_
                                            refine start_ (n := 13) (S := fun w' => w'.cell? ⟨gb313, 0, none⟩ = some (.string (a0.extract (x6_8 : Int).toNat ((wrap64 (x6_8 + t312)) : Int).toNat)) ∧ w'.cell? ⟨gb313, 1, none⟩ = some (.int .i64 0)) (ds := [12]) #[false, false, false, false, false, false, false, false, false, false, false, false, false] (by kernel_rfl) rfl rfl ⟨(blk_cell BK313.out 0).trans rfl, (blk_cell BK313.out 1).trans rfl⟩ (fun hHeld => ?_); refine with_tabW rhizomeref02_Read.tab16 rhizomeref02_Read.bits16 (fun HT_ HW_ => ?_)
                                            generalize wc.drew = w42 at BK311 BK313 HB hHeld ⊢
                                            refine pure_ (i := 0) (N := some 68) (v := ?_) (a' := ?_) #[true, false, false, false, false, false, false, false, false, false, false, false, false] rfl rfl (any_of HT_.out (by kernel_rfl)) (fun _ _ _ h => h) (Or.inl ⟨by rfl, ?_⟩) ?_ ?_
                                            rotate_left
                                            · intro w'
                                              go_simp
                                              with_reducible rfl
                                            rotate_left
                                            · simp only [Act.put, List.setIfInBounds_toArray, List.set_cons_zero, List.set_cons_succ, i64_w, i32_w]
                                              rfl
                                            refine pure_ (i := 2) (N := some 70) (v := ?_) (a' := ?_) #[true, false, true, false, false, false, false, false, false, false, false, false, false] rfl rfl (any_of HT_.out (by kernel_rfl)) (fun _ _ _ h => h) (Or.inl ⟨by rfl, ?_⟩) ?_ ?_
                                            rotate_left
                                            · intro w'
                                              go_simp
                                              with_reducible rfl
                                            rotate_left
                                            · simp only [Act.put, List.setIfInBounds_toArray, List.set_cons_zero, List.set_cons_succ, i64_w, i32_w]
                                              rfl
                                            refine pure_ (i := 3) (N := some 71) (v := ?_) (a' := ?_) #[true, false, true, true, false, false, false, false, false, false, false, false, false] rfl rfl (any_of HT_.out (by kernel_rfl)) (fun _ _ _ h => h) (Or.inl ⟨by rfl, ?_⟩) ?_ ?_
                                            rotate_left
                                            · intro w'
                                              go_simp
                                              with_reducible rfl
                                            rotate_left
                                            · simp only [Act.put, List.setIfInBounds_toArray, List.set_cons_zero, List.set_cons_succ, i64_w, i32_w]
                                              rfl
                                            refine pure_ (i := 4) (N := some 72) (v := ?_) (a' := ?_) #[true, false, true, true, true, false, false, false, false, false, false, false, false] rfl rfl (any_of HT_.out (by kernel_rfl)) (fun _ _ _ h => h) (Or.inl ⟨by rfl, ?_⟩) ?_ ?_
                                            rotate_left
                                            · intro w'
                                              go_simp
                                              with_reducible rfl
                                            rotate_left
                                            · simp only [Act.put, List.setIfInBounds_toArray, List.set_cons_zero, List.set_cons_succ, i64_w, i32_w]
                                              rfl
                                            refine pure_ (i := 5) (N := some 73) (v := ?_) (a' := ?_) #[true, false, true, true, true, true, false, false, false, false, false, false, false] rfl rfl (any_of HT_.out (by kernel_rfl)) (fun _ _ _ h => h) (Or.inl ⟨by rfl, ?_⟩) ?_ ?_
                                            rotate_left
                                            · intro w'
                                              go_simp
                                              with_reducible rfl
                                            rotate_left
                                            · simp only [Act.put, List.setIfInBounds_toArray, List.set_cons_zero, List.set_cons_succ, i64_w, i32_w]
                                              rfl
                                            refine pure_ (i := 6) (N := some 74) (v := ?_) (a' := ?_) #[true, false, true, true, true, true, true, false, false, false, false, false, false] rfl rfl (any_of HT_.out (by kernel_rfl)) (fun _ _ _ h => h) (Or.inl ⟨by rfl, ?_⟩) ?_ ?_
                                            rotate_left
                                            · intro w'
                                              go_simp
                                              with_reducible rfl
                                            rotate_left
                                            · simp only [Act.put, List.setIfInBounds_toArray, List.set_cons_zero, List.set_cons_succ, i64_w, i32_w]
                                              rfl
                                            refine pure_ (i := 7) (N := some 75) (v := ?_) (a' := ?_) #[true, false, true, true, true, true, true, true, false, false, false, false, false] rfl rfl (any_of HT_.out (by kernel_rfl)) (fun _ _ _ h => h) (Or.inl ⟨by rfl, ?_⟩) ?_ ?_
                                            rotate_left
                                            · intro w'
                                              go_simp
                                              with_reducible rfl
                                            rotate_left
                                            · simp only [Act.put, List.setIfInBounds_toArray, List.set_cons_zero, List.set_cons_succ, i64_w, i32_w]
                                              rfl
                                            refine pure_ (i := 8) (N := some 76) (v := ?_) (a' := ?_) #[true, false, true, true, true, true, true, true, true, false, false, false, false] rfl rfl (any_of HT_.out (by kernel_rfl)) (fun _ _ _ h => h) (Or.inl ⟨by rfl, ?_⟩) ?_ ?_
                                            rotate_left
                                            · intro w'
                                              go_simp
                                              with_reducible rfl
                                            rotate_left
                                            · simp only [Act.put, List.setIfInBounds_toArray, List.set_cons_zero, List.set_cons_succ, i64_w, i32_w]
                                              rfl
                                            refine pure_ (i := 9) (N := some 77) (v := ?_) (a' := ?_) #[true, false, true, true, true, true, true, true, true, true, false, false, false] rfl rfl (any_of HT_.out (by kernel_rfl)) (fun _ _ _ h => h) (Or.inl ⟨by rfl, ?_⟩) ?_ ?_
                                            rotate_left
                                            · intro w'
                                              go_simp
                                              with_reducible rfl
                                            rotate_left
                                            · simp only [Act.put, List.setIfInBounds_toArray, List.set_cons_zero, List.set_cons_succ, i64_w, i32_w]
                                              rfl
                                            refine take_ (i := 1) (N := some 69) (v := ?_) (a' := ?_) #[true, true, true, true, true, true, true, true, true, true, false, false, false] rfl rfl (take_ofW HT_.out HW_.out (by kernel_rfl)) (fun _ _ _ h => h) (Or.inl ⟨by rfl, ?_⟩) hHeld ?_ ?_
                                            rotate_left
                                            · rintro w' ⟨s0, s1⟩
                                              go_simp
                                              with_reducible rfl
                                            rotate_left
                                            · simp only [Act.put, List.setIfInBounds_toArray, List.set_cons_zero, List.set_cons_succ, i64_w, i32_w]
                                              rfl
                                            refine pure_ (i := 10) (N := some 78) (v := ?_) (a' := ?_) #[true, true, true, true, true, true, true, true, true, true, true, false, false] rfl rfl (any_of HT_.out (by kernel_rfl)) (fun _ _ _ h => h) (Or.inl ⟨by rfl, ?_⟩) ?_ ?_
                                            rotate_left
                                            · intro w'
                                              go_simp
                                              first | with_reducible rfl | (rw [if_neg (by have h := of_eq_false c41b2; simp only [ByteArray.size_extract] at h; omega)])
                                            rotate_left
                                            · simp only [Act.put, List.setIfInBounds_toArray, List.set_cons_zero, List.set_cons_succ, i64_w, i32_w]
                                              rfl
                                            refine pure_ (i := 11) (N := some 79) (v := ?_) (a' := ?_) #[true, true, true, true, true, true, true, true, true, true, true, true, false] rfl rfl (any_of HT_.out (by kernel_rfl)) (fun _ _ _ h => h) (Or.inl ⟨by rfl, ?_⟩) ?_ ?_
                                            rotate_left
                                            · intro w'
                                              go_simp
                                              with_reducible rfl
                                            rotate_left
                                            · simp only [Act.put, List.setIfInBounds_toArray, List.set_cons_zero, List.set_cons_succ, i64_w, i32_w]
                                              rfl
                                            refine last_ (i := 12) (N := none) #[true, true, true, true, true, true, true, true, true, true, true, true, true] rfl rfl (one_of HT_.out (by kernel_rfl)) (by decide) (fun K hK => ?_)
                                            have hs43 : w42.cell? ⟨gb313, 0, none⟩ = some (.string (a0.extract (x6_8 : Int).toNat ((wrap64 (x6_8 + t312)) : Int).toNat)) := (blk_cell BK313.out 0).trans rfl
                                            have hfs43 := blk_frozen BK313.out 0
                                            have hns43_0 := NB311_313.out
                                            have hms43_0 := NB313_311.out
                                            refine skip_ (w1 := ?_) (by rfl) rfl ?_ ?_
                                            rotate_left
                                            · go_simp
                                              rfl
                                            refine hK.out _ _ ?_
                                            clear hK K
                                            refine done_ (done_of HT_.out (by kernel_rfl)) ?_
                                            have hnb44 := NB313_311.out
                                            have hnc44 := NB311_313.out
                                            have hcz45_0 : w42.cell? ⟨gb313, 0, none⟩ = some (.string (a0.extract (x6_8 : Int).toNat ((wrap64 (x6_8 + t312)) : Int).toNat)) := (blk_cell BK313.out 0).trans rfl
                                            have hcz45_1 : w42.cell? ⟨gb313, 1, none⟩ = some (.int .i64 0) := (blk_cell BK313.out 1).trans rfl
                                            have hfz45_0 := blk_frozen BK313.out 0
                                            have hfz45_1 := blk_frozen BK313.out 1
                                            try go_wp2
                                            go_meet
                                            case rel => exact ⟨_, (wrap64 ((wrap64 (x6_8 + t312)) + (wrap64 (1 + t314)))), ((⟨#[]⟩ : ByteArray)), (0), ((a0.extract (x6_8 : Int).toNat ((wrap64 (x6_8 + t312)) : Int).toNat) ++ (a0.extract ((ji37) : Int).toNat ((wrap64 ((ji37) + t314)) : Int).toNat)), (wrap64 (-t314)), (by first | rfl | (simp; done) | (simp [*]; done)), H', ⟨by have := HJ1.out; have := HJ8.out; have := HJ11.out; have := HJ22.out; first | omega | exact Nat.le_refl _⟩, ⟨by (with_reducible repeat (first | refine blk_drewN ?_ _ | refine blk_drew ?_ | refine blk_alloc ?_ _)); refine blk_far ?_ NB311_313.out _; (with_reducible repeat (first | refine blk_drewN ?_ _ | refine blk_drew ?_ | refine blk_alloc ?_ _)); refine blk_far ?_ NB311_313.out _; (with_reducible repeat (first | refine blk_drewN ?_ _ | refine blk_drew ?_ | refine blk_alloc ?_ _)); exact BK311.out⟩, ⟨by (with_reducible repeat (first | refine blk_drewN ?_ _ | refine blk_drew ?_ | refine blk_alloc ?_ _)); refine blk_put (cs := #[.string ((a0.extract (x6_8 : Int).toNat ((wrap64 (x6_8 + t312)) : Int).toNat) ++ (a0.extract ((ji37) : Int).toNat ((wrap64 ((ji37) + t314)) : Int).toNat)), .int .i64 0]) ?_ 1 _ rfl; (with_reducible repeat (first | refine blk_drewN ?_ _ | refine blk_drew ?_ | refine blk_alloc ?_ _)); refine blk_put (cs := #[.string (a0.extract (x6_8 : Int).toNat ((wrap64 (x6_8 + t312)) : Int).toNat), .int .i64 0]) ?_ 0 _ rfl; (with_reducible repeat (first | refine blk_drewN ?_ _ | refine blk_drew ?_ | refine blk_alloc ?_ _)); exact BK313.out⟩, ⟨by repeat (first | (with_reducible first | exact HB.out | apply below_alloc | apply pw_below_drewN | apply below_drew1 | refine below_set ?_ GE311.out | refine below_set ?_ GE313.out) | exact HB.out)⟩⟩
                                          · rw [if_neg c41] at H
                                            exact absurd H (by simp)
                                        · rw [if_neg c40] at H
                                          exact absurd H (by simp)
                                      · rw [if_neg c39] at H
                                        exact absurd H (by simp)
                                    · rw [if_neg c38] at H
                                      exact absurd H (by simp)
                                · as_aux_lemma =>
                                  replace c32 := Bool.eq_false_iff.mpr c32
                                  subst c32
                                  have H1 : (rhizomeref02_Read.j4 kj22 a0 ((bt a0 0) == 45) (wrap64 (x6_8 + t312)) (a0.extract (x6_8 : Int).toNat ((wrap64 (x6_8 + t312)) : Int).toNat) 0) = some (r1, r2, r3, r4) := by rw [if_neg (show ¬ (false = true) by decide)] at H; exact H
                                  clear H
                                  have H := H1
                                  clear H1
                                  have H' := Aside0.mk H
                                  clear H
                                  go_wp2
                                  go_meet
                                  case rel => exact ⟨_, ((wrap64 (x6_8 + t312))), ((⟨#[]⟩ : ByteArray)), (0), ((a0.extract (x6_8 : Int).toNat ((wrap64 (x6_8 + t312)) : Int).toNat)), (0), (by first | rfl | (simp; done) | (simp [*]; done)), H', ⟨by have := HJ1.out; have := HJ8.out; have := HJ11.out; have := HJ22.out; first | omega | exact Nat.le_refl _⟩, ⟨by (with_reducible repeat (first | refine blk_drewN ?_ _ | refine blk_drew ?_ | refine blk_alloc ?_ _)); exact BK311.out⟩, ⟨by (with_reducible repeat (first | refine blk_drewN ?_ _ | refine blk_drew ?_ | refine blk_alloc ?_ _)); exact BK313.out⟩, ⟨by repeat (first | (with_reducible first | exact HB.out | apply below_alloc | apply pw_below_drewN | apply below_drew1 | refine below_set ?_ GE311.out | refine below_set ?_ GE313.out) | exact HB.out)⟩⟩
                              case rest =>
                                as_aux_lemma =>
                                clear HC31
                                try clear c1
                                try clear p1
                                try clear q1
                                try clear hx1
                                try clear c2
                                try clear p2
                                try clear c3
                                try clear p3
                                try clear q3
                                try clear hx3
                                try clear c4
                                try clear c4b0
                                try clear c4b1
                                try clear c5
                                try clear p6
                                try clear c7
                                try clear c7b0
                                try clear c7b1
                                try clear p8
                                try clear q8
                                try clear hx8
                                try clear qi8
                                try clear c10
                                try clear c10b0
                                try clear c10b1
                                try clear c13
                                try clear c13b0
                                try clear c13b1
                                try clear c14
                                try clear c14b0
                                try clear c15
                                try clear c15b0
                                try clear c16
                                try clear c16b0
                                try clear p17
                                try clear q17
                                try clear hx17
                                try clear c18
                                try clear c20
                                try clear c20b0
                                try clear c20b1
                                try clear c21
                                try clear c21b0
                                try clear c21b1
                                try clear c22
                                try clear c22b0
                                try clear c22b1
                                try clear c25
                                try clear c27
                                try clear c27b0
                                try clear c29
                                try clear c29b0
                                try clear p30
                                try clear q30
                                try clear hx30
                                try clear c32
                                try clear c34
                                try clear c34b0
                                try clear c34b1
                                try clear c35
                                try clear c38
                                try clear c38b0
                                try clear c38b1
                                try clear c39
                                try clear c39b0
                                try clear c39b1
                                try clear c40
                                try clear c40b0
                                try clear c40b1
                                try clear c41
                                try clear c41b0
                                try clear c41b1
                                try clear c41b2
                                try clear c44
                                try clear hcz19_0
                                try clear hcz19_1
                                try clear hcz26_0
                                try clear hcz26_1
                                try clear hcz36_0
                                try clear hcz36_1
                                try clear hcz45_0
                                try clear hcz45_1
                                try clear hcz6_0
                                try clear hcz6_1
                                try clear hfz19_0
                                try clear hfz19_1
                                try clear hfz26_0
                                try clear hfz26_1
                                try clear hfz36_0
                                try clear hfz36_1
                                try clear hfz45_0
                                try clear hfz45_1
                                try clear hfz6_0
                                try clear hfz6_1
                                try clear p1
                                try clear p17
                                try clear p2
                                try clear p3
                                try clear p30
                                try clear p6
                                try clear p8
                                try clear q1
                                try clear q17
                                try clear q3
                                try clear q30
                                try clear q8
                                obtain ⟨kq, x6_30, x312000_30, x312001_30, x314000_30, x314001_30, rfl, HA, HJ30, BK311, BK313, HB⟩ := hcut
                                cases kq with
                                | zero => exact absurd HA.out (by simp [rhizomeref02_Read.j4])
                                | succ kj30 =>
                                  have H := HA.out
                                  clear HA
                                  simp only [rhizomeref02_Read.j4] at H
                                  have HC46 := Aside0.mk H
                                  clear H
                                  go_upto_region 19 with (fail)
                                  go_cut [102] (fun v102 wc => ∃ (kq : Nat) (x102_45 : Bool), v102 = .bool x102_45 ∧ Aside0 (rhizomeref02_Read.j5 kq a0 ((bt a0 0) == 45) x6_30 x102_45 x314000_30 x314001_30 = some (r1, r2, r3, r4)) ∧ Aside0 (kq ≤ kj30) ∧ Aside0 (wc.heap[gb311]? = some (.cells #[.string x312000_30, .int .i64 x312001_30] 39 (0, 0))) ∧ Aside0 (wc.heap[gb313]? = some (.cells #[.string x314000_30, .int .i64 x314001_30] 39 (0, 0))) ∧ Aside0 (Below w.heap.size w wc))
                                  case first =>
                                    as_aux_lemma =>
                                    have H := HC46.out
                                    clear HC46
                                    by_cases c47 : x6_30 < (a0.size : Int)
                                    · as_aux_lemma =>
                                      rw [if_pos c47] at H
                                      have c47b0 : decide (x6_30 < (a0.size : Int)) = true := decide_eq_true c47
                                      clear c47
                                      (first | rw [c47b0] | (simp only [i64_w, i32_w]; rw [c47b0]) | skip)
                                      by_cases c48 : 0 ≤ x6_30
                                      · as_aux_lemma =>
                                        rw [if_pos c48] at H
                                        have c48b0 : decide (0 ≤ x6_30) = true := decide_eq_true c48
                                        clear c48
                                        by_cases c50 : (bt a0 x6_30) = 101
                                        · as_aux_lemma =>
                                          rw [if_pos c50] at H
                                          have c50b0 : ((bt a0 x6_30) == 101) = true := beq_iff_eq.mpr c50
                                          have c50b1 : ((bt a0 x6_30) != 101) = false := bne_eq_false_iff_eq.mpr c50
                                          clear c50
                                          have H' := Aside0.mk H
                                          clear H
                                          have p49 : 0 ≤ (x6_30 : Int) := of_decide_eq_true (by first | (with_reducible assumption) | assumption)
                                          have q49 : x6_30 < (a0.size : Int) := of_decide_eq_true (by first | (with_reducible assumption) | assumption)
                                          have hx49 := bt_at a0 x6_30
                                          replace p49 := eq_true p49
                                          replace q49 := eq_true q49
                                          go_wp2
                                          go_meet
                                          case rel => exact ⟨_, (true), (by first | rfl | (simp; done) | (simp [*]; done)), H', ⟨by have := HJ1.out; have := HJ8.out; have := HJ11.out; have := HJ22.out; have := HJ30.out; first | omega | exact Nat.le_refl _⟩, ⟨by (with_reducible repeat (first | refine blk_drewN ?_ _ | refine blk_drew ?_ | refine blk_alloc ?_ _)); exact BK311.out⟩, ⟨by (with_reducible repeat (first | refine blk_drewN ?_ _ | refine blk_drew ?_ | refine blk_alloc ?_ _)); exact BK313.out⟩, ⟨by repeat (first | (with_reducible first | exact HB.out | apply below_alloc | apply pw_below_drewN | apply below_drew1 | refine below_set ?_ GE311.out | refine below_set ?_ GE313.out) | exact HB.out)⟩⟩
                                        · as_aux_lemma =>
                                          rw [if_neg c50] at H
                                          have c50b0 : ((bt a0 x6_30) == 101) = false := beq_eq_false_iff_ne.mpr c50
                                          have c50b1 : ((bt a0 x6_30) != 101) = true := bne_iff_ne.mpr c50
                                          have H' := Aside0.mk H
                                          clear H
                                          have p49 : 0 ≤ (x6_30 : Int) := of_decide_eq_true (by first | (with_reducible assumption) | assumption)
                                          have q49 : x6_30 < (a0.size : Int) := of_decide_eq_true (by first | (with_reducible assumption) | assumption)
                                          have hx49 := bt_at a0 x6_30
                                          replace p49 := eq_true p49
                                          replace q49 := eq_true q49
                                          have p51 : 0 ≤ (x6_30 : Int) := of_decide_eq_true (by first | (with_reducible assumption) | assumption)
                                          have q51 : x6_30 < (a0.size : Int) := of_decide_eq_true (by first | (with_reducible assumption) | assumption)
                                          have hx51 := bt_at a0 x6_30
                                          replace p51 := eq_true p51
                                          replace q51 := eq_true q51
                                          go_wp2
                                          go_meet
                                          case rel => exact ⟨_, (((bt a0 x6_30) == 69)), (by first | rfl | (simp; done) | (simp [*]; done)), H', ⟨by have := HJ1.out; have := HJ8.out; have := HJ11.out; have := HJ22.out; have := HJ30.out; first | omega | exact Nat.le_refl _⟩, ⟨by (with_reducible repeat (first | refine blk_drewN ?_ _ | refine blk_drew ?_ | refine blk_alloc ?_ _)); exact BK311.out⟩, ⟨by (with_reducible repeat (first | refine blk_drewN ?_ _ | refine blk_drew ?_ | refine blk_alloc ?_ _)); exact BK313.out⟩, ⟨by repeat (first | (with_reducible first | exact HB.out | apply below_alloc | apply pw_below_drewN | apply below_drew1 | refine below_set ?_ GE311.out | refine below_set ?_ GE313.out) | exact HB.out)⟩⟩
                                      · rw [if_neg c48] at H
                                        exact absurd H (by simp)
                                    · as_aux_lemma =>
                                      rw [if_neg c47] at H
                                      have c47b0 : decide (x6_30 < (a0.size : Int)) = false := decide_eq_false c47
                                      clear c47
                                      (first | rw [c47b0] | (simp only [i64_w, i32_w]; rw [c47b0]) | skip)
                                      have H' := Aside0.mk H
                                      clear H
                                      go_wp2
                                      go_meet
                                      case rel => exact ⟨_, (false), (by first | rfl | (simp; done) | (simp [*]; done)), H', ⟨by have := HJ1.out; have := HJ8.out; have := HJ11.out; have := HJ22.out; have := HJ30.out; first | omega | exact Nat.le_refl _⟩, ⟨by (with_reducible repeat (first | refine blk_drewN ?_ _ | refine blk_drew ?_ | refine blk_alloc ?_ _)); exact BK311.out⟩, ⟨by (with_reducible repeat (first | refine blk_drewN ?_ _ | refine blk_drew ?_ | refine blk_alloc ?_ _)); exact BK313.out⟩, ⟨by repeat (first | (with_reducible first | exact HB.out | apply below_alloc | apply pw_below_drewN | apply below_drew1 | refine below_set ?_ GE311.out | refine below_set ?_ GE313.out) | exact HB.out)⟩⟩
                                  case rest =>
                                    as_aux_lemma =>
                                    clear HC46
                                    try clear c1
                                    try clear p1
                                    try clear q1
                                    try clear hx1
                                    try clear c2
                                    try clear p2
                                    try clear c3
                                    try clear p3
                                    try clear q3
                                    try clear hx3
                                    try clear c4
                                    try clear c4b0
                                    try clear c4b1
                                    try clear p4
                                    try clear q4
                                    try clear hx4
                                    try clear c5
                                    try clear p5
                                    try clear q5
                                    try clear hx5
                                    try clear p6
                                    try clear c7
                                    try clear c7b0
                                    try clear c7b1
                                    try clear p8
                                    try clear q8
                                    try clear hx8
                                    try clear qi8
                                    try clear c10
                                    try clear c10b0
                                    try clear c10b1
                                    try clear c13
                                    try clear c13b0
                                    try clear c13b1
                                    try clear c14
                                    try clear c14b0
                                    try clear c15
                                    try clear c15b0
                                    try clear c16
                                    try clear c16b0
                                    try clear p17
                                    try clear q17
                                    try clear hx17
                                    try clear c18
                                    try clear c20
                                    try clear c20b0
                                    try clear c20b1
                                    try clear c21
                                    try clear c21b0
                                    try clear c21b1
                                    try clear c22
                                    try clear c22b0
                                    try clear c22b1
                                    try clear c25
                                    try clear c27
                                    try clear c27b0
                                    try clear c29
                                    try clear c29b0
                                    try clear p30
                                    try clear q30
                                    try clear hx30
                                    try clear c32
                                    try clear c34
                                    try clear c34b0
                                    try clear c34b1
                                    try clear c35
                                    try clear c38
                                    try clear c38b0
                                    try clear c38b1
                                    try clear c39
                                    try clear c39b0
                                    try clear c39b1
                                    try clear c40
                                    try clear c40b0
                                    try clear c40b1
                                    try clear c41
                                    try clear c41b0
                                    try clear c41b1
                                    try clear c41b2
                                    try clear c44
                                    try clear c47
                                    try clear c47b0
                                    try clear c48
                                    try clear c48b0
                                    try clear p49
                                    try clear q49
                                    try clear hx49
                                    try clear c50
                                    try clear c50b0
                                    try clear c50b1
                                    try clear p51
                                    try clear q51
                                    try clear hx51
                                    try clear hcz19_0
                                    try clear hcz19_1
                                    try clear hcz26_0
                                    try clear hcz26_1
                                    try clear hcz36_0
                                    try clear hcz36_1
                                    try clear hcz45_0
                                    try clear hcz45_1
                                    try clear hcz6_0
                                    try clear hcz6_1
                                    try clear hfz19_0
                                    try clear hfz19_1
                                    try clear hfz26_0
                                    try clear hfz26_1
                                    try clear hfz36_0
                                    try clear hfz36_1
                                    try clear hfz45_0
                                    try clear hfz45_1
                                    try clear hfz6_0
                                    try clear hfz6_1
                                    try clear p1
                                    try clear p17
                                    try clear p2
                                    try clear p3
                                    try clear p30
                                    try clear p49
                                    try clear p51
                                    try clear p6
                                    try clear p8
                                    try clear q1
                                    try clear q17
                                    try clear q3
                                    try clear q30
                                    try clear q49
                                    try clear q51
                                    try clear q8
                                    obtain ⟨kq, x102_45, rfl, HA, HJ45, BK311, BK313, HB⟩ := hcut
                                    cases kq with
                                    | zero => exact absurd HA.out (by simp [rhizomeref02_Read.j5])
                                    | succ kj45 =>
                                      have H := HA.out
                                      clear HA
                                      simp only [rhizomeref02_Read.j5] at H
                                      by_cases c52 : x102_45 = true
                                      · as_aux_lemma =>
                                        subst c52
                                        have H1 : (if (wrap64 (x6_30 + 1)) < (a0.size : Int) then (if 0 ≤ (wrap64 (x6_30 + 1)) then (rhizomeref02_Read.j6 kj45 a0 ((bt a0 0) == 45) (wrap64 (x6_30 + 1)) ((bt a0 (wrap64 (x6_30 + 1))) == 45) x314000_30 x314001_30) else (none)) else (rhizomeref02_Read.j6 kj45 a0 ((bt a0 0) == 45) (wrap64 (x6_30 + 1)) false x314000_30 x314001_30)) = some (r1, r2, r3, r4) := by rw [if_pos rfl] at H; exact H
                                        clear H
                                        have H := H1
                                        clear H1
                                        have HC53 := Aside0.mk H
                                        clear H
                                        go_upto_region 21 with (fail)
                                        go_cut [9] (fun v9 wc => ∃ (kq : Nat) (x9_52 : Bool), v9 = .bool x9_52 ∧ Aside0 (rhizomeref02_Read.j6 kq a0 ((bt a0 0) == 45) (wrap64 (x6_30 + 1)) x9_52 x314000_30 x314001_30 = some (r1, r2, r3, r4)) ∧ Aside0 (kq ≤ kj45) ∧ Aside0 (wc.heap[gb311]? = some (.cells #[.string x312000_30, .int .i64 x312001_30] 39 (0, 0))) ∧ Aside0 (wc.heap[gb313]? = some (.cells #[.string x314000_30, .int .i64 x314001_30] 39 (0, 0))) ∧ Aside0 (Below w.heap.size w wc))
                                        case first =>
                                          as_aux_lemma =>
                                          have H := HC53.out
                                          clear HC53
                                          by_cases c54 : (wrap64 (x6_30 + 1)) < (a0.size : Int)
                                          · as_aux_lemma =>
                                            rw [if_pos c54] at H
                                            have c54b0 : decide ((wrap64 (x6_30 + 1)) < (a0.size : Int)) = true := decide_eq_true c54
                                            clear c54
                                            (first | rw [c54b0] | (simp only [i64_w, i32_w]; rw [c54b0]) | skip)
                                            obtain ⟨ji55, hji55⟩ : ∃ j_ : Int, (wrap64 (x6_30 + 1)) = j_ := ⟨_, rfl⟩
                                            replace H : (if 0 ≤ (ji55) then (rhizomeref02_Read.j6 kj45 a0 ((bt a0 0) == 45) ji55 ((bt a0 (ji55)) == 45) x314000_30 x314001_30) else (none)) = some (r1, r2, r3, r4) := by first | (rw [hji55] at H; exact H) | (simp only [hji55] at H ⊢; exact H)
                                            (try rw [hji55] at c54b0)
                                            have hji55w : (IntKind.i64.wrap (x6_30 + 1)) = ji55 := (i64_w _).trans hji55
                                            by_cases c56 : 0 ≤ (ji55)
                                            · as_aux_lemma =>
                                              rw [if_pos c56] at H
                                              have c56b0 : decide (0 ≤ (ji55)) = true := decide_eq_true c56
                                              clear c56
                                              have H' := Aside0.mk H
                                              clear H
                                              have p57 : 0 ≤ ((ji55) : Int) := of_decide_eq_true (by first | (with_reducible assumption) | assumption)
                                              have q57 : (ji55) < (a0.size : Int) := of_decide_eq_true (by first | (with_reducible assumption) | assumption)
                                              have hx57 := bt_at a0 (ji55)
                                              replace p57 := eq_true p57
                                              replace q57 := eq_true q57
                                              go_wp2
                                              go_meet
                                              case rel => exact ⟨_, (((bt a0 (ji55)) == 45)), (by first | rfl | (simp; done) | (simp only [← hji55] <;> (first | rfl | simp)) | (simp [*]; done)), (by first | exact H' | (rw [hji55]; exact H')), ⟨by have := HJ1.out; have := HJ8.out; have := HJ11.out; have := HJ22.out; have := HJ30.out; have := HJ45.out; first | omega | exact Nat.le_refl _⟩, ⟨by (with_reducible repeat (first | refine blk_drewN ?_ _ | refine blk_drew ?_ | refine blk_alloc ?_ _)); exact BK311.out⟩, ⟨by (with_reducible repeat (first | refine blk_drewN ?_ _ | refine blk_drew ?_ | refine blk_alloc ?_ _)); exact BK313.out⟩, ⟨by repeat (first | (with_reducible first | exact HB.out | apply below_alloc | apply pw_below_drewN | apply below_drew1 | refine below_set ?_ GE311.out | refine below_set ?_ GE313.out) | exact HB.out)⟩⟩
                                            · rw [if_neg c56] at H
                                              exact absurd H (by simp)
                                          · as_aux_lemma =>
                                            rw [if_neg c54] at H
                                            have c54b0 : decide ((wrap64 (x6_30 + 1)) < (a0.size : Int)) = false := decide_eq_false c54
                                            clear c54
                                            (first | rw [c54b0] | (simp only [i64_w, i32_w]; rw [c54b0]) | skip)
                                            have H' := Aside0.mk H
                                            clear H
                                            go_wp2
                                            go_meet
                                            case rel => exact ⟨_, (false), (by first | rfl | (simp; done) | (simp [*]; done)), H', ⟨by have := HJ1.out; have := HJ8.out; have := HJ11.out; have := HJ22.out; have := HJ30.out; have := HJ45.out; first | omega | exact Nat.le_refl _⟩, ⟨by (with_reducible repeat (first | refine blk_drewN ?_ _ | refine blk_drew ?_ | refine blk_alloc ?_ _)); exact BK311.out⟩, ⟨by (with_reducible repeat (first | refine blk_drewN ?_ _ | refine blk_drew ?_ | refine blk_alloc ?_ _)); exact BK313.out⟩, ⟨by repeat (first | (with_reducible first | exact HB.out | apply below_alloc | apply pw_below_drewN | apply below_drew1 | refine below_set ?_ GE311.out | refine below_set ?_ GE313.out) | exact HB.out)⟩⟩
                                        case rest =>
                                          as_aux_lemma =>
                                          clear HC53
                                          try clear c1
                                          try clear p1
                                          try clear q1
                                          try clear hx1
                                          try clear c2
                                          try clear p2
                                          try clear c3
                                          try clear p3
                                          try clear q3
                                          try clear hx3
                                          try clear c4
                                          try clear c4b0
                                          try clear c4b1
                                          try clear p4
                                          try clear q4
                                          try clear hx4
                                          try clear c5
                                          try clear p5
                                          try clear q5
                                          try clear hx5
                                          try clear p6
                                          try clear c7
                                          try clear c7b0
                                          try clear c7b1
                                          try clear p8
                                          try clear q8
                                          try clear hx8
                                          try clear qi8
                                          try clear c10
                                          try clear c10b0
                                          try clear c10b1
                                          try clear c13
                                          try clear c13b0
                                          try clear c13b1
                                          try clear c14
                                          try clear c14b0
                                          try clear c15
                                          try clear c15b0
                                          try clear c16
                                          try clear c16b0
                                          try clear p17
                                          try clear q17
                                          try clear hx17
                                          try clear c18
                                          try clear c20
                                          try clear c20b0
                                          try clear c20b1
                                          try clear c21
                                          try clear c21b0
                                          try clear c21b1
                                          try clear c22
                                          try clear c22b0
                                          try clear c22b1
                                          try clear c25
                                          try clear c27
                                          try clear c27b0
                                          try clear c29
                                          try clear c29b0
                                          try clear p30
                                          try clear q30
                                          try clear hx30
                                          try clear c32
                                          try clear c34
                                          try clear c34b0
                                          try clear c34b1
                                          try clear c35
                                          try clear c38
                                          try clear c38b0
                                          try clear c38b1
                                          try clear c39
                                          try clear c39b0
                                          try clear c39b1
                                          try clear c40
                                          try clear c40b0
                                          try clear c40b1
                                          try clear c41
                                          try clear c41b0
                                          try clear c41b1
                                          try clear c41b2
                                          try clear c44
                                          try clear c47
                                          try clear c47b0
                                          try clear c48
                                          try clear c48b0
                                          try clear p49
                                          try clear q49
                                          try clear hx49
                                          try clear c50
                                          try clear c50b0
                                          try clear c50b1
                                          try clear p51
                                          try clear q51
                                          try clear hx51
                                          try clear c52
                                          try clear c54
                                          try clear c54b0
                                          try clear c56
                                          try clear c56b0
                                          try clear p57
                                          try clear q57
                                          try clear hx57
                                          try clear hcz19_0
                                          try clear hcz19_1
                                          try clear hcz26_0
                                          try clear hcz26_1
                                          try clear hcz36_0
                                          try clear hcz36_1
                                          try clear hcz45_0
                                          try clear hcz45_1
                                          try clear hcz6_0
                                          try clear hcz6_1
                                          try clear hfz19_0
                                          try clear hfz19_1
                                          try clear hfz26_0
                                          try clear hfz26_1
                                          try clear hfz36_0
                                          try clear hfz36_1
                                          try clear hfz45_0
                                          try clear hfz45_1
                                          try clear hfz6_0
                                          try clear hfz6_1
                                          try clear p1
                                          try clear p17
                                          try clear p2
                                          try clear p3
                                          try clear p30
                                          try clear p4
                                          try clear p49
                                          try clear p5
                                          try clear p51
                                          try clear p57
                                          try clear p6
                                          try clear p8
                                          try clear q1
                                          try clear q17
                                          try clear q3
                                          try clear q30
                                          try clear q4
                                          try clear q49
                                          try clear q5
                                          try clear q51
                                          try clear q57
                                          try clear q8
                                          obtain ⟨kq, x9_52, rfl, HA, HJ52, BK311, BK313, HB⟩ := hcut
                                          cases kq with
                                          | zero => exact absurd HA.out (by simp [rhizomeref02_Read.j6])
                                          | succ kj52 =>
                                            have H := HA.out
                                            clear HA
                                            simp only [rhizomeref02_Read.j6] at H
                                            have HC58 := Aside0.mk H
                                            clear H
                                            go_upto_region 22 with (fail)
                                            go_cut [130] (fun v130 wc => ∃ (kq : Nat) (x130_57 : Bool), v130 = .bool x130_57 ∧ Aside0 (rhizomeref02_Read.j7 kq a0 ((bt a0 0) == 45) (wrap64 (x6_30 + 1)) x9_52 x130_57 x314000_30 x314001_30 = some (r1, r2, r3, r4)) ∧ Aside0 (kq ≤ kj52) ∧ Aside0 (wc.heap[gb311]? = some (.cells #[.string x312000_30, .int .i64 x312001_30] 39 (0, 0))) ∧ Aside0 (wc.heap[gb313]? = some (.cells #[.string x314000_30, .int .i64 x314001_30] 39 (0, 0))) ∧ Aside0 (Below w.heap.size w wc))
                                            case first =>
                                              as_aux_lemma =>
                                              have H := HC58.out
                                              clear HC58
                                              by_cases c59 : (wrap64 (x6_30 + 1)) < (a0.size : Int)
                                              · as_aux_lemma =>
                                                rw [if_pos c59] at H
                                                have c59b0 : decide ((wrap64 (x6_30 + 1)) < (a0.size : Int)) = true := decide_eq_true c59
                                                clear c59
                                                (first | rw [c59b0] | (simp only [i64_w, i32_w]; rw [c59b0]) | skip)
                                                obtain ⟨ji60, hji60⟩ : ∃ j_ : Int, (wrap64 (x6_30 + 1)) = j_ := ⟨_, rfl⟩
                                                replace H : (if 0 ≤ (ji60) then (if (bt a0 (ji60)) = 45 then (rhizomeref02_Read.j7 kj52 a0 ((bt a0 0) == 45) (ji60) x9_52 true x314000_30 x314001_30) else (rhizomeref02_Read.j7 kj52 a0 ((bt a0 0) == 45) (ji60) x9_52 ((bt a0 (ji60)) == 43) x314000_30 x314001_30)) else (none)) = some (r1, r2, r3, r4) := by first | (rw [hji60] at H; exact H) | (simp only [hji60] at H ⊢; exact H)
                                                (try rw [hji60] at c59b0)
                                                have hji60w : (IntKind.i64.wrap (x6_30 + 1)) = ji60 := (i64_w _).trans hji60
                                                by_cases c61 : 0 ≤ (ji60)
                                                · as_aux_lemma =>
                                                  rw [if_pos c61] at H
                                                  have c61b0 : decide (0 ≤ (ji60)) = true := decide_eq_true c61
                                                  clear c61
                                                  by_cases c63 : (bt a0 (ji60)) = 45
                                                  · as_aux_lemma =>
                                                    rw [if_pos c63] at H
                                                    have c63b0 : ((bt a0 (ji60)) == 45) = true := beq_iff_eq.mpr c63
                                                    have c63b1 : ((bt a0 (ji60)) != 45) = false := bne_eq_false_iff_eq.mpr c63
                                                    clear c63
                                                    have H' := Aside0.mk H
                                                    clear H
                                                    have p62 : 0 ≤ ((ji60) : Int) := of_decide_eq_true (by first | (with_reducible assumption) | assumption)
                                                    have q62 : (ji60) < (a0.size : Int) := of_decide_eq_true (by first | (with_reducible assumption) | assumption)
                                                    have hx62 := bt_at a0 (ji60)
                                                    replace p62 := eq_true p62
                                                    replace q62 := eq_true q62
                                                    go_wp2
                                                    go_meet
                                                    case rel => exact ⟨_, (true), (by first | rfl | (simp; done) | (simp [*]; done)), (by first | exact H' | (rw [hji60]; exact H')), ⟨by have := HJ1.out; have := HJ8.out; have := HJ11.out; have := HJ22.out; have := HJ30.out; have := HJ45.out; have := HJ52.out; first | omega | exact Nat.le_refl _⟩, ⟨by (with_reducible repeat (first | refine blk_drewN ?_ _ | refine blk_drew ?_ | refine blk_alloc ?_ _)); exact BK311.out⟩, ⟨by (with_reducible repeat (first | refine blk_drewN ?_ _ | refine blk_drew ?_ | refine blk_alloc ?_ _)); exact BK313.out⟩, ⟨by repeat (first | (with_reducible first | exact HB.out | apply below_alloc | apply pw_below_drewN | apply below_drew1 | refine below_set ?_ GE311.out | refine below_set ?_ GE313.out) | exact HB.out)⟩⟩
                                                  · as_aux_lemma =>
                                                    rw [if_neg c63] at H
                                                    have c63b0 : ((bt a0 (ji60)) == 45) = false := beq_eq_false_iff_ne.mpr c63
                                                    have c63b1 : ((bt a0 (ji60)) != 45) = true := bne_iff_ne.mpr c63
                                                    have H' := Aside0.mk H
                                                    clear H
                                                    have p62 : 0 ≤ ((ji60) : Int) := of_decide_eq_true (by first | (with_reducible assumption) | assumption)
                                                    have q62 : (ji60) < (a0.size : Int) := of_decide_eq_true (by first | (with_reducible assumption) | assumption)
                                                    have hx62 := bt_at a0 (ji60)
                                                    replace p62 := eq_true p62
                                                    replace q62 := eq_true q62
                                                    have p64 : 0 ≤ ((ji60) : Int) := of_decide_eq_true (by first | (with_reducible assumption) | assumption)
                                                    have q64 : (ji60) < (a0.size : Int) := of_decide_eq_true (by first | (with_reducible assumption) | assumption)
                                                    have hx64 := bt_at a0 (ji60)
                                                    replace p64 := eq_true p64
                                                    replace q64 := eq_true q64
                                                    go_wp2
                                                    go_meet
                                                    case rel => exact ⟨_, (((bt a0 (ji60)) == 43)), (by first | rfl | (simp; done) | (simp only [← hji60] <;> (first | rfl | simp)) | (simp [*]; done)), (by first | exact H' | (rw [hji60]; exact H')), ⟨by have := HJ1.out; have := HJ8.out; have := HJ11.out; have := HJ22.out; have := HJ30.out; have := HJ45.out; have := HJ52.out; first | omega | exact Nat.le_refl _⟩, ⟨by (with_reducible repeat (first | refine blk_drewN ?_ _ | refine blk_drew ?_ | refine blk_alloc ?_ _)); exact BK311.out⟩, ⟨by (with_reducible repeat (first | refine blk_drewN ?_ _ | refine blk_drew ?_ | refine blk_alloc ?_ _)); exact BK313.out⟩, ⟨by repeat (first | (with_reducible first | exact HB.out | apply below_alloc | apply pw_below_drewN | apply below_drew1 | refine below_set ?_ GE311.out | refine below_set ?_ GE313.out) | exact HB.out)⟩⟩
                                                · rw [if_neg c61] at H
                                                  exact absurd H (by simp)
                                              · as_aux_lemma =>
                                                rw [if_neg c59] at H
                                                have c59b0 : decide ((wrap64 (x6_30 + 1)) < (a0.size : Int)) = false := decide_eq_false c59
                                                clear c59
                                                (first | rw [c59b0] | (simp only [i64_w, i32_w]; rw [c59b0]) | skip)
                                                have H' := Aside0.mk H
                                                clear H
                                                go_wp2
                                                go_meet
                                                case rel => exact ⟨_, (false), (by first | rfl | (simp; done) | (simp [*]; done)), H', ⟨by have := HJ1.out; have := HJ8.out; have := HJ11.out; have := HJ22.out; have := HJ30.out; have := HJ45.out; have := HJ52.out; first | omega | exact Nat.le_refl _⟩, ⟨by (with_reducible repeat (first | refine blk_drewN ?_ _ | refine blk_drew ?_ | refine blk_alloc ?_ _)); exact BK311.out⟩, ⟨by (with_reducible repeat (first | refine blk_drewN ?_ _ | refine blk_drew ?_ | refine blk_alloc ?_ _)); exact BK313.out⟩, ⟨by repeat (first | (with_reducible first | exact HB.out | apply below_alloc | apply pw_below_drewN | apply below_drew1 | refine below_set ?_ GE311.out | refine below_set ?_ GE313.out) | exact HB.out)⟩⟩
                                            case rest =>
                                              as_aux_lemma =>
                                              clear HC58
                                              try clear c1
                                              try clear p1
                                              try clear q1
                                              try clear hx1
                                              try clear c2
                                              try clear p2
                                              try clear c3
                                              try clear p3
                                              try clear q3
                                              try clear hx3
                                              try clear c4
                                              try clear c4b0
                                              try clear c4b1
                                              try clear p4
                                              try clear q4
                                              try clear hx4
                                              try clear c5
                                              try clear p5
                                              try clear q5
                                              try clear hx5
                                              try clear c6
                                              try clear p6
                                              try clear q6
                                              try clear hx6
                                              try clear c7
                                              try clear c7b0
                                              try clear c7b1
                                              try clear p8
                                              try clear q8
                                              try clear hx8
                                              try clear qi8
                                              try clear c10
                                              try clear c10b0
                                              try clear c10b1
                                              try clear c13
                                              try clear c13b0
                                              try clear c13b1
                                              try clear c14
                                              try clear c14b0
                                              try clear c15
                                              try clear c15b0
                                              try clear c16
                                              try clear c16b0
                                              try clear p17
                                              try clear q17
                                              try clear hx17
                                              try clear c18
                                              try clear c20
                                              try clear c20b0
                                              try clear c20b1
                                              try clear c21
                                              try clear c21b0
                                              try clear c21b1
                                              try clear c22
                                              try clear c22b0
                                              try clear c22b1
                                              try clear c25
                                              try clear c27
                                              try clear c27b0
                                              try clear c29
                                              try clear c29b0
                                              try clear p30
                                              try clear q30
                                              try clear hx30
                                              try clear c32
                                              try clear c34
                                              try clear c34b0
                                              try clear c34b1
                                              try clear c35
                                              try clear c38
                                              try clear c38b0
                                              try clear c38b1
                                              try clear c39
                                              try clear c39b0
                                              try clear c39b1
                                              try clear c40
                                              try clear c40b0
                                              try clear c40b1
                                              try clear c41
                                              try clear c41b0
                                              try clear c41b1
                                              try clear c41b2
                                              try clear c44
                                              try clear c47
                                              try clear c47b0
                                              try clear c48
                                              try clear c48b0
                                              try clear p49
                                              try clear q49
                                              try clear hx49
                                              try clear c50
                                              try clear c50b0
                                              try clear c50b1
                                              try clear p51
                                              try clear q51
                                              try clear hx51
                                              try clear c52
                                              try clear c54
                                              try clear c54b0
                                              try clear c56
                                              try clear c56b0
                                              try clear p57
                                              try clear q57
                                              try clear hx57
                                              try clear c59
                                              try clear c59b0
                                              try clear c61
                                              try clear c61b0
                                              try clear p62
                                              try clear q62
                                              try clear hx62
                                              try clear c63
                                              try clear c63b0
                                              try clear c63b1
                                              try clear p64
                                              try clear q64
                                              try clear hx64
                                              try clear hcz19_0
                                              try clear hcz19_1
                                              try clear hcz26_0
                                              try clear hcz26_1
                                              try clear hcz36_0
                                              try clear hcz36_1
                                              try clear hcz45_0
                                              try clear hcz45_1
                                              try clear hcz6_0
                                              try clear hcz6_1
                                              try clear hfz19_0
                                              try clear hfz19_1
                                              try clear hfz26_0
                                              try clear hfz26_1
                                              try clear hfz36_0
                                              try clear hfz36_1
                                              try clear hfz45_0
                                              try clear hfz45_1
                                              try clear hfz6_0
                                              try clear hfz6_1
                                              try clear p1
                                              try clear p17
                                              try clear p2
                                              try clear p3
                                              try clear p30
                                              try clear p4
                                              try clear p49
                                              try clear p5
                                              try clear p51
                                              try clear p57
                                              try clear p6
                                              try clear p62
                                              try clear p64
                                              try clear p8
                                              try clear q1
                                              try clear q17
                                              try clear q3
                                              try clear q30
                                              try clear q4
                                              try clear q49
                                              try clear q5
                                              try clear q51
                                              try clear q57
                                              try clear q62
                                              try clear q64
                                              try clear q8
                                              obtain ⟨kq, x130_57, rfl, HA, HJ57, BK311, BK313, HB⟩ := hcut
                                              cases kq with
                                              | zero => exact absurd HA.out (by simp [rhizomeref02_Read.j7])
                                              | succ kj57 =>
                                                have H := HA.out
                                                clear HA
                                                simp only [rhizomeref02_Read.j7] at H
                                                have HC65 := Aside0.mk H
                                                clear H
                                                go_upto_if 130 with (fail)
                                                go_cut [6] (fun v6 wc => ∃ (kq : Nat) (x6_64 : Int), v6 = .int .i64 x6_64 ∧ Aside0 (rhizomeref02_Read.j8 kq a0 ((bt a0 0) == 45) x6_64 x9_52 x314000_30 x314001_30 = some (r1, r2, r3, r4)) ∧ Aside0 (kq ≤ kj57) ∧ Aside0 (wc.heap[gb311]? = some (.cells #[.string x312000_30, .int .i64 x312001_30] 39 (0, 0))) ∧ Aside0 (wc.heap[gb313]? = some (.cells #[.string x314000_30, .int .i64 x314001_30] 39 (0, 0))) ∧ Aside0 (Below w.heap.size w wc))
                                                case first =>
                                                  as_aux_lemma =>
                                                  have H := HC65.out
                                                  clear HC65
                                                  by_cases c66 : x130_57 = true
                                                  · as_aux_lemma =>
                                                    subst c66
                                                    have H1 : (rhizomeref02_Read.j8 kj57 a0 ((bt a0 0) == 45) (wrap64 ((wrap64 (x6_30 + 1)) + 1)) x9_52 x314000_30 x314001_30) = some (r1, r2, r3, r4) := by rw [if_pos rfl] at H; exact H
                                                    clear H
                                                    have H := H1
                                                    clear H1
                                                    have H' := Aside0.mk H
                                                    clear H
                                                    go_wp2
                                                    go_meet
                                                    case rel => exact ⟨_, (wrap64 ((wrap64 (x6_30 + 1)) + 1)), (by first | rfl | (simp; done) | (simp [*]; done)), H', ⟨by have := HJ1.out; have := HJ8.out; have := HJ11.out; have := HJ22.out; have := HJ30.out; have := HJ45.out; have := HJ52.out; have := HJ57.out; first | omega | exact Nat.le_refl _⟩, ⟨by (with_reducible repeat (first | refine blk_drewN ?_ _ | refine blk_drew ?_ | refine blk_alloc ?_ _)); exact BK311.out⟩, ⟨by (with_reducible repeat (first | refine blk_drewN ?_ _ | refine blk_drew ?_ | refine blk_alloc ?_ _)); exact BK313.out⟩, ⟨by repeat (first | (with_reducible first | exact HB.out | apply below_alloc | apply pw_below_drewN | apply below_drew1 | refine below_set ?_ GE311.out | refine below_set ?_ GE313.out) | exact HB.out)⟩⟩
                                                  · as_aux_lemma =>
                                                    replace c66 := Bool.eq_false_iff.mpr c66
                                                    subst c66
                                                    have H1 : (rhizomeref02_Read.j8 kj57 a0 ((bt a0 0) == 45) (wrap64 (x6_30 + 1)) x9_52 x314000_30 x314001_30) = some (r1, r2, r3, r4) := by rw [if_neg (show ¬ (false = true) by decide)] at H; exact H
                                                    clear H
                                                    have H := H1
                                                    clear H1
                                                    have H' := Aside0.mk H
                                                    clear H
                                                    go_wp2
                                                    go_meet
                                                    case rel => exact ⟨_, ((wrap64 (x6_30 + 1))), (by first | rfl | (simp; done) | (simp [*]; done)), H', ⟨by have := HJ1.out; have := HJ8.out; have := HJ11.out; have := HJ22.out; have := HJ30.out; have := HJ45.out; have := HJ52.out; have := HJ57.out; first | omega | exact Nat.le_refl _⟩, ⟨by (with_reducible repeat (first | refine blk_drewN ?_ _ | refine blk_drew ?_ | refine blk_alloc ?_ _)); exact BK311.out⟩, ⟨by (with_reducible repeat (first | refine blk_drewN ?_ _ | refine blk_drew ?_ | refine blk_alloc ?_ _)); exact BK313.out⟩, ⟨by repeat (first | (with_reducible first | exact HB.out | apply below_alloc | apply pw_below_drewN | apply below_drew1 | refine below_set ?_ GE311.out | refine below_set ?_ GE313.out) | exact HB.out)⟩⟩
                                                case rest =>
                                                  as_aux_lemma =>
                                                  clear HC65
                                                  try clear c1
                                                  try clear p1
                                                  try clear q1
                                                  try clear hx1
                                                  try clear c2
                                                  try clear p2
                                                  try clear c3
                                                  try clear p3
                                                  try clear q3
                                                  try clear hx3
                                                  try clear c4
                                                  try clear c4b0
                                                  try clear c4b1
                                                  try clear p4
                                                  try clear q4
                                                  try clear hx4
                                                  try clear c5
                                                  try clear p5
                                                  try clear q5
                                                  try clear hx5
                                                  try clear c6
                                                  try clear p6
                                                  try clear q6
                                                  try clear hx6
                                                  try clear c7
                                                  try clear c7b0
                                                  try clear c7b1
                                                  try clear p8
                                                  try clear q8
                                                  try clear hx8
                                                  try clear qi8
                                                  try clear c10
                                                  try clear c10b0
                                                  try clear c10b1
                                                  try clear c13
                                                  try clear c13b0
                                                  try clear c13b1
                                                  try clear c14
                                                  try clear c14b0
                                                  try clear c15
                                                  try clear c15b0
                                                  try clear c16
                                                  try clear c16b0
                                                  try clear p17
                                                  try clear q17
                                                  try clear hx17
                                                  try clear c18
                                                  try clear c20
                                                  try clear c20b0
                                                  try clear c20b1
                                                  try clear c21
                                                  try clear c21b0
                                                  try clear c21b1
                                                  try clear c22
                                                  try clear c22b0
                                                  try clear c22b1
                                                  try clear c25
                                                  try clear c27
                                                  try clear c27b0
                                                  try clear c29
                                                  try clear c29b0
                                                  try clear p30
                                                  try clear q30
                                                  try clear hx30
                                                  try clear c32
                                                  try clear c34
                                                  try clear c34b0
                                                  try clear c34b1
                                                  try clear c35
                                                  try clear c38
                                                  try clear c38b0
                                                  try clear c38b1
                                                  try clear c39
                                                  try clear c39b0
                                                  try clear c39b1
                                                  try clear c40
                                                  try clear c40b0
                                                  try clear c40b1
                                                  try clear c41
                                                  try clear c41b0
                                                  try clear c41b1
                                                  try clear c41b2
                                                  try clear c44
                                                  try clear c47
                                                  try clear c47b0
                                                  try clear c48
                                                  try clear c48b0
                                                  try clear p49
                                                  try clear q49
                                                  try clear hx49
                                                  try clear c50
                                                  try clear c50b0
                                                  try clear c50b1
                                                  try clear p51
                                                  try clear q51
                                                  try clear hx51
                                                  try clear c52
                                                  try clear c54
                                                  try clear c54b0
                                                  try clear c56
                                                  try clear c56b0
                                                  try clear p57
                                                  try clear q57
                                                  try clear hx57
                                                  try clear c59
                                                  try clear c59b0
                                                  try clear c61
                                                  try clear c61b0
                                                  try clear p62
                                                  try clear q62
                                                  try clear hx62
                                                  try clear c63
                                                  try clear c63b0
                                                  try clear c63b1
                                                  try clear p64
                                                  try clear q64
                                                  try clear hx64
                                                  try clear c66
                                                  try clear hcz19_0
                                                  try clear hcz19_1
                                                  try clear hcz26_0
                                                  try clear hcz26_1
                                                  try clear hcz36_0
                                                  try clear hcz36_1
                                                  try clear hcz45_0
                                                  try clear hcz45_1
                                                  try clear hcz6_0
                                                  try clear hcz6_1
                                                  try clear hfz19_0
                                                  try clear hfz19_1
                                                  try clear hfz26_0
                                                  try clear hfz26_1
                                                  try clear hfz36_0
                                                  try clear hfz36_1
                                                  try clear hfz45_0
                                                  try clear hfz45_1
                                                  try clear hfz6_0
                                                  try clear hfz6_1
                                                  try clear p1
                                                  try clear p17
                                                  try clear p2
                                                  try clear p3
                                                  try clear p30
                                                  try clear p4
                                                  try clear p49
                                                  try clear p5
                                                  try clear p51
                                                  try clear p57
                                                  try clear p6
                                                  try clear p62
                                                  try clear p64
                                                  try clear p8
                                                  try clear q1
                                                  try clear q17
                                                  try clear q3
                                                  try clear q30
                                                  try clear q4
                                                  try clear q49
                                                  try clear q5
                                                  try clear q51
                                                  try clear q57
                                                  try clear q6
                                                  try clear q62
                                                  try clear q64
                                                  try clear q8
                                                  obtain ⟨kq, x6_64, rfl, HA, HJ64, BK311, BK313, HB⟩ := hcut
                                                  cases kq with
                                                  | zero => exact absurd HA.out (by simp [rhizomeref02_Read.j8])
                                                  | succ kj64 =>
                                                    have H := HA.out
                                                    clear HA
                                                    simp only [rhizomeref02_Read.j8] at H
                                                    replace H := Option.bind_eq_some_iff.mp H
                                                    obtain ⟨t315, A670, H⟩ := H
                                                    replace H : (if t315 = 0 then (some (false, (⟨#[]⟩ : ByteArray), 0, false)) else (rhizomeref02_Read.l0 kj64 a0 ((bt a0 0) == 45) x6_64 t315 x9_52 0 0 x314000_30 x314001_30)) = some (r1, r2, r3, r4) := H
                                                    have A67 := Aside0.mk A670
                                                    clear A670
                                                    by_cases c68 : t315 = 0
                                                    · as_aux_lemma =>
                                                      rw [if_pos c68] at H
                                                      have c68b0 : (t315 == 0) = true := beq_iff_eq.mpr c68
                                                      have c68b1 : (t315 != 0) = false := bne_eq_false_iff_eq.mpr c68
                                                      clear c68
                                                      simp only [Option.some.injEq, Prod.mk.injEq] at H
                                                      obtain ⟨rfl, rfl, rfl, rfl⟩ := H
                                                      go_wp2_with (first | ((with_reducible refine gate_callee (f := 47) rfl ?_); refine goesL_ (some 135) rfl rfl Tryz.func47 (by kernel_rfl) rfl #[.string a0, .int .i64 x6_64] rfl (by (try simp only [List.map_toArray, List.map_cons, List.map_nil]); first | done | rfl | (simp only [List.length_drop, List.length_take]; rfl)) ?_; (with_reducible refine (rhizomeref02_digits.calls kj64 a0 x6_64 t315 _ A67.out).mono ?_); rintro e w' ⟨rfl, ⟨nd, rfl⟩⟩; refine ⟨_, rfl, ?_⟩; (try (rw [drewN_self wc]; generalize hq_ : World.drewN wc _ = wc; have n0_ : Aside0 (wc.heap[gb311]? = some (.cells #[.string x312000_30, .int .i64 x312001_30] 39 (0, 0))) := ⟨by rw [← hq_]; exact (by (with_reducible repeat (first | refine blk_drewN ?_ _ | refine blk_drew ?_ | refine blk_alloc ?_ _)); exact BK311.out)⟩; have n1_ : Aside0 (wc.heap[gb313]? = some (.cells #[.string x314000_30, .int .i64 x314001_30] 39 (0, 0))) := ⟨by rw [← hq_]; exact (by (with_reducible repeat (first | refine blk_drewN ?_ _ | refine blk_drew ?_ | refine blk_alloc ?_ _)); exact BK313.out)⟩; have n2_ : Aside0 (Below w.heap.size w wc) := ⟨by rw [← hq_]; exact (by repeat (first | (with_reducible first | exact HB.out | apply below_alloc | apply pw_below_drewN | apply below_drew1 | refine below_set ?_ GE311.out | refine below_set ?_ GE313.out) | exact HB.out))⟩; clear BK311 BK313 HB hq_; have BK311 := n0_; have BK313 := n1_; have HB := n2_; clear n0_ n1_ n2_)); have hnb69 := NB311_313.out; have hnc69 := NB313_311.out; have hcz70_0 : wc.cell? ⟨gb311, 0, none⟩ = some (.string x312000_30) := (blk_cell BK311.out 0).trans rfl; have hcz70_1 : wc.cell? ⟨gb311, 1, none⟩ = some (.int .i64 x312001_30) := (blk_cell BK311.out 1).trans rfl; have hfz70_0 := blk_frozen BK311.out 0; have hfz70_1 := blk_frozen BK311.out 1))
                                                      refine bodyPost_ret (results_list (rs := [.tmp 2, .cell 3 39, .tmp 4]) rfl (by simp) (.tmp (.cell gb311 39 #[.string (⟨#[]⟩ : ByteArray), .int .i64 0] (0, 0) _ rfl (by (with_reducible repeat (first | refine blk_drewN ?_ _ | refine blk_drew ?_ | refine blk_alloc ?_ _)); refine blk_put (cs := #[.string (⟨#[]⟩ : ByteArray), .int .i64 x312001_30]) ?_ 1 _ rfl; (with_reducible repeat (first | refine blk_drewN ?_ _ | refine blk_drew ?_ | refine blk_alloc ?_ _)); refine blk_put (cs := #[.string x312000_30, .int .i64 x312001_30]) ?_ 0 _ rfl; (with_reducible repeat (first | refine blk_drewN ?_ _ | refine blk_drew ?_ | refine blk_alloc ?_ _)); exact BK311.out) Tryz.underlying39 rfl (by kernel_rfl) (.tmp .nil)))) rfl ?_
                                                      exact ⟨by first | rfl | (simp [errW_none, errW_some] <;> rfl) | (simp [*, errW_none, errW_some] <;> rfl), by repeat (first | (with_reducible first | exact HB.out | apply below_alloc | apply pw_below_drewN | apply below_drew1 | refine below_set ?_ GE311.out | refine below_set ?_ GE313.out) | exact HB.out)⟩
                                                    · as_aux_lemma =>
                                                      rw [if_neg c68] at H
                                                      have c68b0 : (t315 == 0) = false := beq_eq_false_iff_ne.mpr c68
                                                      have c68b1 : (t315 != 0) = true := bne_iff_ne.mpr c68
                                                      have H' := Aside0.mk H
                                                      clear H
                                                      go_wp2_with (first | ((with_reducible refine gate_callee (f := 47) rfl ?_); refine goesL_ (some 135) rfl rfl Tryz.func47 (by kernel_rfl) rfl #[.string a0, .int .i64 x6_64] rfl (by (try simp only [List.map_toArray, List.map_cons, List.map_nil]); first | done | rfl | (simp only [List.length_drop, List.length_take]; rfl)) ?_; (with_reducible refine (rhizomeref02_digits.calls kj64 a0 x6_64 t315 _ A67.out).mono ?_); rintro e w' ⟨rfl, ⟨nd, rfl⟩⟩; refine ⟨_, rfl, ?_⟩))
                                                      go_loopg [10, 11] kj64 (fun kq v10 v11 w' => ∃ (x10_10 : Int) (x11_10 : Int), v10 = .int .i64 x10_10 ∧ v11 = .int .i64 x11_10 ∧ Aside0 (rhizomeref02_Read.l0 kq a0 ((bt a0 0) == 45) x6_64 t315 x9_52 x10_10 x11_10 x314000_30 x314001_30 = some (r1, r2, r3, r4)) ∧ Aside0 (kq ≤ kj64) ∧ Aside0 (w'.heap[gb311]? = some (.cells #[.string x312000_30, .int .i64 x312001_30] 39 (0, 0))) ∧ Aside0 (w'.heap[gb313]? = some (.cells #[.string x314000_30, .int .i64 x314001_30] 39 (0, 0))) ∧ Aside0 (Below w.heap.size w w'))
                                                      case atStart => exact ⟨(0), (0), (by first | rfl | (simp; done) | (simp [*]; done)), (by first | rfl | (simp; done) | (simp [*]; done)), H', ⟨Nat.le_refl _⟩, ⟨by (with_reducible repeat (first | refine blk_drewN ?_ _ | refine blk_drew ?_ | refine blk_alloc ?_ _)); exact BK311.out⟩, ⟨by (with_reducible repeat (first | refine blk_drewN ?_ _ | refine blk_drew ?_ | refine blk_alloc ?_ _)); exact BK313.out⟩, ⟨by repeat (first | (with_reducible first | exact HB.out | apply below_alloc | apply pw_below_drewN | apply below_drew1 | refine below_set ?_ GE311.out | refine below_set ?_ GE313.out) | exact HB.out)⟩⟩
                                                      case round =>
                                                        as_aux_lemma =>
                                                        clear H'
                                                        try clear c1
                                                        try clear p1
                                                        try clear q1
                                                        try clear hx1
                                                        try clear c2
                                                        try clear p2
                                                        try clear c3
                                                        try clear p3
                                                        try clear q3
                                                        try clear hx3
                                                        try clear c4
                                                        try clear c4b0
                                                        try clear c4b1
                                                        try clear p4
                                                        try clear q4
                                                        try clear hx4
                                                        try clear c5
                                                        try clear p5
                                                        try clear q5
                                                        try clear hx5
                                                        try clear c6
                                                        try clear p6
                                                        try clear q6
                                                        try clear hx6
                                                        try clear c7
                                                        try clear c7b0
                                                        try clear c7b1
                                                        try clear p8
                                                        try clear q8
                                                        try clear hx8
                                                        try clear qi8
                                                        try clear c10
                                                        try clear c10b0
                                                        try clear c10b1
                                                        try clear c13
                                                        try clear c13b0
                                                        try clear c13b1
                                                        try clear c14
                                                        try clear c14b0
                                                        try clear c15
                                                        try clear c15b0
                                                        try clear c16
                                                        try clear c16b0
                                                        try clear p17
                                                        try clear q17
                                                        try clear hx17
                                                        try clear c18
                                                        try clear c20
                                                        try clear c20b0
                                                        try clear c20b1
                                                        try clear c21
                                                        try clear c21b0
                                                        try clear c21b1
                                                        try clear c22
                                                        try clear c22b0
                                                        try clear c22b1
                                                        try clear c25
                                                        try clear c27
                                                        try clear c27b0
                                                        try clear c29
                                                        try clear c29b0
                                                        try clear p30
                                                        try clear q30
                                                        try clear hx30
                                                        try clear c32
                                                        try clear c34
                                                        try clear c34b0
                                                        try clear c34b1
                                                        try clear c35
                                                        try clear c38
                                                        try clear c38b0
                                                        try clear c38b1
                                                        try clear c39
                                                        try clear c39b0
                                                        try clear c39b1
                                                        try clear c40
                                                        try clear c40b0
                                                        try clear c40b1
                                                        try clear c41
                                                        try clear c41b0
                                                        try clear c41b1
                                                        try clear c41b2
                                                        try clear c44
                                                        try clear c47
                                                        try clear c47b0
                                                        try clear c48
                                                        try clear c48b0
                                                        try clear p49
                                                        try clear q49
                                                        try clear hx49
                                                        try clear c50
                                                        try clear c50b0
                                                        try clear c50b1
                                                        try clear p51
                                                        try clear q51
                                                        try clear hx51
                                                        try clear c52
                                                        try clear c54
                                                        try clear c54b0
                                                        try clear c56
                                                        try clear c56b0
                                                        try clear p57
                                                        try clear q57
                                                        try clear hx57
                                                        try clear c59
                                                        try clear c59b0
                                                        try clear c61
                                                        try clear c61b0
                                                        try clear p62
                                                        try clear q62
                                                        try clear hx62
                                                        try clear c63
                                                        try clear c63b0
                                                        try clear c63b1
                                                        try clear p64
                                                        try clear q64
                                                        try clear hx64
                                                        try clear c66
                                                        try clear c68
                                                        try clear c68b0
                                                        try clear c68b1
                                                        try clear c69
                                                        try clear hcz19_0
                                                        try clear hcz19_1
                                                        try clear hcz26_0
                                                        try clear hcz26_1
                                                        try clear hcz36_0
                                                        try clear hcz36_1
                                                        try clear hcz45_0
                                                        try clear hcz45_1
                                                        try clear hcz6_0
                                                        try clear hcz6_1
                                                        try clear hcz70_0
                                                        try clear hcz70_1
                                                        try clear hfz19_0
                                                        try clear hfz19_1
                                                        try clear hfz26_0
                                                        try clear hfz26_1
                                                        try clear hfz36_0
                                                        try clear hfz36_1
                                                        try clear hfz45_0
                                                        try clear hfz45_1
                                                        try clear hfz6_0
                                                        try clear hfz6_1
                                                        try clear hfz70_0
                                                        try clear hfz70_1
                                                        try clear p1
                                                        try clear p17
                                                        try clear p2
                                                        try clear p3
                                                        try clear p30
                                                        try clear p4
                                                        try clear p49
                                                        try clear p5
                                                        try clear p51
                                                        try clear p57
                                                        try clear p6
                                                        try clear p62
                                                        try clear p64
                                                        try clear p8
                                                        try clear q1
                                                        try clear q17
                                                        try clear q3
                                                        try clear q30
                                                        try clear q4
                                                        try clear q49
                                                        try clear q5
                                                        try clear q51
                                                        try clear q57
                                                        try clear q6
                                                        try clear q62
                                                        try clear q64
                                                        try clear q8
                                                        obtain ⟨x10_10, x11_10, rfl, rfl, HA, HK10, BK311, BK313, HB⟩ := hrel
                                                        cases gk with
                                                        | zero => exact absurd HA.out (by simp [rhizomeref02_Read.l0])
                                                        | succ k10 =>
                                                          have H := HA.out
                                                          clear HA
                                                          simp only [rhizomeref02_Read.l0] at H
                                                          by_cases c71 : x11_10 < t315
                                                          · as_aux_lemma =>
                                                            rw [if_pos c71] at H
                                                            have c71b0 : decide (x11_10 < t315) = true := decide_eq_true c71
                                                            clear c71
                                                            obtain ⟨ji72, hji72⟩ : ∃ j_ : Int, (wrap64 (x6_64 + x11_10)) = j_ := ⟨_, rfl⟩
                                                            replace H : (if 0 ≤ (ji72) then (if (ji72) < (a0.size : Int) then (rhizomeref02_Read.l0 k10 a0 ((bt a0 0) == 45) x6_64 t315 x9_52 (mn 100000 (wrap64 ((wrap64 (10 * x10_10)) + (((bt a0 (ji72)) - 48) % 256)))) (wrap64 (x11_10 + 1)) x314000_30 x314001_30) else (none)) else (none)) = some (r1, r2, r3, r4) := by first | (rw [hji72] at H; exact H) | (simp only [hji72] at H ⊢; exact H)
                                                            have hji72w : (IntKind.i64.wrap (x6_64 + x11_10)) = ji72 := (i64_w _).trans hji72
                                                            by_cases c73 : 0 ≤ (ji72)
                                                            · as_aux_lemma =>
                                                              rw [if_pos c73] at H
                                                              have c73b0 : decide (0 ≤ (ji72)) = true := decide_eq_true c73
                                                              clear c73
                                                              by_cases c74 : (ji72) < (a0.size : Int)
                                                              · as_aux_lemma =>
                                                                rw [if_pos c74] at H
                                                                have c74b0 : decide ((ji72) < (a0.size : Int)) = true := decide_eq_true c74
                                                                clear c74
                                                                obtain ⟨ji76, hji76⟩ : ∃ j_ : Int, (mn 100000 (wrap64 ((wrap64 (10 * x10_10)) + (((bt a0 (ji72)) - 48) % 256)))) = j_ := ⟨_, rfl⟩
                                                                replace H : (rhizomeref02_Read.l0 k10 a0 ((bt a0 0) == 45) x6_64 t315 x9_52 ji76 (wrap64 (x11_10 + 1)) x314000_30 x314001_30) = some (r1, r2, r3, r4) := by first | (rw [hji76] at H; exact H) | (simp only [hji76] at H ⊢; exact H)
                                                                have hji76_ : (if (wrap64 ((wrap64 (10 * x10_10)) + (((bt a0 (ji72)) - 48) % 256))) < 100000 then (wrap64 ((wrap64 (10 * x10_10)) + (((bt a0 (ji72)) - 48) % 256))) else 100000) = ji76 := hji76
                                                                have H' := Aside0.mk H
                                                                clear H
                                                                have p75 : 0 ≤ ((ji72) : Int) := of_decide_eq_true (by first | (with_reducible assumption) | assumption)
                                                                have q75 : (ji72) < (a0.size : Int) := of_decide_eq_true (by first | (with_reducible assumption) | assumption)
                                                                have hx75 := bt_at a0 (ji72)
                                                                replace p75 := eq_true p75
                                                                replace q75 := eq_true q75
                                                                go_wp2
                                                                go_roundg k10
                                                                case measure => have := HJ1.out; have := HJ8.out; have := HJ11.out; have := HJ22.out; have := HJ30.out; have := HJ45.out; have := HJ52.out; have := HJ57.out; have := HJ64.out; have := HK10.out; omega
                                                                case rel => exact ⟨(ji76), (wrap64 (x11_10 + 1)), (by first | rfl | (simp; done) | (simp only [← hji76] <;> (first | rfl | simp)) | (simp [*]; done)), (by first | rfl | (simp; done) | (simp [*]; done)), H', ⟨by have := HJ1.out; have := HJ8.out; have := HJ11.out; have := HJ22.out; have := HJ30.out; have := HJ45.out; have := HJ52.out; have := HJ57.out; have := HJ64.out; have := HK10.out; omega⟩, ⟨by (with_reducible repeat (first | refine blk_drewN ?_ _ | refine blk_drew ?_ | refine blk_alloc ?_ _)); exact BK311.out⟩, ⟨by (with_reducible repeat (first | refine blk_drewN ?_ _ | refine blk_drew ?_ | refine blk_alloc ?_ _)); exact BK313.out⟩, ⟨by repeat (first | (with_reducible first | exact HB.out | apply below_alloc | apply pw_below_drewN | apply below_drew1 | refine below_set ?_ GE311.out | refine below_set ?_ GE313.out) | exact HB.out)⟩⟩
                                                              · rw [if_neg c74] at H
                                                                exact absurd H (by simp)
                                                            · rw [if_neg c73] at H
                                                              exact absurd H (by simp)
                                                          · as_aux_lemma =>
                                                            rw [if_neg c71] at H
                                                            have c71b0 : decide (x11_10 < t315) = false := decide_eq_false c71
                                                            clear c71
                                                            by_cases c77 : x9_52 = true
                                                            · as_aux_lemma =>
                                                              subst c77
                                                              have H1 : ((rhizomeref02_cut.f k10 x314000_30 (wrap64 (x314001_30 + (wrap64 (-x10_10))))).bind fun bt316 => (some (((bt a0 0) == 45), bt316.1, bt316.2, ((wrap64 (x6_64 + t315)) == (a0.size : Int))))) = some (r1, r2, r3, r4) := by rw [if_pos rfl] at H; exact H
                                                              clear H
                                                              have H := H1
                                                              clear H1
                                                              replace H := Option.bind_eq_some_iff.mp H
                                                              obtain ⟨⟨t316, t317⟩, A780, H⟩ := H
                                                              replace H : (some (((bt a0 0) == 45), t316, t317, ((wrap64 (x6_64 + t315)) == (a0.size : Int)))) = some (r1, r2, r3, r4) := H
                                                              have A78 := Aside0.mk A780
                                                              clear A780
                                                              simp only [Option.some.injEq, Prod.mk.injEq] at H
                                                              obtain ⟨rfl, rfl, rfl, rfl⟩ := H
                                                              have hnb79 := NB313_311.out
                                                              have hnc79 := NB311_313.out
                                                              have hcz80_0 : wr.cell? ⟨gb313, 0, none⟩ = some (.string x314000_30) := (blk_cell BK313.out 0).trans rfl
                                                              have hcz80_1 : wr.cell? ⟨gb313, 1, none⟩ = some (.int .i64 x314001_30) := (blk_cell BK313.out 1).trans rfl
                                                              have hfz80_0 := blk_frozen BK313.out 0
                                                              have hfz80_1 := blk_frozen BK313.out 1
                                                              go_wp2_with (first | ((with_reducible refine gate_callee (f := 48) rfl ?_); refine goesL_ (some 168) rfl rfl Tryz.func48 (by kernel_rfl) rfl #[.agg #[.string x314000_30, .int .i64 (wrap64 (x314001_30 + (wrap64 (-x10_10))))]] rfl (by (try simp only [List.map_toArray, List.map_cons, List.map_nil]); first | done | rfl | (simp only [List.length_drop, List.length_take]; rfl)) ?_; (with_reducible refine (rhizomeref02_cut.calls k10 x314000_30 (wrap64 (x314001_30 + (wrap64 (-x10_10)))) t316 t317 _ A78.out).mono ?_); rintro e w81 ⟨rfl, hb⟩; refine ⟨_, rfl, ?_⟩; have n0_ := Aside0.mk (blk_below (g := gb311) (o := .cells #[.string x312000_30, .int .i64 x312001_30] 39 (0, 0)) (by (with_reducible repeat (first | refine blk_drewN ?_ _ | refine blk_drew ?_ | refine blk_alloc ?_ _)); refine blk_far ?_ NB311_313.out _; (with_reducible repeat (first | refine blk_drewN ?_ _ | refine blk_drew ?_ | refine blk_alloc ?_ _)); exact BK311.out) hb); have n1_ := Aside0.mk (blk_below (g := gb313) (o := .cells #[.string x314000_30, .int .i64 (wrap64 (x314001_30 + (wrap64 (-x10_10))))] 39 (0, 0)) (by (with_reducible repeat (first | refine blk_drewN ?_ _ | refine blk_drew ?_ | refine blk_alloc ?_ _)); refine blk_put (cs := #[.string x314000_30, .int .i64 x314001_30]) ?_ 1 _ rfl; (with_reducible repeat (first | refine blk_drewN ?_ _ | refine blk_drew ?_ | refine blk_alloc ?_ _)); exact BK313.out) hb); have n2_ := Aside0.mk (below_step (by repeat (first | (with_reducible first | exact HB.out | apply below_alloc | apply pw_below_drewN | apply below_drew1 | refine below_set ?_ GE311.out | refine below_set ?_ GE313.out) | exact HB.out)) hb); clear BK311; clear BK313; clear HB; have BK311 := n0_; have BK313 := n1_; have HB := n2_; clear n0_ n1_ n2_; (try clear hb); (try clear hb2); (try clear hk); (try clear hi); have hcz82_0 : w81.cell? ⟨gb311, 0, none⟩ = some (.string x312000_30) := (blk_cell BK311.out 0).trans rfl; have hcz82_1 : w81.cell? ⟨gb311, 1, none⟩ = some (.int .i64 x312001_30) := (blk_cell BK311.out 1).trans rfl; have hfz82_0 := blk_frozen BK311.out 0; have hfz82_1 := blk_frozen BK311.out 1))
                                                              refine bodyPost_ret (results_list (rs := [.tmp 2, .cell 3 39, .tmp 4]) rfl (by simp) (.tmp (.cell gb311 39 #[.string t316, .int .i64 t317] (0, 0) _ rfl (by (with_reducible repeat (first | refine blk_drewN ?_ _ | refine blk_drew ?_ | refine blk_alloc ?_ _)); refine blk_put (cs := #[.string t316, .int .i64 x312001_30]) ?_ 1 _ rfl; (with_reducible repeat (first | refine blk_drewN ?_ _ | refine blk_drew ?_ | refine blk_alloc ?_ _)); refine blk_put (cs := #[.string x312000_30, .int .i64 x312001_30]) ?_ 0 _ rfl; (with_reducible repeat (first | refine blk_drewN ?_ _ | refine blk_drew ?_ | refine blk_alloc ?_ _)); exact BK311.out) Tryz.underlying39 rfl (by kernel_rfl) (.tmp .nil)))) rfl ?_
                                                              exact ⟨by first | rfl | (simp [errW_none, errW_some] <;> rfl) | (simp [*, errW_none, errW_some] <;> rfl), by repeat (first | (with_reducible first | exact HB.out | apply below_alloc | apply pw_below_drewN | apply below_drew1 | refine below_set ?_ GE311.out | refine below_set ?_ GE313.out) | exact HB.out)⟩
                                                            · as_aux_lemma =>
                                                              replace c77 := Bool.eq_false_iff.mpr c77
                                                              subst c77
                                                              have H1 : ((rhizomeref02_cut.f k10 x314000_30 (wrap64 (x314001_30 + x10_10))).bind fun bt318 => (some (((bt a0 0) == 45), bt318.1, bt318.2, ((wrap64 (x6_64 + t315)) == (a0.size : Int))))) = some (r1, r2, r3, r4) := by rw [if_neg (show ¬ (false = true) by decide)] at H; exact H
                                                              clear H
                                                              have H := H1
                                                              clear H1
                                                              replace H := Option.bind_eq_some_iff.mp H
                                                              obtain ⟨⟨t318, t319⟩, A830, H⟩ := H
                                                              replace H : (some (((bt a0 0) == 45), t318, t319, ((wrap64 (x6_64 + t315)) == (a0.size : Int)))) = some (r1, r2, r3, r4) := H
                                                              have A83 := Aside0.mk A830
                                                              clear A830
                                                              simp only [Option.some.injEq, Prod.mk.injEq] at H
                                                              obtain ⟨rfl, rfl, rfl, rfl⟩ := H
                                                              have hnb84 := NB313_311.out
                                                              have hnc84 := NB311_313.out
                                                              have hcz85_0 : wr.cell? ⟨gb313, 0, none⟩ = some (.string x314000_30) := (blk_cell BK313.out 0).trans rfl
                                                              have hcz85_1 : wr.cell? ⟨gb313, 1, none⟩ = some (.int .i64 x314001_30) := (blk_cell BK313.out 1).trans rfl
                                                              have hfz85_0 := blk_frozen BK313.out 0
                                                              have hfz85_1 := blk_frozen BK313.out 1
                                                              go_wp2_with (first | ((with_reducible refine gate_callee (f := 48) rfl ?_); refine goesL_ (some 168) rfl rfl Tryz.func48 (by kernel_rfl) rfl #[.agg #[.string x314000_30, .int .i64 (wrap64 (x314001_30 + x10_10))]] rfl (by (try simp only [List.map_toArray, List.map_cons, List.map_nil]); first | done | rfl | (simp only [List.length_drop, List.length_take]; rfl)) ?_; (with_reducible refine (rhizomeref02_cut.calls k10 x314000_30 (wrap64 (x314001_30 + x10_10)) t318 t319 _ A83.out).mono ?_); rintro e w86 ⟨rfl, hb⟩; refine ⟨_, rfl, ?_⟩; have n0_ := Aside0.mk (blk_below (g := gb311) (o := .cells #[.string x312000_30, .int .i64 x312001_30] 39 (0, 0)) (by (with_reducible repeat (first | refine blk_drewN ?_ _ | refine blk_drew ?_ | refine blk_alloc ?_ _)); refine blk_far ?_ NB311_313.out _; (with_reducible repeat (first | refine blk_drewN ?_ _ | refine blk_drew ?_ | refine blk_alloc ?_ _)); exact BK311.out) hb); have n1_ := Aside0.mk (blk_below (g := gb313) (o := .cells #[.string x314000_30, .int .i64 (wrap64 (x314001_30 + x10_10))] 39 (0, 0)) (by (with_reducible repeat (first | refine blk_drewN ?_ _ | refine blk_drew ?_ | refine blk_alloc ?_ _)); refine blk_put (cs := #[.string x314000_30, .int .i64 x314001_30]) ?_ 1 _ rfl; (with_reducible repeat (first | refine blk_drewN ?_ _ | refine blk_drew ?_ | refine blk_alloc ?_ _)); exact BK313.out) hb); have n2_ := Aside0.mk (below_step (by repeat (first | (with_reducible first | exact HB.out | apply below_alloc | apply pw_below_drewN | apply below_drew1 | refine below_set ?_ GE311.out | refine below_set ?_ GE313.out) | exact HB.out)) hb); clear BK311; clear BK313; clear HB; have BK311 := n0_; have BK313 := n1_; have HB := n2_; clear n0_ n1_ n2_; (try clear hb); (try clear hb2); (try clear hk); (try clear hi); have hcz87_0 : w86.cell? ⟨gb311, 0, none⟩ = some (.string x312000_30) := (blk_cell BK311.out 0).trans rfl; have hcz87_1 : w86.cell? ⟨gb311, 1, none⟩ = some (.int .i64 x312001_30) := (blk_cell BK311.out 1).trans rfl; have hfz87_0 := blk_frozen BK311.out 0; have hfz87_1 := blk_frozen BK311.out 1))
                                                              refine bodyPost_ret (results_list (rs := [.tmp 2, .cell 3 39, .tmp 4]) rfl (by simp) (.tmp (.cell gb311 39 #[.string t318, .int .i64 t319] (0, 0) _ rfl (by (with_reducible repeat (first | refine blk_drewN ?_ _ | refine blk_drew ?_ | refine blk_alloc ?_ _)); refine blk_put (cs := #[.string t318, .int .i64 x312001_30]) ?_ 1 _ rfl; (with_reducible repeat (first | refine blk_drewN ?_ _ | refine blk_drew ?_ | refine blk_alloc ?_ _)); refine blk_put (cs := #[.string x312000_30, .int .i64 x312001_30]) ?_ 0 _ rfl; (with_reducible repeat (first | refine blk_drewN ?_ _ | refine blk_drew ?_ | refine blk_alloc ?_ _)); exact BK311.out) Tryz.underlying39 rfl (by kernel_rfl) (.tmp .nil)))) rfl ?_
                                                              exact ⟨by first | rfl | (simp [errW_none, errW_some] <;> rfl) | (simp [*, errW_none, errW_some] <;> rfl), by repeat (first | (with_reducible first | exact HB.out | apply below_alloc | apply pw_below_drewN | apply below_drew1 | refine below_set ?_ GE311.out | refine below_set ?_ GE313.out) | exact HB.out)⟩
                                      · as_aux_lemma =>
                                        replace c52 := Bool.eq_false_iff.mpr c52
                                        subst c52
                                        have H1 : ((rhizomeref02_cut.f kj45 x314000_30 x314001_30).bind fun bt320 => (some (((bt a0 0) == 45), bt320.1, bt320.2, (x6_30 == (a0.size : Int))))) = some (r1, r2, r3, r4) := by rw [if_neg (show ¬ (false = true) by decide)] at H; exact H
                                        clear H
                                        have H := H1
                                        clear H1
                                        replace H := Option.bind_eq_some_iff.mp H
                                        obtain ⟨⟨t320, t321⟩, A880, H⟩ := H
                                        replace H : (some (((bt a0 0) == 45), t320, t321, (x6_30 == (a0.size : Int)))) = some (r1, r2, r3, r4) := H
                                        have A88 := Aside0.mk A880
                                        clear A880
                                        simp only [Option.some.injEq, Prod.mk.injEq] at H
                                        obtain ⟨rfl, rfl, rfl, rfl⟩ := H
                                        have hnb89 := NB313_311.out
                                        have hnc89 := NB311_313.out
                                        have hcz90_0 : wc.cell? ⟨gb313, 0, none⟩ = some (.string x314000_30) := (blk_cell BK313.out 0).trans rfl
                                        have hcz90_1 : wc.cell? ⟨gb313, 1, none⟩ = some (.int .i64 x314001_30) := (blk_cell BK313.out 1).trans rfl
                                        have hfz90_0 := blk_frozen BK313.out 0
                                        have hfz90_1 := blk_frozen BK313.out 1
                                        go_wp2_with (first | ((with_reducible refine gate_callee (f := 48) rfl ?_); refine goesL_ (some 168) rfl rfl Tryz.func48 (by kernel_rfl) rfl #[.agg #[.string x314000_30, .int .i64 x314001_30]] rfl (by (try simp only [List.map_toArray, List.map_cons, List.map_nil]); first | done | rfl | (simp only [List.length_drop, List.length_take]; rfl)) ?_; (with_reducible refine (rhizomeref02_cut.calls kj45 x314000_30 x314001_30 t320 t321 _ A88.out).mono ?_); rintro e w91 ⟨rfl, hb⟩; refine ⟨_, rfl, ?_⟩; have n0_ := Aside0.mk (blk_below (g := gb311) (o := .cells #[.string x312000_30, .int .i64 x312001_30] 39 (0, 0)) (by (with_reducible repeat (first | refine blk_drewN ?_ _ | refine blk_drew ?_ | refine blk_alloc ?_ _)); exact BK311.out) hb); have n1_ := Aside0.mk (blk_below (g := gb313) (o := .cells #[.string x314000_30, .int .i64 x314001_30] 39 (0, 0)) (by (with_reducible repeat (first | refine blk_drewN ?_ _ | refine blk_drew ?_ | refine blk_alloc ?_ _)); exact BK313.out) hb); have n2_ := Aside0.mk (below_step (by repeat (first | (with_reducible first | exact HB.out | apply below_alloc | apply pw_below_drewN | apply below_drew1 | refine below_set ?_ GE311.out | refine below_set ?_ GE313.out) | exact HB.out)) hb); clear BK311; clear BK313; clear HB; have BK311 := n0_; have BK313 := n1_; have HB := n2_; clear n0_ n1_ n2_; (try clear hb); (try clear hb2); (try clear hk); (try clear hi); have hcz92_0 : w91.cell? ⟨gb311, 0, none⟩ = some (.string x312000_30) := (blk_cell BK311.out 0).trans rfl; have hcz92_1 : w91.cell? ⟨gb311, 1, none⟩ = some (.int .i64 x312001_30) := (blk_cell BK311.out 1).trans rfl; have hfz92_0 := blk_frozen BK311.out 0; have hfz92_1 := blk_frozen BK311.out 1))
                                        refine bodyPost_ret (results_list (rs := [.tmp 2, .cell 3 39, .tmp 4]) rfl (by simp) (.tmp (.cell gb311 39 #[.string t320, .int .i64 t321] (0, 0) _ rfl (by (with_reducible repeat (first | refine blk_drewN ?_ _ | refine blk_drew ?_ | refine blk_alloc ?_ _)); refine blk_put (cs := #[.string t320, .int .i64 x312001_30]) ?_ 1 _ rfl; (with_reducible repeat (first | refine blk_drewN ?_ _ | refine blk_drew ?_ | refine blk_alloc ?_ _)); refine blk_put (cs := #[.string x312000_30, .int .i64 x312001_30]) ?_ 0 _ rfl; (with_reducible repeat (first | refine blk_drewN ?_ _ | refine blk_drew ?_ | refine blk_alloc ?_ _)); exact BK311.out) Tryz.underlying39 rfl (by kernel_rfl) (.tmp .nil)))) rfl ?_
                                        exact ⟨by first | rfl | (simp [errW_none, errW_some] <;> rfl) | (simp [*, errW_none, errW_some] <;> rfl), by repeat (first | (with_reducible first | exact HB.out | apply below_alloc | apply pw_below_drewN | apply below_drew1 | refine below_set ?_ GE311.out | refine below_set ?_ GE313.out) | exact HB.out)⟩
                        · rw [if_neg c22] at H
                          exact absurd H (by simp)
                      · rw [if_neg c21] at H
                        exact absurd H (by simp)
                    · rw [if_neg c20] at H
                      exact absurd H (by simp)
        · rw [if_neg c7] at H
          exact absurd H (by simp)
end Go.Proofs.YtapinbbflfkglaaGreatDoor.PFloatsParses
