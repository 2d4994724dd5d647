/-
  THE WALK OF FloatsShort.
-/
import Derived.Test.YtapinbbflfkglaaGreatDoorFb20
import Derived.Test.YtapinbbflfkglaaGreatDoorFb24
namespace Go.Proofs.YtapinbbflfkglaaGreatDoor
open Go.RowKit Go.Lib Go.Sort
set_option maxRecDepth 100000
theorem qD_kind {b : Nat} (h : ¬ qD b < 2047) : 3 ≤ kindZ b := by
  unfold qD at h
  unfold kindZ szZ
  repeat' split
  all_goals omega
theorem first_sign {b : Nat} {c : UInt8} (hb : b < 18446744073709551616) (h : (c == 45) = negD b) : (((c.toNat : Nat) : Int) == 45) = (((b : Nat) : Int) / 9223372036854775808 == 1) := by
  have e : ((((c.toNat : Nat) : Int) == 45) = true) ↔ ((c == 45) = true) := by
    rw [beq_iff_eq, beq_iff_eq]
    constructor
    · intro h
      exact UInt8.toNat_inj.1 (by show c.toNat = 45; omega)
    · intro h; rw [h]; rfl
  rw [Bool.eq_iff_iff, e, h]
  unfold negD
  simp only [decide_eq_true_eq, beq_iff_eq]
  omega
set_option maxHeartbeats 1000000 in
theorem short_walk (W : World) (g : Addr) (ev : Value) (x : Int) (hx : U64 x) (hT : FxT W g ev) (hev : ev = .nilIface ∨ ∃ te pe, ev = .iface te pe) :
    Calls Tryz.prog 12 #[.int .u64 x] W fun e w' => e = .returned (.bool true) ∧ Below W.heap.size W w' := by
  have HF : Hid (∀ w, Below W.heap.size W w → Calls Tryz.prog 14 #[] w fun e w' => e = .returned (.bool true) ∧ Below W.heap.size W w') := Lib.hid (fun w hB => fixed_any W w g ev hB hT hev)
  obtain ⟨b, rfl⟩ := Int.eq_ofNat_of_zero_le hx.1
  have hb : b < 18446744073709551616 := by have := hx.2; omega
  by_cases hfin : qD b < 2047
  · have H1 := Lib.hid (text_fin W W b hb hfin (Below.refl _ _) (fun w' h => ⟨(hT.below h).tabs, (hT.below h).ml⟩))
    obtain ⟨l1, l2, c, r, e1, e2⟩ := textB_short hfin
    have hsz : ByteArray.size ⟨(textB b).toArray⟩ = (textB b).length := rfl
    rw [e1] at H1 l1 l2
    have m1 : 2 ≤ r.length := by simp at l1; omega
    have m2 : r.length ≤ 23 := by simp at l2; omega
    have HS := Lib.hid (first_sign hb e2)
    clear hx hT hev hfin e1 e2 hsz l1 l2
    go_enter Tryz.func12, Tryz.ntmps12
    go_wp2_with (fail)
    refine H1.out.mono ?_
    rintro e' w1 ⟨rfl, h1⟩
    have HB1 := Lib.hid h1
    clear h1
    go_wp2_with (fail)
    refine (HF.out _ HB1.out).mono ?_
    rintro e' w1 ⟨rfl, h1⟩
    have HB := Lib.hid h1
    clear h1
    go_wp2_with (fail)
    go_ret
    refine ⟨?_, HB.out⟩
    show Ending.returned (.bool ((((c.toNat : Nat) : Int) == 45) == (((b : Nat) : Int) / 9223372036854775808 == 1))) = _
    rw [HS.out]
    simp
  · have H1 := Lib.hid (fun w => text_bad b w hx (qD_kind hfin))
    clear hx hT hev hfin
    go_enter Tryz.func12, Tryz.ntmps12
    go_wp2_with (fail)
    refine (H1.out _).mono ?_
    rintro e' w1 ⟨rfl, rfl⟩
    go_wp2_with (fail)
    refine (HF.out _ (Below.refl _ _)).mono ?_
    rintro e' w1 ⟨rfl, h1⟩
    have HB := Lib.hid h1
    clear h1
    go_wp2_with (fail)
    refine (HF.out _ HB.out).mono ?_
    rintro e' w1 ⟨rfl, h1⟩
    have HB := Lib.hid h1
    clear h1
    go_wp2_with (fail)
    go_ret
    exact ⟨rfl, HB.out⟩
end Go.Proofs.YtapinbbflfkglaaGreatDoor
