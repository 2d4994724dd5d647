/-
  THE TEXT OF ANY NUMBER: of a zero, of a finite one, of what is none.
-/
import Derived.Test.YtapinbbflfkglaaGreatDoorFb22
import Derived.Test.YtapinbbflfkglaaGreatDoorFb15
namespace Go.Proofs.YtapinbbflfkglaaGreatDoor
open Go.RowKit Go.Lib Go.Sort
set_option maxRecDepth 100000
theorem outE_zero (neg : Bool) : outE neg [] 0 0 = (outB neg [] 0 0).map encB := by cases neg <;> kernel_rfl
set_option maxHeartbeats 1000000 in
theorem ftoa_zero (W : World) (b : Nat) (hb : b = 0 ∨ b = 9223372036854775808) : FtoaIs W b (outB ((b : Int) / 9223372036854775808 != 0) [] 0 0) := by
  intro w g cur hBW hWw hg hcur
  have k := ext92
  obtain ⟨S, hS⟩ : ∃ S, S = b / 4503599627370496 := ⟨_, rfl⟩
  have hs : ((b : Nat) : Int) / 4503599627370496 = ((S : Nat) : Int) := by omega
  have hS1 : S < 4096 := by omega
  obtain ⟨q, hq⟩ : ∃ q : Nat, q = 0 := ⟨_, rfl⟩
  obtain ⟨m0, hm0⟩ : ∃ q : Nat, q = 0 := ⟨_, rfl⟩
  have c1 : bits .and .i64 ((S : Nat) : Int) 2047 = ((q : Nat) : Int) := by
    rcases hb with rfl | rfl <;> (rw [hS, and2047 _ (by omega), hq])
  have c2 : bits .and .u64 ((b : Nat) : Int) 4503599627370495 = ((m0 : Nat) : Int) := by
    rw [and52 b (by omega), hm0]; rcases hb with rfl | rfl <;> rfl
  have hq1 : q < 1 := by omega
  have hm1 : m0 < 1 := by omega
  have c3 : decide (((q : Nat) : Int) = 2047) = false := by rw [hq]; rfl
  have c4 : decide (((q : Nat) : Int) = 0) = true := by rw [hq]; rfl
  have c5 : decide (((m0 : Nat) : Int) = 0) = true := by rw [hm0]; rfl
  have hB0 : Bf W w g (g + 1) 0 [] [] :=
    ⟨⟨rfl, .inr ⟨g, 24, cur, rfl, hWw, hg, Nat.zero_le _, by decide, by omega, by simp⟩⟩, hBW, fun j u hj => by simp at hj, by omega, hBW.size⟩
  have HZ := Lib.hid (fun (w1 : World) (h1 : Bf W w1 g (g + 1) 0 [] []) (neg : Bool) => fmtE_any W w1 g (g + 1) 0 0 0 neg [] 0 0 (.slice none 0 0) h1 (by omega) (by simp) (.inl rfl) (by omega) (by omega) (fun j hj => absurd hj (by omega)) (Lib.hid (by simp)) (by omega) (by omega) (by omega) (by omega))
  have HB0 := Lib.hid hB0
  clear hS hq hm0 hb hBW hWw hg hcur hB0
  go_enter Tryz.func75, Tryz.ntmps75
  go_wp2_with (fail)
  go_quiet (fail)
  go_wp2_with (fail)
  refine (HZ.out _ ?_ _).mono ?_
  · exact HB0.out.drewN _
  rintro e' w1 ⟨n, rfl, hB⟩
  have HB := Lib.hid hB
  clear hB
  go_wp2_with (fail)
  go_ret
  have h := HB.out
  rw [outE_zero] at h
  have hb1 := h.below
  obtain ⟨h1, h2⟩ := bf_cells h
  subst h1
  exact ⟨rfl, hb1, h2⟩
end Go.Proofs.YtapinbbflfkglaaGreatDoor
