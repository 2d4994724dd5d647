/-
  THE WALK OF FloatsKeys.
-/
import Derived.Test.YtapinbbflfkglaaGreatDoorFb20
namespace Go.Proofs.YtapinbbflfkglaaGreatDoor
open Go.RowKit Go.Lib Go.Sort
set_option maxRecDepth 100000
theorem keyR_form (b : Int) : ∃ x e : Int, keyR b = #[.int .u64 x, .int .i64 e] := by unfold keyR; split <;> exact ⟨_, _, rfl⟩
theorem fromR_form (b : Int) : ∃ x e : Int, fromR b = #[.int .u64 x, .int .i64 e] := by unfold fromR; split <;> exact ⟨_, _, rfl⟩
theorem nanZ_iff {b : Int} : nanZ b = true ↔ 9218868437227405312 < szZ b := by unfold nanZ; simp
theorem keyR_nan {b : Int} (h : nanZ b = true) : keyR b = #[.int .u64 0, .int .i64 22] := by unfold keyR; rw [if_pos (nanZ_iff.1 h)]
theorem keyR_fin {b : Int} (h : ¬ nanZ b = true) : keyR b = #[.int .u64 (keyZ b), .int .i64 0] := by unfold keyR; rw [if_neg (fun x => h (nanZ_iff.2 x))]
theorem keyZ_bd {b : Int} (h : ¬ nanZ b = true) : 4503599627370496 ≤ keyZ b ∧ keyZ b ≤ 18442240474082181120 := by
  have h2 : ¬ 9218868437227405312 < szZ b := fun x => h (nanZ_iff.2 x)
  have := @szZ_bd b
  unfold keyZ svZ
  split <;> omega
theorem keys_back {b : Int} (hb : U64 b) (h : ¬ nanZ b = true) : (fromR (keyZ b) = #[.int .u64 b, .int .i64 0]) ∨ (fromR (keyZ b) = #[.int .u64 0, .int .i64 0] ∧ (0 : Int) ≠ b ∧ kindZ b = 0) := by
  have hk := keyZ_bd h
  obtain ⟨h0, h1⟩ := hb
  unfold fromR
  rw [if_neg (by omega)]
  by_cases c : b = 9223372036854775808
  · subst c; right; exact ⟨by kernel_rfl, by decide, by decide⟩
  · left
    have : fromZ (keyZ b) = b := by
      unfold fromZ keyZ svZ szZ
      repeat' split
      all_goals omega
    rw [this]
set_option maxHeartbeats 1000000 in
theorem keys_walk (W : World) (g : Addr) (ev : Value) (a b : Int) (ha : U64 a) (hb : U64 b) (hT : FxT W g ev) (hev : ev = .nilIface ∨ ∃ te pe, ev = .iface te pe) :
    Calls Tryz.prog 8 #[.int .u64 a, .int .u64 b] W fun e w' => e = .returned (.bool true) ∧ Below W.heap.size W w' := by
  have HF := Lib.hid (fixed_any W W g ev (Below.refl _ _) hT hev)
  have H1 := Lib.hid (fun w => key_any a w ha)
  have H2 := Lib.hid (fun w => key_any b w hb)
  have H3 := Lib.hid (fun w => cmp_any a b w ha hb)
  have HK := Lib.hid (fun w => kind_any a w ha)
  by_cases na : nanZ a = true
  · rw [keyR_nan na] at H1
    obtain ⟨y, f, h2⟩ := keyR_form b
    rw [h2] at H2
    have e3 : cmpR a b = #[.int .i64 0, .bool false] := by unfold cmpR; rw [if_pos (.inl na)]
    rw [e3] at H3
    clear ha hb hT hev h2 e3 na HK
    go_enter Tryz.func8, Tryz.ntmps8
    go_wp2_with (fail)
    refine (H1.out _).mono ?_
    rintro e' w1 ⟨rfl, rfl⟩
    go_wp2_with (fail)
    refine (H2.out _).mono ?_
    rintro e' w1 ⟨rfl, rfl⟩
    go_wp2_with (fail)
    refine (H3.out _).mono ?_
    rintro e' w1 ⟨rfl, rfl⟩
    go_wp2_with (fail)
    refine HF.out.mono ?_
    rintro e' w1 ⟨rfl, h1⟩
    have HB := Lib.hid h1
    clear h1
    go_wp2_with (fail)
    go_ret
    exact ⟨rfl, HB.out⟩
  by_cases nb : nanZ b = true
  · rw [keyR_fin na] at H1
    rw [keyR_nan nb] at H2
    have e3 : cmpR a b = #[.int .i64 0, .bool false] := by unfold cmpR; rw [if_pos (.inr nb)]
    rw [e3] at H3
    obtain ⟨x, hx⟩ : ∃ x, x = keyZ a := ⟨_, rfl⟩
    rw [← hx] at H1
    clear ha hb hT hev hx e3 na nb HK
    go_enter Tryz.func8, Tryz.ntmps8
    go_wp2_with (fail)
    refine (H1.out _).mono ?_
    rintro e' w1 ⟨rfl, rfl⟩
    go_wp2_with (fail)
    refine (H2.out _).mono ?_
    rintro e' w1 ⟨rfl, rfl⟩
    go_wp2_with (fail)
    refine (H3.out _).mono ?_
    rintro e' w1 ⟨rfl, rfl⟩
    go_wp2_with (fail)
    refine HF.out.mono ?_
    rintro e' w1 ⟨rfl, h1⟩
    have HB := Lib.hid h1
    clear h1
    go_wp2_with (fail)
    go_ret
    exact ⟨rfl, HB.out⟩
  rw [keyR_fin na] at H1
  rw [keyR_fin nb] at H2
  have e3 : cmpR a b = #[.int .i64 (sgnZ (svZ a) (svZ b)), .bool true] := by unfold cmpR; rw [if_neg (fun h => h.elim na nb)]
  rw [e3] at H3
  have hkb := keyZ_bd na
  have H4 := Lib.hid (fun w => fromKey_any (keyZ a) w ⟨by omega, by omega⟩)
  have hba := keys_back ha na
  have hs : (keyZ a < keyZ b ∧ sgnZ (svZ a) (svZ b) = -1) ∨ (keyZ b < keyZ a ∧ sgnZ (svZ a) (svZ b) = 1) ∨ (keyZ a = keyZ b ∧ sgnZ (svZ a) (svZ b) = 0) := by
    unfold keyZ sgnZ
    repeat' split
    all_goals omega
  obtain ⟨x, hx⟩ : ∃ x, x = keyZ a := ⟨_, rfl⟩
  obtain ⟨y, hy⟩ : ∃ y, y = keyZ b := ⟨_, rfl⟩
  obtain ⟨s, hsE⟩ : ∃ s, s = sgnZ (svZ a) (svZ b) := ⟨_, rfl⟩
  rw [← hx] at H1 H4 hba hs
  rw [← hy] at H2 hs
  rw [← hsE] at H3 hs
  clear ha hb hT hev hx hy hsE e3 na nb hkb
  have hlt : ∃ l r : Bool, decide (x < y) = l ∧ decide (y < x) = r ∧ ((l = true ∧ r = false ∧ s = -1) ∨ (l = false ∧ r = true ∧ s = 1) ∨ (l = false ∧ r = false ∧ s = 0)) := by
    rcases hs with ⟨h1, h2⟩ | ⟨h1, h2⟩ | ⟨h1, h2⟩
    · exact ⟨true, false, by simpa using h1, by simp; omega, .inl ⟨rfl, rfl, h2⟩⟩
    · exact ⟨false, true, by simp; omega, by simpa using h1, .inr (.inl ⟨rfl, rfl, h2⟩)⟩
    · exact ⟨false, false, by simp; omega, by simp; omega, .inr (.inr ⟨rfl, rfl, h2⟩)⟩
  clear hs
  obtain ⟨l, r, hl, hr, hlr⟩ := hlt
  rcases hba with hba | ⟨hba, hne, hk0⟩
  · rw [hba] at H4
    clear hba HK
    rcases hlr with ⟨rfl, rfl, rfl⟩ | ⟨rfl, rfl, rfl⟩ | ⟨rfl, rfl, rfl⟩
    all_goals
      go_enter Tryz.func8, Tryz.ntmps8
      go_wp2_with (fail)
      refine (H1.out _).mono ?_
      rintro e' w1 ⟨rfl, rfl⟩
      go_wp2_with (fail)
      refine (H2.out _).mono ?_
      rintro e' w1 ⟨rfl, rfl⟩
      go_wp2_with (fail)
      refine (H3.out _).mono ?_
      rintro e' w1 ⟨rfl, rfl⟩
      go_wp2_with (fail)
      refine HF.out.mono ?_
      rintro e' w1 ⟨rfl, h1⟩
      have HB := Lib.hid h1
      clear h1
      go_wp2_with (fail)
      refine (H4.out _).mono ?_
      rintro e' w1 ⟨rfl, rfl⟩
      go_wp2_with (fail)
      go_ret
      exact ⟨rfl, HB.out⟩
  · rw [hba] at H4
    rw [hk0] at HK
    have hne' : ((0 : Int) == a) = false := by rw [beq_eq_false_iff_ne]; exact hne
    clear hba hk0 hne
    rcases hlr with ⟨rfl, rfl, rfl⟩ | ⟨rfl, rfl, rfl⟩ | ⟨rfl, rfl, rfl⟩
    all_goals
      go_enter Tryz.func8, Tryz.ntmps8
      go_wp2_with (fail)
      refine (H1.out _).mono ?_
      rintro e' w1 ⟨rfl, rfl⟩
      go_wp2_with (fail)
      refine (H2.out _).mono ?_
      rintro e' w1 ⟨rfl, rfl⟩
      go_wp2_with (fail)
      refine (H3.out _).mono ?_
      rintro e' w1 ⟨rfl, rfl⟩
      go_wp2_with (fail)
      refine HF.out.mono ?_
      rintro e' w1 ⟨rfl, h1⟩
      have HB := Lib.hid h1
      clear h1
      go_wp2_with (fail)
      refine (H4.out _).mono ?_
      rintro e' w1 ⟨rfl, rfl⟩
      go_wp2_with (fail)
      refine (HK.out _).mono ?_
      rintro e' w1 ⟨rfl, rfl⟩
      go_wp2_with (fail)
      go_ret
      exact ⟨rfl, HB.out⟩
end Go.Proofs.YtapinbbflfkglaaGreatDoor
