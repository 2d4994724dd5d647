/-
  THE WALK OF FloatsNext.
-/
import Derived.Test.YtapinbbflfkglaaGreatDoorFc2
namespace Go.Proofs.YtapinbbflfkglaaGreatDoor
open Go.RowKit Go.Lib Go.Sort
set_option maxRecDepth 100000
theorem fromR_in {k : Int} (h : 4503599627370496 ≤ k ∧ k ≤ 18442240474082181120) : fromR k = #[.int .u64 (fromZ k), .int .i64 0] := by unfold fromR; rw [if_neg (by omega)]
theorem fromR_out {k : Int} (h : ¬ (4503599627370496 ≤ k ∧ k ≤ 18442240474082181120)) : fromR k = #[.int .u64 0, .int .i64 22] := by unfold fromR; rw [if_pos (by omega)]
theorem sv_from {k : Int} (h : 4503599627370496 ≤ k ∧ k ≤ 18442240474082181120) : U64 (fromZ k) ∧ svZ (fromZ k) = k - 9223372036854775808 ∧ nanZ (fromZ k) = false := by
  unfold U64 nanZ svZ szZ fromZ
  refine ⟨?_, ?_, ?_⟩
  · split <;> omega
  · repeat' split
    all_goals omega
  · simp only [decide_eq_false_iff_not]
    repeat' split
    all_goals omega
theorem next_cmp {k b : Int} (h : 4503599627370496 ≤ k ∧ k < 18442240474082181120) : cmpR (fromZ k) (fromZ (k + 1)) = #[.int .i64 (-1), .bool true] ∧
    ((cmpR b (fromZ k) = #[.int .i64 0, .bool false] ∧ cmpR b (fromZ (k + 1)) = #[.int .i64 0, .bool false]) ∨
     ∃ c d : Int, ((c = -1 ∨ c = 0) ∨ (c = 1 ∧ (d = 0 ∨ d = 1))) ∧ cmpR b (fromZ k) = #[.int .i64 c, .bool true] ∧ cmpR b (fromZ (k + 1)) = #[.int .i64 d, .bool true]) := by
  obtain ⟨_, s1, n1⟩ := sv_from (k := k) (by omega)
  obtain ⟨_, s2, n2⟩ := sv_from (k := k + 1) (by omega)
  unfold cmpR
  rw [n1, n2, s1, s2]
  refine ⟨?_, ?_⟩
  · rw [if_neg (by simp)]
    unfold sgnZ
    rw [if_pos (by omega)]
  · by_cases c : nanZ b = true
    · left; rw [if_pos (.inl c), if_pos (.inl c)]; exact ⟨rfl, rfl⟩
    · right
      rw [if_neg (by simp [c]), if_neg (by simp [c])]
      refine ⟨_, _, ?_, rfl, rfl⟩
      unfold sgnZ
      repeat' split
      all_goals omega
set_option maxHeartbeats 1000000 in
theorem next_walk (W : World) (g : Addr) (ev : Value) (a b : Int) (ha : U64 a) (hb : U64 b) (hT : FxT W g ev) (hev : ev = .nilIface ∨ ∃ te pe, ev = .iface te pe) :
    Calls Tryz.prog 13 #[.int .u64 a, .int .u64 b] W fun e w' => e = .returned (.bool true) ∧ Below W.heap.size W w' := by
  have HF := Lib.hid (fixed_any W W g ev (Below.refl _ _) hT hev)
  by_cases c : a = 18446744073709551615
  · have c1 : (a == 18446744073709551615) = true := by simpa using c
    clear ha hb hT hev c
    go_enter Tryz.func13, Tryz.ntmps13
    go_wp2_with (fail)
    refine HF.out.mono ?_
    rintro e' w1 ⟨rfl, h1⟩
    have HB := Lib.hid h1
    clear h1
    go_wp2_with (fail)
    go_ret
    exact ⟨rfl, HB.out⟩
  have c1 : (a == 18446744073709551615) = false := by simpa using c
  have hw : IntKind.u64.wrap (a + 1) = a + 1 := u64_in (by have := ha.1; omega) (by have := ha.2; omega)
  have H1 := Lib.hid (fun w => fromKey_any a w ha)
  have H2 := Lib.hid (fun w => fromKey_any (a + 1) w ⟨by have := ha.1; omega, by have := ha.2; omega⟩)
  by_cases r1 : 4503599627370496 ≤ a ∧ a ≤ 18442240474082181120
  · by_cases r2 : a < 18442240474082181120
    · rw [fromR_in r1] at H1
      rw [fromR_in (k := a + 1) (by omega)] at H2
      obtain ⟨uA, _, _⟩ := sv_from r1
      obtain ⟨uB, _, _⟩ := sv_from (k := a + 1) (by omega)
      have H3 := Lib.hid (fun w => cmp_any (fromZ a) (fromZ (a + 1)) w uA uB)
      have H4 := Lib.hid (fun w => cmp_any b (fromZ a) w hb uA)
      have H5 := Lib.hid (fun w => cmp_any b (fromZ (a + 1)) w hb uB)
      obtain ⟨k1, k2⟩ := next_cmp (k := a) (b := b) (by omega)
      rw [k1] at H3
      obtain ⟨A, hA⟩ : ∃ A, A = fromZ a := ⟨_, rfl⟩
      obtain ⟨B, hB⟩ : ∃ B, B = fromZ (a + 1) := ⟨_, rfl⟩
      rw [← hA] at H1 H3 H4 k2
      rw [← hB] at H2 H3 H5 k2
      clear hA hB k1 uA uB ha hb hT hev c r1 r2
      rcases k2 with ⟨e1, e2⟩ | ⟨x, y, h, e1, e2⟩
      · rw [e1] at H4
        rw [e2] at H5
        clear e1 e2
        go_enter Tryz.func13, Tryz.ntmps13
        go_wp2_with (fail)
        refine (H1.out _).mono ?_
        rintro e' w1 ⟨rfl, rfl⟩
        go_wp2_with (fail)
        refine (H2.out _).mono ?_
        rintro e' w1 ⟨rfl, rfl⟩
        go_wp2_with (fail)
        refine HF.out.mono ?_
        rintro e' w1 ⟨rfl, h1⟩
        have HB := Lib.hid h1
        clear h1
        go_wp2_with (fail)
        refine (H3.out _).mono ?_
        rintro e' w1 ⟨rfl, rfl⟩
        go_wp2_with (fail)
        refine (H4.out _).mono ?_
        rintro e' w1 ⟨rfl, rfl⟩
        go_wp2_with (fail)
        refine (H5.out _).mono ?_
        rintro e' w1 ⟨rfl, rfl⟩
        go_wp2_with (fail)
        go_ret
        exact ⟨rfl, HB.out⟩
      · rw [e1] at H4
        rw [e2] at H5
        clear e1 e2
        rcases h with (rfl | rfl) | ⟨rfl, rfl | rfl⟩
        all_goals
          go_enter Tryz.func13, Tryz.ntmps13
          go_wp2_with (fail)
          refine (H1.out _).mono ?_
          rintro e' w1 ⟨rfl, rfl⟩
          go_wp2_with (fail)
          refine (H2.out _).mono ?_
          rintro e' w1 ⟨rfl, rfl⟩
          go_wp2_with (fail)
          refine HF.out.mono ?_
          rintro e' w1 ⟨rfl, h1⟩
          have HB := Lib.hid h1
          clear h1
          go_wp2_with (fail)
          refine (H3.out _).mono ?_
          rintro e' w1 ⟨rfl, rfl⟩
          go_wp2_with (fail)
          refine (H4.out _).mono ?_
          rintro e' w1 ⟨rfl, rfl⟩
          go_wp2_with (fail)
          refine (H5.out _).mono ?_
          rintro e' w1 ⟨rfl, rfl⟩
          go_wp2_with (fail)
          go_ret
          exact ⟨rfl, HB.out⟩
    · rw [fromR_in r1] at H1
      rw [fromR_out (k := a + 1) (by omega)] at H2
      obtain ⟨A, hA⟩ : ∃ A, A = fromZ a := ⟨_, rfl⟩
      rw [← hA] at H1
      clear hA ha hb hT hev c r1 r2
      go_enter Tryz.func13, Tryz.ntmps13
      go_wp2_with (fail)
      refine (H1.out _).mono ?_
      rintro e' w1 ⟨rfl, rfl⟩
      go_wp2_with (fail)
      refine (H2.out _).mono ?_
      rintro e' w1 ⟨rfl, rfl⟩
      go_wp2_with (fail)
      refine HF.out.mono ?_
      rintro e' w1 ⟨rfl, h1⟩
      have HB := Lib.hid h1
      clear h1
      go_wp2_with (fail)
      go_ret
      exact ⟨rfl, HB.out⟩
  · rw [fromR_out r1] at H1
    obtain ⟨y, f, h2⟩ := fromR_form (a + 1)
    rw [h2] at H2
    clear h2 ha hb hT hev c r1
    go_enter Tryz.func13, Tryz.ntmps13
    go_wp2_with (fail)
    refine (H1.out _).mono ?_
    rintro e' w1 ⟨rfl, rfl⟩
    go_wp2_with (fail)
    refine (H2.out _).mono ?_
    rintro e' w1 ⟨rfl, rfl⟩
    go_wp2_with (fail)
    refine HF.out.mono ?_
    rintro e' w1 ⟨rfl, h1⟩
    have HB := Lib.hid h1
    clear h1
    go_wp2_with (fail)
    go_ret
    exact ⟨rfl, HB.out⟩
end Go.Proofs.YtapinbbflfkglaaGreatDoor
