/-
  THE WALKS OF FloatsCmps, FloatsPlaces, FloatsKeys, FloatsNext.
-/
import Derived.Test.YtapinbbflfkglaaGreatDoorFc2
namespace Go.Proofs.YtapinbbflfkglaaGreatDoor
open Go.RowKit Go.Lib Go.Sort
set_option maxRecDepth 100000
theorem cmpR_two (a b : Int) : (cmpR a b = #[.int .i64 0, .bool false] ∧ cmpR b a = #[.int .i64 0, .bool false]) ∨
    ∃ c d : Int, ((c = -1 ∧ d = 1) ∨ (c = 0 ∧ d = 0) ∨ (c = 1 ∧ d = -1)) ∧ cmpR a b = #[.int .i64 c, .bool true] ∧ cmpR b a = #[.int .i64 d, .bool true] := by
  unfold cmpR
  by_cases h : nanZ a = true ∨ nanZ b = true
  · left; rw [if_pos h, if_pos h.symm]; exact ⟨rfl, rfl⟩
  · right
    rw [if_neg h, if_neg (fun x => h x.symm)]
    refine ⟨_, _, ?_, rfl, rfl⟩
    unfold sgnZ
    repeat' split
    all_goals omega
theorem cmps_walk (W : World) (g : Addr) (ev : Value) (a b : Int) (ha : U64 a) (hb : U64 b) (hT : FxT W g ev) (hev : ev = .nilIface ∨ ∃ te pe, ev = .iface te pe) :
    Calls Tryz.prog 4 #[.int .u64 a, .int .u64 b] W fun e w' => e = .returned (.bool true) ∧ Below W.heap.size W w' := by
  have HF := Lib.hid (fixed_any W W g ev (Below.refl _ _) hT hev)
  have H1 := Lib.hid (fun w => cmp_any a b w ha hb)
  have H2 := Lib.hid (fun w => rcmp_any a b w ha hb)
  have H3 := Lib.hid (fun w => cmp_any b a w hb ha)
  have h := cmpR_two a b
  clear ha hb hT hev
  rcases h with ⟨e1, e2⟩ | ⟨c, d, h, e1, e2⟩
  · rw [e1] at H1 H2
    rw [e2] at H3
    clear e1 e2
    go_enter Tryz.func4, Tryz.ntmps4
    go_wp2_with (fail)
    refine (H1.out _).mono ?_
    rintro e' w1 ⟨rfl, rfl⟩
    go_wp2_with (fail)
    refine (H2.out _).mono ?_
    rintro e' w1 ⟨rfl, rfl⟩
    go_wp2_with (fail)
    refine (H3.out _).mono ?_
    rintro e' w1 ⟨rfl, rfl⟩
    go_wp2_with (fail)
    refine HF.out.mono ?_
    rintro e' w1 ⟨rfl, h1⟩
    have HB := Lib.hid h1
    clear h1
    go_wp2_with (fail)
    go_ret
    exact ⟨rfl, HB.out⟩
  · rw [e1] at H1 H2
    rw [e2] at H3
    clear e1 e2
    rcases h with ⟨rfl, rfl⟩ | ⟨rfl, rfl⟩ | ⟨rfl, rfl⟩
    all_goals
      go_enter Tryz.func4, Tryz.ntmps4
      go_wp2_with (fail)
      refine (H1.out _).mono ?_
      rintro e' w1 ⟨rfl, rfl⟩
      go_wp2_with (fail)
      refine (H2.out _).mono ?_
      rintro e' w1 ⟨rfl, rfl⟩
      go_wp2_with (fail)
      refine (H3.out _).mono ?_
      rintro e' w1 ⟨rfl, rfl⟩
      go_wp2_with (fail)
      refine HF.out.mono ?_
      rintro e' w1 ⟨rfl, h1⟩
      have HB := Lib.hid h1
      clear h1
      go_wp2_with (fail)
      go_ret
      exact ⟨rfl, HB.out⟩
theorem places_walk (W : World) (g : Addr) (ev : Value) (a b : Int) (ha : U64 a) (hb : U64 b) (hT : FxT W g ev) (hev : ev = .nilIface ∨ ∃ te pe, ev = .iface te pe) :
    Calls Tryz.prog 9 #[.int .u64 a, .int .u64 b] W fun e w' => e = .returned (.bool true) ∧ Below W.heap.size W w' := by
  have HF := Lib.hid (fixed_any W W g ev (Below.refl _ _) hT hev)
  have H1 := Lib.hid (fun w => key_any a w ha)
  have H2 := Lib.hid (fun w => rkey_any a w ha)
  have H3 := Lib.hid (fun w => fromKey_any b w hb)
  have H4 := Lib.hid (fun w => rfromKey_any b w hb)
  obtain ⟨x, e, h1⟩ := keyR_form a
  obtain ⟨y, f, h2⟩ := fromR_form b
  rw [h1] at H1 H2
  rw [h2] at H3 H4
  clear ha hb hT hev h1 h2
  go_enter Tryz.func9, Tryz.ntmps9
  go_wp2_with (fail)
  refine (H1.out _).mono ?_
  rintro e' w1 ⟨rfl, rfl⟩
  go_wp2_with (fail)
  refine (H2.out _).mono ?_
  rintro e' w1 ⟨rfl, rfl⟩
  go_wp2_with (fail)
  refine (H3.out _).mono ?_
  rintro e' w1 ⟨rfl, rfl⟩
  go_wp2_with (fail)
  refine (H4.out _).mono ?_
  rintro e' w1 ⟨rfl, rfl⟩
  go_wp2_with (fail)
  refine HF.out.mono ?_
  rintro e' w1 ⟨rfl, h1⟩
  have HB := Lib.hid h1
  clear h1
  go_wp2_with (fail)
  go_ret
  exact ⟨rfl, HB.out⟩
end Go.Proofs.YtapinbbflfkglaaGreatDoor
