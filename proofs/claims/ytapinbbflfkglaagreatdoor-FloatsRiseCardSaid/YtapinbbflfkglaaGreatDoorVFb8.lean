import Derived.Test.YtapinbbflfkglaaGreatDoorVFb7
import Derived.Test.YtapinbbflfkglaaGreatDoorVSh
namespace Go.Proofs.YtapinbbflfkglaaGreatDoor
open Go.RowKit Go.Lib Go.Sort
set_option maxRecDepth 100000
abbrev encB : UInt8 → Value := fun b => Value.int .u8 (b.toNat : Int)
theorem setDigits_any (blk off L C N u : Nat) (p : Int) (d : Array UInt8) (w : World) (hN : d.size = N) (hL : N ≤ L) (hLC : L ≤ C) (hH : Holds encB w blk off d) (hu : u < 10 ^ N) (hu64 : u < 18446744073709551616) (hp1 : -4000 ≤ p) (hp2 : p ≤ 4000) (hnd : N ≤ 40) :
    Calls Tryz.prog 98 #[.slice (some ⟨blk, off, none⟩) L C, .int .u64 (u : Nat), .int .i64 p, .int .i64 (N : Nat)] w fun e w' =>
      ∃ m : Nat, e = .returned (.tuple #[.int .i64 (N + p), .int .i64 (m : Nat)]) ∧ m ≤ N ∧ (∀ i, i < N - m → u / 10 ^ i % 10 = 0) ∧ (m = 0 ∨ u / 10 ^ (N - m) % 10 ≠ 0) ∧ ∃ n dk, w' = (putRow encB w blk off dk).drewN n ∧ dk.size = N ∧ ∀ t, t < N → dk[t]! = dg u (N - 1 - t) := by
  have HF := Lib.hid (Tryz.internal_strconv_formatBase10 blk off C u d w hH (by rw [hN]; exact hu) hu64 (by omega))
  rw [hN] at HF
  have HN := Lib.hid hH
  have hN2 := Lib.hid hN
  clear hu hH hN
  have e1 : decide (((N : Nat) : Int) ≤ (L : Nat)) = true := by simp; omega
  have e2 : decide (N ≤ L) = true := by simp; omega
  go_enter Tryz.func98, Tryz.ntmps98
  go_wp2_with fail
  refine HF.out.mono ?_
  rintro e' w1 ⟨rfl, n, v', dk, hw1, hI⟩
  have hpost : ∃ n dk, w1 = (putRow encB w blk off dk).drewN n ∧ dk.size = N ∧ ∀ t, t < N → dk[t]! = dg u (N - 1 - t) := ⟨n, dk, hw1, hI.size, fun t ht => hI.done t (Nat.zero_le _) ht⟩
  have HP := Lib.hid hpost
  have hf0 : ∀ t, t < N → w1.cell? ⟨blk, off + t, none⟩ = some (.int .u8 ((dg u (N - 1 - t)).toNat : Nat)) := by
    intro t ht
    have := (holds_putRow encB w blk off d dk HN.out (by rw [hI.size, hN2.out])) t (by rw [hI.size]; exact ht)
    rw [hw1, World.cell?_drewN, this.1, hI.done t (Nat.zero_le _) ht]
  clear hI hw1 HF hpost
  have HD := Lib.hid (fun k => show (dg u k).toNat = 48 + u / 10 ^ k % 10 by unfold dg; simp [UInt8.toNat_ofNat]; omega)
  go_wp2
  go_loopw [3] (fun vn wr => ∃ m : Nat, vn = .int .i64 (m : Nat) ∧ m ≤ N ∧ wr = w1 ∧ Hid (∀ i, i < N - m → u / 10 ^ i % 10 = 0)) (fun vn _ => (RowKit.intOf vn).toNat)
  case atStart => exact ⟨N, rfl, Nat.le_refl _, rfl, Lib.hid (fun i h => by omega)⟩
  case round =>
    obtain ⟨m, rfl, hm, rfl, hz⟩ := hrel
    cases m with
    | zero =>
      go_wp2
      go_ret2
      exact ⟨0, by rfl, by omega, hz.out, .inl rfl, HP.out⟩
    | succ m =>
      have c1 : decide ((0 : Int) < ((m + 1 : Nat) : Int)) = true := by simp only [decide_eq_true_eq]; omega
      have hc := hf0 m (by omega)
      obtain ⟨B, hB⟩ : ∃ B : Nat, B = (dg u (N - 1 - m)).toNat := ⟨_, rfl⟩
      rw [← hB] at hc
      have c3 : decide (((m : Nat) : Int) < ((L : Nat) : Int)) = true := by simp only [decide_eq_true_eq]; omega
      by_cases c : B = 48
      · go_wp2
        refine ⟨⟨m, rfl, by omega, trivial, Lib.hid (fun i hi => ?_)⟩, by simp [RowKit.intOf]⟩
        by_cases h : i < N - (m + 1)
        · exact hz.out i h
        · have : i = N - 1 - m := by omega
          subst this
          have := HD.out (N - 1 - m)
          omega
      · go_wp2
        go_ret2
        refine ⟨m + 1, by rfl, by omega, hz.out, .inr ?_, HP.out⟩
        have := HD.out (N - 1 - m)
        rw [show N - (m + 1) = N - 1 - m by omega]
        omega
end Go.Proofs.YtapinbbflfkglaaGreatDoor
