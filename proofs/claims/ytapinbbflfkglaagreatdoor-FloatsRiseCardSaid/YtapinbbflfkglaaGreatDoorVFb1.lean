import Derived.Test.YtapinbbflfkglaaGreatDoorProg
import Derived.Test.YtapinbbflfkglaaGreatDoorVFp3
import Derived.WalkKit
import Derived.WalkSpells
import Derived.WalkLawsBesides
import Derived.Handy
import Derived.Laws.BitsAllLaws
import Derived.Laws.Externs
import Derived.Lib.Hide
import Derived.BigQuiet
import Derived.Deep.QuietTactic
namespace Go.Proofs.YtapinbbflfkglaaGreatDoor
open Go.RowKit
set_option maxRecDepth 100000
def U64 (b : Int) : Prop := 0 ≤ b ∧ b < 18446744073709551616
def szZ (b : Int) : Int := b % 9223372036854775808
def kindZ (b : Int) : Int :=
  if szZ b = 0 then 0 else if szZ b < 4503599627370496 then 1
  else if szZ b < 9218868437227405312 then 2 else if szZ b = 9218868437227405312 then 3 else 4
def svZ (b : Int) : Int := if 9223372036854775808 ≤ b then -(szZ b) else szZ b
def sgnZ (x y : Int) : Int := if x < y then -1 else if y < x then 1 else 0
def keyZ (b : Int) : Int := 9223372036854775808 + svZ b
def fromZ (k : Int) : Int := if k < 9223372036854775808 then 18446744073709551616 - k else k - 9223372036854775808
def keyR (b : Int) : Array Value := if 9218868437227405312 < szZ b then #[.int .u64 0, .int .i64 22] else #[.int .u64 (keyZ b), .int .i64 0]
theorem size_bits {b : Int} (h : U64 b) : bits .andNot .u64 b 9223372036854775808 = szZ b := by
  obtain ⟨h0, h1⟩ := h
  obtain ⟨n, rfl⟩ := Int.eq_ofNat_of_zero_le h0
  have := u64_andNot_nat n 9223372036854775808 (by omega) (by omega)
  simp only [Int.cast_ofNat_Int] at this
  rw [this]
  have e : (18446744073709551615 - 9223372036854775808 : Nat) = 2 ^ 63 - 1 := by decide
  rw [e, Nat.and_two_pow_sub_one_eq_mod]
  unfold szZ; omega
theorem sign_nat (n : Nat) (h : n < 18446744073709551616) : n &&& 9223372036854775808 = if 9223372036854775808 ≤ n then 9223372036854775808 else 0 := by
  have e : (9223372036854775808 : Nat) = 2 ^ 63 := by decide
  rw [e]
  apply Nat.eq_of_testBit_eq
  intro i
  rw [Nat.testBit_and, Nat.testBit_two_pow]
  by_cases hi : 63 = i
  · subst hi
    have ht : n.testBit 63 = decide (2 ^ 63 ≤ n) := by
      rw [Nat.testBit_eq_decide_div_mod_eq]
      congr 1
      simp only [Nat.reducePow]
      apply propext
      omega
    rw [ht]
    by_cases hn : 2 ^ 63 ≤ n
    · rw [if_pos hn]; simp only [hn, decide_true, Bool.true_and]; decide
    · rw [if_neg hn]; simp [hn]
  · rw [show decide (63 = i) = false from by simp [hi], Bool.and_false]
    split
    · rw [Nat.testBit_two_pow]; simp [hi]
    · simp
theorem sign_bits {b : Int} (h : U64 b) : bits .and .u64 b 9223372036854775808 = if 9223372036854775808 ≤ b then 9223372036854775808 else 0 := by
  obtain ⟨h0, h1⟩ := h
  obtain ⟨n, rfl⟩ := Int.eq_ofNat_of_zero_le h0
  have := u64_and_nat n 9223372036854775808 (by omega) (by omega)
  simp only [Int.cast_ofNat_Int] at this
  rw [this, sign_nat n (by omega)]
  split <;> split <;> omega
set_option maxHeartbeats 400000 in
theorem kind_any (b : Int) (w : World) (hb : U64 b) :
    Calls Tryz.prog 15 #[.int .u64 b] w fun e w' => e = .returned (.int .i64 (kindZ b)) ∧ w = w' := by
  have hs := size_bits hb
  have hk : kindZ b = if szZ b = 0 then 0 else if szZ b < 4503599627370496 then 1
    else if szZ b < 9218868437227405312 then 2 else if szZ b = 9218868437227405312 then 3 else 4 := rfl
  generalize szZ b = s at *
  by_cases h1 : s = 0
  · rw [if_pos h1] at hk
    rw [hk]; clear hk hb
    replace h1 : (s == 0) = true := by simpa using h1
    go_enter Tryz.func15, Tryz.ntmps15
    go_wp2
    go_ret
    exact ⟨rfl, rfl⟩
  rw [if_neg h1] at hk
  replace h1 : (s == 0) = false := by simpa using h1
  by_cases h2 : s < 4503599627370496
  · rw [if_pos h2] at hk
    rw [hk]; clear hk hb
    replace h2 : decide (s < 4503599627370496) = true := by simpa using h2
    go_enter Tryz.func15, Tryz.ntmps15
    go_wp2
    go_ret
    exact ⟨rfl, rfl⟩
  rw [if_neg h2] at hk
  replace h2 : decide (s < 4503599627370496) = false := by simpa using h2
  by_cases h3 : s < 9218868437227405312
  · rw [if_pos h3] at hk
    rw [hk]; clear hk hb
    replace h3 : decide (s < 9218868437227405312) = true := by simpa using h3
    go_enter Tryz.func15, Tryz.ntmps15
    go_wp2
    go_ret
    exact ⟨rfl, rfl⟩
  rw [if_neg h3] at hk
  replace h3 : decide (s < 9218868437227405312) = false := by simpa using h3
  by_cases h4 : s = 9218868437227405312
  · rw [if_pos h4] at hk
    rw [hk]; clear hk hb
    replace h4 : (s == 9218868437227405312) = true := by simpa using h4
    go_enter Tryz.func15, Tryz.ntmps15
    go_wp2
    go_ret
    exact ⟨rfl, rfl⟩
  rw [if_neg h4] at hk
  replace h4 : (s == 9218868437227405312) = false := by simpa using h4
  rw [hk]; clear hk hb
  go_enter Tryz.func15, Tryz.ntmps15
  go_wp2
  go_ret
  exact ⟨rfl, rfl⟩
theorem szZ_bd {b : Int} : 0 ≤ szZ b ∧ szZ b < 9223372036854775808 := by unfold szZ; omega
theorem u64_in {x : Int} (h : 0 ≤ x) (h' : x < 18446744073709551616) : IntKind.u64.wrap x = x := IntWalk.u64_in _ ⟨h, by omega⟩
set_option maxHeartbeats 400000 in
theorem key_any (b : Int) (w : World) (hb : U64 b) :
    Calls Tryz.prog 23 #[.int .u64 b] w fun e w' => e = .returned (.tuple (keyR b)) ∧ w = w' := by
  unfold keyR
  have hs := size_bits hb
  have hg := sign_bits hb
  have hk : keyZ b = if 9223372036854775808 ≤ b then 9223372036854775808 - szZ b else 9223372036854775808 + szZ b := by
    unfold keyZ svZ; split <;> omega
  have h1 := @szZ_bd b
  have w1 := u64_in (x := 9223372036854775808 - szZ b) (by omega) (by omega)
  have w2 := u64_in (x := 9223372036854775808 + szZ b) (by omega) (by omega)
  generalize szZ b = s at *
  by_cases c : 9218868437227405312 < s
  · rw [if_pos c]
    replace c : decide (9218868437227405312 < s) = true := by simpa using c
    clear hg hk w1 w2 h1 hb
    go_enter Tryz.func23, Tryz.ntmps23
    go_wp2
    go_ret2
    exact ⟨rfl, rfl⟩
  · rw [if_neg c]
    replace c : decide (9218868437227405312 < s) = false := by simpa using c
    by_cases d : 9223372036854775808 ≤ b
    · rw [if_pos d] at hg hk
      rw [hk]
      have hg2 : (bits .and .u64 b 9223372036854775808 != 0) = true := by rw [hg]; rfl
      clear hg hk w2 h1 hb
      go_enter Tryz.func23, Tryz.ntmps23
      go_wp2
      go_ret2
      exact ⟨rfl, rfl⟩
    · rw [if_neg d] at hg hk
      rw [hk]
      have hg2 : (bits .and .u64 b 9223372036854775808 != 0) = false := by rw [hg]; rfl
      clear hg hk w1 h1 hb
      go_enter Tryz.func23, Tryz.ntmps23
      go_wp2
      go_ret2
      exact ⟨rfl, rfl⟩
theorem or_sign {x : Int} (h0 : 0 ≤ x) (h1 : x < 9223372036854775808) : bits .or .u64 9223372036854775808 x = 9223372036854775808 + x := by
  obtain ⟨n, rfl⟩ := Int.eq_ofNat_of_zero_le h0
  have := u64_or_nat 9223372036854775808 n (by omega) (by omega)
  simp only [Int.cast_ofNat_Int] at this
  rw [this]
  have e : (9223372036854775808 : Nat) = 2 ^ 63 * 1 := by decide
  rw [e, ← Nat.two_pow_add_eq_or_of_lt (by omega)]
  omega
def fromR (k : Int) : Array Value := if 18442240474082181120 < k ∨ k < 4503599627370496 then #[.int .u64 0, .int .i64 22] else #[.int .u64 (fromZ k), .int .i64 0]
set_option maxHeartbeats 400000 in
theorem fromKey_any (k : Int) (w : World) (hb : U64 k) :
    Calls Tryz.prog 24 #[.int .u64 k] w fun e w' => e = .returned (.tuple (fromR k)) ∧ w = w' := by
  obtain ⟨h0, h1⟩ := hb
  unfold fromR
  by_cases c : 18442240474082181120 < k
  · rw [if_pos (.inl c)]
    replace c : decide (18442240474082181120 < k) = true := by simpa using c
    go_enter Tryz.func24, Tryz.ntmps24
    go_wp2
    go_ret2
    exact ⟨rfl, rfl⟩
  by_cases d : k < 4503599627370496
  · rw [if_pos (.inr d)]
    replace c : decide (18442240474082181120 < k) = false := by simpa using c
    replace d : decide (k < 4503599627370496) = true := by simpa using d
    clear h1
    go_enter Tryz.func24, Tryz.ntmps24
    go_wp2
    go_ret2
    exact ⟨rfl, rfl⟩
  rw [if_neg (by omega)]
  by_cases d2 : k < 9223372036854775808
  · have w1 := u64_in (x := 9223372036854775808 - k) (by omega) (by omega)
    have w2 := or_sign (x := 9223372036854775808 - k) (by omega) (by omega)
    have e : fromZ k = 9223372036854775808 + (9223372036854775808 - k) := by unfold fromZ; rw [if_pos d2]; omega
    rw [e]
    replace c : decide (18442240474082181120 < k) = false := by simpa using c
    replace d : decide (k < 4503599627370496) = false := by simpa using d
    replace d2 : decide (k < 9223372036854775808) = true := by simpa using d2
    clear h1 e
    go_enter Tryz.func24, Tryz.ntmps24
    go_wp2
    go_ret2
    exact ⟨rfl, rfl⟩
  · have w1 := u64_in (x := k - 9223372036854775808) (by omega) (by omega)
    have e : fromZ k = k - 9223372036854775808 := by unfold fromZ; rw [if_neg d2]
    rw [e]
    replace c : decide (18442240474082181120 < k) = false := by simpa using c
    replace d : decide (k < 4503599627370496) = false := by simpa using d
    replace d2 : decide (k < 9223372036854775808) = false := by simpa using d2
    clear h1 e
    go_enter Tryz.func24, Tryz.ntmps24
    go_wp2
    go_ret2
    exact ⟨rfl, rfl⟩
end Go.Proofs.YtapinbbflfkglaaGreatDoor
