/-
  THE TEXT OF ANY NUMBER: of a zero, of a finite one, of what is none.
-/
import Derived.Test.YtapinbbflfkglaaGreatDoorFb23
namespace Go.Proofs.YtapinbbflfkglaaGreatDoor
open Go.RowKit Go.Lib Go.Sort
set_option maxRecDepth 100000
def qD (b : Nat) : Nat := b / 4503599627370496 % 2048
def MD (b : Nat) : Nat := if qD b = 0 then b % 4503599627370496 else b % 4503599627370496 + 4503599627370496
def ED (b : Nat) : Int := if qD b = 0 then -1022 else (qD b : Int) - 1023
def shD (b : Nat) : Nat := 64 - Lib.bitLen (MD b)
def eD (b : Nat) : Int := ED b - shD b - 52
def negD (b : Nat) : Bool := decide (9223372036854775808 ≤ b)
def digD (b : Nat) : Nat := fxD (MD b * 2 ^ shD b) (eD b)
def pwD (b : Nat) : Int := fxP (MD b * 2 ^ shD b) (eD b)
/-- Text of a finite number -/
def textB (b : Nat) : List UInt8 :=
  if MD b = 0 then sgB (negD b) ++ [48, 101, 48] else numT (negD b) (Lib.decDigits (digD b)) (kp (digD b) 17) (16 + pwD b)
theorem neg_eq {b : Nat} (h : b < 18446744073709551616) : (((b : Nat) : Int) / 9223372036854775808 != 0) = negD b := by
  unfold negD
  rw [Bool.eq_iff_iff]
  simp only [bne_iff_ne, ne_eq, decide_eq_true_eq]
  omega
theorem MD_lt (b : Nat) : MD b < 9007199254740992 := by unfold MD; split <;> omega
theorem nz_parts {b : Nat} (h : MD b ≠ 0) (hfin : qD b < 2047) : Lib.bitLen (MD b) + shD b = 64 ∧ 11 ≤ shD b ∧ shD b ≤ 63 ∧ 9223372036854775808 ≤ MD b * 2 ^ shD b ∧ MD b * 2 ^ shD b < 18446744073709551616 ∧
    ∃ m, MD b * 2 ^ shD b = 2048 * m ∧ 2 ^ 52 ≤ m ∧ m < 2 ^ 53 ∧ -1137 ≤ eD b ∧ eD b ≤ 960 := by
  obtain ⟨sh, h1, h2, h3, h4, h5⟩ := bitLen_sh (M := MD b) (by omega) (MD_lt b)
  have e : sh = shD b := by unfold shD; omega
  subst e
  refine ⟨h1, h2, h3, h4, h5, MD b * 2 ^ (shD b - 11), ?_, ?_, ?_, ?_, ?_⟩
  · have : 2 ^ shD b = 2048 * 2 ^ (shD b - 11) := by
      rw [show (2048 : Nat) = 2 ^ 11 from rfl, ← Nat.pow_add, show 11 + (shD b - 11) = shD b by omega]
    rw [this, Nat.mul_left_comm]
  · have : 2 ^ shD b = 2048 * 2 ^ (shD b - 11) := by
      rw [show (2048 : Nat) = 2 ^ 11 from rfl, ← Nat.pow_add, show 11 + (shD b - 11) = shD b by omega]
    rw [this, Nat.mul_left_comm] at h4
    omega
  · have : 2 ^ shD b = 2048 * 2 ^ (shD b - 11) := by
      rw [show (2048 : Nat) = 2 ^ 11 from rfl, ← Nat.pow_add, show 11 + (shD b - 11) = shD b by omega]
    rw [this, Nat.mul_left_comm] at h5
    omega
  · unfold eD ED; split <;> omega
  · unfold eD ED; split <;> omega
theorem digD_bd {b : Nat} (h : MD b ≠ 0) (hfin : qD b < 2047) : 10000000000000000 ≤ digD b ∧ digD b < 100000000000000000 ∧ -340 ≤ pwD b ∧ pwD b ≤ 292 := by
  obtain ⟨_, _, _, _, _, m, e, m1, m2, e1, e2⟩ := nz_parts h hfin
  unfold digD pwD
  rw [e]
  exact ⟨(fxD_bd e1 e2 m1 m2).1, (fxD_bd e1 e2 m1 m2).2, (fxP_bd e1 e2).1, (fxP_bd e1 e2).2⟩
theorem dec_getD {D j : Nat} (h : j < Lib.nDigits D) : (Lib.decDigits D).getD j 0 = Lib.dg D (Lib.nDigits D - 1 - j) := by
  rw [List.getD_eq_getElem?_getD, Lib.decDigits_eq]
  simp [h]
theorem dg_toNat (D j : Nat) : (Lib.dg D j).toNat = 48 + D / 10 ^ j % 10 := by
  unfold Lib.dg
  have : D / 10 ^ j % 10 < 10 := Nat.mod_lt _ (by omega)
  rw [UInt8.toNat_ofNat_of_lt' (by simp [UInt8.size]; omega)]
theorem dec_digits (D : Nat) : ∀ b ∈ Lib.decDigits D, 48 ≤ b.toNat ∧ b.toNat ≤ 57 := by
  intro b hb
  rw [Lib.decDigits_eq, List.mem_map] at hb
  obtain ⟨t, _, rfl⟩ := hb
  rw [dg_toNat]
  omega
/-- how many digits are kept: at least one; the last of them is not 0 -/
theorem kp17 {D : Nat} (h1 : 10000000000000000 ≤ D) (h2 : D < 100000000000000000) : 1 ≤ kp D 17 ∧ kp D 17 ≤ 17 ∧ (Lib.decDigits D).getD (kp D 17 - 1) 0 ≠ 48 ∧ (Lib.decDigits D).length = 17 := by
  obtain ⟨a1, a2, a3⟩ := kp_spec 17 D
  have hk : 1 ≤ kp D 17 := kp_pos (by show D / 10 ^ 16 % 10 ≠ 0; simp; omega) (by omega)
  have hN := nDigits17 h1 h2
  refine ⟨hk, a1, ?_, by rw [Lib.decDigits_length, hN]⟩
  rw [dec_getD (by omega), hN]
  intro e
  have := congrArg UInt8.toNat e
  rw [dg_toNat] at this
  rcases a3 with a3 | a3
  · omega
  · rw [show 17 - 1 - (kp D 17 - 1) = 17 - kp D 17 by omega] at this
    have e48 : (48 : UInt8).toNat = 48 := rfl
    omega
/-- the text out of the bytes, for any digits' number -/
theorem mant_of_D {neg : Bool} {D K : Nat} {x : Int} (h1 : 10000000000000000 ≤ D) (h2 : D < 100000000000000000) (hK : K = kp D 17) (hx : x.natAbs < 400) :
    mant0 (outB neg (Lib.decDigits D) K x) ++ [101] ++ Lib.itoa x = numT neg (Lib.decDigits D) K x ∧ Lib.atoi (Lib.cut (outB neg (Lib.decDigits D) K x) [101]).2.1 = some x ∧ (Lib.cut (outB neg (Lib.decDigits D) K x) [101]).2.1.length ≤ 18 ∧ (outB neg (Lib.decDigits D) K x).length ≤ 24 := by
  obtain ⟨k1, k2, k3, k4⟩ := kp17 h1 h2
  rw [← hK] at k1 k2 k3
  exact mant_of k1 (by omega) (by omega) (dec_digits _) k3 (by omega) hx
theorem kind_fin {b : Nat} (hfin : qD b < 2047) : kindZ b < 3 := by
  unfold qD at hfin
  unfold kindZ szZ
  repeat' split
  all_goals omega
theorem MD_zero {b : Nat} (h : MD b = 0) (hb : b < 18446744073709551616) : b = 0 ∨ b = 9223372036854775808 := by
  unfold MD qD at h
  split at h <;> omega
/-- THE TEXT OF A FINITE NUMBER -/
theorem text_fin (W w : World) (b : Nat) (hb : b < 18446744073709551616) (hfin : qD b < 2047) (hB : Below W.heap.size W w)
    (hT : ∀ w', Below W.heap.size W w' → Tabs w' ∧ ∃ m, w'.cell? ⟨4, 0, none⟩ = some (.int .i64 m)) :
    Calls Tryz.prog 21 #[.int .u64 (b : Nat)] w fun e w' => e = .returned (.tuple #[.string ⟨(textB b).toArray⟩, .int .i64 0]) ∧ Below W.heap.size W w' := by
  have hU : U64 (b : Nat) := ⟨by omega, by omega⟩
  have hk := kind_fin hfin
  by_cases c : MD b = 0
  · have hz := MD_zero c hb
    have hF := ftoa_zero W b hz
    rw [neg_eq hb] at hF
    have e : ∀ neg : Bool, mant0 (outB neg [] 0 0) ++ [101] ++ Lib.itoa 0 = sgB neg ++ [48, 101, 48] ∧ Lib.atoi (Lib.cut (outB neg [] 0 0) [101]).2.1 = some 0 ∧ (Lib.cut (outB neg [] 0 0) [101]).2.1.length ≤ 18 ∧ (outB neg [] 0 0).length ≤ 24 := by decide +kernel
    obtain ⟨e1, e2, e3, e4⟩ := e (negD b)
    refine (text_any W w (b : Nat) hU hk _ 0 (by rw [Int.toNat_natCast]; exact hF) hB e4 e2 (by omega) hT e3).mono ?_
    rintro e w' ⟨rfl, h⟩
    refine ⟨?_, h⟩
    rw [e1]
    unfold textB
    rw [if_pos c]
  · obtain ⟨p1, p2, p3, p4, p5, _⟩ := nz_parts c hfin
    obtain ⟨d1, d2, d3, d4⟩ := digD_bd c hfin
    obtain ⟨k1, k2, _, _⟩ := kp17 d1 d2
    have hF := ftoaIs_nz W b hb (qD b) (b % 4503599627370496) rfl rfl hfin (ED b) (MD b) rfl rfl (by omega) (fun w' h => (hT w' h).1) (shD b) p1 p2 p3 p4 p5 (digD b) (pwD b) rfl rfl (by omega) d2 (by omega) (by omega)
    unfold txt at hF
    rw [neg_eq hb, nDigits17 d1 d2] at hF
    have ht : textB b = numT (negD b) (Lib.decDigits (digD b)) (kp (digD b) 17) (16 + pwD b) := by unfold textB; rw [if_neg c]
    rw [ht]
    clear ht
    obtain ⟨D, hD⟩ : ∃ D, D = digD b := ⟨_, rfl⟩
    obtain ⟨P, hP⟩ : ∃ P, P = pwD b := ⟨_, rfl⟩
    rw [← hD] at d1 d2 hF k1 k2
    rw [← hP] at d3 d4 hF
    rw [← hD, ← hP]
    clear hD hP
    obtain ⟨K, hK⟩ : ∃ K, K = kp D 17 := ⟨_, rfl⟩
    rw [← hK] at hF k1 k2
    rw [← hK]
    rw [if_neg (show ¬ K = 0 by omega), show ((17 : Nat) : Int) + P - 1 = 16 + P by omega] at hF
    obtain ⟨e1, e2, e3, e4⟩ := mant_of_D (neg := negD b) (x := 16 + P) d1 d2 hK (by omega)
    refine (text_any W w (b : Nat) hU hk _ (16 + P) (by rw [Int.toNat_natCast]; exact hF) hB e4 e2 (by omega) hT e3).mono ?_
    rintro e w' ⟨rfl, h⟩
    exact ⟨by rw [e1], h⟩
/-- what is no finite number has none -/
theorem text_bad (b : Int) (w : World) (hb : U64 b) (hk : 3 ≤ kindZ b) : Calls Tryz.prog 21 #[.int .u64 b] w fun e w' => e = .returned (.tuple #[.string ⟨#[]⟩, .int .i64 22]) ∧ w = w' := by
  have HK := Lib.hid (fun w => kind_any b w hb)
  have hc : decide ((3 : Int) ≤ kindZ b) = true := by simpa using hk
  obtain ⟨K, hK⟩ : ∃ K, K = kindZ b := ⟨_, rfl⟩
  rw [← hK] at HK hc
  clear hK hk hb
  go_enter Tryz.func21, Tryz.ntmps21
  go_wp2_with (fail)
  refine (HK.out _).mono ?_
  rintro e' w1 ⟨rfl, rfl⟩
  go_wp2_with (fail)
  go_ret2
  exact ⟨rfl, rfl⟩
theorem itoa_len4 : ∀ n : Int, -999 ≤ n → n ≤ 999 → 1 ≤ (Lib.itoa n).length ∧ (Lib.itoa n).length ≤ 4 := by
  intro n h1 h2
  have k : ∀ a : Nat, a < 1000 → 1 ≤ Lib.nDigits a ∧ Lib.nDigits a ≤ 3 := by
    intro a h
    rcases Nat.eq_zero_or_pos a with c | c
    · subst c; rw [Lib.nDigits_small (by omega)]; omega
    · exact ⟨Lib.nDigits_pos a, nDigits_le c (k := 3) h⟩
  unfold Lib.itoa
  split
  · have := k n.natAbs (by omega)
    rw [List.length_cons, Lib.decDigits_length]
    omega
  · have := k n.toNat (by omega)
    rw [Lib.decDigits_length]
    omega
theorem numT_short {neg : Bool} {ds : List UInt8} {K : Nat} {x : Int} (hl : ds.length = 17) (k2 : K ≤ 17) (hd : 48 ≤ (ds.getD 0 0).toNat) (hx : -999 ≤ x ∧ x ≤ 999) :
    3 ≤ (numT neg ds K x).length ∧ (numT neg ds K x).length ≤ 24 ∧ ∃ c r, numT neg ds K x = c :: r ∧ (c == 45) = neg := by
  have hi := itoa_len4 x hx.1 hx.2
  unfold numT
  have hm : (if K ≤ 1 then ([] : List UInt8) else 46 :: (ds.take K).drop 1).length ≤ 17 := by
    split
    · simp
    · simp; omega
  generalize ds.getD 0 0 = d0 at *
  generalize (if K ≤ 1 then ([] : List UInt8) else 46 :: (ds.take K).drop 1) = ms at *
  cases neg
  · refine ⟨by simp [sgB]; omega, by simp [sgB]; omega, d0, _, rfl, ?_⟩
    rw [beq_eq_false_iff_ne]
    intro e
    rw [e] at hd
    exact absurd hd (by decide)
  · exact ⟨by simp [sgB]; omega, by simp [sgB]; omega, 45, _, rfl, rfl⟩
theorem zeroT_short : ∀ neg : Bool, 3 ≤ (sgB neg ++ [48, 101, 48]).length ∧ (sgB neg ++ [48, 101, 48]).length ≤ 24 ∧ ∃ c r, sgB neg ++ [48, 101, 48] = c :: r ∧ (c == 45) = neg
  | true => ⟨by decide, by decide, _, _, rfl, rfl⟩
  | false => ⟨by decide, by decide, _, _, rfl, by decide⟩
/-- THE TEXT's SIZE AND ITS FIRST BYTE -/
theorem textB_short {b : Nat} (hfin : qD b < 2047) : 3 ≤ (textB b).length ∧ (textB b).length ≤ 24 ∧ ∃ c r, textB b = c :: r ∧ (c == 45) = negD b := by
  unfold textB
  by_cases c : MD b = 0
  · rw [if_pos c]
    exact zeroT_short _
  · rw [if_neg c]
    obtain ⟨d1, d2, d3, d4⟩ := digD_bd c hfin
    obtain ⟨k1, k2, k3, k4⟩ := kp17 d1 d2
    obtain ⟨D, hD⟩ : ∃ D, D = digD b := ⟨_, rfl⟩
    obtain ⟨P, hP⟩ : ∃ P, P = pwD b := ⟨_, rfl⟩
    rw [← hD] at d1 d2 k1 k2 k3 k4
    rw [← hP] at d3 d4
    rw [← hD, ← hP]
    refine numT_short k4 k2 ?_ (by omega)
    rw [dec_getD (Lib.nDigits_pos _), dg_toNat]; omega
end Go.Proofs.YtapinbbflfkglaaGreatDoor
