import Derived.Test.YtapinbbflfkglaaGreatDoorVFp1
import Derived.Test.YtapinbbflfkglaaGreatDoorVFp3
import Derived.Test.YtapinbbflfkglaaGreatDoorVFb24
import Derived.Laws.Cover2
namespace Go.Proofs.YtapinbbflfkglaaGreatDoor.PFloatsParses
open Go.RowKit
set_option maxRecDepth 100000
def d9 : Nat → Nat → List Nat
  | 0, _ => []
  | j + 1, n => n % 10 :: d9 j (n / 10)
def dB (d : Nat) : UInt8 := UInt8.ofNat (48 + d)
theorem d9_length : ∀ j n, (d9 j n).length = j
  | 0, _ => rfl
  | j + 1, n => by simp [d9, d9_length j]
theorem rhe_one (w : Nat) : Fp.rhe w 1 = w := by
  unfold Fp.rhe
  simp [Nat.mod_one]
theorem rhe_ratio {a b c d : Nat} (hb : 0 < b) (hd : 0 < d) (h : a * d = c * b) : Fp.rhe a b = Fp.rhe c d := by
  have hq : a / b = c / d := by
    have h1 : a / b = a * d / (b * d) := by rw [Nat.mul_div_mul_right _ _ hd]
    have h2 : c / d = c * b / (d * b) := by rw [Nat.mul_div_mul_right _ _ hb]
    rw [h1, h2, h, Nat.mul_comm b d]
  have hr : a % b * d = c % d * b := by
    have h1 := Nat.div_add_mod a b
    have h2 := Nat.div_add_mod c d
    have h3 : b * (a / b) * d + a % b * d = d * (c / d) * b + c % d * b := by rw [← Nat.add_mul, ← Nat.add_mul, h1, h2, h]
    rw [hq] at h3
    have h4 : b * (c / d) * d = d * (c / d) * b := by rw [Nat.mul_comm b, Nat.mul_assoc, Nat.mul_comm b d, ← Nat.mul_assoc, Nat.mul_comm (c / d) d]
    omega
  unfold Fp.rhe
  simp only
  rw [hq]
  have e1 : (2 * (a % b) < b) ↔ (2 * (c % d) < d) := by
    have g1 : 2 * (a % b) * d < b * d ↔ 2 * (a % b) < b := Nat.mul_lt_mul_right hd
    have g2 : 2 * (c % d) * b < d * b ↔ 2 * (c % d) < d := Nat.mul_lt_mul_right hb
    rw [← g1, ← g2, Nat.mul_assoc, hr, Nat.mul_assoc, Nat.mul_comm b d]
  have e2 : (b < 2 * (a % b)) ↔ (d < 2 * (c % d)) := by
    have g1 : b * d < 2 * (a % b) * d ↔ b < 2 * (a % b) := Nat.mul_lt_mul_right hd
    have g2 : d * b < 2 * (c % d) * b ↔ d < 2 * (c % d) := Nat.mul_lt_mul_right hb
    rw [← g1, ← g2, Nat.mul_assoc 2, hr, Nat.mul_assoc 2, Nat.mul_comm b d]
  simp only [e1, e2]
theorem rhe_ge (a b : Nat) : a / b ≤ Fp.rhe a b := by
  unfold Fp.rhe
  simp only
  split
  · exact Nat.le_refl _
  · split
    · exact Nat.le_succ _
    · exact Nat.le_add_right _ _
def scOk (n : Nat) : Bool :=
  let e := (n : Int) - 1137
  prA e * (2 ^ 1200 * 10 ^ 1200) == 4 * prB e * (2 ^ (e + 1200).toNat * 10 ^ (pOf e + 1200).toNat)
theorem sc_all : (List.range 2098).all scOk = true := by decide +kernel
theorem sc_get (e : Int) (h1 : -1137 ≤ e) (h2 : e ≤ 960) : ∃ K : Nat, K = 1200 ∧ prA e * (2 ^ K * 10 ^ K) = 4 * prB e * (2 ^ (e + K).toNat * 10 ^ (pOf e + K).toNat) := by
  have := List.all_eq_true.1 sc_all (e + 1137).toNat (by simp; omega)
  unfold scOk at this
  rw [show (((e + 1137).toNat : Nat) : Int) - 1137 = e by omega, beq_iff_eq] at this
  exact ⟨1200, rfl, this⟩
theorem divN_unr {n d : Nat} (hd : 0 < d) : divN (Fp.unr n d) = Fp.unr n (d * 10) := by
  rw [Fp.unr_div hd (by omega) (by omega)]
  unfold divN Fp.mark
  rfl
def nN (w : Nat) (e : Int) : Nat := w * 10 ^ e.toNat * 2 ^ 1075
def nD (e : Int) : Nat := 10 ^ (-e).toNat
theorem nD_pos (e : Int) : 0 < nD e := Nat.pow_pos (by omega)
theorem rhe_le (a b : Nat) : Fp.rhe a b ≤ a / b + 1 := by
  unfold Fp.rhe
  simp only
  split
  · exact Nat.le_succ _
  · split
    · exact Nat.le_refl _
    · have := Nat.mod_lt (a / b) (show 0 < 2 by omega)
      omega
theorem cut_rhe (neg : Bool) (n j : Nat) (hj : j ≤ n.log2 + 2) : Ieee.Toward.even.cut neg n j = Fp.rhe n (2 ^ j) := by
  unfold Ieee.Toward.cut Fp.rhe
  rw [Nat.min_eq_left hj, Nat.one_shiftLeft]
  simp only
  have hlt := Nat.mod_lt n (Nat.two_pow_pos j)
  by_cases c1 : 2 * (n % 2 ^ j) < 2 ^ j
  · rw [if_pos c1]
    have : (decide (2 ^ j < 2 * (n % 2 ^ j)) || 2 ^ j == 2 * (n % 2 ^ j) && n / 2 ^ j % 2 == 1) = false := by
      rw [Bool.eq_false_iff]; simp; omega
    rw [this]; rfl
  · rw [if_neg c1]
    by_cases c2 : 2 ^ j < 2 * (n % 2 ^ j)
    · rw [if_pos c2]
      have : (decide (2 ^ j < 2 * (n % 2 ^ j)) || 2 ^ j == 2 * (n % 2 ^ j) && n / 2 ^ j % 2 == 1) = true := by simp [c2]
      rw [this]; rfl
    · rw [if_neg c2]
      have he : 2 ^ j = 2 * (n % 2 ^ j) := by omega
      have : (decide (2 ^ j < 2 * (n % 2 ^ j)) || 2 ^ j == 2 * (n % 2 ^ j) && n / 2 ^ j % 2 == 1) = decide (n / 2 ^ j % 2 = 1) := by
        rw [Bool.eq_iff_iff]; simp; omega
      rw [this]
      have h2 := Nat.mod_lt (n / 2 ^ j) (show 0 < 2 by omega)
      by_cases c3 : n / 2 ^ j % 2 = 1
      · rw [decide_eq_true c3, c3]; rfl
      · rw [decide_eq_false c3, show n / 2 ^ j % 2 = 0 by omega]; rfl
theorem nearest_word (f : Ieee.Format) (neg : Bool) (mag : Nat) (place last : Int) (kept : Nat) (h : mag ≠ 0) (hl : last = max (place + mag.log2 - f.fractionBits) f.leastPlace) (hk : kept = Ieee.Toward.even.cut neg (mag <<< (place - last).toNat) (last - place).toNat) :
    f.nearest neg mag place = f.word neg (min ((last - f.leastPlace).toNat * f.binade + kept) f.infRung) := by
  unfold Ieee.Format.nearest
  rw [if_neg h]
  simp only [hk, hl]
theorem T_pos : 0 < 2 ^ 1075 := Nat.two_pow_pos 1075
set_option exponentiation.threshold 3000 in
theorem pow_T {T : Nat} (hT : T = 2 ^ 1075) (a b : Nat) (h : a + 1075 = b) : 2 ^ a * T = 2 ^ b := by rw [hT, ← Nat.pow_add, h]
theorem min_inf {L m : Nat} (h : L ≤ 63) (hm : m ≤ 9007199254740992) : min ((L + 1022) * 4503599627370496 + m) Fp.inf = (L + 1022) * 4503599627370496 + m := by
  have e : Fp.inf = 9218868437227405312 := rfl
  rw [e]
  omega
theorem r_lt {L m : Nat} (h : L ≤ 63) (hm : m ≤ 9007199254740992) : (L + 1022) * 4503599627370496 + m < 9218868437227405312 := by omega
theorem last_eq {L : Nat} : (L : Int) - 52 = max ((0 : Int) + (L : Int) - ((52 : Nat) : Int)) (-1074) := by omega
theorem lastN {L : Nat} : ((L : Int) - 52 - -1074).toNat = L + 1022 := by omega
theorem pow_T1 {T : Nat} (hT : T = 2 ^ 1075) (b : Nat) (h : b = 1075) : 2 ^ b = T := by rw [h, hT]
theorem dbl_near (neg : Bool) (mag : Nat) (h1 : 1 ≤ mag) (h2 : mag < 18446744073709551616) (T : Nat) (hT : T = 2 ^ 1075) : ∃ r, Ieee.double.nearest neg mag 0 = (if neg then 9223372036854775808 + r else r) ∧ Fp.IsNear (mag * T) 1 r ∧ r < 9218868437227405312 := by
  have hT0 : 0 < T := by rw [hT]; exact T_pos
  obtain ⟨L, hL⟩ : ∃ L, L = mag.log2 := ⟨_, rfl⟩
  have l1 : 2 ^ L ≤ mag := by rw [hL]; exact Nat.log2_self_le (by omega)
  have l2 : mag < 2 ^ (L + 1) := by rw [hL]; exact Nat.lt_log2_self
  have l3 : L ≤ 63 := by
    rcases Nat.lt_or_ge 63 L with h | h
    · have : 2 ^ 64 ≤ 2 ^ L := Nat.pow_le_pow_right (by omega) h
      omega
    · exact h
  obtain ⟨m, hm⟩ : ∃ m, m = Fp.rhe (mag * T) (1 * 2 ^ (L + 1022 + 1)) := ⟨_, rfl⟩
  have hTL := pow_T hT
  have hT1 := pow_T1 hT
  clear hT
  have hq : mag * T / (1 * 2 ^ (L + 1022 + 1)) < 9007199254740992 := by
    rw [Nat.one_mul, Nat.div_lt_iff_lt_mul (Nat.two_pow_pos (L + 1022 + 1))]
    calc mag * T < 2 ^ (L + 1) * T := Nat.mul_lt_mul_of_pos_right l2 hT0
      _ = 2 ^ (53 + (L + 1022 + 1)) := hTL _ _ (by omega)
      _ = 2 ^ 53 * 2 ^ (L + 1022 + 1) := Nat.pow_add 2 53 (L + 1022 + 1)
  have hm53 : m ≤ 9007199254740992 := by
    have := rhe_le (mag * T) (1 * 2 ^ (L + 1022 + 1))
    rw [hm]; omega
  clear hq
  have hnear := Fp.near_of_rhe (N := mag * T) (D := 1) (t := L + 1022) (m := m) (by omega) hm hm53 (.inr (by
    rw [Nat.one_mul]
    calc 18014398509481983 * 2 ^ (L + 1022) ≤ 2 ^ 54 * 2 ^ (L + 1022) := Nat.mul_le_mul_right _ (by omega)
      _ = 2 ^ (1 + (L + 1075)) := by rw [← Nat.pow_add]; congr 1; omega
      _ = 2 * (2 ^ L * T) := by rw [hTL L (L + 1075) rfl, Nat.pow_add]
      _ ≤ _ := Nat.mul_le_mul_left 2 (Nat.mul_le_mul_right _ l1)))
  refine ⟨(L + 1022) * 4503599627370496 + m, ?_, hnear, r_lt l3 hm53⟩
  have hkept : m = Ieee.Toward.even.cut neg (mag <<< ((0 : Int) - ((L : Int) - 52)).toNat) (((L : Int) - 52) - 0).toNat := by
    rw [hm, Nat.one_mul]
    by_cases c : L ≤ 52
    · rw [show (((L : Int) - 52) - 0).toNat = 0 by omega, cut_rhe _ _ _ (by omega), show ((0 : Int) - ((L : Int) - 52)).toNat = 52 - L by omega, Nat.shiftLeft_eq, Nat.pow_zero]
      refine (rhe_ratio (by omega) (Nat.two_pow_pos (L + 1022 + 1)) ?_).symm
      rw [Nat.mul_one, Nat.mul_assoc, ← Nat.pow_add, hT1 _ (by omega)]
    · rw [show ((0 : Int) - ((L : Int) - 52)).toNat = 0 by omega, show (((L : Int) - 52) - 0).toNat = L - 52 by omega, Nat.shiftLeft_eq, Nat.pow_zero, Nat.mul_one, cut_rhe _ _ _ (by omega)]
      refine (rhe_ratio (Nat.two_pow_pos (L - 52)) (Nat.two_pow_pos (L + 1022 + 1)) ?_).symm
      rw [Nat.mul_assoc, Nat.mul_comm T, hTL (L - 52) (L + 1022 + 1) (by omega)]
  have hlast : (L : Int) - 52 = max ((0 : Int) + (mag.log2 : Int) - ((Ieee.double.fractionBits : Nat) : Int)) Ieee.double.leastPlace := by
    rw [Fp.dbl_least, ← hL, show Ieee.double.fractionBits = 52 from rfl]
    exact last_eq
  rw [nearest_word Ieee.double neg mag 0 ((L : Int) - 52) m (Nat.ne_of_gt h1) hlast hkept, Fp.dbl_least, Fp.dbl_bin, Fp.dbl_inf, lastN, min_inf l3 hm53]
  generalize (L + 1022) * 4503599627370496 + m = r
  unfold Ieee.Format.word
  rw [Fp.dbl_sign]
  have hh : Fp.half = 9223372036854775808 := rfl
  rw [hh]
theorem near_mono {N N' D k k' : Nat} (hD : 0 < D) (h : Fp.IsNear N D k) (h' : Fp.IsNear N' D k') (hN : N ≤ N') : k ≤ k' := by
  rcases Nat.lt_or_ge k' k with c | c
  · exfalso
    have hm : Fp.mid k' ≤ Fp.mid (k - 1) := by
      rcases Nat.lt_or_ge k' (k - 1) with g | g
      · exact Nat.le_of_lt (Fp.mid_lt g)
      · rw [show k' = k - 1 by omega]; exact Nat.le_refl _
    have hm2 := Nat.mul_le_mul_right D hm
    rcases Nat.lt_or_ge k' (k - 1) with g | g
    · have := Nat.mul_lt_mul_of_pos_right (Fp.mid_lt g) hD
      rcases h.1 with e | e | e <;> rcases h'.2 with f | f <;> omega
    · have hk : k = k' + 1 := by omega
      subst hk
      have h1 : k' + 1 = 0 ∨ Fp.mid k' * D < N ∨ (Fp.mid k' * D = N ∧ (k' + 1) % 2 = 0) := h.1
      rcases h1 with e | e | e <;> rcases h'.2 with f | f <;> omega
  · exact c
end Go.Proofs.YtapinbbflfkglaaGreatDoor.PFloatsParses
