import Derived.Test.YtapinbbflfkglaaGreatDoorVFq
import Derived.Test.YtapinbbflfkglaaGreatDoorVFb5
import Derived.Test.YtapinbbflfkglaaGreatDoorVFb7
import Derived.Test.YtapinbbflfkglaaGreatDoorVFb10
import Derived.Deep.CutBlock
import Derived.Test.YtapinbbflfkglaaGreatDoorVFb6
import Derived.Test.YtapinbbflfkglaaGreatDoorVFb19
namespace Go.Proofs.YtapinbbflfkglaaGreatDoor
open Go.RowKit Go.Lib
set_option maxRecDepth 100000
open PFloatsParses (nN nD nD_pos rhe_ratio rhe_ge rhe_le)
def psE (b : Nat) (p : Int) : Int := min 1074 (53 - b - Fp.lp10 p)
def psS (b : Nat) (p : Int) : Int := 61 - b - Fp.lp10 p - psE b p
def psU (d : Nat) (p : Int) : Nat := Fp.uscaleN (d * 2 ^ (64 - Lib.bitLen d)) (hiOf p) (loOf p) (psS (Lib.bitLen d) p).toNat
def halfN (u : Nat) : Nat := if u % 2 = 0 then u / 2 else Fp.mark (u / 2)
def psM (u : Nat) : Nat := if 36028797018963966 ≤ u then Fp.rnd (halfN u) else Fp.rnd u
def psE1 (u : Nat) (e : Int) : Int := if 36028797018963966 ≤ u then e - 1 else e
def psK (m : Nat) (e : Int) : Nat := if m < 4503599627370496 then m else if e ≤ -972 then 9218868437227405312 else (1074 - e).toNat * 4503599627370496 + m
def psR (d : Nat) (p : Int) : Nat := if 64 ≤ psS (Lib.bitLen d) p then 0 else psK (psM (psU d p)) (psE1 (psU d p) (psE (Lib.bitLen d) p))
def lpOk (n : Nat) : Bool :=
  let p := (n : Int) - 345
  decide (2 ^ 127 * Fp.denB p ≤ Fp.numA p) && decide (Fp.numA p * 2 ^ 50 ≤ 2 ^ 128 * (2 ^ 50 - 1) * Fp.denB p)
theorem lp_all : (List.range 656).all lpOk = true := by decide +kernel
theorem lp_get (p : Int) (h1 : -345 ≤ p) (h2 : p ≤ 310) : 2 ^ 127 * Fp.denB p ≤ Fp.numA p ∧ Fp.numA p * 2 ^ 50 ≤ 2 ^ 128 * (2 ^ 50 - 1) * Fp.denB p := by
  have := List.all_eq_true.1 lp_all (p + 345).toNat (by simp; omega)
  unfold lpOk at this
  rw [show (((p + 345).toNat : Nat) : Int) - 345 = p by omega] at this
  simp only [Bool.and_eq_true, decide_eq_true_eq] at this
  exact this
theorem lp_bd (p : Int) (h1 : -345 ≤ p) (h2 : p ≤ 310) : -1147 ≤ Fp.lp10 p ∧ Fp.lp10 p ≤ 1029 := by unfold Fp.lp10; omega
theorem num_den (p : Int) (h1 : -345 ≤ p) (h2 : p ≤ 310) : Fp.numA p * (nD p * 2 ^ (Fp.lp10 p - 127).toNat) = Fp.denB p * (10 ^ p.toNat * 2 ^ (127 - Fp.lp10 p).toNat) := by
  unfold Fp.numA Fp.denB nD
  by_cases c : 0 ≤ p
  · rw [if_pos c, if_pos c, show (-p).toNat = 0 by omega, Nat.pow_zero, Nat.one_mul, Nat.mul_comm]
  · have hl : Fp.lp10 p < 0 := by unfold Fp.lp10; omega
    rw [if_neg c, if_neg c, show p.toNat = 0 by omega, show (Fp.lp10 p - 127).toNat = 0 by omega, Nat.pow_zero, Nat.mul_one, Nat.one_mul, Nat.mul_comm]
set_option exponentiation.threshold 3000 in
theorem ps_ratio {d b : Nat} {p e s : Int} (h1 : -345 ≤ p) (h2 : p ≤ 310) (hb : b ≤ 64) (hs : s = 61 - b - Fp.lp10 p - e) (hs0 : 0 ≤ s) (he : e ≤ 1074) :
    (d * 2 ^ (64 - b) * Fp.numA p) * (nD p * 2 ^ (1075 - e).toNat) = nN d p * (Fp.denB p * 2 ^ (128 + s.toNat) * 4) := by
  have hnd := num_den p h1 h2
  obtain ⟨l1, l2⟩ := lp_bd p h1 h2
  obtain ⟨A, hA⟩ : ∃ A, A = Fp.numA p := ⟨_, rfl⟩
  obtain ⟨B, hB⟩ : ∃ A, A = Fp.denB p := ⟨_, rfl⟩
  obtain ⟨D, hD⟩ : ∃ A, A = nD p := ⟨_, rfl⟩
  obtain ⟨L, hL⟩ : ∃ L, L = Fp.lp10 p := ⟨_, rfl⟩
  rw [← hA, ← hB, ← hD, ← hL] at hnd
  rw [← hL] at hs l1 l2
  rw [← hA, ← hB, ← hD]
  unfold nN
  clear hA hB hD hL
  have hp : 0 < 2 ^ (L - 127).toNat := Nat.two_pow_pos _
  apply Nat.mul_right_cancel hp
  have e1 : (2 : Nat) ^ (64 - b) * 2 ^ (127 - L).toNat * 2 ^ (1075 - e).toNat = 2 ^ 1075 * (2 ^ (128 + s.toNat) * 4) * 2 ^ (L - 127).toNat := by
    rw [show (4 : Nat) = 2 ^ 2 from rfl, ← Nat.pow_add, ← Nat.pow_add, ← Nat.pow_add, ← Nat.pow_add, ← Nat.pow_add]
    congr 1
    omega
  generalize (2 : Nat) ^ (64 - b) = a at *
  generalize (2 : Nat) ^ (127 - L).toNat = c at *
  generalize (2 : Nat) ^ (1075 - e).toNat = f at *
  generalize (2 : Nat) ^ 1075 = t at *
  generalize (2 : Nat) ^ (128 + s.toNat) = g at *
  generalize (2 : Nat) ^ (L - 127).toNat = h at *
  generalize (10 : Nat) ^ p.toNat = k at *
  calc d * a * A * (D * f) * h = d * a * f * (A * (D * h)) := by grind
    _ = d * a * f * (B * (k * c)) := by rw [hnd]
    _ = d * k * B * (a * c * f) := by grind
    _ = d * k * B * (t * (g * 4) * h) := by rw [e1]
    _ = _ := by grind
theorem halfN_unr {n d : Nat} (hd : 0 < d) : halfN (Fp.unr n d) = Fp.unr n (d * 2) := by
  rw [Fp.unr_div hd (by omega) (by omega)]
  unfold halfN Fp.mark
  rfl
theorem bitLen_bd {d : Nat} (h1 : 1 ≤ d) (h2 : d < 18446744073709551616) : 1 ≤ Lib.bitLen d ∧ Lib.bitLen d ≤ 64 ∧ 9223372036854775808 ≤ d * 2 ^ (64 - Lib.bitLen d) ∧ d * 2 ^ (64 - Lib.bitLen d) < 18446744073709551616 := by
  have hb := Lib.bitLenAux_bounds 64 d (by omega) (by omega)
  rw [show Lib.bitLenAux 64 d = Lib.bitLen d from rfl] at hb
  obtain ⟨L, hL⟩ : ∃ L, L = Lib.bitLen d := ⟨_, rfl⟩
  rw [← hL] at hb ⊢
  obtain ⟨a, b, c⟩ := hb
  have hL64 : L ≤ 64 := by
    rcases Nat.lt_or_ge 64 L with h | h
    · have : 2 ^ 64 ≤ 2 ^ (L - 1) := Nat.pow_le_pow_right (by omega) (by omega)
      omega
    · exact h
  refine ⟨a, hL64, ?_, ?_⟩
  · calc 9223372036854775808 = 2 ^ (L - 1) * 2 ^ (64 - L) := by rw [← Nat.pow_add, show L - 1 + (64 - L) = 63 by omega]
      _ ≤ _ := Nat.mul_le_mul_right _ b
  · calc d * 2 ^ (64 - L) < 2 ^ L * 2 ^ (64 - L) := Nat.mul_lt_mul_of_pos_right c (Nat.two_pow_pos _)
      _ = 18446744073709551616 := by rw [← Nat.pow_add, show L + (64 - L) = 64 by omega]
theorem psU_eq {d : Nat} {p : Int} (h1 : 1 ≤ d) (h2 : d < 18446744073709551616) (p1 : -345 ≤ p) (p2 : p ≤ 310) (hs : psS (Lib.bitLen d) p < 64) :
    8 ≤ psS (Lib.bitLen d) p ∧ psU d p = Fp.unr (d * 2 ^ (64 - Lib.bitLen d) * Fp.numA p) (Fp.denB p * 2 ^ (128 + (psS (Lib.bitLen d) p).toNat)) ∧ psU d p < 72057594037927936 - 32 ∧
      (psE (Lib.bitLen d) p < 1074 → 18014398509481984 ≤ d * 2 ^ (64 - Lib.bitLen d) * Fp.numA p / (Fp.denB p * 2 ^ (128 + (psS (Lib.bitLen d) p).toNat))) := by
  obtain ⟨b1, b2, b3, b4⟩ := bitLen_bd h1 h2
  obtain ⟨q1, q2⟩ := lp_get p p1 p2
  have hl := hilo p (by omega) (by omega)
  have hs8 : 8 ≤ psS (Lib.bitLen d) p := by unfold psS psE; omega
  have hB := Fp.denB_pos p
  have hx1 : 2 ^ 63 ≤ d * 2 ^ (64 - Lib.bitLen d) := by omega
  have hx2 : d * 2 ^ (64 - Lib.bitLen d) < 2 ^ 64 := by omega
  have hU := Fp.parse_uscale p1 p2 hx1 hx2 hl.2.2 (pm_hilo p) (s := (psS (Lib.bitLen d) p).toNat) (by omega)
  have hUe : psU d p = Fp.unr (d * 2 ^ (64 - Lib.bitLen d) * Fp.numA p) (Fp.denB p * 2 ^ (128 + (psS (Lib.bitLen d) p).toNat)) := hU
  refine ⟨hs8, hUe, ?_, ?_⟩
  · rw [hUe]
    obtain ⟨s, hse⟩ : ∃ s : Nat, (psS (Lib.bitLen d) p).toNat = 8 + s := ⟨(psS (Lib.bitLen d) p).toNat - 8, by omega⟩
    rw [hse]
    generalize d * 2 ^ (64 - Lib.bitLen d) = x at *
    generalize Fp.numA p = A at *
    generalize Fp.denB p = B at *
    have hu := @Fp.unr_even (x * A) (B * 2 ^ (128 + (8 + s)))
    have hq : x * A / (B * 2 ^ (128 + (8 + s))) < 72057594037927936 - 64 + 1 := by
      rw [Nat.div_lt_iff_lt_mul (Nat.mul_pos hB (Nat.two_pow_pos _))]
      have hps : 1 ≤ 2 ^ s := Nat.one_le_two_pow
      have e1 : (2 : Nat) ^ (128 + (8 + s)) = 2 ^ 136 * 2 ^ s := by rw [← Nat.pow_add]; congr 1; omega
      have hA : A < 2 ^ 128 * B := by omega
      have hxA : x * A * 2 ^ 50 ≤ 2 ^ 64 * (2 ^ 128 * (2 ^ 50 - 1) * B) := by
        calc x * A * 2 ^ 50 = x * (A * 2 ^ 50) := by rw [Nat.mul_assoc]
          _ ≤ 2 ^ 64 * (2 ^ 128 * (2 ^ 50 - 1) * B) := Nat.mul_le_mul (Nat.le_of_lt hx2) q2
      have hxA2 : x * A ≤ 2 ^ 142 * (2 ^ 50 - 1) * B := by
        have : 2 ^ 64 * (2 ^ 128 * (2 ^ 50 - 1) * B) = 2 ^ 142 * (2 ^ 50 - 1) * B * 2 ^ 50 := by
          rw [show (2 : Nat) ^ 64 * (2 ^ 128 * (2 ^ 50 - 1) * B) = 2 ^ 64 * 2 ^ 128 * (2 ^ 50 - 1) * B by simp only [Nat.mul_assoc], show (2 : Nat) ^ 142 * (2 ^ 50 - 1) * B * 2 ^ 50 = 2 ^ 142 * 2 ^ 50 * (2 ^ 50 - 1) * B by rw [Nat.mul_right_comm _ B, Nat.mul_right_comm (2 ^ 142)]]
        rw [this] at hxA
        exact Nat.le_of_mul_le_mul_right hxA (by omega)
      calc x * A ≤ 2 ^ 142 * (2 ^ 50 - 1) * B := hxA2
        _ < (72057594037927936 - 64 + 1) * (B * 2 ^ 136) := by rw [Nat.mul_comm B, ← Nat.mul_assoc]; exact Nat.mul_lt_mul_of_pos_right (by decide) hB
        _ ≤ (72057594037927936 - 64 + 1) * (B * 2 ^ (128 + (8 + s))) := by
          rw [e1]
          exact Nat.mul_le_mul_left _ (Nat.mul_le_mul_left _ (Nat.le_mul_of_pos_right _ hps))
    omega
  · intro he
    have hs' : (psS (Lib.bitLen d) p).toNat = 8 := by unfold psS; unfold psE at he ⊢; omega
    rw [hs', Nat.le_div_iff_mul_le (Nat.mul_pos hB (Nat.two_pow_pos _))]
    calc 18014398509481984 * (Fp.denB p * 2 ^ (128 + 8)) = 2 ^ 63 * (2 ^ 127 * Fp.denB p) := by
          rw [show (18014398509481984 : Nat) * (Fp.denB p * 2 ^ (128 + 8)) = 18014398509481984 * 2 ^ (128 + 8) * Fp.denB p by rw [Nat.mul_comm (Fp.denB p), Nat.mul_assoc], ← Nat.mul_assoc]
      _ ≤ _ := Nat.mul_le_mul hx1 q1
theorem ps_near {d : Nat} {p : Int} (h1 : 1 ≤ d) (h2 : d < 18446744073709551616) (p1 : -345 ≤ p) (p2 : p ≤ 310) :
    (psR d p < 9218868437227405312 ∧ Fp.IsNear (nN d p) (nD p) (psR d p)) ∨ (psR d p = 9218868437227405312 ∧ ∃ k, 9218868437227405312 ≤ k ∧ Fp.IsNear (nN d p) (nD p) k) := by
  obtain ⟨b1, b2, b3, b4⟩ := bitLen_bd h1 h2
  have hD := nD_pos p
  unfold psR
  by_cases c : 64 ≤ psS (Lib.bitLen d) p
  · rw [if_pos c]
    left
    refine ⟨by omega, .inl rfl, .inl ?_⟩
    rw [show Fp.mid 0 = 1 by decide, Nat.one_mul]
    obtain ⟨q1, q2⟩ := lp_get p p1 p2
    have hr := ps_ratio (d := d) (b := Lib.bitLen d) (e := psE (Lib.bitLen d) p) (s := psS (Lib.bitLen d) p) p1 p2 b2 rfl (by omega) (by unfold psE; omega)
    have he : psE (Lib.bitLen d) p = 1074 := by unfold psS at c; unfold psE at c ⊢; omega
    rw [he, show ((1075 : Int) - 1074).toNat = 1 from rfl] at hr
    have hB := Fp.denB_pos p
    have hA : Fp.numA p < 2 ^ 128 * Fp.denB p := by omega
    obtain ⟨s, hs⟩ : ∃ s : Nat, (psS (Lib.bitLen d) p).toNat = 64 + s := ⟨(psS (Lib.bitLen d) p).toNat - 64, by omega⟩
    rw [hs] at hr
    have hps : 1 ≤ 2 ^ s := Nat.one_le_two_pow
    rcases Nat.lt_or_ge (nN d p) (nD p) with h | h
    · exact h
    · exfalso
      have e1 : (2 : Nat) ^ (128 + (64 + s)) = 2 ^ 192 * 2 ^ s := by rw [← Nat.pow_add]; congr 1; omega
      have : d * 2 ^ (64 - Lib.bitLen d) * Fp.numA p * (nD p * 2 ^ 1) < nN d p * (Fp.denB p * 2 ^ (128 + (64 + s)) * 4) := by
        calc d * 2 ^ (64 - Lib.bitLen d) * Fp.numA p * (nD p * 2 ^ 1) < 2 ^ 64 * (2 ^ 128 * Fp.denB p) * (nD p * 2 ^ 1) :=
              Nat.mul_lt_mul_of_pos_right (Nat.mul_lt_mul'' (by omega) hA) (Nat.mul_pos hD (by omega))
          _ ≤ nD p * (Fp.denB p * (2 ^ 192 * 2 ^ s) * 4) := by
            have : 2 ^ 64 * (2 ^ 128 * Fp.denB p) * (nD p * 2 ^ 1) = nD p * (Fp.denB p * (2 ^ 192 * 1) * 2) := by
              rw [show (2 : Nat) ^ 192 = 2 ^ 64 * 2 ^ 128 from by rw [← Nat.pow_add]]; generalize (2 : Nat) ^ 64 = a; generalize (2 : Nat) ^ 128 = b; grind
            rw [this]
            exact Nat.mul_le_mul_left _ (Nat.mul_le_mul (Nat.mul_le_mul_left _ (Nat.mul_le_mul_left _ hps)) (by omega))
          _ ≤ _ := by rw [e1]; exact Nat.mul_le_mul_right _ h
      omega
  · rw [if_neg c]
    obtain ⟨s8, hU, hUb, hlow⟩ := psU_eq h1 h2 p1 p2 (by omega)
    have hr := ps_ratio (d := d) (b := Lib.bitLen d) (e := psE (Lib.bitLen d) p) (s := psS (Lib.bitLen d) p) p1 p2 b2 rfl (by omega) (by unfold psE; omega)
    have heb : psE (Lib.bitLen d) p ≤ 1074 := by unfold psE; omega
    obtain ⟨e, he⟩ : ∃ e, e = psE (Lib.bitLen d) p := ⟨_, rfl⟩
    rw [← he] at hr heb hlow ⊢
    obtain ⟨u, hu⟩ : ∃ u, u = psU d p := ⟨_, rfl⟩
    rw [← hu] at hU hUb ⊢
    have hB : 0 < Fp.denB p * 2 ^ (128 + (psS (Lib.bitLen d) p).toNat) := Nat.mul_pos (Fp.denB_pos p) (Nat.two_pow_pos _)
    obtain ⟨n, hn⟩ : ∃ n, n = d * 2 ^ (64 - Lib.bitLen d) * Fp.numA p := ⟨_, rfl⟩
    obtain ⟨B, hBB⟩ : ∃ n, n = Fp.denB p * 2 ^ (128 + (psS (Lib.bitLen d) p).toNat) := ⟨_, rfl⟩
    rw [← hn, ← hBB] at hr hU hlow
    rw [← hBB] at hB
    clear hn hBB hu he s8 c b1 b2 b3 b4
    have key : ∃ (t m : Nat), m = psM u ∧ (t : Int) = 1074 - psE1 u e ∧ m = Fp.rhe (nN d p) (nD p * 2 ^ (t + 1)) ∧ m < 9007199254740992 ∧ (t = 0 ∨ (18014398509481983 * (nD p * 2 ^ t) ≤ 2 * nN d p ∧ 4503599627370496 ≤ m)) := by
      have tp : ∀ t : Nat, 0 < nD p * 2 ^ t := fun t => Nat.mul_pos hD (Nat.two_pow_pos t)
      unfold psM psE1
      by_cases cu : 36028797018963966 ≤ u
      · rw [if_pos cu, if_pos cu]
        refine ⟨(1074 - (e - 1)).toNat, _, rfl, by omega, ?_, ?_, .inr ⟨?_, ?_⟩⟩
        · rw [hU, halfN_unr hB, Fp.rnd_unr (Nat.mul_pos hB (by omega))]
          refine rhe_ratio (Nat.mul_pos (Nat.mul_pos hB (by omega)) (by omega)) (tp _) ?_
          rw [show (1074 - (e - 1)).toNat + 1 = (1075 - e).toNat + 1 by omega, Nat.pow_succ, ← Nat.mul_assoc (nD p), ← Nat.mul_assoc n, hr]
          grind
        · unfold Fp.rnd halfN Fp.mark
          repeat' split
          all_goals omega
        · have hnq : 36028797018963966 ≤ n / B := by
            have := @Fp.unr_even n B
            rw [← hU] at this
            omega
          rw [Nat.le_div_iff_mul_le hB] at hnq
          have h3 : 36028797018963966 * B * (nD p * 2 ^ (1075 - e).toNat) ≤ nN d p * (B * 4) := by rw [← hr]; exact Nat.mul_le_mul_right _ hnq
          have h4 : B * (36028797018963966 * (nD p * 2 ^ (1075 - e).toNat)) ≤ B * (nN d p * 4) := by
            have g1 : B * (36028797018963966 * (nD p * 2 ^ (1075 - e).toNat)) = 36028797018963966 * B * (nD p * 2 ^ (1075 - e).toNat) := by rw [← Nat.mul_assoc, Nat.mul_comm B]
            have g2 : B * (nN d p * 4) = nN d p * (B * 4) := Nat.mul_left_comm _ _ _
            rw [g1, g2]
            exact h3
          have h5 := Nat.le_of_mul_le_mul_left h4 hB
          rw [show (1074 - (e - 1)).toNat = (1075 - e).toNat by omega]
          omega
        · unfold Fp.rnd halfN Fp.mark
          repeat' split
          all_goals omega
      · rw [if_neg cu, if_neg cu]
        refine ⟨(1074 - e).toNat, _, rfl, by omega, ?_, ?_, ?_⟩
        · rw [hU, Fp.rnd_unr hB]
          refine rhe_ratio (Nat.mul_pos hB (by omega)) (tp _) ?_
          rw [show (1074 - e).toNat + 1 = (1075 - e).toNat by omega]
          exact hr
        · unfold Fp.rnd; omega
        · by_cases ce : e = 1074
          · left; omega
          · right
            have hl := hlow (by omega)
            have hul := @Fp.unr_even n B
            rw [← hU] at hul
            refine ⟨?_, by unfold Fp.rnd; omega⟩
            rw [Nat.le_div_iff_mul_le hB] at hl
            have h3 : 18014398509481984 * B * (nD p * 2 ^ (1075 - e).toNat) ≤ nN d p * (B * 4) := by rw [← hr]; exact Nat.mul_le_mul_right _ hl
            have h4 : B * (18014398509481984 * (nD p * 2 ^ (1075 - e).toNat)) ≤ B * (nN d p * 4) := by
              have g1 : B * (18014398509481984 * (nD p * 2 ^ (1075 - e).toNat)) = 18014398509481984 * B * (nD p * 2 ^ (1075 - e).toNat) := by rw [← Nat.mul_assoc, Nat.mul_comm B]
              have g2 : B * (nN d p * 4) = nN d p * (B * 4) := Nat.mul_left_comm _ _ _
              rw [g1, g2]
              exact h3
            have h5 := Nat.le_of_mul_le_mul_left h4 hB
            rw [show (1075 - e).toNat = (1074 - e).toNat + 1 by omega, Nat.pow_succ, ← Nat.mul_assoc (nD p)] at h5
            omega
    obtain ⟨t, m, hm, ht, hmr, hm53, hlow2⟩ := key
    rw [← hm]
    have hnear := Fp.near_of_rhe (N := nN d p) (D := nD p) (t := t) (m := m) hD hmr (by omega) (hlow2.imp id fun h => h.1)
    unfold psK
    by_cases c52 : m < 4503599627370496
    · rw [if_pos c52]
      left
      have ht0 : t = 0 := by rcases hlow2 with h | h; exact h; omega
      rw [ht0, Nat.zero_mul, Nat.zero_add] at hnear
      exact ⟨by omega, hnear⟩
    · rw [if_neg c52]
      by_cases c972 : psE1 u e ≤ -972
      · rw [if_pos c972]
        exact .inr ⟨rfl, t * 4503599627370496 + m, by omega, hnear⟩
      · rw [if_neg c972, ← ht, Int.toNat_natCast]
        exact .inl ⟨by omega, hnear⟩
end Go.Proofs.YtapinbbflfkglaaGreatDoor
namespace Go.Proofs.YtapinbbflfkglaaGreatDoor
open Go.RowKit Go.Lib Go.Sort
set_option maxRecDepth 100000
theorem or_hi (h a : Nat) (i : Nat) (ha : a < 2 ^ i) : (2 ^ i * h) ||| a = 2 ^ i * h + a := (Nat.two_pow_add_eq_or_of_lt ha h).symm
theorem and_b52 (h m : Nat) (hm : m < 9007199254740992) : (2 ^ 53 * h + m) &&& 4503599627370496 = if m < 4503599627370496 then 0 else 4503599627370496 := by
  have e : (4503599627370496 : Nat) = 2 ^ 52 := by decide
  rw [e]
  apply Nat.eq_of_testBit_eq
  intro i
  rw [Nat.testBit_and, Nat.testBit_two_pow]
  by_cases hi : 52 = i
  · subst hi
    have ht : (2 ^ 53 * h + m).testBit 52 = decide (2 ^ 52 ≤ m) := by
      rw [Nat.testBit_eq_decide_div_mod_eq]
      congr 1
      simp only [Nat.reducePow]
      apply propext
      omega
    rw [ht]
    by_cases hc : m < 2 ^ 52
    · rw [if_pos hc]
      have : ¬ 2 ^ 52 ≤ m := by omega
      simp [this]
    · rw [if_neg hc]
      have : 2 ^ 52 ≤ m := by omega
      simp only [this, decide_true, Bool.true_and]
      decide
  · rw [show decide (52 = i) = false from by simp [hi], Bool.and_false]
    split
    · simp
    · rw [Nat.testBit_two_pow]; simp [hi]
theorem andNot_b52 (h m : Nat) (hm1 : 4503599627370496 ≤ m) (hm : m < 9007199254740992) (hh : h < 2048) : (2 ^ 53 * h + m) &&& (18446744073709551615 - 4503599627370496) = 2 ^ 53 * h + (m - 4503599627370496) := by
  obtain ⟨l, rfl⟩ : ∃ l, m = 4503599627370496 + l := ⟨m - 4503599627370496, by omega⟩
  have hl : l < 2 ^ 52 := by omega
  rw [Nat.add_sub_cancel_left]
  have e1 : 2 ^ 53 * h + (4503599627370496 + l) = (2 ^ 53 * h + l) ||| 2 ^ 52 := by
    rw [← or_hi h (4503599627370496 + l) 53 (by omega), ← or_hi h l 53 (by omega), show (4503599627370496 : Nat) + l = 2 ^ 52 * 1 + l by omega, ← or_hi 1 l 52 hl, Nat.mul_one, Nat.or_assoc, Nat.or_comm l]
  have e2 : (18446744073709551615 - 4503599627370496 : Nat) = 2 ^ 64 - (2 ^ 52 + 1) := by decide
  rw [e1, e2]
  apply Nat.eq_of_testBit_eq
  intro i
  rw [Nat.testBit_and, Nat.testBit_or, Nat.testBit_two_pow_sub_succ (by decide), Nat.testBit_two_pow]
  by_cases hi : 52 = i
  · subst hi
    have : (2 ^ 53 * h + l).testBit 52 = false := by
      rw [Nat.testBit_eq_decide_div_mod_eq, decide_eq_false_iff_not]
      simp only [Nat.reducePow]
      omega
    rw [this]
    simp
  · rw [show decide (52 = i) = false from by simp [hi]]
    simp only [Bool.or_false, Bool.not_false, Bool.and_true]
    by_cases h64 : i < 64
    · simp [h64]
    · have : (2 ^ 53 * h + l).testBit i = false := Nat.testBit_lt_two_pow (Nat.lt_of_lt_of_le (show 2 ^ 53 * h + l < 2 ^ 64 by omega) (Nat.pow_le_pow_right (by omega) (by omega)))
      rw [this]; simp
theorem or_place (h l k : Nat) (hh : h = 0 ∨ h = 1024) (hl : l < 4503599627370496) (hk : k < 2048) : (2 ^ 53 * h + l) ||| (k * 4503599627370496) = 2 ^ 53 * h + k * 4503599627370496 + l := by
  have e0 : k * 4503599627370496 = 2 ^ 52 * k := by rw [Nat.mul_comm]
  rw [← or_hi h l 53 (by omega), Nat.or_assoc, Nat.or_comm l, e0, or_hi k l 52 (by omega)]
  rcases hh with rfl | rfl
  · simp
  · rw [show (2 : Nat) ^ 53 * 1024 = 2 ^ 63 * 1 by decide, or_hi 1 _ 63 (by omega)]
    omega
def sgN (g : Bool) : Nat := if g then 9223372036854775808 else 0
theorem sgN_hi (g : Bool) : ∃ h, sgN g = 2 ^ 53 * h ∧ (h = 0 ∨ h = 1024) := by
  cases g
  · exact ⟨0, rfl, .inl rfl⟩
  · exact ⟨1024, by decide, .inr rfl⟩
def psErr (m : Nat) (e : Int) : Value := if m < 4503599627370496 then .nilIface else if e ≤ -972 then .iface 86 (.int .i64 1) else .nilIface
set_option maxHeartbeats 1000000 in
theorem pack_walk (g : Bool) (m : Nat) (e : Int) (w : World) (hm : m < 9007199254740992) (he1 : -5000 ≤ e) (he2 : e ≤ 1074) :
    Calls Tryz.prog 163 #[.int .u64 (sgN g + m : Nat), .int .i64 (-e)] w fun r w' => r = .returned (.tuple #[.float .f64 (sgN g + psK m e), psErr m e]) ∧ w = w' := by
  have k := ext127
  obtain ⟨h, hsg, hh⟩ := sgN_hi g
  obtain ⟨X, hX⟩ : ∃ X, X = sgN g + m := ⟨_, rfl⟩
  have hX2 : X < 18446744073709551616 := by rw [hX, hsg]; omega
  have c1 : bits .and .u64 ((X : Nat) : Int) 4503599627370496 = ((if m < 4503599627370496 then 0 else 4503599627370496 : Nat) : Int) := by
    have := u64_and_nat X 4503599627370496 hX2 (by omega)
    simp only [Int.cast_ofNat_Int] at this
    rw [this, hX, hsg, and_b52 h m hm]
  rw [← hX]
  unfold psK psErr
  by_cases a : m < 4503599627370496
  · rw [if_pos a] at c1
    rw [if_pos a, if_pos a]
    have HX := Lib.hid hX
    clear hX hsg hh a
    go_enter Tryz.func163, Tryz.ntmps163
    go_wp2
    go_ret2
    exact ⟨by rw [← HX.out]; simp, rfl⟩
  · rw [if_neg a] at c1
    rw [if_neg a, if_neg a]
    by_cases b : e ≤ -972
    · rw [if_pos b, if_pos b]
      have c2 : bits .and .u64 ((X : Nat) : Int) 9223372036854775808 = ((sgN g : Nat) : Int) := by
        have := u64_and_nat X 9223372036854775808 hX2 (by omega)
        simp only [Int.cast_ofNat_Int] at this
        rw [this, sign_nat X hX2, hX]
        unfold sgN
        cases g <;> simp <;> omega
      have c3 : bits .or .u64 ((sgN g : Nat) : Int) 9218868437227405312 = ((sgN g + 9218868437227405312 : Nat) : Int) := by
        have := u64_or_nat (sgN g) 9218868437227405312 (by unfold sgN; split <;> omega) (by omega)
        simp only [Int.cast_ofNat_Int] at this
        rw [this]
        cases g <;> decide
      obtain ⟨S, hS⟩ : ∃ S, S = sgN g := ⟨_, rfl⟩
      rw [← hS] at c2 c3
      rw [← hS]
      clear hX hsg hh a hS
      go_enter Tryz.func163, Tryz.ntmps163
      go_wp2
      go_ret2
      exact ⟨by simp, rfl⟩
    · rw [if_neg b, if_neg b]
      obtain ⟨t, ht⟩ : ∃ t : Nat, (t : Int) = 1074 - e := ⟨(1074 - e).toNat, by omega⟩
      have hY : bits .andNot .u64 ((X : Nat) : Int) 4503599627370496 = ((sgN g + (m - 4503599627370496) : Nat) : Int) := by
        have := u64_andNot_nat X 4503599627370496 hX2 (by omega)
        simp only [Int.cast_ofNat_Int] at this
        rw [this, hX, hsg, andNot_b52 h m (by omega) hm (by omega)]
      have hZ : bits .or .u64 ((sgN g + (m - 4503599627370496) : Nat) : Int) (((t + 1) * 4503599627370496 : Nat) : Int) = ((sgN g + (t * 4503599627370496 + m) : Nat) : Int) := by
        rw [u64_or_nat _ _ (by rw [hsg]; omega) (by omega), hsg, or_place h _ (t + 1) hh (by omega) (by omega)]
        omega
      have e1 : (1075 : Int) + -e = ((t + 1 : Nat) : Int) := by omega
      have e2 : IntKind.u64.wrap (((t + 1 : Nat) : Int) * 4503599627370496) = (((t + 1) * 4503599627370496 : Nat) : Int) := by
        rw [show ((t + 1 : Nat) : Int) * 4503599627370496 = (((t + 1) * 4503599627370496 : Nat) : Int) by omega]
        exact u64_in (by omega) (by omega)
      have e3 : IntKind.u64.wrap ((t + 1 : Nat) : Int) = ((t + 1 : Nat) : Int) := u64_in (by omega) (by omega)
      have e4 : (1074 - e).toNat = t := by omega
      rw [e4]
      obtain ⟨Y, hYe⟩ : ∃ Y, Y = sgN g + (m - 4503599627370496) := ⟨_, rfl⟩
      obtain ⟨Z, hZe⟩ : ∃ Y, Y = sgN g + (t * 4503599627370496 + m) := ⟨_, rfl⟩
      obtain ⟨V, hVe⟩ : ∃ Y, Y = (t + 1) * 4503599627370496 := ⟨_, rfl⟩
      rw [← hYe] at hY hZ
      rw [← hZe] at hZ ⊢
      rw [← hVe] at hZ e2
      have e5 : wrap64 (1075 + -e) = ((t + 1 : Nat) : Int) := by rw [e1]; unfold wrap64; omega
      obtain ⟨t1, ht1⟩ : ∃ t1 : Nat, t1 = t + 1 := ⟨_, rfl⟩
      rw [← ht1] at e1 e2 e3 e5
      clear hX hsg hh hYe hZe hVe ht e4 ht1
      go_enter Tryz.func163, Tryz.ntmps163
      go_wp2
      go_ret2
      exact ⟨by simp, rfl⟩
end Go.Proofs.YtapinbbflfkglaaGreatDoor
namespace Go.Proofs.YtapinbbflfkglaaGreatDoor
open Go.RowKit Go.Lib Go.Sort
set_option maxRecDepth 100000
theorem mark_half (u : Nat) : (u / 2) ||| (u % 2) = halfN u := by
  unfold halfN
  by_cases h : u % 2 = 0
  · rw [if_pos h, h, Nat.or_zero]
  · rw [if_neg h, show u % 2 = 1 by omega]
    exact or_one_mark _
theorem or_low (u : Nat) : u ||| (u % 2) = u := by
  rcases (show u % 2 = 0 ∨ u % 2 = 1 by omega) with h | h
  · rw [h, Nat.or_zero]
  · rw [h]
    have e := or_one_mark u
    unfold Fp.mark at e
    rw [if_neg (by omega)] at e
    exact e
theorem bool2i_any (b : Bool) (w : World) :
    Calls Tryz.prog 141 #[.bool b] w fun e w' => e = .returned (.int .i64 (if b then 1 else 0)) ∧ w' = w := by
  cases b <;> (go_enter Tryz.func141, Tryz.ntmps141; go_wp2; go_ret; exact ⟨rfl, rfl⟩)
def psErrR (d : Nat) (p : Int) : Value := if 64 ≤ psS (Lib.bitLen d) p then .nilIface else psErr (psM (psU d p)) (psE1 (psU d p) (psE (Lib.bitLen d) p))
set_option maxHeartbeats 4000000 in
theorem p64_walk (d : Nat) (p : Int) (g : Bool) (w : World) (b j : Nat) (L e s : Int) (hi lo : Nat) (hd1 : 1 ≤ d) (hd2 : d < 18446744073709551616) (hp1 : -345 ≤ p) (hp2 : p ≤ 310) (hj : Hid (p + 348 = (j : Nat))) (hj2 : j < 696)
    (hb : Hid (b = Lib.bitLen d)) (hb1 : 1 ≤ b) (hb2 : b ≤ 64) (hL : Hid (L = Fp.lp10 p)) (hL1 : -1147 ≤ L) (hL2 : L ≤ 1029) (hE : Hid (min 1074 (53 - (b : Int) - L) = e)) (hs : Hid (s = 61 - b - L - e))
    (hs8 : 8 ≤ s) (hhi : Hid (hi = hiOf p)) (hlo : Hid (lo = loOf p)) (u m : Nat) (e1 : Int) (hu : Hid (s < 64 → u = psU d p)) (hu2 : s < 64 → u < 72057594037927936) (hm : Hid (m = psM u)) (he1 : Hid (e1 = psE1 u e)) (hm2 : s < 64 → m < 9007199254740992)
    (ht0 : w.cell? ⟨11, j * 2, none⟩ = some (.int .u64 (hi : Nat))) (ht1 : w.cell? ⟨11, j * 2 + 1, none⟩ = some (.int .u64 (lo : Nat))) :
    Calls Tryz.prog 129 #[.int .u64 (d : Nat), .int .i64 p, .int .u64 (sgN g : Nat)] w fun r w' =>
      r = .returned (.tuple #[.float .f64 (if 64 ≤ s then sgN g else sgN g + psK m e1), if 64 ≤ s then .nilIface else psErr m e1]) ∧ Below w.heap.size w w' := by
  have k127 := ext127
  have he1b : -1100 ≤ e := by have := hE.out; omega
  have he2b : e ≤ 1074 := by have := hE.out; omega
  have HLen : Hid (∀ w, Calls Tryz.prog 96 #[.int .u64 (d : Nat)] w fun e w' => e = .returned (.int .i64 (b : Nat)) ∧ w' = w) := Lib.hid (fun w => by
    have := Tryz.bits_Len64 (d : Nat) w (by omega) (by omega)
    rw [Int.toNat_natCast, ← hb.out] at this
    exact this)
  have HL2 : Hid (∀ w, Calls Tryz.prog 135 #[.int .i64 p] w fun e w' => e = .returned (.int .i64 L) ∧ w = w') := Lib.hid (fun w => by rw [hL.out]; exact log2Pow10_any p w (by omega) (by omega))
  have hsz : 11 < w.heap.size := World.block_lt_of_cell? _ _ ht0
  have hse : -(e - (64 - (b : Int)) + L + 3) = s := by rw [hs.out]; omega
  have HPS3 : Hid (Calls Tryz.prog 134 #[.pointer (some ⟨w.heap.size, 0, none⟩), .int .i64 (e - (64 - (b : Int))), .int .i64 p, .int .i64 L] (w.alloc (.cells #[.int .u64 0, .int .u64 0, .int .i64 0] 159)) fun e' w' => e' = .returned (.tuple #[]) ∧ w.alloc (.cells #[.int .u64 (hi : Nat), .int .u64 (lo : Nat), .int .i64 s] 159) = w') := Lib.hid (by
    have HPS := prescale_walk (e - (64 - (b : Int))) p L j w.heap.size (w.alloc (.cells #[.int .u64 0, .int .u64 0, .int .i64 0] 159)) hj.out hj2 ⟨by omega, by omega⟩ ⟨by omega, by omega⟩
    rw [← hhi.out, ← hlo.out] at HPS
    refine (HPS ?_ ?_ _ _ _ (World.cell?_alloc_at _ _ _ _ rfl) (World.cell?_alloc_at _ _ _ _ rfl) (World.cell?_alloc_at _ _ _ _ rfl) (World.frozen?_alloc_at _ _ _ _ rfl) (World.frozen?_alloc_at _ _ _ _ rfl) (World.frozen?_alloc_at _ _ _ _ rfl)).mono ?_
    · rw [World.cell?_alloc_past _ _ _ hsz]; exact ht0
    · rw [World.cell?_alloc_past _ _ _ hsz]; exact ht1
    · rintro e' w' ⟨rfl, rfl⟩
      refine ⟨rfl, ?_⟩
      rw [World.setCell_alloc_at _ _ _ _ _ rfl, World.setCell_alloc_at _ _ _ _ _ rfl, World.setCell_alloc_at _ _ _ _ _ rfl, hse]
      rfl)
  have HBA : Hid (Below w.heap.size w (w.alloc (.cells #[.int .u64 (hi : Nat), .int .u64 (lo : Nat), .int .i64 s] 159))) := Lib.hid ((Below.refl _ _).alloc (Nat.le_refl _) _)
  have HC2 : Hid ((w.alloc (.cells #[.int .u64 (hi : Nat), .int .u64 (lo : Nat), .int .i64 s] 159)).cell? ⟨w.heap.size, 2, none⟩ = some (.int .i64 s)) := Lib.hid (World.cell?_alloc_at _ _ _ _ rfl)
  have HUS : Hid (s < 64 → Calls Tryz.prog 136 #[.int .u64 (d * 2 ^ (64 - b) : Nat), .pointer (some ⟨w.heap.size, 0, none⟩)] (w.alloc (.cells #[.int .u64 (hi : Nat), .int .u64 (lo : Nat), .int .i64 s] 159)) fun e w' => e = .returned (.int .u64 (u : Nat)) ∧ ∃ n, w' = (w.alloc (.cells #[.int .u64 (hi : Nat), .int .u64 (lo : Nat), .int .i64 s] 159)).drewN n) := Lib.hid (fun h => by
    obtain ⟨sN, hsN⟩ : ∃ sN : Nat, s = (sN : Nat) := ⟨s.toNat, by omega⟩
    obtain ⟨b1, b2, b3, b4⟩ := bitLen_bd hd1 hd2
    have hl := hilo p (by omega) (by omega)
    rw [← hb.out] at b3 b4
    have := uscale_walk (d * 2 ^ (64 - b)) hi lo sN w.heap.size (w.alloc (.cells #[.int .u64 (hi : Nat), .int .u64 (lo : Nat), .int .i64 s] 159)) (by omega) b4 (by rw [hhi.out]; exact hl.2.1) (by rw [hlo.out]; exact hl.2.2)
      (by
        rw [Nat.le_div_iff_mul_le (by decide), hhi.out]
        calc 1 * 18446744073709551616 = 9223372036854775808 * 2 := rfl
          _ ≤ d * 2 ^ (64 - b) * hiOf p := Nat.mul_le_mul b3 hl.1)
      (World.cell?_alloc_at _ _ _ _ rfl) (World.cell?_alloc_at _ _ _ _ rfl) (by rw [World.cell?_alloc_at _ _ _ _ rfl, hsN]; rfl)
    have hUe : Fp.uscaleN (d * 2 ^ (64 - b)) hi lo sN = u := by
      rw [hu.out h, hhi.out, hlo.out, hb.out]
      unfold psU
      congr 1
      have : psS (Lib.bitLen d) p = s := by rw [hs.out, hL.out, hb.out]; unfold psS psE; have h := hE.out; rw [hb.out, hL.out] at h; omega
      rw [this]; omega
    rw [hUe] at this
    exact this)
  have hshl : Hid (IntKind.u64.wrap (((d : Nat) : Int) * 2 ^ (64 - b)) = ((d * 2 ^ (64 - b) : Nat) : Int)) := Lib.hid (by
    obtain ⟨b1, b2, b3, b4⟩ := bitLen_bd hd1 hd2
    rw [← hb.out] at b4
    rw [show ((d : Nat) : Int) * 2 ^ (64 - b) = ((d * 2 ^ (64 - b) : Nat) : Int) by rw [Int.natCast_mul, Int.natCast_pow]; rfl]
    exact u64_in (by omega) (by omega))
  have hsg : sgN g < 18446744073709551616 := by unfold sgN; split <;> omega
  have ho0 : bits .or .u64 ((sgN g : Nat) : Int) 0 = ((sgN g : Nat) : Int) := by
    have := u64_or_nat (sgN g) 0 hsg (by omega)
    simp only [Int.cast_ofNat_Int] at this
    rw [this, Nat.or_zero]
  have hom : s < 64 → bits .or .u64 ((sgN g : Nat) : Int) ((m : Nat) : Int) = ((sgN g + m : Nat) : Int) := fun h => by
    obtain ⟨hh, e1, e2⟩ := sgN_hi g
    rw [u64_or_nat _ _ hsg (by have := hm2 h; omega), e1, or_hi hh m 53 (by have := hm2 h; omega)]
  have HPK : Hid (s < 64 → ∀ w, Calls Tryz.prog 163 #[.int .u64 (sgN g + m : Nat), .int .i64 (-e1)] w fun r w' => r = .returned (.tuple #[.float .f64 (sgN g + psK m e1), psErr m e1]) ∧ w = w') := Lib.hid (fun h w =>
    pack_walk g m e1 w (hm2 h) (by rw [he1.out]; unfold psE1; split <;> omega) (by rw [he1.out]; unfold psE1; split <;> omega))
  have hx2 : s < 64 → m = Fp.rnd (if 36028797018963966 ≤ u then halfN u else u) := fun _ => by rw [hm.out]; unfold psM; split <;> rfl
  have hx3 : e1 = if 36028797018963966 ≤ u then e - 1 else e := he1.out
  obtain ⟨S, hS⟩ : ∃ S, S = sgN g := ⟨_, rfl⟩
  rw [← hS] at ho0 hom HPK hsg ⊢
  have HX2 := Lib.hid hx2
  have HX3 := Lib.hid hx3
  have HOM := Lib.hid hom
  have HU2 := Lib.hid hu2
  have HM2 := Lib.hid hm2
  have HSE := Lib.hid hse
  obtain ⟨rf, hrf⟩ : ∃ rf, rf = (if 64 ≤ s then S else S + psK m e1) := ⟨_, rfl⟩
  obtain ⟨re, hre⟩ : ∃ re, re = (if 64 ≤ s then Value.nilIface else psErr m e1) := ⟨_, rfl⟩
  rw [← hrf, ← hre]
  have HRF := Lib.hid hrf
  have HRE := Lib.hid hre
  clear hrf hre hx2 hx3 hom hS hu2 hm2 ht0 ht1 hj hb hL hs hhi hlo hu hm he1 hse hj2
  go_enter Tryz.func129, Tryz.ntmps129
  go_wp2_with (fail)
  refine (HLen.out _).mono ?_
  rintro e' w' ⟨rfl, hw'⟩
  subst hw'
  go_wp2_with (fail)
  refine (HL2.out _).mono ?_
  rintro e' w' ⟨rfl, hw'⟩
  subst hw'
  go_wp2_with (fail)
  rw [hE.out]
  refine HPS3.out.mono ?_
  rintro e' w2 ⟨rfl, hw2⟩
  have hbn := HBA.out
  have hc2 := HC2.out
  have hus := HUS.out
  rw [hw2] at hbn hc2 hus
  have HUS2 := Lib.hid hus
  have HBN := Lib.hid hbn
  clear HUS HC2 HBA HPS3 hw2 hbn hus HLen HL2 hE HSE
  by_cases c : 64 ≤ s
  · have q1 : Hid (S = rf) := Lib.hid (by rw [HRF.out, if_pos c])
    have q2 : Hid (Value.nilIface = re) := Lib.hid (by rw [HRE.out, if_pos c])
    have c1 : decide ((64 : Int) ≤ s) = true := by simpa using c
    go_wp2_with (fail)
    go_ret2
    refine ⟨?_, HBN.out⟩
    rw [← q1.out, ← q2.out]
    simp
  · have q1 : Hid (S + psK m e1 = rf) := Lib.hid (by rw [HRF.out, if_neg c])
    have q2 : Hid (psErr m e1 = re) := Lib.hid (by rw [HRE.out, if_neg c])
    have c1 : decide ((64 : Int) ≤ s) = false := by simpa using c
    have hus := Lib.hid (HUS2.out (by omega))
    have hu2 := HU2.out (by omega)
    have hm2 := HM2.out (by omega)
    have hx2 := Lib.hid (HX2.out (by omega))
    have hom := HOM.out (by omega)
    have HPK2 := Lib.hid (HPK.out (by omega))
    clear HUS2 HU2 HM2 HX2 HOM HPK c
    go_wp2_with (fail)
    rw [hshl.out]
    refine hus.out.mono ?_
    rintro e' w3 ⟨rfl, n, hw3⟩
    have hbn : Below w'.heap.size w' w3 := by rw [hw3]; exact below_drewN HBN.out n
    have HB3 := Lib.hid hbn
    clear hbn hw3 hus HBN hshl hc2
    go_wp2_with (fail)
    refine (unmin_any _ _ (by omega) (by omega)).mono ?_
    rintro e' w4 ⟨rfl, rfl⟩
    have k1 := and_one_bits u (by omega)
    have hrnd := Lib.hid (round_any)
    by_cases cu : 36028797018963966 ≤ u
    · have hm3 : Hid (m = Fp.rnd (halfN u)) := Lib.hid (by rw [hx2.out, if_pos cu])
      have he3 : Hid (-(e - 1) = -e1) := Lib.hid (by rw [HX3.out, if_pos cu])
      have c' : decide ((36028797018963966 : Int) ≤ (u : Nat)) = true := by simp; omega
      have hor : bits .or .u64 (((u : Nat) : Int) / 2) (((u : Nat) : Int) % 2) = ((halfN u : Nat) : Int) := by
        rw [show ((u : Nat) : Int) % 2 = ((u % 2 : Nat) : Int) by omega, show ((u : Nat) : Int) / 2 = ((u / 2 : Nat) : Int) by omega, u64_or_nat _ _ (by omega) (by omega), mark_half]
      clear hx2 HX3
      go_wp2_with (fail)
      refine (bool2i_any _ _).mono ?_
      rintro e' w5 ⟨rfl, rfl⟩
      go_wp2_with (fail)
      refine (hrnd.out _ _ (by unfold halfN Fp.mark; (repeat' split) <;> omega)).mono ?_
      rintro e' w6 ⟨rfl, rfl⟩
      rw [← hm3.out]
      clear hrnd hm3
      go_wp2_with (fail)
      rw [he3.out]
      refine (HPK2.out _).mono ?_
      rintro e' w7 ⟨rfl, rfl⟩
      go_wp2_with (fail)
      go_ret2
      exact ⟨by rw [← q1.out, ← q2.out]; rfl, HB3.out⟩
    · have hm3 : Hid (m = Fp.rnd u) := Lib.hid (by rw [hx2.out, if_neg cu])
      have he3 : Hid (-e = -e1) := Lib.hid (by rw [HX3.out, if_neg cu])
      have c' : decide ((36028797018963966 : Int) ≤ (u : Nat)) = false := by simp; omega
      have hor : bits .or .u64 ((u : Nat) : Int) (((u : Nat) : Int) % 2) = ((u : Nat) : Int) := by
        rw [show ((u : Nat) : Int) % 2 = ((u % 2 : Nat) : Int) by omega, u64_or_nat _ _ (by omega) (by omega), or_low]
      clear hx2 HX3
      go_wp2_with (fail)
      refine (bool2i_any _ _).mono ?_
      rintro e' w5 ⟨rfl, rfl⟩
      go_wp2_with (fail)
      refine (hrnd.out _ _ (by omega)).mono ?_
      rintro e' w6 ⟨rfl, rfl⟩
      rw [← hm3.out]
      clear hrnd hm3
      go_wp2_with (fail)
      rw [he3.out]
      refine (HPK2.out _).mono ?_
      rintro e' w7 ⟨rfl, rfl⟩
      go_wp2_with (fail)
      go_ret2
      exact ⟨by rw [← q1.out, ← q2.out]; rfl, HB3.out⟩
theorem psM_lt {u : Nat} (h : u < 72057594037927936 - 32) : psM u < 9007199254740992 := by
  unfold psM Fp.rnd halfN Fp.mark
  repeat' split
  all_goals omega
theorem p64_any (d : Nat) (p : Int) (g : Bool) (w : World) (h1 : 1 ≤ d) (h2 : d < 18446744073709551616) (p1 : -345 ≤ p) (p2 : p ≤ 310) (T : Tabs w) :
    Calls Tryz.prog 129 #[.int .u64 (d : Nat), .int .i64 p, .int .u64 (sgN g : Nat)] w fun r w' => r = .returned (.tuple #[.float .f64 (sgN g + psR d p), psErrR d p]) ∧ Below w.heap.size w w' := by
  obtain ⟨b1, b2, _, _⟩ := bitLen_bd h1 h2
  obtain ⟨l1, l2⟩ := lp_bd p p1 p2
  have hj : (((p + 348).toNat : Nat) : Int) - 348 = p := by omega
  have t0 := T.hi (p + 348).toNat (by omega)
  have t1 := T.lo (p + 348).toNat (by omega)
  rw [hj] at t0 t1
  have hs8 : 8 ≤ psS (Lib.bitLen d) p := by unfold psS psE; omega
  have hU : psS (Lib.bitLen d) p < 64 → psU d p < 72057594037927936 - 32 := fun h => (psU_eq h1 h2 p1 p2 h).2.2.1
  refine (p64_walk d p g w (Lib.bitLen d) (p + 348).toNat (Fp.lp10 p) (psE (Lib.bitLen d) p) (psS (Lib.bitLen d) p) (hiOf p) (loOf p) h1 h2 p1 p2 (Lib.hid (by omega)) (by omega) (Lib.hid rfl) b1 b2 (Lib.hid rfl) l1 l2 (Lib.hid rfl) (Lib.hid rfl) hs8 (Lib.hid rfl) (Lib.hid rfl)
    (psU d p) (psM (psU d p)) (psE1 (psU d p) (psE (Lib.bitLen d) p)) (Lib.hid (fun _ => rfl)) (fun h => by have := hU h; omega) (Lib.hid rfl) (Lib.hid rfl) (fun h => psM_lt (hU h)) t0 t1).mono ?_
  rintro r w' ⟨rfl, hb⟩
  refine ⟨?_, hb⟩
  unfold psR psErrR
  by_cases c : 64 ≤ psS (Lib.bitLen d) p
  · simp only [if_pos c]; rfl
  · simp only [if_neg c]
theorem psErr_nil {m : Nat} {e : Int} (h : psK m e < 9218868437227405312) : psErr m e = .nilIface := by
  unfold psK at h
  unfold psErr
  split
  · rfl
  · rename_i c
    rw [if_neg c] at h
    split
    · rename_i c2
      rw [if_pos c2] at h
      omega
    · rfl
theorem psErrR_nil {d : Nat} {p : Int} (h : psR d p < 9218868437227405312) : psErrR d p = .nilIface := by
  unfold psR at h
  unfold psErrR
  split
  · rfl
  · rename_i c
    rw [if_neg c] at h
    exact psErr_nil h
end Go.Proofs.YtapinbbflfkglaaGreatDoor
namespace Go.Proofs.YtapinbbflfkglaaGreatDoor
open Go.RowKit Go.Lib
open Go.Proofs.YtapinbbflfkglaaGreatDoor.Fp (mant plc vl IsNear rhe unr)
open PFloatsParses (nN nD nD_pos rhe_ratio rhe_ge rhe_le rhe_one cut_rhe nearest_word near_mono)
set_option maxRecDepth 100000
@[irreducible] def TT : Nat := 2 ^ 1075
set_option exponentiation.threshold 3000 in
theorem TT_pow (a b : Nat) (h : a + 1075 = b) : 2 ^ a * TT = 2 ^ b := by unfold TT; rw [← Nat.pow_add, h]
theorem TT_eq : TT = 2 ^ 1075 := by unfold TT; rfl
theorem TT_pos : 0 < TT := by unfold TT; exact Nat.two_pow_pos 1075
theorem nN_TT (w : Nat) (e : Int) : nN w e = w * 10 ^ e.toNat * TT := by rw [TT_eq]; rfl
theorem t_inf {t m : Nat} (h : t ≤ 2022) (hm : m ≤ 9007199254740992) : min (t * 4503599627370496 + m) Fp.inf = t * 4503599627370496 + m := by
  have e : Fp.inf = 9218868437227405312 := rfl
  rw [e]
  omega
theorem t_lt {t m : Nat} (h : t ≤ 2022) (hm : m ≤ 9007199254740992) : t * 4503599627370496 + m < 9218868437227405312 := by omega
theorem near_core (neg : Bool) (mag : Nat) (place last : Int) (N D t m : Nat) (h1 : mag ≠ 0) (hD : 0 < D) (hlast : last = max (place + (mag.log2 : Int) - ((52 : Nat) : Int)) (-1074)) (hk : m = Ieee.Toward.even.cut neg (mag <<< (place - last).toNat) (last - place).toNat)
    (ht : (last - -1074).toNat = t) (ht2 : t ≤ 2022) (hm : m = rhe N (D * 2 ^ (t + 1))) (hm53 : m ≤ 9007199254740992) (hlow : t = 0 ∨ 18014398509481983 * (D * 2 ^ t) ≤ 2 * N) :
    ∃ r, Ieee.double.nearest neg mag place = (if neg then 9223372036854775808 + r else r) ∧ IsNear N D r ∧ r < 9218868437227405312 := by
  refine ⟨t * 4503599627370496 + m, ?_, Fp.near_of_rhe hD hm hm53 hlow, t_lt ht2 hm53⟩
  have hl2 : last = max (place + (mag.log2 : Int) - ((Ieee.double.fractionBits : Nat) : Int)) Ieee.double.leastPlace := by
    rw [Fp.dbl_least, show Ieee.double.fractionBits = 52 from rfl]; exact hlast
  rw [nearest_word Ieee.double neg mag place last m h1 hl2 hk, Fp.dbl_least, Fp.dbl_bin, Fp.dbl_inf, ht, t_inf ht2 hm53]
  generalize t * 4503599627370496 + m = r
  unfold Ieee.Format.word
  rw [Fp.dbl_sign]
  have hh : Fp.half = 9223372036854775808 := rfl
  rw [hh]
theorem pow_split (a b : Nat) : (2 : Nat) ^ (a + b) = 2 ^ a * 2 ^ b := Nat.pow_add 2 a b
theorem near_place (neg : Bool) (mag : Nat) (place : Int) (N D a b : Nat) (h1 : 1 ≤ mag) (hD : 0 < D) (hrel : N * 2 ^ a = D * (mag * 2 ^ b)) (hab : (b : Int) - a = place + 1075) (hlo : -1074 ≤ place + (mag.log2 : Int) - 52) (hhi : place + (mag.log2 : Int) ≤ 1000) :
    ∃ r, Ieee.double.nearest neg mag place = (if neg then 9223372036854775808 + r else r) ∧ IsNear N D r ∧ r < 9218868437227405312 := by
  obtain ⟨L, hL⟩ : ∃ L, L = mag.log2 := ⟨_, rfl⟩
  have l1 : 2 ^ L ≤ mag := by rw [hL]; exact Nat.log2_self_le (by omega)
  have l2 : mag < 2 ^ (L + 1) := by rw [hL]; exact Nat.lt_log2_self
  rw [← hL] at hlo hhi
  obtain ⟨t, ht⟩ : ∃ t : Nat, (t : Int) = place + L - 52 + 1074 := ⟨(place + L - 52 + 1074).toNat, by omega⟩
  have hpa : 0 < 2 ^ a := Nat.two_pow_pos a
  have hrat : mag * 2 ^ (52 - L) * (D * 2 ^ (t + 1)) = N * 2 ^ (L - 52) := by
    apply Nat.mul_right_cancel hpa
    have e : (2 : Nat) ^ (52 - L) * 2 ^ (t + 1) * 2 ^ a = 2 ^ b * 2 ^ (L - 52) := by
      rw [← Nat.pow_add, ← Nat.pow_add, ← Nat.pow_add]; congr 1; omega
    calc mag * 2 ^ (52 - L) * (D * 2 ^ (t + 1)) * 2 ^ a = D * mag * (2 ^ (52 - L) * 2 ^ (t + 1) * 2 ^ a) := by
          generalize (2 : Nat) ^ (52 - L) = x; generalize (2 : Nat) ^ (t + 1) = y; generalize (2 : Nat) ^ a = z; grind
      _ = D * (mag * 2 ^ b) * 2 ^ (L - 52) := by rw [e]; generalize (2 : Nat) ^ b = x; generalize (2 : Nat) ^ (L - 52) = y; grind
      _ = N * 2 ^ a * 2 ^ (L - 52) := by rw [hrel]
      _ = _ := by rw [Nat.mul_right_comm]
  refine near_core neg mag place (place + L - 52) N D t (rhe (mag * 2 ^ (52 - L)) (2 ^ (L - 52))) (by omega) hD (by rw [← hL]; omega) ?_ (by omega) (by omega) ?_ ?_ (.inr ?_)
  · have e1 : (place - (place + (L : Int) - 52)).toNat = 52 - L := by omega
    have e2 : (place + (L : Int) - 52 - place).toNat = L - 52 := by omega
    rw [e1, e2, Nat.shiftLeft_eq]
    refine (cut_rhe _ _ _ ?_).symm
    by_cases c : L ≤ 52
    · omega
    · rw [show 52 - L = 0 by omega, Nat.pow_zero, Nat.mul_one, ← hL]; omega
  · exact rhe_ratio (Nat.two_pow_pos _) (Nat.mul_pos hD (Nat.two_pow_pos _)) hrat
  · have hq : mag * 2 ^ (52 - L) / 2 ^ (L - 52) < 9007199254740992 := by
      rw [Nat.div_lt_iff_lt_mul (Nat.two_pow_pos _)]
      calc mag * 2 ^ (52 - L) < 2 ^ (L + 1) * 2 ^ (52 - L) := Nat.mul_lt_mul_of_pos_right l2 (Nat.two_pow_pos _)
        _ = 2 ^ (53 + (L - 52)) := by rw [← Nat.pow_add]; congr 1; omega
        _ = 2 ^ 53 * 2 ^ (L - 52) := pow_split _ _
    have := rhe_le (mag * 2 ^ (52 - L)) (2 ^ (L - 52))
    omega
  · have e : (2 : Nat) ^ 54 * 2 ^ t * 2 ^ a = 2 * (2 ^ L * 2 ^ b) := by
      rw [← Nat.pow_add, ← Nat.pow_add, ← Nat.pow_add, show (2 : Nat) * 2 ^ (L + b) = 2 ^ (L + b + 1) by rw [Nat.pow_succ, Nat.mul_comm]]; congr 1; omega
    have h3 : 18014398509481983 * (D * 2 ^ t) * 2 ^ a ≤ 2 * N * 2 ^ a := by
      calc 18014398509481983 * (D * 2 ^ t) * 2 ^ a ≤ 2 ^ 54 * (D * 2 ^ t) * 2 ^ a := Nat.mul_le_mul_right _ (Nat.mul_le_mul_right _ (by omega))
        _ = D * (2 ^ 54 * 2 ^ t * 2 ^ a) := by generalize (2 : Nat) ^ 54 = x; generalize (2 : Nat) ^ t = y; generalize (2 : Nat) ^ a = z; grind
        _ = 2 * (D * (2 ^ L * 2 ^ b)) := by rw [e]; generalize (2 : Nat) ^ L = x; generalize (2 : Nat) ^ b = y; grind
        _ ≤ 2 * (D * (mag * 2 ^ b)) := Nat.mul_le_mul_left 2 (Nat.mul_le_mul_left D (Nat.mul_le_mul_right _ l1))
        _ = 2 * N * 2 ^ a := by rw [← hrel, Nat.mul_assoc]
    exact Nat.le_of_mul_le_mul_right h3 hpa
theorem rhe_unr {n d j : Nat} (hd : 0 < d) (hj : 2 ≤ j) : rhe (unr n d) (2 ^ j) = rhe n (d * 2 ^ j) := by
  obtain ⟨i, rfl⟩ : ∃ i, j = i + 2 := ⟨j - 2, by omega⟩
  have e : (2 : Nat) ^ (i + 2) = 2 ^ i * 4 := by rw [Nat.pow_add]
  rw [e]
  rcases Nat.eq_zero_or_pos i with h | h
  · subst h
    rw [Nat.pow_zero, Nat.one_mul, ← Fp.rnd_unr hd, show (4 : Nat) = 1 * 4 from rfl, ← Fp.rnd_unr (by omega)]
    congr 1
    unfold unr
    simp [Nat.mod_one]
  · have hk : 0 < 2 ^ i := Nat.two_pow_pos i
    have hk2 : 2 ^ i % 2 = 0 := by obtain ⟨k, rfl⟩ : ∃ k, i = k + 1 := ⟨i - 1, by omega⟩; rw [Nat.pow_succ]; omega
    rw [← Fp.rnd_unr hk, ← Nat.mul_assoc, ← Fp.rnd_unr (Nat.mul_pos hd hk), Fp.unr_div hd hk hk2]
    rfl
theorem near_sticky (neg : Bool) (n0 d0 : Nat) (place : Int) (N D a b : Nat) (hd : 0 < d0) (hD : 0 < D) (hrel : N * 2 ^ a * d0 = D * (n0 * 2 ^ b)) (hab : (b : Int) - a = place + 1075) (hL54 : 54 ≤ (unr n0 d0).log2) (hlo : -1074 ≤ place + ((unr n0 d0).log2 : Int) - 52) (hhi : place + ((unr n0 d0).log2 : Int) ≤ 1000) :
    ∃ r, Ieee.double.nearest neg (unr n0 d0) place = (if neg then 9223372036854775808 + r else r) ∧ IsNear N D r ∧ r < 9218868437227405312 := by
  obtain ⟨L, hL⟩ : ∃ L, L = (unr n0 d0).log2 := ⟨_, rfl⟩
  have hne : unr n0 d0 ≠ 0 := by intro e; rw [e] at hL54; simp at hL54
  have l1 : 2 ^ L ≤ unr n0 d0 := by rw [hL]; exact Nat.log2_self_le hne
  have l2 : unr n0 d0 < 2 ^ (L + 1) := by rw [hL]; exact Nat.lt_log2_self
  rw [← hL] at hlo hhi hL54
  obtain ⟨t, ht⟩ : ∃ t : Nat, (t : Int) = place + L - 52 + 1074 := ⟨(place + L - 52 + 1074).toNat, by omega⟩
  have hpa : 0 < 2 ^ a := Nat.two_pow_pos a
  have hrat : n0 * (D * 2 ^ (t + 1)) = N * (d0 * 2 ^ (L - 52)) := by
    apply Nat.mul_right_cancel hpa
    have e : (2 : Nat) ^ (t + 1) * 2 ^ a = 2 ^ b * 2 ^ (L - 52) := by
      rw [← Nat.pow_add, ← Nat.pow_add]; congr 1; omega
    calc n0 * (D * 2 ^ (t + 1)) * 2 ^ a = D * n0 * (2 ^ (t + 1) * 2 ^ a) := by
          generalize (2 : Nat) ^ (t + 1) = y; generalize (2 : Nat) ^ a = z; grind
      _ = D * (n0 * 2 ^ b) * 2 ^ (L - 52) := by rw [e]; generalize (2 : Nat) ^ b = x; generalize (2 : Nat) ^ (L - 52) = y; grind
      _ = N * 2 ^ a * d0 * 2 ^ (L - 52) := by rw [hrel]
      _ = _ := by generalize (2 : Nat) ^ a = x; generalize (2 : Nat) ^ (L - 52) = y; grind
  have hfl : 2 ^ L ≤ n0 / d0 := by
    have hu := @Fp.unr_even n0 d0
    obtain ⟨k, hk⟩ : ∃ k, L = k + 1 := ⟨L - 1, by omega⟩
    rw [hk, Nat.pow_succ] at l1 ⊢
    omega
  rw [Nat.le_div_iff_mul_le hd] at hfl
  refine near_core neg (unr n0 d0) place (place + L - 52) N D t (rhe (unr n0 d0) (2 ^ (L - 52))) hne hD (by rw [← hL]; omega) ?_ (by omega) (by omega) ?_ ?_ (.inr ?_)
  · have e1 : (place - (place + (L : Int) - 52)).toNat = 0 := by omega
    have e2 : (place + (L : Int) - 52 - place).toNat = L - 52 := by omega
    rw [e1, e2, Nat.shiftLeft_eq, Nat.pow_zero, Nat.mul_one]
    exact (cut_rhe _ _ _ (by rw [← hL]; omega)).symm
  · rw [rhe_unr hd (by omega)]
    exact rhe_ratio (Nat.mul_pos hd (Nat.two_pow_pos _)) (Nat.mul_pos hD (Nat.two_pow_pos _)) hrat
  · have hq : unr n0 d0 / 2 ^ (L - 52) < 9007199254740992 := by
      rw [Nat.div_lt_iff_lt_mul (Nat.two_pow_pos _)]
      calc unr n0 d0 < 2 ^ (L + 1) := l2
        _ = 2 ^ (53 + (L - 52)) := by congr 1; omega
        _ = 2 ^ 53 * 2 ^ (L - 52) := pow_split _ _
    have := rhe_le (unr n0 d0) (2 ^ (L - 52))
    omega
  · have e : (2 : Nat) ^ 54 * 2 ^ t * 2 ^ a = 2 * (2 ^ L * 2 ^ b) := by
      rw [← Nat.pow_add, ← Nat.pow_add, ← Nat.pow_add, show (2 : Nat) * 2 ^ (L + b) = 2 ^ (L + b + 1) by rw [Nat.pow_succ, Nat.mul_comm]]; congr 1; omega
    have h3 : 18014398509481983 * (D * 2 ^ t) * (2 ^ a * d0) ≤ 2 * N * (2 ^ a * d0) := by
      calc 18014398509481983 * (D * 2 ^ t) * (2 ^ a * d0) ≤ 2 ^ 54 * (D * 2 ^ t) * (2 ^ a * d0) := Nat.mul_le_mul_right _ (Nat.mul_le_mul_right _ (by omega))
        _ = D * d0 * (2 ^ 54 * 2 ^ t * 2 ^ a) := by generalize (2 : Nat) ^ 54 = x; generalize (2 : Nat) ^ t = y; generalize (2 : Nat) ^ a = z; grind
        _ = 2 * (D * (2 ^ L * d0 * 2 ^ b)) := by rw [e]; generalize (2 : Nat) ^ L = x; generalize (2 : Nat) ^ b = y; grind
        _ ≤ 2 * (D * (n0 * 2 ^ b)) := Nat.mul_le_mul_left 2 (Nat.mul_le_mul_left D (Nat.mul_le_mul_right _ hfl))
        _ = 2 * N * (2 ^ a * d0) := by rw [← hrel]; generalize (2 : Nat) ^ a = x; grind
    exact Nat.le_of_mul_le_mul_right h3 (Nat.mul_pos hpa hd)
end Go.Proofs.YtapinbbflfkglaaGreatDoor
namespace Go.Proofs.YtapinbbflfkglaaGreatDoor
open Go.RowKit Go.Lib
open Go.Proofs.YtapinbbflfkglaaGreatDoor.Fp (mant plc vl IsNear rhe unr mid)
open PFloatsParses (nN nD nD_pos near_mono dbl_near)
set_option maxRecDepth 100000
theorem read_sg (g : Bool) (r : Nat) (hr : r < 9218868437227405312) : Ieee.double.read (sgN g + r) = .number g (mant r) (-1074 + (plc r : Int)) := by
  have hm : (sgN g + r) % Fp.half = r := by
    show (sgN g + r) % 9223372036854775808 = r
    unfold sgN; cases g <;> simp <;> omega
  have hd : ((sgN g + r) / Fp.half % 2 == 1) = g := by
    show ((sgN g + r) / 9223372036854775808 % 2 == 1) = g
    unfold sgN
    cases g
    · simp; omega
    · simp; omega
  rw [Fp.read_fin (by rw [hm]; exact hr), hm, hd]
theorem mant_norm {r : Nat} (h : 1022 ≤ plc r) : 4503599627370496 ≤ mant r ∧ mant r < 9007199254740992 := by
  unfold plc at h
  unfold mant
  rw [if_neg (by omega)]
  omega
theorem log2_le {n k : Nat} (h0 : n ≠ 0) (h : n < 2 ^ k) : n.log2 < k := (Nat.log2_lt h0).2 h
theorem le_log2 {n k : Nat} (h : 2 ^ k ≤ n) : k ≤ n.log2 := by
  have h0 : n ≠ 0 := by have := Nat.two_pow_pos k; omega
  rcases Nat.lt_or_ge n.log2 k with c | c
  · have := (Nat.log2_lt h0).1 c; omega
  · exact c
theorem vl_eq (r : Nat) : vl r = mant r * 2 ^ (plc r + 1) := by unfold vl; rw [Nat.pow_succ]; grind
set_option exponentiation.threshold 3000 in
theorem mul_near (g : Bool) (r1 r2 : Nat) (a1 : r1 < 9218868437227405312) (a2 : r2 < 9218868437227405312) (b1 : 1022 ≤ plc r1) (b2 : plc r1 ≤ 1200) (c1 : 1022 ≤ plc r2) (c2 : plc r2 ≤ 1200) :
    ∃ r, floatBits .mul .f64 (sgN g + r1) r2 = some (sgN g + r) ∧ IsNear (vl r1 * vl r2) TT r ∧ r < 9218868437227405312 := by
  obtain ⟨m1, m2⟩ := mant_norm b1
  obtain ⟨n1, n2⟩ := mant_norm c1
  have hr1 := read_sg g r1 a1
  have hr2 := read_sg false r2 a2
  rw [show sgN false + r2 = r2 by unfold sgN; simp] at hr2
  have hmul : floatBits .mul .f64 (sgN g + r1) r2 = some (Ieee.double.nearest g (mant r1 * mant r2) (-1074 + (plc r1 : Int) + (-1074 + (plc r2 : Int)))) := by
    show Ieee.double.mul (sgN g + r1) r2 = _
    unfold Ieee.Format.mul
    rw [hr1, hr2]
    show some (Ieee.double.write (.number (g ^^ false) (mant r1 * mant r2) (-1074 + (plc r1 : Int) + (-1074 + (plc r2 : Int))))) = _
    rw [Bool.xor_false]
    rfl
  have hlt : mant r1 * mant r2 < 2 ^ 106 := by
    calc mant r1 * mant r2 < 9007199254740992 * 9007199254740992 := Nat.mul_lt_mul'' m2 n2
      _ = 2 ^ 106 := by decide
  have hpos : mant r1 * mant r2 ≠ 0 := Nat.ne_of_gt (Nat.mul_pos (by omega) (by omega))
  have hlog := log2_le hpos hlt
  obtain ⟨r, e1, e2, e3⟩ := near_place g (mant r1 * mant r2) (-1074 + (plc r1 : Int) + (-1074 + (plc r2 : Int))) (vl r1 * vl r2) TT 1073 (plc r1 + plc r2) (by omega) TT_pos (by
    rw [vl_eq, vl_eq]
    have e : (2 : Nat) ^ (plc r1 + 1) * 2 ^ (plc r2 + 1) * 2 ^ 1073 = 2 ^ (plc r1 + plc r2) * TT := by
      rw [TT_pow _ (plc r1 + plc r2 + 1075) rfl, ← Nat.pow_add, ← Nat.pow_add]; congr 1; omega
    generalize (2 : Nat) ^ (plc r1 + 1) = x at *
    generalize (2 : Nat) ^ (plc r2 + 1) = y at *
    generalize (2 : Nat) ^ 1073 = z at *
    generalize (2 : Nat) ^ (plc r1 + plc r2) = v at *
    calc mant r1 * x * (mant r2 * y) * z = mant r1 * mant r2 * (x * y * z) := by grind
      _ = mant r1 * mant r2 * (v * TT) := by rw [e]
      _ = _ := by grind) (by omega) (by omega) (by omega)
  refine ⟨r, ?_, e2, e3⟩
  rw [hmul, e1]
  unfold sgN
  cases g <;> simp
theorem quo_unr (q n : Nat) (hn : 0 < n) : 2 * (q / n) + (q % n != 0).toNat = unr (2 * q) n := by
  unfold unr
  have h := Nat.div_add_mod q n
  have hl := Nat.mod_lt q hn
  generalize q / n = a at *
  generalize q % n = r at *
  subst h
  have e1 : 2 * (n * a + r) = 2 * r + n * (2 * a) := by grind
  rw [e1, Nat.add_mul_div_left _ _ hn, Nat.add_mul_mod_self_left]
  by_cases c0 : r = 0
  · subst c0
    simp
  · by_cases c1 : 2 * r < n
    · have e2 : 2 * r / n = 0 := Nat.div_eq_of_lt c1
      have e3 : 2 * r % n = 2 * r := Nat.mod_eq_of_lt c1
      rw [e2, e3, if_neg (by omega), if_pos (by omega)]
      have : (r != 0) = true := by simpa using c0
      rw [this]; simp
    · have e2 : 2 * r / n = 1 := by
        rw [Nat.div_eq_iff hn]; omega
      have : (r != 0) = true := by simpa using c0
      rw [e2, this]
      have t1 : true.toNat = 1 := rfl
      split
      · omega
      · rw [if_neg (by omega)]; omega
set_option exponentiation.threshold 3000 in
theorem quo_near (g : Bool) (r1 r2 : Nat) (a1 : r1 < 9218868437227405312) (a2 : r2 < 9218868437227405312) (b1 : 1022 ≤ plc r1) (b2 : plc r1 ≤ 1200) (c1 : 1022 ≤ plc r2) (c2 : plc r2 ≤ 1200) :
    ∃ r, floatBits .quo .f64 (sgN g + r1) r2 = some (sgN g + r) ∧ IsNear (vl r1 * TT) (vl r2) r ∧ r < 9218868437227405312 := by
  obtain ⟨m1, m2⟩ := mant_norm b1
  obtain ⟨n1, n2⟩ := mant_norm c1
  have hr1 := read_sg g r1 a1
  have hr2 := read_sg false r2 a2
  rw [show sgN false + r2 = r2 by unfold sgN; simp] at hr2
  have l1 : (mant r1).log2 = 52 := by
    have := log2_le (n := mant r1) (k := 53) (by omega) (by omega)
    have := le_log2 (n := mant r1) (k := 52) (by omega)
    omega
  have l2 : (mant r2).log2 = 52 := by
    have := log2_le (n := mant r2) (k := 53) (by omega) (by omega)
    have := le_log2 (n := mant r2) (k := 52) (by omega)
    omega
  have hn : 0 < mant r2 := by omega
  have hmul : floatBits .quo .f64 (sgN g + r1) r2 = some (Ieee.double.nearest g (unr (2 * (mant r1 * 2 ^ 54)) (mant r2)) (-1074 + (plc r1 : Int) - (-1074 + (plc r2 : Int)) - ((54 : Nat) : Int) - 1)) := by
    show Ieee.double.div (sgN g + r1) r2 = _
    unfold Ieee.Format.div
    rw [hr1, hr2]
    unfold Ieee.Datum.quotient
    simp only [l1, l2]
    rw [if_neg (by omega), show Ieee.double.fractionBits + 2 + 52 - 52 = 54 from rfl, Nat.shiftLeft_eq, quo_unr _ _ hn, Bool.xor_false]
    rfl
  have hq1 : 2 ^ 54 ≤ 2 * (mant r1 * 2 ^ 54) / mant r2 := by
    rw [Nat.le_div_iff_mul_le hn]
    omega
  have hq2 : 2 * (mant r1 * 2 ^ 54) / mant r2 < 2 ^ 56 := by
    rw [Nat.div_lt_iff_lt_mul hn]
    omega
  have hu := @Fp.unr_even (2 * (mant r1 * 2 ^ 54)) (mant r2)
  have hL1 := le_log2 (n := unr (2 * (mant r1 * 2 ^ 54)) (mant r2)) (k := 54) (by omega)
  have hL2 := log2_le (n := unr (2 * (mant r1 * 2 ^ 54)) (mant r2)) (k := 57) (by omega) (by omega)
  have hv2 : 0 < vl r2 := by rw [vl_eq]; exact Nat.mul_pos hn (Nat.two_pow_pos _)
  obtain ⟨r, e1, e2, e3⟩ := near_sticky g (2 * (mant r1 * 2 ^ 54)) (mant r2) (-1074 + (plc r1 : Int) - (-1074 + (plc r2 : Int)) - ((54 : Nat) : Int) - 1) (vl r1 * TT) (vl r2) (plc r2) (plc r1 + 1020) hn hv2 (by
    rw [vl_eq, vl_eq]
    have e : (2 : Nat) ^ (plc r1 + 1) * TT * 2 ^ plc r2 = 2 ^ (plc r2 + 1) * (2 * 2 ^ 54) * 2 ^ (plc r1 + 1020) := by
      rw [TT_pow (plc r1 + 1) (plc r1 + 1 + 1075) rfl, show (2 : Nat) * 2 ^ 54 = 2 ^ 55 by decide, ← Nat.pow_add, ← Nat.pow_add, ← Nat.pow_add]; congr 1; omega
    generalize (2 : Nat) ^ (plc r1 + 1) = x at *
    generalize (2 : Nat) ^ (plc r2 + 1) = y at *
    generalize (2 : Nat) ^ plc r2 = z at *
    generalize (2 : Nat) ^ (plc r1 + 1020) = v at *
    generalize (2 : Nat) ^ 54 = k at *
    calc mant r1 * x * TT * z * mant r2 = mant r1 * mant r2 * (x * TT * z) := by grind
      _ = mant r1 * mant r2 * (y * (2 * k) * v) := by rw [e]
      _ = _ := by grind) (by omega) hL1 (by omega) (by omega)
  refine ⟨r, ?_, e2, e3⟩
  rw [hmul, e1]
  unfold sgN
  cases g <;> simp
theorem near_self (k : Nat) : IsNear (vl k) 1 k := by
  refine ⟨?_, .inl (by rw [Nat.mul_one]; exact (Fp.vl_step k).1)⟩
  rcases Nat.eq_zero_or_pos k with h | h
  · exact .inl h
  · right; left
    have := (Fp.vl_step (k - 1)).2
    rw [Nat.sub_add_cancel h] at this
    rw [Nat.mul_one]; exact this
theorem rep (d : Nat) (h1 : 1 ≤ d) (h2 : d < 9007199254740992) : ∃ k, vl k = d * TT ∧ 1022 ≤ plc k ∧ plc k ≤ 1075 ∧ k < 9218868437227405312 := by
  obtain ⟨L, hL⟩ : ∃ L, L = d.log2 := ⟨_, rfl⟩
  have l1 : 2 ^ L ≤ d := by rw [hL]; exact Nat.log2_self_le (by omega)
  have l2 : d < 2 ^ (L + 1) := by rw [hL]; exact Nat.lt_log2_self
  have l3 : L < 53 := by rw [hL]; exact log2_le (by omega) (by omega)
  have hm1 : 4503599627370496 ≤ d * 2 ^ (52 - L) := by
    calc 4503599627370496 = 2 ^ L * 2 ^ (52 - L) := by rw [← Nat.pow_add, show L + (52 - L) = 52 by omega]
      _ ≤ _ := Nat.mul_le_mul_right _ l1
  have hm2 : d * 2 ^ (52 - L) < 9007199254740992 := by
    calc d * 2 ^ (52 - L) < 2 ^ (L + 1) * 2 ^ (52 - L) := Nat.mul_lt_mul_of_pos_right l2 (Nat.two_pow_pos _)
      _ = 9007199254740992 := by rw [← Nat.pow_add, show L + 1 + (52 - L) = 53 by omega]
  obtain ⟨e1, e2⟩ := Fp.mant_plc (t := L + 1022) hm2 (.inr hm1)
  refine ⟨(L + 1022) * 4503599627370496 + d * 2 ^ (52 - L), ?_, by rw [e2]; omega, by rw [e2]; omega, by omega⟩
  rw [vl_eq, e1, e2, Nat.mul_assoc, ← Nat.pow_add, show 52 - L + (L + 1022 + 1) = 0 + 1075 by omega, ← TT_pow 0 (0 + 1075) rfl, Nat.pow_zero, Nat.one_mul]
theorem float_nat (d : Nat) (h1 : 1 ≤ d) (h2 : d < 9007199254740992) : vl (floatOfInt .f64 (d : Nat)) = d * TT ∧ 1022 ≤ plc (floatOfInt .f64 (d : Nat)) ∧ plc (floatOfInt .f64 (d : Nat)) ≤ 1075 ∧ floatOfInt .f64 (d : Nat) < 9218868437227405312 := by
  obtain ⟨k, k1, k2, k3, k4⟩ := rep d h1 h2
  obtain ⟨r, r1, r2, r3⟩ := dbl_near false d h1 (by omega) TT TT_eq
  have hn := near_self k
  rw [k1] at hn
  have e := hn.unique (by omega) r2
  have hf : floatOfInt .f64 ((d : Nat) : Int) = r := by
    have hd : decide (((d : Nat) : Int) < 0) = false := by simp
    show Ieee.double.nearest (decide (((d : Nat) : Int) < 0)) ((d : Nat) : Int).natAbs 0 = r
    rw [hd, Int.natAbs_natCast, r1]
    rfl
  rw [hf, ← e]
  exact ⟨k1, k2, k3, k4⟩
def pw (k : Nat) : Nat := floatOfInt .f64 ((10 ^ k : Nat) : Int)
def pwOk (k : Nat) : Bool := vl (pw k) == 10 ^ k * 2 ^ 1075 && decide (1022 ≤ plc (pw k)) && decide (plc (pw k) ≤ 1200) && decide (pw k < 9218868437227405312)
theorem pw_all : (List.range 23).all pwOk = true := by decide +kernel
theorem pw_get (k : Nat) (h : k < 23) : vl (pw k) = 10 ^ k * TT ∧ 1022 ≤ plc (pw k) ∧ plc (pw k) ≤ 1200 ∧ pw k < 9218868437227405312 := by
  have := List.all_eq_true.1 pw_all k (by simpa using h)
  unfold pwOk at this
  simp only [Bool.and_eq_true, decide_eq_true_eq, beq_iff_eq] at this
  rw [TT_eq]
  exact ⟨this.1.1.1, this.1.1.2, this.1.2, this.2⟩
end Go.Proofs.YtapinbbflfkglaaGreatDoor
namespace Go.Proofs.YtapinbbflfkglaaGreatDoor
open Go.RowKit Go.Lib Go.Sort
open Go.Proofs.YtapinbbflfkglaaGreatDoor.Fp (mant plc vl IsNear rhe unr mid)
open PFloatsParses (nN nD nD_pos near_mono dbl_near)
set_option maxRecDepth 100000
theorem neg_sg (F : Nat) (h : F < 9223372036854775808) : Op.negFloat .f64 F = sgN true + F := by
  show F ^^^ 2 ^ 63 = _
  have e : sgN true = 2 ^ 63 := by decide
  rw [e]
  apply Nat.eq_of_testBit_eq
  intro i
  rw [Nat.testBit_xor, Nat.testBit_two_pow]
  have hor : 2 ^ 63 + F = 2 ^ 63 * 1 ||| F := by rw [Nat.mul_one, ← Nat.mul_one (2 ^ 63), or_hi 1 F 63 (by omega)]
  rw [hor, Nat.testBit_or, Nat.mul_one, Nat.testBit_two_pow]
  by_cases c : 63 = i
  · subst c
    have : F.testBit 63 = false := Nat.testBit_lt_two_pow (by omega)
    rw [this]; rfl
  · simp [c]
theorem ex_zero (d : Nat) (w : World) (g : Bool) (hd2 : d < 4503599627370496) (F : Nat) (hF : floatOfInt .f64 ((d : Nat) : Int) = F) (hF2 : F < 9223372036854775808)
    (t1 : w.cell? ⟨6, 0, none⟩ = some (.int .u64 52)) :
    Calls Tryz.prog 128 #[.int .u64 (d : Nat), .int .i64 0, .bool g] w fun e' w' => e' = .returned (.tuple #[.float .f64 (sgN g + F), .bool true]) ∧ w = w' := by
  have hmd : ((d : Nat) : Int) / 4503599627370496 = 0 := by omega
  have un : ∀ b, Op.unary .neg (.float .f64 b) = pure (.float .f64 (Op.negFloat .f64 b)) := fun _ => rfl
  have ng := neg_sg F hF2
  have sg0 : Hid (sgN false + F = F) := Lib.hid (by unfold sgN; simp)
  cases g
  · go_enter Tryz.func128, Tryz.ntmps128
    go_wp2
    go_ret2
    exact ⟨by rw [sg0.out]; simp, rfl⟩
  · go_enter Tryz.func128, Tryz.ntmps128
    go_wp2
    go_ret2
    exact ⟨by simp, rfl⟩
theorem ex_quo (d k : Nat) (w : World) (g : Bool) (gp : Addr) (hd2 : d < 4503599627370496) (hk1 : 1 ≤ k) (hk2 : k ≤ 22) (F q pwk : Nat) (hF : floatOfInt .f64 ((d : Nat) : Int) = F) (hF2 : F < 9223372036854775808)
    (t1 : w.cell? ⟨6, 0, none⟩ = some (.int .u64 52)) (t2 : w.cell? ⟨10, 0, none⟩ = some (.slice (some gp) 23 23)) (t3 : w.cell? (gp.add k) = some (.float .f64 pwk)) (hq : floatBits .quo .f64 (sgN g + F) pwk = some q) :
    Calls Tryz.prog 128 #[.int .u64 (d : Nat), .int .i64 (-(k : Int)), .bool g] w fun e' w' => e' = .returned (.tuple #[.float .f64 q, .bool true]) ∧ w = w' := by
  have hmd : ((d : Nat) : Int) / 4503599627370496 = 0 := by omega
  have un : ∀ b, Op.unary .neg (.float .f64 b) = pure (.float .f64 (Op.negFloat .f64 b)) := fun _ => rfl
  have ng := neg_sg F hF2
  have sg0 : sgN false + F = F := by unfold sgN; simp
  cases g
  · rw [sg0] at hq
    have kq := fun w => run_float_arith (P := Tryz.prog) w .quo 46 .f64 _ _ q hq
    clear hq sg0
    go_enter Tryz.func128, Tryz.ntmps128
    go_wp2
    go_ret2
    exact ⟨rfl, rfl⟩
  · have kq := fun w => run_float_arith (P := Tryz.prog) w .quo 46 .f64 _ _ q hq
    clear hq sg0
    go_enter Tryz.func128, Tryz.ntmps128
    go_wp2
    go_ret2
    exact ⟨rfl, rfl⟩
theorem ex_mul (d k : Nat) (w : World) (g : Bool) (gp : Addr) (hd2 : d < 4503599627370496) (hk1 : 1 ≤ k) (hk2 : k ≤ 22) (F q pwk : Nat) (o1 o2 : Ordering) (hF : floatOfInt .f64 ((d : Nat) : Int) = F) (hF2 : F < 9223372036854775808)
    (t1 : w.cell? ⟨6, 0, none⟩ = some (.int .u64 52)) (t2 : w.cell? ⟨10, 0, none⟩ = some (.slice (some gp) 23 23)) (t3 : w.cell? (gp.add k) = some (.float .f64 pwk)) (hg1 : FloatKind.f64.format.order (sgN g + F) 4831355200913801216 = some o1) (hg2 : FloatKind.f64.format.order (sgN g + F) 14054727237768577024 = some o2)
    (hok : o1 ≠ .gt ∧ o2 ≠ .lt) (hq : floatBits .mul .f64 (sgN g + F) pwk = some q) :
    Calls Tryz.prog 128 #[.int .u64 (d : Nat), .int .i64 (k : Nat), .bool g] w fun e' w' => e' = .returned (.tuple #[.float .f64 q, .bool true]) ∧ w = w' := by
  have hmd : ((d : Nat) : Int) / 4503599627370496 = 0 := by omega
  have un : ∀ b, Op.unary .neg (.float .f64 b) = pure (.float .f64 (Op.negFloat .f64 b)) := fun _ => rfl
  have ng := neg_sg F hF2
  have sg0 : sgN false + F = F := by unfold sgN; simp
  have kq := fun w => run_float_arith (P := Tryz.prog) w .mul 46 .f64 _ _ q hq
  clear hq
  cases g
  · rw [sg0] at hg1 hg2 kq
    clear sg0
    cases o1 <;> cases o2 <;> first
      | exact absurd rfl hok.1
      | exact absurd rfl hok.2
      | (clear hok
         go_enter Tryz.func128, Tryz.ntmps128
         go_wp2
         go_ret2
         exact ⟨rfl, rfl⟩)
  · clear sg0
    cases o1 <;> cases o2 <;> first
      | exact absurd rfl hok.1
      | exact absurd rfl hok.2
      | (clear hok
         go_enter Tryz.func128, Tryz.ntmps128
         go_wp2
         go_ret2
         exact ⟨rfl, rfl⟩)
theorem ex_mul_big (d k : Nat) (w : World) (g : Bool) (gp : Addr) (hd2 : d < 4503599627370496) (hk1 : 1 ≤ k) (hk2 : k ≤ 15) (F q pwk A pw22 : Nat) (o1 o2 : Ordering) (hF : floatOfInt .f64 ((d : Nat) : Int) = F) (hF2 : F < 9223372036854775808)
    (t1 : w.cell? ⟨6, 0, none⟩ = some (.int .u64 52)) (t2 : w.cell? ⟨10, 0, none⟩ = some (.slice (some gp) 23 23)) (t3 : w.cell? (gp.add k) = some (.float .f64 pwk)) (t4 : w.cell? ⟨gp.block, gp.off + 22, none⟩ = some (.float .f64 pw22)) (hm : floatBits .mul .f64 (sgN g + F) pwk = some A) (hg1 : FloatKind.f64.format.order A 4831355200913801216 = some o1) (hg2 : FloatKind.f64.format.order A 14054727237768577024 = some o2)
    (hok : o1 ≠ .gt ∧ o2 ≠ .lt) (hq : floatBits .mul .f64 A pw22 = some q) :
    Calls Tryz.prog 128 #[.int .u64 (d : Nat), .int .i64 ((k : Nat) + 22), .bool g] w fun e' w' => e' = .returned (.tuple #[.float .f64 q, .bool true]) ∧ w = w' := by
  have hmd : ((d : Nat) : Int) / 4503599627370496 = 0 := by omega
  have un : ∀ b, Op.unary .neg (.float .f64 b) = pure (.float .f64 (Op.negFloat .f64 b)) := fun _ => rfl
  have ng := neg_sg F hF2
  have sg0 : sgN false + F = F := by unfold sgN; simp
  have kq := fun w => run_float_arith (P := Tryz.prog) w .mul 46 .f64 _ _ q hq
  have km := fun w => run_float_arith (P := Tryz.prog) w .mul 46 .f64 _ _ A hm
  clear hm
  clear hq
  cases g
  · rw [sg0] at km
    clear sg0
    cases o1 <;> cases o2 <;> first
      | exact absurd rfl hok.1
      | exact absurd rfl hok.2
      | (clear hok
         go_enter Tryz.func128, Tryz.ntmps128
         go_wp2
         go_ret2
         exact ⟨rfl, rfl⟩)
  · clear sg0
    cases o1 <;> cases o2 <;> first
      | exact absurd rfl hok.1
      | exact absurd rfl hok.2
      | (clear hok
         go_enter Tryz.func128, Tryz.ntmps128
         go_wp2
         go_ret2
         exact ⟨rfl, rfl⟩)
theorem ex_no_cmp (d k : Nat) (w : World) (g : Bool) (hd2 : d < 4503599627370496) (hk1 : 1 ≤ k) (hk2 : k ≤ 22) (F : Nat) (o1 o2 : Ordering) (hF : floatOfInt .f64 ((d : Nat) : Int) = F) (hF2 : F < 9223372036854775808)
    (t1 : w.cell? ⟨6, 0, none⟩ = some (.int .u64 52)) (hg1 : FloatKind.f64.format.order (sgN g + F) 4831355200913801216 = some o1) (hg2 : FloatKind.f64.format.order (sgN g + F) 14054727237768577024 = some o2) (hok : o1 = .gt ∨ o2 = .lt) :
    Calls Tryz.prog 128 #[.int .u64 (d : Nat), .int .i64 (k : Nat), .bool g] w fun e' w' => (∃ f, e' = .returned (.tuple #[.float .f64 f, .bool false])) ∧ w = w' := by
  have hmd : ((d : Nat) : Int) / 4503599627370496 = 0 := by omega
  have un : ∀ b, Op.unary .neg (.float .f64 b) = pure (.float .f64 (Op.negFloat .f64 b)) := fun _ => rfl
  have ng := neg_sg F hF2
  have sg0 : sgN false + F = F := by unfold sgN; simp
  cases g
  · rw [sg0] at hg1 hg2
    clear sg0
    rcases hok with rfl | rfl
    · go_enter Tryz.func128, Tryz.ntmps128
      go_wp2
      go_ret2
      exact ⟨⟨_, rfl⟩, rfl⟩
    · cases o1
      all_goals
        go_enter Tryz.func128, Tryz.ntmps128
        go_wp2
        go_ret2
        exact ⟨⟨_, rfl⟩, rfl⟩
  · clear sg0
    rcases hok with rfl | rfl
    · go_enter Tryz.func128, Tryz.ntmps128
      go_wp2
      go_ret2
      exact ⟨⟨_, rfl⟩, rfl⟩
    · cases o1
      all_goals
        go_enter Tryz.func128, Tryz.ntmps128
        go_wp2
        go_ret2
        exact ⟨⟨_, rfl⟩, rfl⟩
theorem ex_no_big (d k : Nat) (w : World) (g : Bool) (gp : Addr) (hd2 : d < 4503599627370496) (hk1 : 1 ≤ k) (hk2 : k ≤ 15) (F A pwk : Nat) (o1 o2 : Ordering) (hF : floatOfInt .f64 ((d : Nat) : Int) = F) (hF2 : F < 9223372036854775808)
    (t1 : w.cell? ⟨6, 0, none⟩ = some (.int .u64 52)) (t2 : w.cell? ⟨10, 0, none⟩ = some (.slice (some gp) 23 23)) (t3 : w.cell? (gp.add k) = some (.float .f64 pwk)) (hm : floatBits .mul .f64 (sgN g + F) pwk = some A)
    (hg1 : FloatKind.f64.format.order A 4831355200913801216 = some o1) (hg2 : FloatKind.f64.format.order A 14054727237768577024 = some o2) (hok : o1 = .gt ∨ o2 = .lt) :
    Calls Tryz.prog 128 #[.int .u64 (d : Nat), .int .i64 ((k : Nat) + 22), .bool g] w fun e' w' => (∃ f, e' = .returned (.tuple #[.float .f64 f, .bool false])) ∧ w = w' := by
  have hmd : ((d : Nat) : Int) / 4503599627370496 = 0 := by omega
  have un : ∀ b, Op.unary .neg (.float .f64 b) = pure (.float .f64 (Op.negFloat .f64 b)) := fun _ => rfl
  have ng := neg_sg F hF2
  have sg0 : sgN false + F = F := by unfold sgN; simp
  have km := fun w => run_float_arith (P := Tryz.prog) w .mul 46 .f64 _ _ A hm
  clear hm
  cases g
  · rw [sg0] at km
    clear sg0
    rcases hok with rfl | rfl
    · go_enter Tryz.func128, Tryz.ntmps128
      go_wp2
      go_ret2
      exact ⟨⟨_, rfl⟩, rfl⟩
    · cases o1
      all_goals
        go_enter Tryz.func128, Tryz.ntmps128
        go_wp2
        go_ret2
        exact ⟨⟨_, rfl⟩, rfl⟩
  · clear sg0
    rcases hok with rfl | rfl
    · go_enter Tryz.func128, Tryz.ntmps128
      go_wp2
      go_ret2
      exact ⟨⟨_, rfl⟩, rfl⟩
    · cases o1
      all_goals
        go_enter Tryz.func128, Tryz.ntmps128
        go_wp2
        go_ret2
        exact ⟨⟨_, rfl⟩, rfl⟩
theorem ex_no_d (d : Nat) (p : Int) (w : World) (g : Bool) (hd2 : 4503599627370496 ≤ d) (hd3 : d < 18446744073709551616) (t1 : w.cell? ⟨6, 0, none⟩ = some (.int .u64 52)) :
    Calls Tryz.prog 128 #[.int .u64 (d : Nat), .int .i64 p, .bool g] w fun e' w' => (∃ f, e' = .returned (.tuple #[.float .f64 f, .bool false])) ∧ w = w' := by
  obtain ⟨Q, hQ⟩ : ∃ Q : Int, Q = ((d : Nat) : Int) / 4503599627370496 := ⟨_, rfl⟩
  have hmd : (Q != 0) = true := by simp; omega
  have hqd : ((d : Nat) : Int) / 4503599627370496 = Q := hQ.symm
  clear hQ hd2
  go_enter Tryz.func128, Tryz.ntmps128
  go_wp2
  go_ret2
  exact ⟨⟨_, rfl⟩, rfl⟩
theorem ex_no_p (d : Nat) (p : Int) (w : World) (g : Bool) (hd2 : d < 4503599627370496) (hp : 37 < p ∨ p < -22) (hp1 : -400 ≤ p) (hp2 : p ≤ 400) (F : Nat) (hF : floatOfInt .f64 ((d : Nat) : Int) = F) (hF2 : F < 9223372036854775808) (t1 : w.cell? ⟨6, 0, none⟩ = some (.int .u64 52)) :
    Calls Tryz.prog 128 #[.int .u64 (d : Nat), .int .i64 p, .bool g] w fun e' w' => (∃ f, e' = .returned (.tuple #[.float .f64 f, .bool false])) ∧ w = w' := by
  have hmd : ((d : Nat) : Int) / 4503599627370496 = 0 := by omega
  have un : ∀ b, Op.unary .neg (.float .f64 b) = pure (.float .f64 (Op.negFloat .f64 b)) := fun _ => rfl
  have ng := neg_sg F hF2
  rcases hp with hp | hp
  · cases g
    all_goals
      go_enter Tryz.func128, Tryz.ntmps128
      go_wp2
      go_ret2
      exact ⟨⟨_, rfl⟩, rfl⟩
  · cases g
    all_goals
      go_enter Tryz.func128, Tryz.ntmps128
      go_wp2
      go_ret2
      exact ⟨⟨_, rfl⟩, rfl⟩
end Go.Proofs.YtapinbbflfkglaaGreatDoor
namespace Go.Proofs.YtapinbbflfkglaaGreatDoor
open Go.RowKit Go.Lib Go.Sort
open Go.Proofs.YtapinbbflfkglaaGreatDoor.Fp (mant plc vl IsNear rhe unr mid)
open PFloatsParses (nN nD nD_pos near_mono dbl_near)
set_option maxRecDepth 100000
theorem near_scale {N D c r : Nat} (hc : 0 < c) (h : IsNear (N * c) (D * c) r) : IsNear N D r := by
  have e : ∀ x : Nat, x * (D * c) = x * D * c := fun x => by rw [Nat.mul_assoc]
  unfold IsNear at h ⊢
  simp only [e] at h
  have l1 : ∀ a b : Nat, a * c < b * c ↔ a < b := fun a b => Nat.mul_lt_mul_right hc
  have l2 : ∀ a b : Nat, a * c = b * c ↔ a = b := fun a b => ⟨Nat.mul_right_cancel hc, fun h => by rw [h]⟩
  simpa only [l1, l2] using h
def K15 : Nat := 4831355200913801216
theorem K15_eq : K15 = pw 15 := by decide +kernel
theorem ord_facts (g : Bool) (A : Nat) (hA : A < 9218868437227405312) : ∃ o1 o2, FloatKind.f64.format.order (sgN g + A) 4831355200913801216 = some o1 ∧ FloatKind.f64.format.order (sgN g + A) 14054727237768577024 = some o2 ∧
    ((o1 = .gt ∨ o2 = .lt) ∨ ((o1 ≠ .gt ∧ o2 ≠ .lt) ∧ A ≤ K15)) := by
  have hU : U64 ((sgN g + A : Nat) : Int) := by unfold U64 sgN; split <;> omega
  have hn : nanZ ((sgN g + A : Nat) : Int) = false := by
    unfold nanZ szZ sgN
    simp only [decide_eq_false_iff_not]
    split <;> omega
  have hs : svZ ((sgN g + A : Nat) : Int) = if g then -(A : Int) else A := by
    unfold svZ szZ sgN
    cases g
    · simp only [Bool.false_eq_true, if_false]
      rw [if_neg (by omega)]; omega
    · simp only [if_true]
      rw [if_pos (by omega)]; omega
  have e1 := order_cmp (a := ((sgN g + A : Nat) : Int)) (b := 4831355200913801216) hU (by unfold U64; decide) hn (by decide)
  have e2 := order_cmp (a := ((sgN g + A : Nat) : Int)) (b := 14054727237768577024) hU (by unfold U64; decide) hn (by decide)
  rw [Int.toNat_natCast] at e1 e2
  rw [hs, show svZ 4831355200913801216 = 4831355200913801216 by decide] at e1
  rw [hs, show svZ 14054727237768577024 = -4831355200913801216 by decide] at e2
  refine ⟨_, _, e1, e2, ?_⟩
  by_cases c : A ≤ K15
  · right
    refine ⟨⟨?_, ?_⟩, c⟩
    · intro h
      rw [Int.compare_eq_gt] at h
      unfold K15 at c
      split at h <;> omega
    · intro h
      rw [Int.compare_eq_lt] at h
      unfold K15 at c
      split at h <;> omega
  · left
    unfold K15 at c
    cases g
    · left
      rw [Int.compare_eq_gt]
      simp only [Bool.false_eq_true, if_false]; omega
    · right
      rw [Int.compare_eq_lt]
      simp only [if_true]; omega
theorem nD_neg {p : Int} (k : Nat) (h : p = -(k : Int)) : nD p = 10 ^ k := by unfold nD; rw [h]; congr 1; omega
theorem nD_nonneg {p : Int} (h : 0 ≤ p) : nD p = 1 := by unfold nD; rw [show (-p).toNat = 0 by omega]
theorem exact_any (d : Nat) (p : Int) (g : Bool) (w : World) (gp : Addr) (h1 : 1 ≤ d) (h2 : d < 18446744073709551616) (p1 : -345 ≤ p) (p2 : p ≤ 310)
    (t1 : w.cell? ⟨6, 0, none⟩ = some (.int .u64 52)) (t2 : w.cell? ⟨10, 0, none⟩ = some (.slice (some gp) 23 23)) (tP : ∀ k, k < 23 → w.cell? (gp.add k) = some (.float .f64 (pw k))) :
    Calls Tryz.prog 128 #[.int .u64 (d : Nat), .int .i64 p, .bool g] w fun e w' => (∃ f ok, e = .returned (.tuple #[.float .f64 f, .bool ok]) ∧ (ok = true → ∃ r, f = sgN g + r ∧ r < 9218868437227405312 ∧ IsNear (nN d p) (nD p) r)) ∧ w = w' := by
  have no : ∀ {e : Ending} {w' : World}, ((∃ f, e = .returned (.tuple #[.float .f64 f, .bool false])) ∧ w = w') → (∃ f ok, e = .returned (.tuple #[.float .f64 f, .bool ok]) ∧ (ok = true → ∃ r, f = sgN g + r ∧ r < 9218868437227405312 ∧ IsNear (nN d p) (nD p) r)) ∧ w = w' := by
    rintro e w' ⟨⟨f, rfl⟩, h⟩
    exact ⟨⟨f, false, rfl, fun h => by cases h⟩, h⟩
  by_cases hd : 4503599627370496 ≤ d
  · exact (ex_no_d d p w g hd h2 t1).mono fun e w' h => no h
  have hd2 : d < 4503599627370496 := by omega
  obtain ⟨F, hF⟩ : ∃ F, floatOfInt .f64 ((d : Nat) : Int) = F := ⟨_, rfl⟩
  obtain ⟨f1, f2, f3, f4⟩ := float_nat d h1 (by omega)
  rw [hF] at f1 f2 f3 f4
  have yes : ∀ {e : Ending} {w' : World} {r : Nat}, (r < 9218868437227405312 ∧ IsNear (nN d p) (nD p) r) → (e = .returned (.tuple #[.float .f64 (sgN g + r), .bool true]) ∧ w = w') → (∃ f ok, e = .returned (.tuple #[.float .f64 f, .bool ok]) ∧ (ok = true → ∃ r, f = sgN g + r ∧ r < 9218868437227405312 ∧ IsNear (nN d p) (nD p) r)) ∧ w = w' := by
    rintro e w' r hr ⟨rfl, h⟩
    exact ⟨⟨_, true, rfl, fun _ => ⟨r, rfl, hr⟩⟩, h⟩
  by_cases hp : 37 < p ∨ p < -22
  · exact (ex_no_p d p w g hd2 hp (by omega) (by omega) F hF (by omega) t1).mono fun e w' h => no h
  by_cases hp0 : p = 0
  · subst hp0
    refine (ex_zero d w g hd2 F hF (by omega) t1).mono fun e w' h => yes ⟨f4, ?_⟩ h
    have := near_self F
    rw [f1] at this
    rw [nN_TT, nD_nonneg (by omega), show (0 : Int).toNat = 0 from rfl, Nat.pow_zero, Nat.mul_one]
    exact this
  by_cases hpn : p < 0
  · obtain ⟨k, hk⟩ : ∃ k : Nat, p = -(k : Int) := ⟨(-p).toNat, by omega⟩
    obtain ⟨q1, q2, q3, q4⟩ := pw_get k (by omega)
    obtain ⟨r, m1, m2, m3⟩ := quo_near g F (pw k) f4 q4 f2 (by omega) q2 q3
    have hw := ex_quo d k w g gp hd2 (by omega) (by omega) F _ (pw k) hF (by omega) t1 t2 (tP k (by omega)) m1
    rw [hk]
    rw [hk] at yes
    refine hw.mono fun e w' h => yes ⟨m3, ?_⟩ h
    rw [f1, q1] at m2
    rw [nN_TT, nD_neg k rfl, show (-(k : Int)).toNat = 0 by omega, Nat.pow_zero, Nat.mul_one]
    exact near_scale TT_pos m2
  by_cases hp22 : p ≤ 22
  · obtain ⟨k, hk⟩ : ∃ k : Nat, p = (k : Int) := ⟨p.toNat, by omega⟩
    obtain ⟨q1, q2, q3, q4⟩ := pw_get k (by omega)
    obtain ⟨r, m1, m2, m3⟩ := mul_near g F (pw k) f4 q4 f2 (by omega) q2 q3
    obtain ⟨o1, o2, g1, g2, g3⟩ := ord_facts g F f4
    rw [hk]
    rw [hk] at yes no
    rcases g3 with g3 | ⟨g3, _⟩
    · exact (ex_no_cmp d k w g hd2 (by omega) (by omega) F o1 o2 hF (by omega) t1 g1 g2 g3).mono fun e w' h => no h
    · refine (ex_mul d k w g gp hd2 (by omega) (by omega) F _ (pw k) o1 o2 hF (by omega) t1 t2 (tP k (by omega)) g1 g2 g3 m1).mono fun e w' h => yes ⟨m3, ?_⟩ h
      rw [f1, q1] at m2
      rw [nN_TT, nD_nonneg (by omega), Int.toNat_natCast]
      apply near_scale TT_pos
      rw [Nat.one_mul]
      have : d * 10 ^ k * TT * TT = d * TT * (10 ^ k * TT) := by generalize TT = t; generalize 10 ^ k = x; grind
      rw [this]
      exact m2
  · obtain ⟨k, hk⟩ : ∃ k : Nat, p = (k : Int) + 22 := ⟨(p - 22).toNat, by omega⟩
    obtain ⟨q1, q2, q3, q4⟩ := pw_get k (by omega)
    obtain ⟨r1, m1, m2, m3⟩ := mul_near g F (pw k) f4 q4 f2 (by omega) q2 q3
    obtain ⟨o1, o2, g1, g2, g3⟩ := ord_facts g r1 m3
    have hr1 : IsNear (d * 10 ^ k * TT) 1 r1 := by
      rw [f1, q1] at m2
      apply near_scale TT_pos
      rw [Nat.one_mul]
      have : d * 10 ^ k * TT * TT = d * TT * (10 ^ k * TT) := by generalize TT = t; generalize 10 ^ k = x; grind
      rw [this]
      exact m2
    rw [hk]
    rw [hk] at yes no
    rcases g3 with g3 | ⟨g3, hle⟩
    · exact (ex_no_big d k w g gp hd2 (by omega) (by omega) F _ (pw k) o1 o2 hF (by omega) t1 t2 (tP k (by omega)) m1 g1 g2 g3).mono fun e w' h => no h
    ·
      have hex : vl r1 = d * 10 ^ k * TT ∧ 1022 ≤ plc r1 ∧ plc r1 ≤ 1200 := by
        have hD1 : 1 ≤ d * 10 ^ k := Nat.mul_pos h1 (Nat.pow_pos (by omega))
        by_cases cb : d * 10 ^ k < 9007199254740992
        · obtain ⟨x, x1, x2, x3, x4⟩ := rep (d * 10 ^ k) hD1 cb
          have hn := near_self x
          rw [x1] at hn
          have e := hn.unique (by omega) hr1
          rw [← e]
          exact ⟨x1, x2, by omega⟩
        · exfalso
          obtain ⟨x, x1, _, _, _⟩ := rep 9007199254740991 (by omega) (by omega)
          have hn := near_self x
          rw [x1] at hn
          have hm := near_mono (by omega) hn hr1 (Nat.mul_le_mul_right TT (by omega))
          have hv : vl x ≤ vl K15 := by
            rcases Nat.lt_or_ge x K15 with c | c
            · exact Nat.le_of_lt (Fp.vl_lt c)
            · rw [show x = K15 by omega]; exact Nat.le_refl _
          rw [x1, K15_eq, (pw_get 15 (by omega)).1] at hv
          have := Nat.le_of_mul_le_mul_right hv TT_pos
          omega
      obtain ⟨s1, s2, s3, s4⟩ := pw_get 22 (by omega)
      obtain ⟨r, n1, n2, n3⟩ := mul_near g r1 (pw 22) m3 s4 hex.2.1 hex.2.2 s2 s3
      have t22 : w.cell? ⟨gp.block, gp.off + 22, none⟩ = some (.float .f64 (pw 22)) := by
        have := tP 22 (by omega)
        unfold Addr.add at this
        rwa [if_neg (by omega)] at this
      refine (ex_mul_big d k w g gp hd2 (by omega) (by omega) F _ (pw k) _ (pw 22) o1 o2 hF (by omega) t1 t2 (tP k (by omega)) t22 m1 g1 g2 g3 n1).mono fun e w' h => yes ⟨n3, ?_⟩ h
      rw [hex.1, s1] at n2
      rw [nN_TT, nD_nonneg (by omega), show ((k : Int) + 22).toNat = k + 22 by omega, Nat.pow_add]
      apply near_scale TT_pos
      rw [Nat.one_mul]
      have : d * (10 ^ k * 10 ^ 22) * TT * TT = d * 10 ^ k * TT * (10 ^ 22 * TT) := by generalize TT = t; generalize 10 ^ k = x; generalize 10 ^ 22 = y; grind
      rw [this]
      exact n2
end Go.Proofs.YtapinbbflfkglaaGreatDoor
namespace Go.Proofs.YtapinbbflfkglaaGreatDoor
open Go.RowKit Go.Lib Go.Sort
open Go.Proofs.YtapinbbflfkglaaGreatDoor.Fp (IsNear)
open PFloatsParses (nN nD nD_pos)
set_option maxRecDepth 100000
def Told (g : Bool) (m : Nat) (x : Int) (f : Nat) (err : Value) : Prop :=
  (∃ r, f = sgN g + r ∧ r < 9218868437227405312 ∧ IsNear (nN m x) (nD x) r ∧ err = .nilIface) ∨ (f = sgN g + 9218868437227405312 ∧ err = .iface 86 (.int .i64 1) ∧ ∃ k, 9218868437227405312 ≤ k ∧ IsNear (nN m x) (nD x) k)
theorem told_ps {g : Bool} {d : Nat} {p : Int} (h1 : 1 ≤ d) (h2 : d < 18446744073709551616) (p1 : -345 ≤ p) (p2 : p ≤ 310) : Told g d p (sgN g + psR d p) (psErrR d p) := by
  rcases ps_near h1 h2 p1 p2 with ⟨a, b⟩ | ⟨a, k, b, c⟩
  · exact .inl ⟨_, rfl, a, b, psErrR_nil a⟩
  · refine .inr ⟨by rw [a], ?_, k, b, c⟩
    have ha := a
    unfold psR at ha
    unfold psErrR
    split
    · rename_i h; rw [if_pos h] at ha; omega
    · rename_i h
      rw [if_neg h] at ha
      unfold psK at ha
      unfold psErr
      split
      · rename_i h3; rw [if_pos h3] at ha; omega
      · rename_i h3
        rw [if_neg h3] at ha
        split
        · rfl
        · rename_i h4
          rw [if_neg h4] at ha
          exfalso
          by_cases c72 : psS (Lib.bitLen d) p < 64
          · have := psM_lt (psU_eq h1 h2 p1 p2 c72).2.2.1
            have hM : psM (psU d p) < 9007199254740992 := this
            generalize psM (psU d p) = m at *
            generalize psE1 (psU d p) (psE (Lib.bitLen d) p) = e at *
            omega
          · omega
set_option maxHeartbeats 1000000 in
theorem atof_mid (s : Value) (m : Nat) (x : Int) (g : Bool) (n : Nat) (w : World) (gp : Addr) (hs : NotSpecial s) (hr : ReadsAs s m x g false n) (hm : m ≠ 0) (hm64 : m < 18446744073709551616) (hx : x ≤ 310) (hx2 : -345 ≤ x) (T : Tabs w)
    (t1 : w.cell? ⟨6, 0, none⟩ = some (.int .u64 52)) (t2 : w.cell? ⟨10, 0, none⟩ = some (.slice (some gp) 23 23)) (tP : ∀ k, k < 23 → w.cell? (gp.add k) = some (.float .f64 (pw k))) :
    Calls Tryz.prog 88 #[s] w fun e w' => (∃ f err, e = .returned (.tuple #[.float .f64 f, .int .i64 n, err]) ∧ Told g m x f err) ∧ Below w.heap.size w w' := by
  have k := ext127
  have tOpt := T.opt
  have hm2 : (((m : Nat) : Int) == 0) = false := by simp; omega
  have HE := Lib.hid (exact_any m x g w gp (by omega) hm64 hx2 hx t1 t2 tP)
  have hP := p64_any m x g w (by omega) hm64 hx2 hx T
  have HTold := Lib.hid (told_ps (g := g) (d := m) (p := x) (by omega) hm64 hx2 hx)
  obtain ⟨R, hR⟩ : ∃ R, R = sgN g + psR m x := ⟨_, rfl⟩
  obtain ⟨E, hE⟩ : ∃ R, R = psErrR m x := ⟨_, rfl⟩
  rw [← hR, ← hE] at hP HTold
  clear T t1 t2 tP hm64 hm hR hE
  go_enter Tryz.func88, Tryz.ntmps88
  go_wp2_with fail
  refine (hs _).mono ?_
  rintro e w' ⟨rfl, rfl⟩
  go_wp2_with fail
  refine (hr _).mono ?_
  rintro e w' ⟨rfl, rfl⟩
  cases g
  · have hP2 : Hid (Calls Tryz.prog 129 #[.int .u64 (m : Nat), .int .i64 x, .int .u64 0] w fun r w' => r = .returned (.tuple #[.float .f64 R, E]) ∧ Below w.heap.size w w') := Lib.hid hP
    clear hP
    go_wp2_with fail
    refine (bool2_any _ _).mono ?_
    rintro e w' ⟨rfl, rfl⟩
    go_wp2_with fail
    refine HE.out.mono ?_
    rintro e w' ⟨⟨f, ok, rfl, hok⟩, rfl⟩
    have HOK := Lib.hid hok
    clear hok HE
    cases ok
    · go_wp2_with fail
      refine hP2.out.mono ?_
      rintro e w2 ⟨rfl, hb⟩
      have HB := Lib.hid hb
      clear hb hP2
      go_wp2_with fail
      go_ret3
      exact ⟨⟨_, _, rfl, HTold.out⟩, HB.out⟩
    · go_wp2_with fail
      go_ret3
      obtain ⟨r, h1, h2, h3⟩ := HOK.out (by trivial)
      exact ⟨⟨_, _, rfl, .inl ⟨r, h1, h2, h3, rfl⟩⟩, Below.refl _ _⟩
  · have hP2 : Hid (Calls Tryz.prog 129 #[.int .u64 (m : Nat), .int .i64 x, .int .u64 9223372036854775808] w fun r w' => r = .returned (.tuple #[.float .f64 R, E]) ∧ Below w.heap.size w w') := Lib.hid hP
    clear hP
    go_wp2_with fail
    refine (bool2_any _ _).mono ?_
    rintro e w' ⟨rfl, rfl⟩
    go_wp2_with fail
    refine HE.out.mono ?_
    rintro e w' ⟨⟨f, ok, rfl, hok⟩, rfl⟩
    have HOK := Lib.hid hok
    clear hok HE
    cases ok
    · go_wp2_with fail
      refine hP2.out.mono ?_
      rintro e w2 ⟨rfl, hb⟩
      have HB := Lib.hid hb
      clear hb hP2
      go_wp2_with fail
      go_ret3
      exact ⟨⟨_, _, rfl, HTold.out⟩, HB.out⟩
    · go_wp2_with fail
      go_ret3
      obtain ⟨r, h1, h2, h3⟩ := HOK.out (by trivial)
      exact ⟨⟨_, _, rfl, .inl ⟨r, h1, h2, h3, rfl⟩⟩, Below.refl _ _⟩
end Go.Proofs.YtapinbbflfkglaaGreatDoor
namespace Go.Proofs.YtapinbbflfkglaaGreatDoor
open Go.RowKit Go.Lib Go.Sort
set_option maxRecDepth 100000
def allD (l : List UInt8) : Prop := ∀ c ∈ l, digB c = true
def numF : List UInt8 → Nat → Nat
  | [], m => m
  | c :: cs, m => numF cs (m * 10 + (c.toNat - 48))
theorem numF_append : ∀ (a b : List UInt8) (m : Nat), numF (a ++ b) m = numF b (numF a m)
  | [], _, _ => rfl
  | c :: cs, b, m => by rw [List.cons_append]; exact numF_append cs b _
end Go.Proofs.YtapinbbflfkglaaGreatDoor
namespace Go.Proofs.YtapinbbflfkglaaGreatDoor
open Go.RowKit Go.Lib
open Go.Proofs.YtapinbbflfkglaaGreatDoor.Fp (mant plc vl IsNear rhe unr mid)
open PFloatsParses (nN nD nD_pos sc_get divN_unr)
set_option maxRecDepth 100000
theorem near_up {N D c r : Nat} (hc : 0 < c) (h : IsNear N D r) : IsNear (N * c) (D * c) r := by
  have e : ∀ x : Nat, x * (D * c) = x * D * c := fun x => by rw [Nat.mul_assoc]
  unfold IsNear at h ⊢
  simp only [e]
  have l1 : ∀ a b : Nat, a * c < b * c ↔ a < b := fun a b => Nat.mul_lt_mul_right hc
  have l2 : ∀ a b : Nat, a * c = b * c ↔ a = b := fun a b => ⟨Nat.mul_right_cancel hc, fun h => by rw [h]⟩
  simpa only [l1, l2] using h
theorem near_ratio {N D N' D' r : Nat} (hD : 0 < D) (hD' : 0 < D') (e : N * D' = N' * D) (h : IsNear N D r) : IsNear N' D' r := by
  have h1 := near_up hD' h
  rw [e, Nat.mul_comm D] at h1
  exact near_scale hD h1
end Go.Proofs.YtapinbbflfkglaaGreatDoor
namespace Go.Proofs.YtapinbbflfkglaaGreatDoor
open Go.RowKit Go.Lib Go.Sort
set_option maxRecDepth 100000
def pwL : List Nat := (List.range 23).map pw
theorem c10p_of_laid {W : World} {laid : List (String × DataW Unit)} (h : laidMet Tryz.prog laid W) (h10 : ("internal/strconv.float64pow10", .slice (pwL.map fun b => .lit (.float .f64 b)) []) ∈ laid) :
    ∃ g : Addr, W.cell? ⟨10, 0, none⟩ = some (.slice (some g) 23 23) ∧ ∀ k, k < 23 → W.cell? (g.add k) = some (.float .f64 (pw k)) := by
  obtain ⟨ps, hv, _⟩ := h
  obtain ⟨g, t, cs, fuel, p, a1, a2, a3, a4⟩ := laidVars_mem hv _ _ h10
  obtain ⟨t', e, c1, c2, c3, rfl, c5, c6⟩ := g10
  obtain rfl := Option.some.inj (c1.symm.trans a1)
  obtain rfl := Option.some.inj (c2.symm.trans a2)
  have hrow := open_row c3 c5 a4
  have hsl := DataW.trod_slice c3 a4
  obtain ⟨a, cap, hcs, hle, hel⟩ := hrow
  have hlen : (pwL.map fun b => (DataW.lit (.float .f64 b) : DataW Unit)).length = 23 := by simp [pwL]
  rcases hsl with ⟨_, hx⟩ | ⟨a', len, cap', elems, rest, n, _, hcs', hx, _, hl, _, hlen2, _, hsp, _⟩
  · have h0 := congrArg (fun x => x.1) hx
    simp only at h0
    have : (pwL.map fun b => (DataW.lit (.float .f64 b) : DataW Unit)) = [] := by
      injection h0
    rw [this] at hlen
    simp at hlen
  · rw [hcs] at hcs'
    simp only [List.cons.injEq, Value.slice.injEq, and_true] at hcs'
    obtain ⟨_, hl2, rfl⟩ := hcs'
    simp only [Prod.mk.injEq, DataW.slice.injEq] at hx
    have hrest : rest.length = 0 := by have := congrArg List.length hx.1.2; simpa using this.symm
    have hcap := (hsp rfl).1
    have hlen23 : len = 23 := by rw [← hl2]; exact hlen
    have hcap23 : cap = 23 := by omega
    refine ⟨a, ?_, fun k hk => ?_⟩
    · rw [World.var?_cell c1 a3 0, ← Array.getElem?_toList, hcs, hlen, hcap23]; rfl
    · obtain ⟨v, m, q, hcell, htr⟩ := hel k (.lit (.float .f64 (pw k))) (by simp [pwL, hk])
      rw [hcell]
      cases m with
      | zero => simp [DataW.trod] at htr
      | succ m =>
        cases v <;> simp [DataW.trod, c6] at htr
        obtain ⟨h1, h2⟩ := htr
        simp_all
theorem fxp_of {W : World} {g : Addr} (h1 : W.cell? ⟨10, 0, none⟩ = some (.slice (some g) 23 23)) (h2 : ∃ g : Addr, W.cell? ⟨10, 0, none⟩ = some (.slice (some g) 23 23) ∧ ∀ k, k < 23 → W.cell? (g.add k) = some (.float .f64 (pw k))) :
    ∀ k, k < 23 → W.cell? (g.add k) = some (.float .f64 (pw k)) := by
  obtain ⟨g', e1, e2⟩ := h2
  rw [h1] at e1
  simp only [Option.some.injEq, Value.slice.injEq, and_true] at e1
  rw [e1]
  exact e2
end Go.Proofs.YtapinbbflfkglaaGreatDoor
