/-
  Texts put together by wip/merge.py: Rg7 Rg8 Rg9 Fd4.
-/
import Derived.Test.YtapinbbflfkglaaGreatDoorRg
import Derived.Test.YtapinbbflfkglaaGreatDoorRn
import Derived.Test.YtapinbbflfkglaaGreatDoorFp3
import Derived.Laws.Cover2
import Derived.Test.YtapinbbflfkglaaGreatDoorFb20
/-
  THE DOCUMENT'S Less: of two amounts in their one form it tells which is below.
-/
namespace Go.Proofs.YtapinbbflfkglaaGreatDoor.PFloatsParses
open Go.RowKit Go.Proofs.YtapinbbflfkglaaGreatDoorW.PrintWords Go.Proofs.YtapinbbflfkglaaGreatDoorW.PrintLast Go.Proofs.YtapinbbflfkglaaGreatDoorW.PrintMore
set_option maxRecDepth 100000
/-- a text's byte, noughts behind it -/
def pd (l : List UInt8) (i : Nat) : Nat := if i < l.length then (l.getD i 0).toNat else 48
def cmpF (a b : List UInt8) : Nat → Nat → Bool
  | 0, _ => false
  | m + 1, i => if pd a i = pd b i then cmpF a b m (i + 1) else decide (pd a i < pd b i)
theorem bt_pd {l : List UInt8} {i : Nat} (h : i < l.length) : bt (bs l) (i : Nat) = (pd l i : Int) := by
  unfold bt pd
  rw [if_pos h, List.getD_eq_getElem?_getD, List.getElem?_eq_getElem h, Option.getD_some]
  rw [dif_pos (by rw [bs_size]; simpa using h)]
  show ((l.toArray[((i : Nat) : Int).toNat]'(by simpa using h)).toNat : Int) = _
  simp
theorem less_l0 (a b : List UInt8) (x y : Int) (n : Nat) (ha : a.length ≤ n) (hb : b.length ≤ n) (hn : n < 1000000) : ∀ (m i : Nat), i + m = n →
    Ev (fun k => rhizomeref02_Less.l0 k (n : Nat) (i : Nat) (bs a) x (bs b) y) (cmpF a b m i)
  | 0, i, h => by
    refine Ev.step (f := fun _ => some false) (fun k => ?_) (Ev.now _)
    conv => lhs; unfold rhizomeref02_Less.l0
    rw [if_neg (by omega)]
  | m + 1, i, h => by
    have ih := less_l0 a b x y n ha hb hn m (i + 1) (by omega)
    have hw : wrap64 (((i : Nat) : Int) + 1) = ((i + 1 : Nat) : Int) := by rw [w64 (by omega) (by omega)]; omega
    -- the second half, given the byte of a
    have j2 : Ev (fun k => rhizomeref02_Less.j2 k (n : Nat) (i : Nat) (pd a i : Nat) 48 (bs a) x (bs b) y) (cmpF a b (m + 1) i) := by
      unfold cmpF
      by_cases c : i < b.length
      · by_cases d : pd a i = pd b i
        · rw [if_pos d]
          refine Ev.step (fun k => ?_) ih
          conv => lhs; unfold rhizomeref02_Less.j2
          rw [if_pos (by rw [bs_size]; omega), if_pos (by omega), bt_pd c, if_pos (by omega), hw]
        · rw [if_neg d]
          refine Ev.step (f := fun _ => some (decide (pd a i < pd b i))) (fun k => ?_) (Ev.now _)
          conv => lhs; unfold rhizomeref02_Less.j2
          rw [if_pos (by rw [bs_size]; omega), if_pos (by omega), bt_pd c, if_neg (by omega)]
          congr 1
          rw [Bool.eq_iff_iff]; simp
      · have hb48 : pd b i = 48 := by unfold pd; rw [if_neg c]
        rw [hb48]
        by_cases d : pd a i = 48
        · rw [if_pos d]
          refine Ev.step (fun k => ?_) ih
          conv => lhs; unfold rhizomeref02_Less.j2
          rw [if_neg (by rw [bs_size]; omega), if_pos (by omega), hw]
        · rw [if_neg d]
          refine Ev.step (f := fun _ => some (decide (pd a i < 48))) (fun k => ?_) (Ev.now _)
          conv => lhs; unfold rhizomeref02_Less.j2
          rw [if_neg (by rw [bs_size]; omega), if_neg (by omega)]
          congr 1
          rw [Bool.eq_iff_iff]; simp; omega
    by_cases c : i < a.length
    · refine Ev.step (fun k => ?_) j2
      conv => lhs; unfold rhizomeref02_Less.l0
      rw [if_pos (by omega), if_pos (by rw [bs_size]; omega), if_pos (by omega), bt_pd c]
    · have ha48 : pd a i = 48 := by unfold pd; rw [if_neg c]
      rw [ha48] at j2
      refine Ev.step (fun k => ?_) j2
      conv => lhs; unfold rhizomeref02_Less.l0
      rw [if_pos (by omega), if_neg (by rw [bs_size]; omega)]
      rfl
/-- the rest of two rows, as numbers -/
theorem cmpF_num {a b : List UInt8} {A B n : Nat} (hA : ∀ i, i < n → pd a i = 48 + A / 10 ^ (n - 1 - i) % 10) (hB : ∀ i, i < n → pd b i = 48 + B / 10 ^ (n - 1 - i) % 10) :
    ∀ m i, i + m = n → cmpF a b m i = decide (A % 10 ^ m < B % 10 ^ m)
  | 0, i, h => by simp [cmpF, Nat.mod_one]
  | m + 1, i, h => by
    have ih := cmpF_num hA hB m (i + 1) (by omega)
    have e1 := hA i (by omega)
    have e2 := hB i (by omega)
    rw [show n - 1 - i = m by omega] at e1 e2
    have hp : 0 < 10 ^ m := Nat.pow_pos (by omega)
    have m1 : A % 10 ^ (m + 1) = A % 10 ^ m + 10 ^ m * (A / 10 ^ m % 10) := by rw [Nat.pow_succ, Nat.mod_mul]
    have m2 : B % 10 ^ (m + 1) = B % 10 ^ m + 10 ^ m * (B / 10 ^ m % 10) := by rw [Nat.pow_succ, Nat.mod_mul]
    have l1 := Nat.mod_lt A hp
    have l2 := Nat.mod_lt B hp
    unfold cmpF
    rw [e1, e2, m1, m2, ih]
    generalize A / 10 ^ m % 10 = p
    generalize B / 10 ^ m % 10 = q
    generalize 10 ^ m = t at *
    generalize A % t = u at *
    generalize B % t = v at *
    have hlt : ∀ {p q u v : Nat}, u < t → v < t → p < q → u + t * p < v + t * q := by
      intro p q u v hu hv h
      have : t * (p + 1) ≤ t * q := Nat.mul_le_mul_left t h
      rw [Nat.mul_succ] at this
      omega
    by_cases c : p = q
    · subst c
      rw [if_pos rfl, Bool.eq_iff_iff]
      simp
    · rw [if_neg (by omega), Bool.eq_iff_iff]
      simp only [decide_eq_true_eq]
      constructor
      · intro h
        exact hlt l1 l2 (by omega)
      · intro h
        rcases Nat.lt_or_ge p q with g | g
        · omega
        · have := hlt l2 l1 (show q < p by omega)
          omega
theorem pd_dec {w n : Nat} (hn : Lib.nDigits w ≤ n) : ∀ i, i < n → pd (Lib.decDigits w) i = 48 + (w * 10 ^ (n - Lib.nDigits w)) / 10 ^ (n - 1 - i) % 10 := by
  intro i hi
  unfold pd
  rw [Lib.decDigits_length]
  by_cases c : i < Lib.nDigits w
  · rw [if_pos c, digit_toNat c]
    have e : n - 1 - i = (Lib.nDigits w - 1 - i) + (n - Lib.nDigits w) := by omega
    rw [e, Nat.pow_add, Nat.mul_div_mul_right _ _ (Nat.pow_pos (by omega))]
  · rw [if_neg c]
    obtain ⟨r, hr⟩ : ∃ r, n - Lib.nDigits w = (n - 1 - i) + (r + 1) := ⟨n - Lib.nDigits w - (n - 1 - i) - 1, by omega⟩
    rw [hr, Nat.pow_add, ← Nat.mul_assoc, Nat.mul_right_comm, Nat.mul_div_cancel _ (Nat.pow_pos (by omega)), Nat.pow_succ, ← Nat.mul_assoc]
    omega
/-- an amount as a number of units 10^-K -/
def amt (w : Nat) (e : Int) (K : Nat) : Nat := w * 10 ^ (e + K).toNat
theorem less_pos {w w' : Nat} {e e' : Int} (hw : 1 ≤ w) (hw' : 1 ≤ w') (K : Nat) (he : -(K : Int) ≤ e) (he' : -(K : Int) ≤ e') (h1 : e ≤ 1000000) (h2 : e' ≤ 1000000) (hK : K ≤ 1000000) (hl : Lib.nDigits w < 100000) (hl' : Lib.nDigits w' < 100000) :
    Ev (fun k => rhizomeref02_Less.f k (bs (Lib.decDigits w)) e (bs (Lib.decDigits w')) e') (decide (amt w e K < amt w' e' K)) := by
  have n1 := Lib.nDigits_pos w
  have n2 := Lib.nDigits_pos w'
  have s1 : (bs (Lib.decDigits w)).size = Lib.nDigits w := by rw [bs_size, Lib.decDigits_length]
  have s2 : (bs (Lib.decDigits w')).size = Lib.nDigits w' := by rw [bs_size, Lib.decDigits_length]
  have b1 := Lib.lt_pow_nDigits w
  have b2 := Lib.lt_pow_nDigits w'
  have lo : ∀ {w : Nat}, 1 ≤ w → 10 ^ (Lib.nDigits w - 1) ≤ w := fun {w} h => by
    rcases Nat.lt_or_ge w (10 ^ (Lib.nDigits w - 1)) with g | g
    · have := nDigits_le h g
      have := Lib.nDigits_pos w
      omega
    · exact g
  have l1 := lo hw
  have l2 := lo hw'
  have ne1 : ¬ (bs (Lib.decDigits w)).toList = [] := by
    intro h
    rw [bs_toList] at h
    have := congrArg List.length h
    rw [Lib.decDigits_length] at this
    simp at this; omega
  have ne2 : ((bs (Lib.decDigits w')).toList == ([] : List UInt8)) = false := by
    rw [bs_toList, beq_eq_false_iff_ne]
    intro h
    have := congrArg List.length h
    rw [Lib.decDigits_length] at this
    simp at this; omega
  have w1 : wrap64 (((bs (Lib.decDigits w)).size : Int) + e) = (Lib.nDigits w : Int) + e := by rw [s1, w64 (by omega) (by omega)]
  have w2 : wrap64 (((bs (Lib.decDigits w')).size : Int) + e') = (Lib.nDigits w' : Int) + e' := by rw [s2, w64 (by omega) (by omega)]
  have hu : ∀ k, rhizomeref02_Less.j0 (k + 1) false (bs (Lib.decDigits w)) e (bs (Lib.decDigits w')) e' = (if (wrap64 (((bs (Lib.decDigits w)).size : Int) + e)) = (wrap64 (((bs (Lib.decDigits w')).size : Int) + e')) then (rhizomeref02_Less.l0 k (mx ((bs (Lib.decDigits w)).size : Int) ((bs (Lib.decDigits w')).size : Int)) 0 (bs (Lib.decDigits w)) e (bs (Lib.decDigits w')) e') else (some (decide ((wrap64 (((bs (Lib.decDigits w)).size : Int) + e)) < (wrap64 (((bs (Lib.decDigits w')).size : Int) + e')))))) := fun _ => rfl
  have key : Ev (fun k => rhizomeref02_Less.j0 k false (bs (Lib.decDigits w)) e (bs (Lib.decDigits w')) e') (decide (amt w e K < amt w' e' K)) := by
    by_cases c : (Lib.nDigits w : Int) + e = (Lib.nDigits w' : Int) + e'
    · obtain ⟨n, hn⟩ : ∃ n, n = max (Lib.nDigits w) (Lib.nDigits w') := ⟨_, rfl⟩
      have hmx : mx ((bs (Lib.decDigits w)).size : Int) ((bs (Lib.decDigits w')).size : Int) = ((n : Nat) : Int) := by
        rw [s1, s2, hn]; unfold mx; split <;> omega
      have hl0 := less_l0 (Lib.decDigits w) (Lib.decDigits w') e e' n (by rw [Lib.decDigits_length]; omega) (by rw [Lib.decDigits_length]; omega) (by omega) n 0 (by omega)
      have hcm := cmpF_num (pd_dec (show Lib.nDigits w ≤ n by omega)) (pd_dec (show Lib.nDigits w' ≤ n by omega)) n 0 (by omega)
      have hlt : ∀ {w : Nat}, Lib.nDigits w ≤ n → w * 10 ^ (n - Lib.nDigits w) < 10 ^ n := fun {w} h => by
        calc w * 10 ^ (n - Lib.nDigits w) < 10 ^ Lib.nDigits w * 10 ^ (n - Lib.nDigits w) := Nat.mul_lt_mul_of_pos_right (Lib.lt_pow_nDigits w) (Nat.pow_pos (by omega))
          _ = 10 ^ n := by rw [← Nat.pow_add]; congr 1; omega
      rw [Nat.mod_eq_of_lt (hlt (by omega)), Nat.mod_eq_of_lt (hlt (by omega))] at hcm
      rw [hcm] at hl0
      have e1 : decide (amt w e K < amt w' e' K) = decide (w * 10 ^ (n - Lib.nDigits w) < w' * 10 ^ (n - Lib.nDigits w')) := by
        rw [Bool.eq_iff_iff]
        simp only [decide_eq_true_eq]
        unfold amt
        obtain ⟨a, ha⟩ : ∃ a, a = (e + K).toNat := ⟨_, rfl⟩
        obtain ⟨b, hb⟩ : ∃ b, b = (e' + K).toNat := ⟨_, rfl⟩
        rw [← ha, ← hb]
        -- (n - nd) + b' = (n - nd') + a'
        have hab : (n - Lib.nDigits w) + b = (n - Lib.nDigits w') + a := by omega
        rcases Nat.le_total (n - Lib.nDigits w) (n - Lib.nDigits w') with h | h
        · obtain ⟨r, hr⟩ := Nat.exists_eq_add_of_le h
          rw [hr] at hab ⊢
          have : b = a + r := by omega
          rw [this, Nat.pow_add, Nat.pow_add, Nat.mul_comm (10 ^ a), Nat.mul_comm (10 ^ (n - Lib.nDigits w)), ← Nat.mul_assoc, ← Nat.mul_assoc, Nat.mul_lt_mul_right (Nat.pow_pos (by omega)), Nat.mul_lt_mul_right (Nat.pow_pos (by omega))]
        · obtain ⟨r, hr⟩ := Nat.exists_eq_add_of_le h
          rw [hr] at hab ⊢
          have : a = b + r := by omega
          rw [this, Nat.pow_add, Nat.pow_add, Nat.mul_comm (10 ^ b), Nat.mul_comm (10 ^ (n - Lib.nDigits w')), ← Nat.mul_assoc, ← Nat.mul_assoc, Nat.mul_lt_mul_right (Nat.pow_pos (by omega)), Nat.mul_lt_mul_right (Nat.pow_pos (by omega))]
      rw [e1]
      refine Ev.step (fun k => ?_) hl0
      rw [hu, w1, w2, if_pos c, hmx]
      rfl
    · refine Ev.step (f := fun _ => some (decide (amt w e K < amt w' e' K))) (fun k => ?_) (Ev.now _)
      rw [hu, w1, w2, if_neg c]
      congr 1
      rw [Bool.eq_iff_iff]
      simp only [decide_eq_true_eq]
      have big : ∀ {w w' : Nat} {e e' : Int}, 1 ≤ w → 1 ≤ w' → -(K : Int) ≤ e → -(K : Int) ≤ e' → (Lib.nDigits w : Int) + e < (Lib.nDigits w' : Int) + e' → amt w e K < amt w' e' K := by
        intro w w' e e' hw hw' he he' h
        have n1 := Lib.nDigits_pos w
        have n2 := Lib.nDigits_pos w'
        unfold amt
        calc w * 10 ^ (e + K).toNat < 10 ^ Lib.nDigits w * 10 ^ (e + K).toNat := Nat.mul_lt_mul_of_pos_right (Lib.lt_pow_nDigits w) (Nat.pow_pos (by omega))
          _ = 10 ^ (Lib.nDigits w + (e + K).toNat) := by rw [Nat.pow_add]
          _ ≤ 10 ^ (Lib.nDigits w' - 1 + (e' + K).toNat) := Nat.pow_le_pow_right (by omega) (by omega)
          _ = 10 ^ (Lib.nDigits w' - 1) * 10 ^ (e' + K).toNat := by rw [Nat.pow_add]
          _ ≤ _ := Nat.mul_le_mul_right _ (lo hw')
      constructor
      · intro h; exact big hw hw' he he' h
      · intro h
        rcases Int.lt_or_gt_of_ne c with g | g
        · exact g
        · have := big hw' hw he' he g
          omega
  refine Ev.congr (fun k => ?_) key
  unfold rhizomeref02_Less.f
  rw [if_neg ne1, ne2]
end Go.Proofs.YtapinbbflfkglaaGreatDoor.PFloatsParses
/-
  THE DOCUMENT'S Nearest: of an amount in its one form it tells the nearest number.
-/
namespace Go.Proofs.YtapinbbflfkglaaGreatDoor.PFloatsParses
open Go.RowKit Go.Proofs.YtapinbbflfkglaaGreatDoorW.PrintWords Go.Proofs.YtapinbbflfkglaaGreatDoorW.PrintLast Go.Proofs.YtapinbbflfkglaaGreatDoorW.PrintMore
set_option maxRecDepth 100000
/-- w * 10^e in units of 2^-1075: numerator and denominator -/
def nN (w : Nat) (e : Int) : Nat := w * 10 ^ e.toNat * 2 ^ 1075
def nD (e : Int) : Nat := 10 ^ (-e).toNat
theorem nD_pos (e : Int) : 0 < nD e := Nat.pow_pos (by omega)
theorem amt_canon {v w : Nat} {z : Nat} {x0 : Int} (h : v = w * 10 ^ z) (K : Nat) (hK : -(K : Int) ≤ x0) : amt w (x0 + z) K = v * 10 ^ (x0 + K).toNat := by
  unfold amt
  rw [h, Nat.mul_assoc, ← Nat.pow_add]
  congr 2
  omega
theorem amt_left (w : Nat) (e : Int) (K : Nat) (hK : -(K : Int) ≤ e) : amt w e K * nD e * 2 ^ 1075 = nN w e * 10 ^ K := by
  unfold amt nD nN
  have : (10 : Nat) ^ (e + K).toNat * 10 ^ (-e).toNat = 10 ^ e.toNat * 10 ^ K := by
    rw [← Nat.pow_add, ← Nat.pow_add]; congr 1; omega
  rw [Nat.mul_assoc w, this]
  generalize 2 ^ 1075 = t
  grind
theorem amt_right (M : Nat) (x : Int) (K : Nat) (hx : -1075 ≤ x) (hK : 1075 ≤ K) :
    (if 0 ≤ x then M * 2 ^ x.toNat else M * 5 ^ (-x).toNat) * 10 ^ ((if 0 ≤ x then (0 : Int) else x) + K).toNat * 2 ^ 1075 = M * 2 ^ (x + 1075).toNat * 10 ^ K := by
  by_cases c : 0 ≤ x
  · rw [if_pos c, if_pos c, show ((0 : Int) + K).toNat = K by omega, show (x + 1075).toNat = x.toNat + 1075 by omega, Nat.pow_add]
    generalize 2 ^ 1075 = t
    grind
  · rw [if_neg c, if_neg c]
    obtain ⟨a, ha⟩ : ∃ a : Nat, x = -(a : Nat) := ⟨(-x).toNat, by omega⟩
    obtain ⟨r, hr⟩ : ∃ r : Nat, K = a + r := ⟨K - a, by omega⟩
    obtain ⟨s, hs⟩ : ∃ s : Nat, 1075 = a + s := ⟨1075 - a, by omega⟩
    rw [show (-x).toNat = a by omega, show (x + (K : Int)).toNat = r by omega, show (x + 1075).toNat = s by omega, hr, Nat.pow_add 10 a r]
    have e2 : (2 : Nat) ^ 1075 = 2 ^ a * 2 ^ s := by rw [← Nat.pow_add, ← hs]
    have h10 : (10 : Nat) ^ a = 2 ^ a * 5 ^ a := by rw [← Nat.mul_pow]
    rw [e2, h10]
    grind
set_option exponentiation.threshold 3000 in
theorem amt_lt {a b n m D K : Nat} (hD : 0 < D) (h1 : a * D * 2 ^ 1075 = n * 10 ^ K) (h2 : b * 2 ^ 1075 = m * 10 ^ K) : (a < b ↔ n < m * D) ∧ (b < a ↔ m * D < n) := by
  have hp : 0 < 2 ^ 1075 := Nat.two_pow_pos _
  have ht : 0 < 10 ^ K := Nat.pow_pos (by omega)
  have h3 : b * D * 2 ^ 1075 = m * D * 10 ^ K := by rw [Nat.mul_right_comm, h2, Nat.mul_right_comm]
  have g1 : ∀ x y : Nat, x * D * 2 ^ 1075 < y * D * 2 ^ 1075 ↔ x < y := fun x y => by
    rw [Nat.mul_lt_mul_right hp, Nat.mul_lt_mul_right hD]
  have g2 : ∀ x y : Nat, x * 10 ^ K < y * 10 ^ K ↔ x < y := fun x y => Nat.mul_lt_mul_right ht
  constructor
  · rw [← g1, h1, h3, g2]
  · rw [← g1, h1, h3, g2]
set_option exponentiation.threshold 3000 in
/-- an amount compared with m * 2^x -/
theorem less_amt {w : Nat} {e : Int} (hw : 1 ≤ w) (hl : Lib.nDigits w < 1000) (he1 : -200000 ≤ e) (he2 : e ≤ 200000) (M : Nat) (x : Int) (hM1 : 1 ≤ M) (hM2 : M < 18446744073709551616) (hx1 : -1075 ≤ x) (hx2 : x ≤ 1000) :
    ∃ ds' e', Ev (fun k => rhizomeref02_Amount.f k (M : Nat) x) (bs ds', e') ∧
      Ev (fun k => rhizomeref02_Less.f k (bs (Lib.decDigits w)) e (bs ds') e') (decide (nN w e < M * 2 ^ (x + 1075).toNat * nD e)) ∧
      Ev (fun k => rhizomeref02_Less.f k (bs ds') e' (bs (Lib.decDigits w)) e) (decide (M * 2 ^ (x + 1075).toNat * nD e < nN w e)) := by
  obtain ⟨ds, y, h1, h2⟩ := amount_ev M x hM2 (by omega) (by omega)
  have hv0 : (if 0 ≤ x then M * 2 ^ x.toNat else M * 5 ^ (-x).toNat) ≠ 0 := by
    split
    · exact Nat.ne_of_gt (Nat.mul_pos (by omega) (Nat.two_pow_pos _))
    · exact Nat.ne_of_gt (Nat.mul_pos (by omega) (Nat.pow_pos (by omega)))
  rcases h2 with ⟨h, _, _⟩ | ⟨w', z, g1, g2, g3, g4⟩
  · exact absurd h hv0
  have hw' : 1 ≤ w' := Nat.pos_of_ne_zero (fun e => by rw [e] at g2; exact g2 rfl)
  -- sizes
  have hv : (if 0 ≤ x then M * 2 ^ x.toNat else M * 5 ^ (-x).toNat) < 10 ^ 2000 := by
    have e16 : M < 10 ^ 20 := by omega
    split
    · calc M * 2 ^ x.toNat ≤ M * 10 ^ x.toNat := Nat.mul_le_mul_left _ (Nat.pow_le_pow_left (by omega) _)
        _ < 10 ^ 20 * 10 ^ x.toNat := Nat.mul_lt_mul_of_pos_right e16 (Nat.pow_pos (by omega))
        _ = 10 ^ (20 + x.toNat) := by rw [Nat.pow_add]
        _ ≤ _ := Nat.pow_le_pow_right (by omega) (by omega)
    · calc M * 5 ^ (-x).toNat ≤ M * 10 ^ (-x).toNat := Nat.mul_le_mul_left _ (Nat.pow_le_pow_left (by omega) _)
        _ < 10 ^ 20 * 10 ^ (-x).toNat := Nat.mul_lt_mul_of_pos_right e16 (Nat.pow_pos (by omega))
        _ = 10 ^ (20 + (-x).toNat) := by rw [Nat.pow_add]
        _ ≤ _ := Nat.pow_le_pow_right (by omega) (by omega)
  have hw2 := hv
  rw [g1] at hw2
  have hz : z < 2000 := (Nat.pow_lt_pow_iff_right (by omega)).1 (Nat.lt_of_le_of_lt (Nat.le_mul_of_pos_left _ hw') hw2)
  have hn := nDigits_le (D := w') (k := 2000) hw' (Nat.lt_of_le_of_lt (Nat.le_mul_of_pos_right _ (Nat.pow_pos (by omega))) hw2)
  obtain ⟨K, hK⟩ : ∃ K, K = 300000 := ⟨_, rfl⟩
  have hy1 : -1075 ≤ y := by rw [g4]; split <;> omega
  have hy2 : y ≤ 3000 := by rw [g4]; split <;> omega
  have a2 : amt w' y K * 2 ^ 1075 = M * 2 ^ (x + 1075).toNat * 10 ^ K := by
    rw [g4, amt_canon g1 K (by split <;> omega), amt_right M x K hx1 (by omega)]
  have hc := amt_lt (nD_pos e) (amt_left w e K (by omega)) a2
  refine ⟨ds, y, h1, ?_, ?_⟩
  · rw [g3]
    have := less_pos hw hw' K (e := e) (e' := y) (by omega) (by omega) (by omega) (by omega) (by omega) (by omega) (by omega)
    rwa [show decide (amt w e K < amt w' y K) = decide (nN w e < M * 2 ^ (x + 1075).toNat * nD e) by rw [Bool.eq_iff_iff]; simp only [decide_eq_true_eq]; exact hc.1] at this
  · rw [g3]
    have := less_pos hw' hw K (e := y) (e' := e) (by omega) (by omega) (by omega) (by omega) (by omega) (by omega) (by omega)
    rwa [show decide (amt w' y K < amt w e K) = decide (M * 2 ^ (x + 1075).toNat * nD e < nN w e) by rw [Bool.eq_iff_iff]; simp only [decide_eq_true_eq]; exact hc.2] at this
theorem u64w (x : Nat) (h : x < 18446744073709551616) : IntKind.u64.wrap ((x : Nat) : Int) = x := IntWalk.u64_in _ ⟨by omega, by omega⟩
theorem of2_k (k : Nat) (hk : k < 9223372036854775808) : rhizomeref02_Of2.f ((k : Nat) : Int) = some (((Fp.mant k : Nat) : Int), ((Fp.plc k : Nat) : Int) - 1074) := by
  have e1 : IntKind.u64.wrap (Int.tdiv ((k : Nat) : Int) 4503599627370496) = ((k / 4503599627370496 : Nat) : Int) := by
    rw [show (4503599627370496 : Int) = ((4503599627370496 : Nat) : Int) from rfl, ← Int.ofNat_tdiv, u64w _ (by omega)]
  have e2 : Int.tmod ((k : Nat) : Int) 4503599627370496 = ((k % 4503599627370496 : Nat) : Int) := by
    rw [show (4503599627370496 : Int) = ((4503599627370496 : Nat) : Int) from rfl, ← Int.ofNat_tmod]
  unfold rhizomeref02_Of2.f
  rw [e1, e2]
  unfold Fp.mant Fp.plc
  by_cases c : k / 4503599627370496 = 0
  · rw [if_pos (by omega), if_pos c, c, Nat.mod_eq_of_lt (by omega)]
    rfl
  · rw [if_neg (by omega), if_neg c]
    have e3 : IntKind.u64.wrap (4503599627370496 + ((k % 4503599627370496 : Nat) : Int)) = ((4503599627370496 + k % 4503599627370496 : Nat) : Int) := by
      rw [show (4503599627370496 : Int) + ((k % 4503599627370496 : Nat) : Int) = ((4503599627370496 + k % 4503599627370496 : Nat) : Int) by omega, u64w _ (by omega)]
    rw [e3, w64 (x := ((k / 4503599627370496 : Nat) : Int)) (by omega) (by omega), w64 (by omega) (by omega)]
    congr 2
    omega
theorem mant_bd {k : Nat} (h1 : 1 ≤ k) : 1 ≤ Fp.mant k ∧ Fp.mant k < 9007199254740992 := by
  unfold Fp.mant
  split <;> omega
theorem plc_bd {k : Nat} (h : k ≤ 9218868437227405312) : Fp.plc k ≤ 2046 := by unfold Fp.plc; omega
/-- the search -/
theorem near_l0 {w : Nat} {e : Int} (hw : 1 ≤ w) (hl : Lib.nDigits w < 1000) (he1 : -200000 ≤ e) (he2 : e ≤ 200000) : ∀ (d low high : Nat), high - low = d → low < high → high ≤ 9218868437227405312 → Fp.vl low * nD e ≤ nN w e → nN w e < Fp.vl high * nD e →
    ∃ r, Ev (fun k => rhizomeref02_Nearest.l0 k (low : Nat) (high : Nat) (bs (Lib.decDigits w)) e) (((r : Nat) : Int), true) ∧ Fp.IsNear (nN w e) (nD e) r := by
  intro d
  induction d using Nat.strongRecOn with
  | _ d ih =>
    intro low high hd hlh hh hlo hhi
    have hD := nD_pos e
    by_cases c : 1 < high - low
    · obtain ⟨m, hm⟩ : ∃ m, m = (low + high) / 2 := ⟨_, rfl⟩
      have hm1 : low < m := by omega
      have hm2 : m < high := by omega
      have hmm := mant_bd (k := m) (by omega)
      have hp := plc_bd (k := m) (by omega)
      obtain ⟨ds', e', a1, a2, _⟩ := less_amt hw hl he1 he2 (Fp.mant m) ((Fp.plc m : Nat) - 1074) hmm.1 (by omega) (by omega) (by omega)
      have hvl : Fp.mant m * 2 ^ (((Fp.plc m : Nat) : Int) - 1074 + 1075).toNat = Fp.vl m := by
        rw [show (((Fp.plc m : Nat) : Int) - 1074 + 1075).toNat = Fp.plc m + 1 by omega, Nat.pow_succ]
        unfold Fp.vl
        grind
      rw [hvl] at a2
      have hmid : IntKind.u64.wrap (Int.tdiv (IntKind.u64.wrap (((low : Nat) : Int) + ((high : Nat) : Int))) 2) = ((m : Nat) : Int) := by
        rw [← Int.natCast_add, u64w _ (by omega), show (2 : Int) = ((2 : Nat) : Int) from rfl, ← Int.ofNat_tdiv, u64w _ (by omega), hm]
      have hgap : IntKind.u64.wrap (((high : Nat) : Int) - ((low : Nat) : Int)) = ((high - low : Nat) : Int) := by
        rw [show ((high : Nat) : Int) - ((low : Nat) : Int) = ((high - low : Nat) : Int) by omega, u64w _ (by omega)]
      have step : ∀ k, rhizomeref02_Nearest.l0 (k + 1) (low : Nat) (high : Nat) (bs (Lib.decDigits w)) e = (rhizomeref02_Amount.f k (Fp.mant m : Nat) (((Fp.plc m : Nat) : Int) - 1074)).bind fun bt362 => ((rhizomeref02_Less.f k (bs (Lib.decDigits w)) e bt362.1 bt362.2).bind fun t364 => (if t364 = true then (rhizomeref02_Nearest.l0 k (low : Nat) (m : Nat) (bs (Lib.decDigits w)) e) else (rhizomeref02_Nearest.l0 k (m : Nat) (high : Nat) (bs (Lib.decDigits w)) e))) := by
        intro k
        conv => lhs; unfold rhizomeref02_Nearest.l0
        rw [hgap, if_pos (by omega), hmid, of2_k m (by omega)]
        rfl
      by_cases cl : nN w e < Fp.vl m * nD e
      · rw [decide_eq_true cl] at a2
        obtain ⟨r, r1, r2⟩ := ih (m - low) (by omega) low m rfl hm1 (by omega) hlo cl
        exact ⟨r, Ev.step step (Ev.bind a1 (Ev.bind a2 (Ev.congr (fun k => by rw [if_pos rfl]) r1))), r2⟩
      · rw [decide_eq_false cl] at a2
        obtain ⟨r, r1, r2⟩ := ih (high - m) (by omega) m high rfl hm2 hh (by omega) hhi
        exact ⟨r, Ev.step step (Ev.bind a1 (Ev.bind a2 (Ev.congr (fun k => by rw [if_neg (by decide)]) r1))), r2⟩
    · obtain rfl : high = low + 1 := by omega
      have hmm : Fp.mant low < 9007199254740992 := by unfold Fp.mant; split <;> omega
      have hp := plc_bd (k := low) (by omega)
      obtain ⟨ds', e', a1, a2, a3⟩ := less_amt hw hl he1 he2 (2 * Fp.mant low + 1) (((Fp.plc low : Nat) : Int) - 1075) (by omega) (by omega) (by omega) (by omega)
      have hmid : (2 * Fp.mant low + 1) * 2 ^ (((Fp.plc low : Nat) : Int) - 1075 + 1075).toNat = Fp.mid low := by
        rw [show (((Fp.plc low : Nat) : Int) - 1075 + 1075).toNat = Fp.plc low by omega]; rfl
      rw [hmid] at a2 a3
      have hgap : IntKind.u64.wrap (((low + 1 : Nat) : Int) - ((low : Nat) : Int)) = ((1 : Nat) : Int) := by
        rw [show ((low + 1 : Nat) : Int) - ((low : Nat) : Int) = ((1 : Nat) : Int) by omega, u64w _ (by omega)]
      have e1 : IntKind.u64.wrap (IntKind.u64.wrap (2 * ((Fp.mant low : Nat) : Int)) + 1) = ((2 * Fp.mant low + 1 : Nat) : Int) := by
        rw [show (2 : Int) * ((Fp.mant low : Nat) : Int) = ((2 * Fp.mant low : Nat) : Int) by omega, u64w _ (by omega), show ((2 * Fp.mant low : Nat) : Int) + 1 = ((2 * Fp.mant low + 1 : Nat) : Int) by omega, u64w _ (by omega)]
      have e2 : wrap64 (((Fp.plc low : Nat) : Int) - 1074 - 1) = ((Fp.plc low : Nat) : Int) - 1075 := by rw [w64 (by omega) (by omega)]; omega
      have e3 : IntKind.u64.wrap (((low : Nat) : Int) + 1) = ((low + 1 : Nat) : Int) := by rw [show ((low : Nat) : Int) + 1 = ((low + 1 : Nat) : Int) by omega, u64w _ (by omega)]
      have e4 : Int.tmod ((low : Nat) : Int) 2 = ((low % 2 : Nat) : Int) := by rw [show (2 : Int) = ((2 : Nat) : Int) from rfl, ← Int.ofNat_tmod]
      have step : ∀ k, rhizomeref02_Nearest.l0 (k + 1) (low : Nat) ((low + 1 : Nat) : Int) (bs (Lib.decDigits w)) e = (rhizomeref02_Amount.f k ((2 * Fp.mant low + 1 : Nat) : Int) (((Fp.plc low : Nat) : Int) - 1075)).bind fun bt367 => ((rhizomeref02_Less.f k bt367.1 bt367.2 (bs (Lib.decDigits w)) e).bind fun t370 => (if t370 = true then (some (((low + 1 : Nat) : Int), true)) else ((rhizomeref02_Less.f k (bs (Lib.decDigits w)) e bt367.1 bt367.2).bind fun t371 => (if t371 = true then (some (((low : Nat) : Int), true)) else (if ((low % 2 : Nat) : Int) = 1 then (some (((low + 1 : Nat) : Int), true)) else (some (((low : Nat) : Int), true))))))) := by
        intro k
        conv => lhs; unfold rhizomeref02_Nearest.l0
        rw [hgap, if_neg (by omega), of2_k low (by omega)]
        simp only [Option.bind_some]
        rw [e1, e2, e3, e4]
      have up1 : nN w e < Fp.mid (low + 1) * nD e := Nat.lt_trans hhi (Nat.mul_lt_mul_of_pos_right (Fp.vl_step (low + 1)).1 hD)
      have lo0 : low = 0 ∨ Fp.mid (low - 1) * nD e < nN w e := by
        rcases Nat.eq_zero_or_pos low with h | h
        · exact .inl h
        · right
          have := (Fp.vl_step (low - 1)).2
          rw [Nat.sub_add_cancel h] at this
          exact Nat.lt_of_lt_of_le (Nat.mul_lt_mul_of_pos_right this hD) hlo
      by_cases c1 : Fp.mid low * nD e < nN w e
      · rw [decide_eq_true c1] at a3
        refine ⟨low + 1, Ev.step step (Ev.bind a1 (Ev.bind a3 (Ev.congr (fun k => by rw [if_pos rfl]) (Ev.now _)))), .inr (.inl (by rw [Nat.add_sub_cancel]; exact c1)), .inl up1⟩
      · rw [decide_eq_false c1] at a3
        by_cases c2 : nN w e < Fp.mid low * nD e
        · rw [decide_eq_true c2] at a2
          refine ⟨low, Ev.step step (Ev.bind a1 (Ev.bind a3 (Ev.congr (fun k => by rw [if_neg (by decide)]) (Ev.bind a2 (Ev.congr (fun k => by rw [if_pos rfl]) (Ev.now _)))))), ?_, .inl c2⟩
          rcases lo0 with h | h
          · exact .inl h
          · exact .inr (.inl h)
        · rw [decide_eq_false c2] at a2
          have heq : nN w e = Fp.mid low * nD e := by omega
          by_cases c3 : low % 2 = 1
          · refine ⟨low + 1, Ev.step step (Ev.bind a1 (Ev.bind a3 (Ev.congr (fun k => by rw [if_neg (by decide)]) (Ev.bind a2 (Ev.congr (fun k => by rw [if_neg (by decide), if_pos (by omega)]) (Ev.now _)))))), .inr (.inr ⟨by rw [Nat.add_sub_cancel]; exact heq.symm, by omega⟩), .inl up1⟩
          · refine ⟨low, Ev.step step (Ev.bind a1 (Ev.bind a3 (Ev.congr (fun k => by rw [if_neg (by decide)]) (Ev.bind a2 (Ev.congr (fun k => by rw [if_neg (by decide), if_neg (by omega)]) (Ev.now _)))))), ?_, .inr ⟨heq, by omega⟩⟩
            rcases lo0 with h | h
            · exact .inl h
            · exact .inr (.inl h)
end Go.Proofs.YtapinbbflfkglaaGreatDoor.PFloatsParses
/-
  THE DOCUMENT'S Nearest AND Of, whole; a whole number made a float is the nearest one.
-/
namespace Go.Proofs.YtapinbbflfkglaaGreatDoor.PFloatsParses
open Go.RowKit Go.Proofs.YtapinbbflfkglaaGreatDoorW.PrintWords Go.Proofs.YtapinbbflfkglaaGreatDoorW.PrintLast Go.Proofs.YtapinbbflfkglaaGreatDoorW.PrintMore
set_option maxRecDepth 100000
set_option exponentiation.threshold 3000 in
theorem mid_top : Fp.mid 9218868437227405311 = 18014398509481983 * 2 ^ 2045 := by
  unfold Fp.mid Fp.mant Fp.plc
  rw [if_neg (by decide)]
theorem less_nil (a : List UInt8) (x : Int) (M : Nat) (e : Int) (hM : 1 ≤ M) (hM2 : M < 18446744073709551616) (h1 : -5000 ≤ e) (h2 : e ≤ 5000) :
    ∃ ds' e', Ev (fun k => rhizomeref02_Amount.f k (M : Nat) e) (bs ds', e') ∧ (a = [] → Ev (fun k => rhizomeref02_Less.f k (bs a) x (bs ds') e') true) := by
  obtain ⟨ds, y, g1, g2⟩ := amount_ev M e hM2 h1 h2
  have hv0 : (if 0 ≤ e then M * 2 ^ e.toNat else M * 5 ^ (-e).toNat) ≠ 0 := by
    split
    · exact Nat.ne_of_gt (Nat.mul_pos (by omega) (Nat.two_pow_pos _))
    · exact Nat.ne_of_gt (Nat.mul_pos (by omega) (Nat.pow_pos (by omega)))
  rcases g2 with ⟨h, _, _⟩ | ⟨w', z, _, _, g3, _⟩
  · exact absurd h hv0
  refine ⟨ds, y, g1, fun ha => ?_⟩
  subst ha
  refine Ev.congr (fun k => ?_) (Ev.step (g := fun k => rhizomeref02_Less.j0 k true (bs []) x (bs ds) y) (f := fun _ => some true) (fun k => ?_) (Ev.now _))
  · unfold rhizomeref02_Less.f
    rw [if_pos (bs_toList [])]
  · show (if (bs []).toList = ([] : List UInt8) then some ((bs ds).toList != ([] : List UInt8)) else some false) = some true
    rw [if_pos (bs_toList []), bs_toList, g3]
    congr 1
    rw [bne_iff_ne]
    intro h
    have := congrArg List.length h
    rw [Lib.decDigits_length] at this
    have := Lib.nDigits_pos w'
    simp at *
    omega
theorem nearest_zero (x : Int) : Ev (fun k => rhizomeref02_Nearest.f k (bs []) x) (((0 : Nat) : Int), true) := by
  obtain ⟨ds, y, g1, g2⟩ := less_nil [] x 18014398509481983 970 (by omega) (by omega) (by omega) (by omega)
  have hj : Ev (fun k => rhizomeref02_Nearest.j0 k true (bs []) x) (((0 : Nat) : Int), true) := Ev.step (f := fun _ => some (((0 : Nat) : Int), true)) (fun k => rfl) (Ev.now _)
  have step : ∀ k, rhizomeref02_Nearest.f k (bs []) x = (rhizomeref02_Amount.f k ((18014398509481983 : Nat) : Int) 970).bind fun bt357 => ((rhizomeref02_Less.f k (bs []) x bt357.1 bt357.2).bind fun t359 => (if t359 = true then (rhizomeref02_Nearest.j0 k true (bs []) x) else (some (((0 : Nat) : Int), false)))) := by
    intro k
    unfold rhizomeref02_Nearest.f
    simp only [if_pos (bs_toList [])]
    rfl
  exact Ev.congr step (Ev.bind g1 (Ev.bind (g2 rfl) (Ev.congr (fun k => by rw [if_pos rfl]) hj)))
set_option exponentiation.threshold 2000 in
theorem pow324 : 2 ^ 1075 < 10 ^ 324 := by decide +kernel
set_option exponentiation.threshold 3000 in
theorem nearest_ev {w : Nat} {e : Int} (hw : 1 ≤ w) (hl : Lib.nDigits w < 1000) (he1 : -200000 ≤ e) (he2 : e ≤ 200000) :
    (nN w e < Fp.mid 9218868437227405311 * nD e → ∃ r, Ev (fun k => rhizomeref02_Nearest.f k (bs (Lib.decDigits w)) e) (((r : Nat) : Int), true) ∧ Fp.IsNear (nN w e) (nD e) r ∧ r ≤ 9218868437227405311) ∧
    (¬ nN w e < Fp.mid 9218868437227405311 * nD e → Ev (fun k => rhizomeref02_Nearest.f k (bs (Lib.decDigits w)) e) (((0 : Nat) : Int), false)) := by
  have hD := nD_pos e
  obtain ⟨ds', e', a1, a2, _⟩ := less_amt hw hl he1 he2 18014398509481983 970 (by omega) (by omega) (by omega) (by omega)
  rw [show ((970 : Int) + 1075).toNat = 2045 from rfl, ← mid_top] at a2
  have hne : ¬ (bs (Lib.decDigits w)).toList = [] := by
    intro h
    rw [bs_toList] at h
    have := congrArg List.length h
    rw [Lib.decDigits_length] at this
    have := Lib.nDigits_pos w
    simp at *; omega
  have hsz : wrap64 (((bs (Lib.decDigits w)).size : Int) + e) = (Lib.nDigits w : Int) + e := by rw [bs_size, Lib.decDigits_length, w64 (by omega) (by omega)]
  have step : ∀ k, rhizomeref02_Nearest.f k (bs (Lib.decDigits w)) e = (rhizomeref02_Amount.f k ((18014398509481983 : Nat) : Int) 970).bind fun bt357 => ((rhizomeref02_Less.f k (bs (Lib.decDigits w)) e bt357.1 bt357.2).bind fun t359 => (if t359 = true then (rhizomeref02_Nearest.j0 k (decide ((Lib.nDigits w : Int) + e < (-400))) (bs (Lib.decDigits w)) e) else (some (((0 : Nat) : Int), false)))) := by
    intro k
    unfold rhizomeref02_Nearest.f
    simp only [if_neg hne, hsz]
    rfl
  constructor
  · intro hfit
    rw [decide_eq_true hfit] at a2
    have hle : ∀ r, Fp.IsNear (nN w e) (nD e) r → r ≤ 9218868437227405311 := by
      intro r hr
      rcases Nat.lt_or_ge 9218868437227405311 r with h | h
      · exfalso
        have hm : Fp.mid 9218868437227405311 ≤ Fp.mid (r - 1) := by
          rcases Nat.lt_or_ge 9218868437227405311 (r - 1) with g | g
          · exact Nat.le_of_lt (Fp.mid_lt g)
          · rw [show r - 1 = 9218868437227405311 by omega]; exact Nat.le_refl _
        have hm2 := Nat.mul_le_mul_right (nD e) hm
        rcases hr.1 with g | g | g
        · omega
        · omega
        · omega
      · exact h
    by_cases c : (Lib.nDigits w : Int) + e < -400
    · have hj : Ev (fun k => rhizomeref02_Nearest.j0 k true (bs (Lib.decDigits w)) e) (((0 : Nat) : Int), true) := Ev.step (f := fun _ => some (((0 : Nat) : Int), true)) (fun k => rfl) (Ev.now _)
      refine ⟨0, Ev.congr step (Ev.bind a1 (Ev.bind a2 (Ev.congr (fun k => by rw [if_pos rfl, decide_eq_true c]) hj))), ⟨.inl rfl, .inl ?_⟩, by omega⟩
      have hm0 : Fp.mid 0 = 1 := by decide
      rw [hm0, Nat.one_mul]
      unfold nN nD
      have hwl := Lib.lt_pow_nDigits w
      rw [show e.toNat = 0 by omega, Nat.pow_zero, Nat.mul_one]
      have h324 := pow324
      calc w * 2 ^ 1075 < 10 ^ Lib.nDigits w * 10 ^ 324 := Nat.mul_lt_mul'' hwl h324
        _ = 10 ^ (Lib.nDigits w + 324) := by rw [Nat.pow_add]
        _ ≤ _ := Nat.pow_le_pow_right (by omega) (by omega)
    · obtain ⟨r, r1, r2⟩ := near_l0 hw hl he1 he2 _ 0 9218868437227405312 rfl (by omega) (by omega) (by rw [show Fp.vl 0 = 0 by decide, Nat.zero_mul]; exact Nat.zero_le _)
        (Nat.lt_trans hfit (Nat.mul_lt_mul_of_pos_right (Fp.vl_step 9218868437227405311).2 hD))
      have hj : Ev (fun k => rhizomeref02_Nearest.j0 k false (bs (Lib.decDigits w)) e) (((r : Nat) : Int), true) := Ev.step (fun k => by
        show rhizomeref02_Nearest.j0 (k + 1) false (bs (Lib.decDigits w)) e = rhizomeref02_Nearest.l0 k ((0 : Nat) : Int) ((9218868437227405312 : Nat) : Int) (bs (Lib.decDigits w)) e
        rfl) r1
      exact ⟨r, Ev.congr step (Ev.bind a1 (Ev.bind a2 (Ev.congr (fun k => by rw [if_pos rfl, decide_eq_false c]) hj))), r2, hle r r2⟩
  · intro hfit
    rw [decide_eq_false hfit] at a2
    exact Ev.congr step (Ev.bind a1 (Ev.bind a2 (Ev.congr (fun k => by rw [if_neg (by decide)]) (Ev.now _))))
theorem wrap_u64_mod (x : Int) : IntKind.u64.wrap x = x % 18446744073709551616 := by
  unfold IntKind.wrap
  rfl
theorem rhe_le (a b : Nat) : Fp.rhe a b ≤ a / b + 1 := by
  unfold Fp.rhe
  simp only
  split
  · exact Nat.le_succ _
  · split
    · exact Nat.le_refl _
    · have := Nat.mod_lt (a / b) (show 0 < 2 by omega)
      omega
theorem cut_rhe (neg : Bool) (n j : Nat) (hj : j ≤ n.log2 + 2) : Ieee.Toward.even.cut neg n j = Fp.rhe n (2 ^ j) := by
  unfold Ieee.Toward.cut Fp.rhe
  rw [Nat.min_eq_left hj, Nat.one_shiftLeft]
  simp only
  have hlt := Nat.mod_lt n (Nat.two_pow_pos j)
  by_cases c1 : 2 * (n % 2 ^ j) < 2 ^ j
  · rw [if_pos c1]
    have : (decide (2 ^ j < 2 * (n % 2 ^ j)) || 2 ^ j == 2 * (n % 2 ^ j) && n / 2 ^ j % 2 == 1) = false := by
      rw [Bool.eq_false_iff]; simp; omega
    rw [this]; rfl
  · rw [if_neg c1]
    by_cases c2 : 2 ^ j < 2 * (n % 2 ^ j)
    · rw [if_pos c2]
      have : (decide (2 ^ j < 2 * (n % 2 ^ j)) || 2 ^ j == 2 * (n % 2 ^ j) && n / 2 ^ j % 2 == 1) = true := by simp [c2]
      rw [this]; rfl
    · rw [if_neg c2]
      have he : 2 ^ j = 2 * (n % 2 ^ j) := by omega
      have : (decide (2 ^ j < 2 * (n % 2 ^ j)) || 2 ^ j == 2 * (n % 2 ^ j) && n / 2 ^ j % 2 == 1) = decide (n / 2 ^ j % 2 = 1) := by
        rw [Bool.eq_iff_iff]; simp; omega
      rw [this]
      have h2 := Nat.mod_lt (n / 2 ^ j) (show 0 < 2 by omega)
      by_cases c3 : n / 2 ^ j % 2 = 1
      · rw [decide_eq_true c3, c3]; rfl
      · rw [decide_eq_false c3, show n / 2 ^ j % 2 = 0 by omega]; rfl
theorem nearest_word (f : Ieee.Format) (neg : Bool) (mag : Nat) (place last : Int) (kept : Nat) (h : mag ≠ 0) (hl : last = max (place + mag.log2 - f.fractionBits) f.leastPlace) (hk : kept = Ieee.Toward.even.cut neg (mag <<< (place - last).toNat) (last - place).toNat) :
    f.nearest neg mag place = f.word neg (min ((last - f.leastPlace).toNat * f.binade + kept) f.infRung) := by
  unfold Ieee.Format.nearest
  rw [if_neg h]
  simp only [hk, hl]
theorem T_pos : 0 < 2 ^ 1075 := Nat.two_pow_pos 1075
set_option exponentiation.threshold 3000 in
theorem pow_T {T : Nat} (hT : T = 2 ^ 1075) (a b : Nat) (h : a + 1075 = b) : 2 ^ a * T = 2 ^ b := by rw [hT, ← Nat.pow_add, h]
theorem min_inf {L m : Nat} (h : L ≤ 63) (hm : m ≤ 9007199254740992) : min ((L + 1022) * 4503599627370496 + m) Fp.inf = (L + 1022) * 4503599627370496 + m := by
  have e : Fp.inf = 9218868437227405312 := rfl
  rw [e]
  omega
theorem r_lt {L m : Nat} (h : L ≤ 63) (hm : m ≤ 9007199254740992) : (L + 1022) * 4503599627370496 + m < 9218868437227405312 := by omega
theorem last_eq {L : Nat} : (L : Int) - 52 = max ((0 : Int) + (L : Int) - ((52 : Nat) : Int)) (-1074) := by omega
theorem lastN {L : Nat} : ((L : Int) - 52 - -1074).toNat = L + 1022 := by omega
theorem pow_T1 {T : Nat} (hT : T = 2 ^ 1075) (b : Nat) (h : b = 1075) : 2 ^ b = T := by rw [h, hT]
/-- the model's nearest to a whole number, said as the document's nearest -/
theorem dbl_near (neg : Bool) (mag : Nat) (h1 : 1 ≤ mag) (h2 : mag < 18446744073709551616) (T : Nat) (hT : T = 2 ^ 1075) : ∃ r, Ieee.double.nearest neg mag 0 = (if neg then 9223372036854775808 + r else r) ∧ Fp.IsNear (mag * T) 1 r ∧ r < 9218868437227405312 := by
  have hT0 : 0 < T := by rw [hT]; exact T_pos
  obtain ⟨L, hL⟩ : ∃ L, L = mag.log2 := ⟨_, rfl⟩
  have l1 : 2 ^ L ≤ mag := by rw [hL]; exact Nat.log2_self_le (by omega)
  have l2 : mag < 2 ^ (L + 1) := by rw [hL]; exact Nat.lt_log2_self
  have l3 : L ≤ 63 := by
    rcases Nat.lt_or_ge 63 L with h | h
    · have : 2 ^ 64 ≤ 2 ^ L := Nat.pow_le_pow_right (by omega) h
      omega
    · exact h
  obtain ⟨m, hm⟩ : ∃ m, m = Fp.rhe (mag * T) (1 * 2 ^ (L + 1022 + 1)) := ⟨_, rfl⟩
  have hTL := pow_T hT
  have hT1 := pow_T1 hT
  clear hT
  have hq : mag * T / (1 * 2 ^ (L + 1022 + 1)) < 9007199254740992 := by
    rw [Nat.one_mul, Nat.div_lt_iff_lt_mul (Nat.two_pow_pos (L + 1022 + 1))]
    calc mag * T < 2 ^ (L + 1) * T := Nat.mul_lt_mul_of_pos_right l2 hT0
      _ = 2 ^ (53 + (L + 1022 + 1)) := hTL _ _ (by omega)
      _ = 2 ^ 53 * 2 ^ (L + 1022 + 1) := Nat.pow_add 2 53 (L + 1022 + 1)
  have hm53 : m ≤ 9007199254740992 := by
    have := rhe_le (mag * T) (1 * 2 ^ (L + 1022 + 1))
    rw [hm]; omega
  clear hq
  have hnear := Fp.near_of_rhe (N := mag * T) (D := 1) (t := L + 1022) (m := m) (by omega) hm hm53 (.inr (by
    rw [Nat.one_mul]
    calc 18014398509481983 * 2 ^ (L + 1022) ≤ 2 ^ 54 * 2 ^ (L + 1022) := Nat.mul_le_mul_right _ (by omega)
      _ = 2 ^ (1 + (L + 1075)) := by rw [← Nat.pow_add]; congr 1; omega
      _ = 2 * (2 ^ L * T) := by rw [hTL L (L + 1075) rfl, Nat.pow_add]
      _ ≤ _ := Nat.mul_le_mul_left 2 (Nat.mul_le_mul_right _ l1)))
  refine ⟨(L + 1022) * 4503599627370496 + m, ?_, hnear, r_lt l3 hm53⟩
  have hkept : m = Ieee.Toward.even.cut neg (mag <<< ((0 : Int) - ((L : Int) - 52)).toNat) (((L : Int) - 52) - 0).toNat := by
    rw [hm, Nat.one_mul]
    by_cases c : L ≤ 52
    · rw [show (((L : Int) - 52) - 0).toNat = 0 by omega, cut_rhe _ _ _ (by omega), show ((0 : Int) - ((L : Int) - 52)).toNat = 52 - L by omega, Nat.shiftLeft_eq, Nat.pow_zero]
      refine (rhe_ratio (by omega) (Nat.two_pow_pos (L + 1022 + 1)) ?_).symm
      rw [Nat.mul_one, Nat.mul_assoc, ← Nat.pow_add, hT1 _ (by omega)]
    · rw [show ((0 : Int) - ((L : Int) - 52)).toNat = 0 by omega, show (((L : Int) - 52) - 0).toNat = L - 52 by omega, Nat.shiftLeft_eq, Nat.pow_zero, Nat.mul_one, cut_rhe _ _ _ (by omega)]
      refine (rhe_ratio (Nat.two_pow_pos (L - 52)) (Nat.two_pow_pos (L + 1022 + 1)) ?_).symm
      rw [Nat.mul_assoc, Nat.mul_comm T, hTL (L - 52) (L + 1022 + 1) (by omega)]
  have hlast : (L : Int) - 52 = max ((0 : Int) + (mag.log2 : Int) - ((Ieee.double.fractionBits : Nat) : Int)) Ieee.double.leastPlace := by
    rw [Fp.dbl_least, ← hL, show Ieee.double.fractionBits = 52 from rfl]
    exact last_eq
  rw [nearest_word Ieee.double neg mag 0 ((L : Int) - 52) m (Nat.ne_of_gt h1) hlast hkept, Fp.dbl_least, Fp.dbl_bin, Fp.dbl_inf, lastN, min_inf l3 hm53]
  generalize (L + 1022) * 4503599627370496 + m = r
  unfold Ieee.Format.word
  rw [Fp.dbl_sign]
  have hh : Fp.half = 9223372036854775808 := rfl
  rw [hh]
def I64 (x : Int) : Prop := -9223372036854775808 ≤ x ∧ x < 9223372036854775808
set_option exponentiation.threshold 3000 in
theorem fit64 {m T : Nat} (hT : T = 2 ^ 1075) (h : m < 18446744073709551616) : m * T < Fp.mid 9218868437227405311 := by
  rw [mid_top, hT]
  have e : (2 : Nat) ^ 2045 = 2 ^ 970 * 2 ^ 1075 := by rw [← Nat.pow_add]
  rw [e, ← Nat.mul_assoc]
  refine Nat.mul_lt_mul_of_pos_right ?_ T_pos
  have : 18014398509481983 * 2 ^ 64 ≤ 18014398509481983 * 2 ^ 970 := Nat.mul_le_mul_left _ (Nat.pow_le_pow_right (by omega) (by omega))
  omega
theorem zero_canon {v : Nat} {x y : Int} {ds : List UInt8} (h : Canon v x ds y) (hv : v = 0) : ds = [] ∧ y = 0 := by
  rcases h with ⟨_, h, h'⟩ | ⟨w, z, h1, h2, _, _⟩
  · exact ⟨h, h'⟩
  · exfalso
    rw [hv] at h1
    rcases Nat.mul_eq_zero.1 h1.symm with h | h
    · rw [h] at h2; exact h2 rfl
    · exact absurd h (Nat.ne_of_gt (Nat.pow_pos (by omega)))
/-- the float of a whole number, and the document's -/
theorem of_ev (n : Int) (hn : I64 n) (T : Nat) (hT : T = 2 ^ 1075) : ∃ r : Nat, floatOfInt .f64 n = (if n < 0 then 9223372036854775808 + r else r) ∧ r < 9218868437227405312 ∧ Fp.IsNear (n.natAbs * T) 1 r ∧
    Ev (fun k => rhizomeref02_Of.f k n) ((floatOfInt .f64 n : Nat) : Int) := by
  obtain ⟨g1, g2⟩ := hn
  have hfl : floatOfInt .f64 n = Ieee.double.nearest (n < 0) n.natAbs 0 := rfl
  have um : ∀ x : Nat, x < 18446744073709551616 → IntKind.u64.wrap ((x : Nat) : Int) = x := u64w
  have hwrap : ∀ x : Int, IntKind.u64.wrap x = x % 18446744073709551616 := fun x => wrap_u64_mod x
  have j0step : ∀ (m : Nat) (k : Nat), rhizomeref02_Of.j0 (k + 1) n ((m : Nat) : Int) = (rhizomeref02_Amount.f k ((m : Nat) : Int) 0).bind fun bt361 => ((rhizomeref02_Nearest.f k bt361.1 bt361.2).bind fun bt363 => (if n < 0 then (some (IntKind.u64.wrap (bt363.1 + 9223372036854775808))) else (some bt363.1))) := fun _ _ => rfl
  have fstep : ∀ k, rhizomeref02_Of.f k n = rhizomeref02_Of.j0 k n ((n.natAbs : Nat) : Int) := by
    intro k
    unfold rhizomeref02_Of.f
    by_cases c : n < 0
    · rw [if_pos c, hwrap, hwrap]; congr 1; omega
    · rw [if_neg c, hwrap]; congr 1; omega
  by_cases c : n = 0
  · subst c
    refine ⟨0, by rw [hfl]; decide, by omega, ⟨.inl rfl, .inl (by rw [show Fp.mid 0 = 1 by decide]; simp)⟩, ?_⟩
    have hz : ((floatOfInt .f64 0 : Nat) : Int) = ((0 : Nat) : Int) := by rw [hfl]; decide
    rw [hz]
    obtain ⟨ds, y, a1, a2⟩ := amount_ev (0 : Int).natAbs 0 (by decide) (by omega) (by omega)
    have hds := zero_canon a2 (by decide)
    rw [hds.1, hds.2] at a1
    exact Ev.congr fstep (Ev.step (j0step _) (Ev.bind a1 (Ev.bind (nearest_zero 0) (Ev.congr (fun k => by rw [if_neg (by omega)]) (Ev.now _)))))
  · obtain ⟨r, r1, r2, r3⟩ := dbl_near (n < 0) n.natAbs (by omega) (by omega) T hT
    refine ⟨r, by rw [hfl, r1]; simp, r3, r2, ?_⟩
    obtain ⟨ds, y, a1, a2⟩ := amount_ev n.natAbs 0 (by omega) (by omega) (by omega)
    rw [if_pos (by omega), if_pos (by omega), show (0 : Int).toNat = 0 from rfl, Nat.pow_zero, Nat.mul_one] at a2
    rcases a2 with ⟨h, _, _⟩ | ⟨w, z, h1, h2, h3, h4⟩
    · omega
    have hw : 1 ≤ w := Nat.pos_of_ne_zero (fun e => by rw [e] at h2; exact h2 rfl)
    have hlt : w * 10 ^ z < 10 ^ 20 := by rw [← h1]; omega
    have hz : z < 20 := (Nat.pow_lt_pow_iff_right (by omega)).1 (Nat.lt_of_le_of_lt (Nat.le_mul_of_pos_left _ hw) hlt)
    have hnd := nDigits_le (D := w) (k := 20) hw (Nat.lt_of_le_of_lt (Nat.le_mul_of_pos_right _ (Nat.pow_pos (by omega))) hlt)
    have hN : nN w y = n.natAbs * T := by
      unfold nN
      rw [h4, show ((0 : Int) + (z : Nat)).toNat = z by omega, ← h1, hT]
    have hDD : nD y = 1 := by
      unfold nD
      rw [h4, show (-((0 : Int) + (z : Nat))).toNat = 0 by omega]
    have hfit : nN w y < Fp.mid 9218868437227405311 * nD y := by
      rw [hN, hDD, Nat.mul_one]
      exact fit64 hT (by omega)
    obtain ⟨r', q1, q2, _⟩ := (nearest_ev hw (by omega) (e := y) (by omega) (by omega)).1 hfit
    rw [hN, hDD] at q2
    obtain rfl := q2.unique (by omega) r2
    rw [h3] at a1
    by_cases cn : n < 0
    · have e2 : ((floatOfInt .f64 n : Nat) : Int) = IntKind.u64.wrap (((r' : Nat) : Int) + 9223372036854775808) := by
        rw [hfl, r1, if_pos (by simpa using cn), show ((r' : Nat) : Int) + 9223372036854775808 = ((9223372036854775808 + r' : Nat) : Int) by omega, um _ (by omega)]
      rw [e2]
      exact Ev.congr fstep (Ev.step (j0step _) (Ev.bind a1 (Ev.bind q1 (Ev.congr (fun k => by rw [if_pos cn]) (Ev.now _)))))
    · have e2 : ((floatOfInt .f64 n : Nat) : Int) = ((r' : Nat) : Int) := by
        rw [hfl, r1, if_neg (by simpa using cn)]
      rw [e2]
      exact Ev.congr fstep (Ev.step (j0step _) (Ev.bind a1 (Ev.bind q1 (Ev.congr (fun k => by rw [if_neg cn]) (Ev.now _)))))
/-- of two amounts the lesser one's nearest is no greater -/
theorem near_mono {N N' D k k' : Nat} (hD : 0 < D) (h : Fp.IsNear N D k) (h' : Fp.IsNear N' D k') (hN : N ≤ N') : k ≤ k' := by
  rcases Nat.lt_or_ge k' k with c | c
  · exfalso
    have hm : Fp.mid k' ≤ Fp.mid (k - 1) := by
      rcases Nat.lt_or_ge k' (k - 1) with g | g
      · exact Nat.le_of_lt (Fp.mid_lt g)
      · rw [show k' = k - 1 by omega]; exact Nat.le_refl _
    have hm2 := Nat.mul_le_mul_right D hm
    rcases Nat.lt_or_ge k' (k - 1) with g | g
    · have := Nat.mul_lt_mul_of_pos_right (Fp.mid_lt g) hD
      rcases h.1 with e | e | e <;> rcases h'.2 with f | f <;> omega
    · have hk : k = k' + 1 := by omega
      subst hk
      have h1 : k' + 1 = 0 ∨ Fp.mid k' * D < N ∨ (Fp.mid k' * D = N ∧ (k' + 1) % 2 = 0) := h.1
      rcases h1 with e | e | e <;> rcases h'.2 with f | f <;> omega
  · exact c
end Go.Proofs.YtapinbbflfkglaaGreatDoor.PFloatsParses
/-
  FloatsOfs, the walk.
-/
namespace Go.Proofs.YtapinbbflfkglaaGreatDoor
open Go.RowKit Go.Lib Go.Sort
set_option maxRecDepth 100000
abbrev I64 (x : Int) : Prop := PFloatsParses.I64 x
theorem of_any (n : Int) (w : World) : Calls Tryz.prog 27 #[.int .i64 n] w fun e w' => e = .returned (.int .u64 ((floatOfInt .f64 n : Nat) : Int)) ∧ w = w' := by
  have k := ext_tobits
  go_enter Tryz.func27, Tryz.ntmps27
  go_wp2_with (fail)
  go_ret
  exact ⟨rfl, rfl⟩
/-- what is told of the floats of two whole numbers -/
theorem ofs_facts (n m : Int) (hn : I64 n) (hm : I64 m) : ∃ a b : Int, a = ((floatOfInt .f64 n : Nat) : Int) ∧ b = ((floatOfInt .f64 m : Nat) : Int) ∧ U64 a ∧ U64 b ∧
    ∃ c : Int, cmpR a b = #[.int .i64 c, .bool true] ∧ ((n < m ∧ (c = -1 ∨ c = 0)) ∨ (n = m ∧ c = 0) ∨ (m < n ∧ (c = 1 ∨ c = 0))) := by
  obtain ⟨T, hT⟩ : ∃ T, T = 2 ^ 1075 := ⟨_, rfl⟩
  obtain ⟨r, r1, r2, r3, _⟩ := PFloatsParses.of_ev n hn T hT
  obtain ⟨s, s1, s2, s3, _⟩ := PFloatsParses.of_ev m hm T hT
  clear hT
  have mono : ∀ x y : Nat, ∀ k l, Fp.IsNear (x * T) 1 k → Fp.IsNear (y * T) 1 l → x ≤ y → k ≤ l := fun x y k l hk hl h => PFloatsParses.near_mono (by omega) hk hl (Nat.mul_le_mul_right T h)
  have h1 : n.natAbs ≤ m.natAbs → r ≤ s := mono _ _ _ _ r3 s3
  have h2 : m.natAbs ≤ n.natAbs → s ≤ r := mono _ _ _ _ s3 r3
  clear mono r3 s3
  obtain ⟨a, ha⟩ : ∃ a : Int, a = ((floatOfInt .f64 n : Nat) : Int) := ⟨_, rfl⟩
  obtain ⟨b, hb⟩ : ∃ b : Int, b = ((floatOfInt .f64 m : Nat) : Int) := ⟨_, rfl⟩
  have hva : a = if n < 0 then 9223372036854775808 + (r : Int) else r := by rw [ha, r1]; split <;> omega
  have hvb : b = if m < 0 then 9223372036854775808 + (s : Int) else s := by rw [hb, s1]; split <;> omega
  refine ⟨a, b, ha, hb, ?_, ?_, sgnZ (svZ a) (svZ b), ?_, ?_⟩
  · clear ha hb r1 s1; unfold U64; rw [hva]; split <;> omega
  · clear ha hb r1 s1; unfold U64; rw [hvb]; split <;> omega
  · clear ha hb r1 s1
    have na : nanZ a = false := by
      unfold nanZ szZ
      simp only [decide_eq_false_iff_not]
      rw [hva]; split <;> omega
    have nb : nanZ b = false := by
      unfold nanZ szZ
      simp only [decide_eq_false_iff_not]
      rw [hvb]; split <;> omega
    unfold cmpR
    rw [na, nb, if_neg (by simp)]
  · clear ha hb r1 s1
    have sa : svZ a = if n < 0 then -(r : Int) else r := by
      unfold svZ szZ
      rw [hva]
      repeat' split
      all_goals omega
    have sb : svZ b = if m < 0 then -(s : Int) else s := by
      unfold svZ szZ
      rw [hvb]
      repeat' split
      all_goals omega
    rw [sa, sb]
    obtain ⟨n1, n2⟩ := hn
    obtain ⟨m1, m2⟩ := hm
    unfold sgnZ
    rcases Int.lt_trichotomy n m with c | c | c
    · left
      refine ⟨c, ?_⟩
      repeat' split
      all_goals omega
    · right; left
      subst c
      have : r = s := by have := h1 (Nat.le_refl _); have := h2 (Nat.le_refl _); omega
      subst this
      refine ⟨rfl, ?_⟩
      repeat' split
      all_goals omega
    · right; right
      refine ⟨c, ?_⟩
      repeat' split
      all_goals omega
set_option maxHeartbeats 1000000 in
theorem ofs_walk (W : World) (g : Addr) (ev : Value) (n m : Int) (hn : I64 n) (hm : I64 m) (hT : FxT W g ev) (hev : ev = .nilIface ∨ ∃ te pe, ev = .iface te pe) :
    Calls Tryz.prog 10 #[.int .i64 n, .int .i64 m] W fun e w' => e = .returned (.bool true) ∧ Below W.heap.size W w' := by
  have HF := Lib.hid (fixed_any W W g ev (Below.refl _ _) hT hev)
  obtain ⟨a, b, ha, hb, ua, ub, c, hc, hs⟩ := ofs_facts n m hn hm
  have H1 := Lib.hid (fun w => of_any n w)
  have H2 := Lib.hid (fun w => of_any m w)
  have H3 := Lib.hid (fun w => cmp_any a b w ua ub)
  rw [hc] at H3
  obtain ⟨_, _, _, _, he⟩ := PFloatsParses.of_ev n hn _ rfl
  obtain ⟨k, hk⟩ := he.rounds
  have H4 := Lib.hid (fun w => PFloatsParses.rhizomeref02_Of.calls k n _ w hk)
  rw [← ha] at H1 H4
  rw [← hb] at H2
  clear hk he ha hb ua ub hc hn hm hT hev
  have hfin : ∃ l r : Bool, decide (m < n) = l ∧ decide (n < m) = r ∧ ((l = false ∧ r = true ∧ (c = -1 ∨ c = 0)) ∨ (l = false ∧ r = false ∧ c = 0) ∨ (l = true ∧ r = false ∧ (c = 1 ∨ c = 0))) := by
    rcases hs with ⟨h1, h2⟩ | ⟨h1, h2⟩ | ⟨h1, h2⟩
    · exact ⟨false, true, by simp; omega, by simpa using h1, .inl ⟨rfl, rfl, h2⟩⟩
    · exact ⟨false, false, by simp; omega, by simp; omega, .inr (.inl ⟨rfl, rfl, h2⟩)⟩
    · exact ⟨true, false, by simpa using h1, by simp; omega, .inr (.inr ⟨rfl, rfl, h2⟩)⟩
  clear hs
  obtain ⟨l, r, hl, hr, h⟩ := hfin
  rcases h with ⟨rfl, rfl, rfl | rfl⟩ | ⟨rfl, rfl, rfl⟩ | ⟨rfl, rfl, rfl | rfl⟩
  all_goals
    go_enter Tryz.func10, Tryz.ntmps10
    go_wp2_with (fail)
    refine (H1.out _).mono ?_
    rintro e' w1 ⟨rfl, rfl⟩
    go_wp2_with (fail)
    refine (H2.out _).mono ?_
    rintro e' w1 ⟨rfl, rfl⟩
    go_wp2_with (fail)
    refine (H3.out _).mono ?_
    rintro e' w1 ⟨rfl, rfl⟩
    go_wp2_with (fail)
    refine HF.out.mono ?_
    rintro e' w1 ⟨rfl, h1⟩
    have HB := Lib.hid h1
    clear h1
    go_wp2_with (fail)
    refine (H4.out _).mono ?_
    rintro e' w2 ⟨rfl, h1⟩
    have HB2 : Hid (Below W.heap.size W w2) := Lib.hid (HB.out.trans (h1.mono HB.out.size))
    clear h1
    go_wp2_with (fail)
    go_ret
    exact ⟨rfl, HB2.out⟩
end Go.Proofs.YtapinbbflfkglaaGreatDoor
