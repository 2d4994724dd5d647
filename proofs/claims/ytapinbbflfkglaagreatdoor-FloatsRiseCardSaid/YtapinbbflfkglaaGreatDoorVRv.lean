import Derived.Test.YtapinbbflfkglaaGreatDoorVRg
import Derived.Test.YtapinbbflfkglaaGreatDoorVFq
import Derived.Test.YtapinbbflfkglaaGreatDoorVRn
import Derived.Test.YtapinbbflfkglaaGreatDoorVFp3
import Derived.Laws.Cover2
import Derived.Test.YtapinbbflfkglaaGreatDoorVRk
import Derived.Test.YtapinbbflfkglaaGreatDoorVFb3
import Derived.Test.YtapinbbflfkglaaGreatDoorVRu
import Derived.Test.YtapinbbflfkglaaGreatDoorVRp
import Derived.Test.YtapinbbflfkglaaGreatDoorVRj
namespace Go.Proofs.YtapinbbflfkglaaGreatDoor.PFloatsParses
open Go.RowKit Go.Proofs.YtapinbbflfkglaaGreatDoorW.PrintWords Go.Proofs.YtapinbbflfkglaaGreatDoorW.PrintLast Go.Proofs.YtapinbbflfkglaaGreatDoorW.PrintMore
set_option maxRecDepth 100000
def pd (l : List UInt8) (i : Nat) : Nat := if i < l.length then (l.getD i 0).toNat else 48
def cmpF (a b : List UInt8) : Nat → Nat → Bool
  | 0, _ => false
  | m + 1, i => if pd a i = pd b i then cmpF a b m (i + 1) else decide (pd a i < pd b i)
theorem bt_pd {l : List UInt8} {i : Nat} (h : i < l.length) : bt (bs l) (i : Nat) = (pd l i : Int) := by
  unfold bt pd
  rw [if_pos h, List.getD_eq_getElem?_getD, List.getElem?_eq_getElem h, Option.getD_some]
  rw [dif_pos (by rw [bs_size]; simpa using h)]
  show ((l.toArray[((i : Nat) : Int).toNat]'(by simpa using h)).toNat : Int) = _
  simp
theorem less_l0 (a b : List UInt8) (x y : Int) (n : Nat) (ha : a.length ≤ n) (hb : b.length ≤ n) (hn : n < 1000000) : ∀ (m i : Nat), i + m = n →
    Ev (fun k => rhizomeref02_Less.l0 k (n : Nat) (i : Nat) (bs a) x (bs b) y) (cmpF a b m i)
  | 0, i, h => by
    refine Ev.step (f := fun _ => some false) (fun k => ?_) (Ev.now _)
    conv => lhs; unfold rhizomeref02_Less.l0
    rw [if_neg (by omega)]
  | m + 1, i, h => by
    have ih := less_l0 a b x y n ha hb hn m (i + 1) (by omega)
    have hw : wrap64 (((i : Nat) : Int) + 1) = ((i + 1 : Nat) : Int) := by rw [w64 (by omega) (by omega)]; omega
    have j2 : Ev (fun k => rhizomeref02_Less.j2 k (n : Nat) (i : Nat) (pd a i : Nat) 48 (bs a) x (bs b) y) (cmpF a b (m + 1) i) := by
      unfold cmpF
      by_cases c : i < b.length
      · by_cases d : pd a i = pd b i
        · rw [if_pos d]
          refine Ev.step (fun k => ?_) ih
          conv => lhs; unfold rhizomeref02_Less.j2
          rw [if_pos (by rw [bs_size]; omega), if_pos (by omega), bt_pd c, if_pos (by omega), hw]
        · rw [if_neg d]
          refine Ev.step (f := fun _ => some (decide (pd a i < pd b i))) (fun k => ?_) (Ev.now _)
          conv => lhs; unfold rhizomeref02_Less.j2
          rw [if_pos (by rw [bs_size]; omega), if_pos (by omega), bt_pd c, if_neg (by omega)]
          congr 1
          rw [Bool.eq_iff_iff]; simp
      · have hb48 : pd b i = 48 := by unfold pd; rw [if_neg c]
        rw [hb48]
        by_cases d : pd a i = 48
        · rw [if_pos d]
          refine Ev.step (fun k => ?_) ih
          conv => lhs; unfold rhizomeref02_Less.j2
          rw [if_neg (by rw [bs_size]; omega), if_pos (by omega), hw]
        · rw [if_neg d]
          refine Ev.step (f := fun _ => some (decide (pd a i < 48))) (fun k => ?_) (Ev.now _)
          conv => lhs; unfold rhizomeref02_Less.j2
          rw [if_neg (by rw [bs_size]; omega), if_neg (by omega)]
          congr 1
          rw [Bool.eq_iff_iff]; simp; omega
    by_cases c : i < a.length
    · refine Ev.step (fun k => ?_) j2
      conv => lhs; unfold rhizomeref02_Less.l0
      rw [if_pos (by omega), if_pos (by rw [bs_size]; omega), if_pos (by omega), bt_pd c]
    · have ha48 : pd a i = 48 := by unfold pd; rw [if_neg c]
      rw [ha48] at j2
      refine Ev.step (fun k => ?_) j2
      conv => lhs; unfold rhizomeref02_Less.l0
      rw [if_pos (by omega), if_neg (by rw [bs_size]; omega)]
      rfl
theorem cmpF_num {a b : List UInt8} {A B n : Nat} (hA : ∀ i, i < n → pd a i = 48 + A / 10 ^ (n - 1 - i) % 10) (hB : ∀ i, i < n → pd b i = 48 + B / 10 ^ (n - 1 - i) % 10) :
    ∀ m i, i + m = n → cmpF a b m i = decide (A % 10 ^ m < B % 10 ^ m)
  | 0, i, h => by simp [cmpF, Nat.mod_one]
  | m + 1, i, h => by
    have ih := cmpF_num hA hB m (i + 1) (by omega)
    have e1 := hA i (by omega)
    have e2 := hB i (by omega)
    rw [show n - 1 - i = m by omega] at e1 e2
    have hp : 0 < 10 ^ m := Nat.pow_pos (by omega)
    have m1 : A % 10 ^ (m + 1) = A % 10 ^ m + 10 ^ m * (A / 10 ^ m % 10) := by rw [Nat.pow_succ, Nat.mod_mul]
    have m2 : B % 10 ^ (m + 1) = B % 10 ^ m + 10 ^ m * (B / 10 ^ m % 10) := by rw [Nat.pow_succ, Nat.mod_mul]
    have l1 := Nat.mod_lt A hp
    have l2 := Nat.mod_lt B hp
    unfold cmpF
    rw [e1, e2, m1, m2, ih]
    generalize A / 10 ^ m % 10 = p
    generalize B / 10 ^ m % 10 = q
    generalize 10 ^ m = t at *
    generalize A % t = u at *
    generalize B % t = v at *
    have hlt : ∀ {p q u v : Nat}, u < t → v < t → p < q → u + t * p < v + t * q := by
      intro p q u v hu hv h
      have : t * (p + 1) ≤ t * q := Nat.mul_le_mul_left t h
      rw [Nat.mul_succ] at this
      omega
    by_cases c : p = q
    · subst c
      rw [if_pos rfl, Bool.eq_iff_iff]
      simp
    · rw [if_neg (by omega), Bool.eq_iff_iff]
      simp only [decide_eq_true_eq]
      constructor
      · intro h
        exact hlt l1 l2 (by omega)
      · intro h
        rcases Nat.lt_or_ge p q with g | g
        · omega
        · have := hlt l2 l1 (show q < p by omega)
          omega
theorem pd_dec {w n : Nat} (hn : Lib.nDigits w ≤ n) : ∀ i, i < n → pd (Lib.decDigits w) i = 48 + (w * 10 ^ (n - Lib.nDigits w)) / 10 ^ (n - 1 - i) % 10 := by
  intro i hi
  unfold pd
  rw [Lib.decDigits_length]
  by_cases c : i < Lib.nDigits w
  · rw [if_pos c, digit_toNat c]
    have e : n - 1 - i = (Lib.nDigits w - 1 - i) + (n - Lib.nDigits w) := by omega
    rw [e, Nat.pow_add, Nat.mul_div_mul_right _ _ (Nat.pow_pos (by omega))]
  · rw [if_neg c]
    obtain ⟨r, hr⟩ : ∃ r, n - Lib.nDigits w = (n - 1 - i) + (r + 1) := ⟨n - Lib.nDigits w - (n - 1 - i) - 1, by omega⟩
    rw [hr, Nat.pow_add, ← Nat.mul_assoc, Nat.mul_right_comm, Nat.mul_div_cancel _ (Nat.pow_pos (by omega)), Nat.pow_succ, ← Nat.mul_assoc]
    omega
def amt (w : Nat) (e : Int) (K : Nat) : Nat := w * 10 ^ (e + K).toNat
theorem less_pos {w w' : Nat} {e e' : Int} (hw : 1 ≤ w) (hw' : 1 ≤ w') (K : Nat) (he : -(K : Int) ≤ e) (he' : -(K : Int) ≤ e') (h1 : e ≤ 1000000) (h2 : e' ≤ 1000000) (hK : K ≤ 1000000) (hl : Lib.nDigits w < 100000) (hl' : Lib.nDigits w' < 100000) :
    Ev (fun k => rhizomeref02_Less.f k (bs (Lib.decDigits w)) e (bs (Lib.decDigits w')) e') (decide (amt w e K < amt w' e' K)) := by
  have n1 := Lib.nDigits_pos w
  have n2 := Lib.nDigits_pos w'
  have s1 : (bs (Lib.decDigits w)).size = Lib.nDigits w := by rw [bs_size, Lib.decDigits_length]
  have s2 : (bs (Lib.decDigits w')).size = Lib.nDigits w' := by rw [bs_size, Lib.decDigits_length]
  have b1 := Lib.lt_pow_nDigits w
  have b2 := Lib.lt_pow_nDigits w'
  have lo : ∀ {w : Nat}, 1 ≤ w → 10 ^ (Lib.nDigits w - 1) ≤ w := fun {w} h => by
    rcases Nat.lt_or_ge w (10 ^ (Lib.nDigits w - 1)) with g | g
    · have := nDigits_le h g
      have := Lib.nDigits_pos w
      omega
    · exact g
  have l1 := lo hw
  have l2 := lo hw'
  have ne1 : ¬ (bs (Lib.decDigits w)).toList = [] := by
    intro h
    rw [bs_toList] at h
    have := congrArg List.length h
    rw [Lib.decDigits_length] at this
    simp at this; omega
  have ne2 : ((bs (Lib.decDigits w')).toList == ([] : List UInt8)) = false := by
    rw [bs_toList, beq_eq_false_iff_ne]
    intro h
    have := congrArg List.length h
    rw [Lib.decDigits_length] at this
    simp at this; omega
  have w1 : wrap64 (((bs (Lib.decDigits w)).size : Int) + e) = (Lib.nDigits w : Int) + e := by rw [s1, w64 (by omega) (by omega)]
  have w2 : wrap64 (((bs (Lib.decDigits w')).size : Int) + e') = (Lib.nDigits w' : Int) + e' := by rw [s2, w64 (by omega) (by omega)]
  have hu : ∀ k, rhizomeref02_Less.j0 (k + 1) false (bs (Lib.decDigits w)) e (bs (Lib.decDigits w')) e' = (if (wrap64 (((bs (Lib.decDigits w)).size : Int) + e)) = (wrap64 (((bs (Lib.decDigits w')).size : Int) + e')) then (rhizomeref02_Less.l0 k (mx ((bs (Lib.decDigits w)).size : Int) ((bs (Lib.decDigits w')).size : Int)) 0 (bs (Lib.decDigits w)) e (bs (Lib.decDigits w')) e') else (some (decide ((wrap64 (((bs (Lib.decDigits w)).size : Int) + e)) < (wrap64 (((bs (Lib.decDigits w')).size : Int) + e')))))) := fun _ => rfl
  have key : Ev (fun k => rhizomeref02_Less.j0 k false (bs (Lib.decDigits w)) e (bs (Lib.decDigits w')) e') (decide (amt w e K < amt w' e' K)) := by
    by_cases c : (Lib.nDigits w : Int) + e = (Lib.nDigits w' : Int) + e'
    · obtain ⟨n, hn⟩ : ∃ n, n = max (Lib.nDigits w) (Lib.nDigits w') := ⟨_, rfl⟩
      have hmx : mx ((bs (Lib.decDigits w)).size : Int) ((bs (Lib.decDigits w')).size : Int) = ((n : Nat) : Int) := by
        rw [s1, s2, hn]; unfold mx; split <;> omega
      have hl0 := less_l0 (Lib.decDigits w) (Lib.decDigits w') e e' n (by rw [Lib.decDigits_length]; omega) (by rw [Lib.decDigits_length]; omega) (by omega) n 0 (by omega)
      have hcm := cmpF_num (pd_dec (show Lib.nDigits w ≤ n by omega)) (pd_dec (show Lib.nDigits w' ≤ n by omega)) n 0 (by omega)
      have hlt : ∀ {w : Nat}, Lib.nDigits w ≤ n → w * 10 ^ (n - Lib.nDigits w) < 10 ^ n := fun {w} h => by
        calc w * 10 ^ (n - Lib.nDigits w) < 10 ^ Lib.nDigits w * 10 ^ (n - Lib.nDigits w) := Nat.mul_lt_mul_of_pos_right (Lib.lt_pow_nDigits w) (Nat.pow_pos (by omega))
          _ = 10 ^ n := by rw [← Nat.pow_add]; congr 1; omega
      rw [Nat.mod_eq_of_lt (hlt (by omega)), Nat.mod_eq_of_lt (hlt (by omega))] at hcm
      rw [hcm] at hl0
      have e1 : decide (amt w e K < amt w' e' K) = decide (w * 10 ^ (n - Lib.nDigits w) < w' * 10 ^ (n - Lib.nDigits w')) := by
        rw [Bool.eq_iff_iff]
        simp only [decide_eq_true_eq]
        unfold amt
        obtain ⟨a, ha⟩ : ∃ a, a = (e + K).toNat := ⟨_, rfl⟩
        obtain ⟨b, hb⟩ : ∃ b, b = (e' + K).toNat := ⟨_, rfl⟩
        rw [← ha, ← hb]
        have hab : (n - Lib.nDigits w) + b = (n - Lib.nDigits w') + a := by omega
        rcases Nat.le_total (n - Lib.nDigits w) (n - Lib.nDigits w') with h | h
        · obtain ⟨r, hr⟩ := Nat.exists_eq_add_of_le h
          rw [hr] at hab ⊢
          have : b = a + r := by omega
          rw [this, Nat.pow_add, Nat.pow_add, Nat.mul_comm (10 ^ a), Nat.mul_comm (10 ^ (n - Lib.nDigits w)), ← Nat.mul_assoc, ← Nat.mul_assoc, Nat.mul_lt_mul_right (Nat.pow_pos (by omega)), Nat.mul_lt_mul_right (Nat.pow_pos (by omega))]
        · obtain ⟨r, hr⟩ := Nat.exists_eq_add_of_le h
          rw [hr] at hab ⊢
          have : a = b + r := by omega
          rw [this, Nat.pow_add, Nat.pow_add, Nat.mul_comm (10 ^ b), Nat.mul_comm (10 ^ (n - Lib.nDigits w')), ← Nat.mul_assoc, ← Nat.mul_assoc, Nat.mul_lt_mul_right (Nat.pow_pos (by omega)), Nat.mul_lt_mul_right (Nat.pow_pos (by omega))]
      rw [e1]
      refine Ev.step (fun k => ?_) hl0
      rw [hu, w1, w2, if_pos c, hmx]
      rfl
    · refine Ev.step (f := fun _ => some (decide (amt w e K < amt w' e' K))) (fun k => ?_) (Ev.now _)
      rw [hu, w1, w2, if_neg c]
      congr 1
      rw [Bool.eq_iff_iff]
      simp only [decide_eq_true_eq]
      have big : ∀ {w w' : Nat} {e e' : Int}, 1 ≤ w → 1 ≤ w' → -(K : Int) ≤ e → -(K : Int) ≤ e' → (Lib.nDigits w : Int) + e < (Lib.nDigits w' : Int) + e' → amt w e K < amt w' e' K := by
        intro w w' e e' hw hw' he he' h
        have n1 := Lib.nDigits_pos w
        have n2 := Lib.nDigits_pos w'
        unfold amt
        calc w * 10 ^ (e + K).toNat < 10 ^ Lib.nDigits w * 10 ^ (e + K).toNat := Nat.mul_lt_mul_of_pos_right (Lib.lt_pow_nDigits w) (Nat.pow_pos (by omega))
          _ = 10 ^ (Lib.nDigits w + (e + K).toNat) := by rw [Nat.pow_add]
          _ ≤ 10 ^ (Lib.nDigits w' - 1 + (e' + K).toNat) := Nat.pow_le_pow_right (by omega) (by omega)
          _ = 10 ^ (Lib.nDigits w' - 1) * 10 ^ (e' + K).toNat := by rw [Nat.pow_add]
          _ ≤ _ := Nat.mul_le_mul_right _ (lo hw')
      constructor
      · intro h; exact big hw hw' he he' h
      · intro h
        rcases Int.lt_or_gt_of_ne c with g | g
        · exact g
        · have := big hw' hw he' he g
          omega
  refine Ev.congr (fun k => ?_) key
  unfold rhizomeref02_Less.f
  rw [if_neg ne1, ne2]
end Go.Proofs.YtapinbbflfkglaaGreatDoor.PFloatsParses
namespace Go.Proofs.YtapinbbflfkglaaGreatDoor.PFloatsParses
open Go.RowKit Go.Proofs.YtapinbbflfkglaaGreatDoorW.PrintWords Go.Proofs.YtapinbbflfkglaaGreatDoorW.PrintLast Go.Proofs.YtapinbbflfkglaaGreatDoorW.PrintMore
set_option maxRecDepth 100000
theorem amt_canon {v w : Nat} {z : Nat} {x0 : Int} (h : v = w * 10 ^ z) (K : Nat) (hK : -(K : Int) ≤ x0) : amt w (x0 + z) K = v * 10 ^ (x0 + K).toNat := by
  unfold amt
  rw [h, Nat.mul_assoc, ← Nat.pow_add]
  congr 2
  omega
theorem amt_left (w : Nat) (e : Int) (K : Nat) (hK : -(K : Int) ≤ e) : amt w e K * nD e * 2 ^ 1075 = nN w e * 10 ^ K := by
  unfold amt nD nN
  have : (10 : Nat) ^ (e + K).toNat * 10 ^ (-e).toNat = 10 ^ e.toNat * 10 ^ K := by
    rw [← Nat.pow_add, ← Nat.pow_add]; congr 1; omega
  rw [Nat.mul_assoc w, this]
  generalize 2 ^ 1075 = t
  grind
theorem amt_right (M : Nat) (x : Int) (K : Nat) (hx : -1075 ≤ x) (hK : 1075 ≤ K) :
    (if 0 ≤ x then M * 2 ^ x.toNat else M * 5 ^ (-x).toNat) * 10 ^ ((if 0 ≤ x then (0 : Int) else x) + K).toNat * 2 ^ 1075 = M * 2 ^ (x + 1075).toNat * 10 ^ K := by
  by_cases c : 0 ≤ x
  · rw [if_pos c, if_pos c, show ((0 : Int) + K).toNat = K by omega, show (x + 1075).toNat = x.toNat + 1075 by omega, Nat.pow_add]
    generalize 2 ^ 1075 = t
    grind
  · rw [if_neg c, if_neg c]
    obtain ⟨a, ha⟩ : ∃ a : Nat, x = -(a : Nat) := ⟨(-x).toNat, by omega⟩
    obtain ⟨r, hr⟩ : ∃ r : Nat, K = a + r := ⟨K - a, by omega⟩
    obtain ⟨s, hs⟩ : ∃ s : Nat, 1075 = a + s := ⟨1075 - a, by omega⟩
    rw [show (-x).toNat = a by omega, show (x + (K : Int)).toNat = r by omega, show (x + 1075).toNat = s by omega, hr, Nat.pow_add 10 a r]
    have e2 : (2 : Nat) ^ 1075 = 2 ^ a * 2 ^ s := by rw [← Nat.pow_add, ← hs]
    have h10 : (10 : Nat) ^ a = 2 ^ a * 5 ^ a := by rw [← Nat.mul_pow]
    rw [e2, h10]
    grind
set_option exponentiation.threshold 3000 in
theorem amt_lt {a b n m D K : Nat} (hD : 0 < D) (h1 : a * D * 2 ^ 1075 = n * 10 ^ K) (h2 : b * 2 ^ 1075 = m * 10 ^ K) : (a < b ↔ n < m * D) ∧ (b < a ↔ m * D < n) := by
  have hp : 0 < 2 ^ 1075 := Nat.two_pow_pos _
  have ht : 0 < 10 ^ K := Nat.pow_pos (by omega)
  have h3 : b * D * 2 ^ 1075 = m * D * 10 ^ K := by rw [Nat.mul_right_comm, h2, Nat.mul_right_comm]
  have g1 : ∀ x y : Nat, x * D * 2 ^ 1075 < y * D * 2 ^ 1075 ↔ x < y := fun x y => by
    rw [Nat.mul_lt_mul_right hp, Nat.mul_lt_mul_right hD]
  have g2 : ∀ x y : Nat, x * 10 ^ K < y * 10 ^ K ↔ x < y := fun x y => Nat.mul_lt_mul_right ht
  constructor
  · rw [← g1, h1, h3, g2]
  · rw [← g1, h1, h3, g2]
set_option exponentiation.threshold 3000 in
theorem less_amt {w : Nat} {e : Int} (hw : 1 ≤ w) (hl : Lib.nDigits w < 1000) (he1 : -200000 ≤ e) (he2 : e ≤ 200000) (M : Nat) (x : Int) (hM1 : 1 ≤ M) (hM2 : M < 18446744073709551616) (hx1 : -1075 ≤ x) (hx2 : x ≤ 1000) :
    ∃ ds' e', Ev (fun k => rhizomeref02_Amount.f k (M : Nat) x) (bs ds', e') ∧
      Ev (fun k => rhizomeref02_Less.f k (bs (Lib.decDigits w)) e (bs ds') e') (decide (nN w e < M * 2 ^ (x + 1075).toNat * nD e)) ∧
      Ev (fun k => rhizomeref02_Less.f k (bs ds') e' (bs (Lib.decDigits w)) e) (decide (M * 2 ^ (x + 1075).toNat * nD e < nN w e)) := by
  obtain ⟨ds, y, h1, h2⟩ := amount_ev M x hM2 (by omega) (by omega)
  have hv0 : (if 0 ≤ x then M * 2 ^ x.toNat else M * 5 ^ (-x).toNat) ≠ 0 := by
    split
    · exact Nat.ne_of_gt (Nat.mul_pos (by omega) (Nat.two_pow_pos _))
    · exact Nat.ne_of_gt (Nat.mul_pos (by omega) (Nat.pow_pos (by omega)))
  rcases h2 with ⟨h, _, _⟩ | ⟨w', z, g1, g2, g3, g4⟩
  · exact absurd h hv0
  have hw' : 1 ≤ w' := Nat.pos_of_ne_zero (fun e => by rw [e] at g2; exact g2 rfl)
  have hv : (if 0 ≤ x then M * 2 ^ x.toNat else M * 5 ^ (-x).toNat) < 10 ^ 2000 := by
    have e16 : M < 10 ^ 20 := by omega
    split
    · calc M * 2 ^ x.toNat ≤ M * 10 ^ x.toNat := Nat.mul_le_mul_left _ (Nat.pow_le_pow_left (by omega) _)
        _ < 10 ^ 20 * 10 ^ x.toNat := Nat.mul_lt_mul_of_pos_right e16 (Nat.pow_pos (by omega))
        _ = 10 ^ (20 + x.toNat) := by rw [Nat.pow_add]
        _ ≤ _ := Nat.pow_le_pow_right (by omega) (by omega)
    · calc M * 5 ^ (-x).toNat ≤ M * 10 ^ (-x).toNat := Nat.mul_le_mul_left _ (Nat.pow_le_pow_left (by omega) _)
        _ < 10 ^ 20 * 10 ^ (-x).toNat := Nat.mul_lt_mul_of_pos_right e16 (Nat.pow_pos (by omega))
        _ = 10 ^ (20 + (-x).toNat) := by rw [Nat.pow_add]
        _ ≤ _ := Nat.pow_le_pow_right (by omega) (by omega)
  have hw2 := hv
  rw [g1] at hw2
  have hz : z < 2000 := (Nat.pow_lt_pow_iff_right (by omega)).1 (Nat.lt_of_le_of_lt (Nat.le_mul_of_pos_left _ hw') hw2)
  have hn := nDigits_le (D := w') (k := 2000) hw' (Nat.lt_of_le_of_lt (Nat.le_mul_of_pos_right _ (Nat.pow_pos (by omega))) hw2)
  obtain ⟨K, hK⟩ : ∃ K, K = 300000 := ⟨_, rfl⟩
  have hy1 : -1075 ≤ y := by rw [g4]; split <;> omega
  have hy2 : y ≤ 3000 := by rw [g4]; split <;> omega
  have a2 : amt w' y K * 2 ^ 1075 = M * 2 ^ (x + 1075).toNat * 10 ^ K := by
    rw [g4, amt_canon g1 K (by split <;> omega), amt_right M x K hx1 (by omega)]
  have hc := amt_lt (nD_pos e) (amt_left w e K (by omega)) a2
  refine ⟨ds, y, h1, ?_, ?_⟩
  · rw [g3]
    have := less_pos hw hw' K (e := e) (e' := y) (by omega) (by omega) (by omega) (by omega) (by omega) (by omega) (by omega)
    rwa [show decide (amt w e K < amt w' y K) = decide (nN w e < M * 2 ^ (x + 1075).toNat * nD e) by rw [Bool.eq_iff_iff]; simp only [decide_eq_true_eq]; exact hc.1] at this
  · rw [g3]
    have := less_pos hw' hw K (e := y) (e' := e) (by omega) (by omega) (by omega) (by omega) (by omega) (by omega) (by omega)
    rwa [show decide (amt w' y K < amt w e K) = decide (M * 2 ^ (x + 1075).toNat * nD e < nN w e) by rw [Bool.eq_iff_iff]; simp only [decide_eq_true_eq]; exact hc.2] at this
theorem u64w (x : Nat) (h : x < 18446744073709551616) : IntKind.u64.wrap ((x : Nat) : Int) = x := IntWalk.u64_in _ ⟨by omega, by omega⟩
theorem of2_k (k : Nat) (hk : k < 9223372036854775808) : rhizomeref02_Of2.f ((k : Nat) : Int) = some (((Fp.mant k : Nat) : Int), ((Fp.plc k : Nat) : Int) - 1074) := by
  have e1 : IntKind.u64.wrap (Int.tdiv ((k : Nat) : Int) 4503599627370496) = ((k / 4503599627370496 : Nat) : Int) := by
    rw [show (4503599627370496 : Int) = ((4503599627370496 : Nat) : Int) from rfl, ← Int.ofNat_tdiv, u64w _ (by omega)]
  have e2 : Int.tmod ((k : Nat) : Int) 4503599627370496 = ((k % 4503599627370496 : Nat) : Int) := by
    rw [show (4503599627370496 : Int) = ((4503599627370496 : Nat) : Int) from rfl, ← Int.ofNat_tmod]
  unfold rhizomeref02_Of2.f
  rw [e1, e2]
  unfold Fp.mant Fp.plc
  by_cases c : k / 4503599627370496 = 0
  · rw [if_pos (by omega), if_pos c, c, Nat.mod_eq_of_lt (by omega)]
    rfl
  · rw [if_neg (by omega), if_neg c]
    have e3 : IntKind.u64.wrap (4503599627370496 + ((k % 4503599627370496 : Nat) : Int)) = ((4503599627370496 + k % 4503599627370496 : Nat) : Int) := by
      rw [show (4503599627370496 : Int) + ((k % 4503599627370496 : Nat) : Int) = ((4503599627370496 + k % 4503599627370496 : Nat) : Int) by omega, u64w _ (by omega)]
    rw [e3, w64 (x := ((k / 4503599627370496 : Nat) : Int)) (by omega) (by omega), w64 (by omega) (by omega)]
    congr 2
    omega
theorem mant_bd {k : Nat} (h1 : 1 ≤ k) : 1 ≤ Fp.mant k ∧ Fp.mant k < 9007199254740992 := by
  unfold Fp.mant
  split <;> omega
theorem plc_bd {k : Nat} (h : k ≤ 9218868437227405312) : Fp.plc k ≤ 2046 := by unfold Fp.plc; omega
theorem near_l0 {w : Nat} {e : Int} (hw : 1 ≤ w) (hl : Lib.nDigits w < 1000) (he1 : -200000 ≤ e) (he2 : e ≤ 200000) : ∀ (d low high : Nat), high - low = d → low < high → high ≤ 9218868437227405312 → Fp.vl low * nD e ≤ nN w e → nN w e < Fp.vl high * nD e →
    ∃ r, Ev (fun k => rhizomeref02_Nearest.l0 k (low : Nat) (high : Nat) (bs (Lib.decDigits w)) e) (((r : Nat) : Int), true) ∧ Fp.IsNear (nN w e) (nD e) r := by
  intro d
  induction d using Nat.strongRecOn with
  | _ d ih =>
    intro low high hd hlh hh hlo hhi
    have hD := nD_pos e
    by_cases c : 1 < high - low
    · obtain ⟨m, hm⟩ : ∃ m, m = (low + high) / 2 := ⟨_, rfl⟩
      have hm1 : low < m := by omega
      have hm2 : m < high := by omega
      have hmm := mant_bd (k := m) (by omega)
      have hp := plc_bd (k := m) (by omega)
      obtain ⟨ds', e', a1, a2, _⟩ := less_amt hw hl he1 he2 (Fp.mant m) ((Fp.plc m : Nat) - 1074) hmm.1 (by omega) (by omega) (by omega)
      have hvl : Fp.mant m * 2 ^ (((Fp.plc m : Nat) : Int) - 1074 + 1075).toNat = Fp.vl m := by
        rw [show (((Fp.plc m : Nat) : Int) - 1074 + 1075).toNat = Fp.plc m + 1 by omega, Nat.pow_succ]
        unfold Fp.vl
        grind
      rw [hvl] at a2
      have hmid : IntKind.u64.wrap (Int.tdiv (IntKind.u64.wrap (((low : Nat) : Int) + ((high : Nat) : Int))) 2) = ((m : Nat) : Int) := by
        rw [← Int.natCast_add, u64w _ (by omega), show (2 : Int) = ((2 : Nat) : Int) from rfl, ← Int.ofNat_tdiv, u64w _ (by omega), hm]
      have hgap : IntKind.u64.wrap (((high : Nat) : Int) - ((low : Nat) : Int)) = ((high - low : Nat) : Int) := by
        rw [show ((high : Nat) : Int) - ((low : Nat) : Int) = ((high - low : Nat) : Int) by omega, u64w _ (by omega)]
      have step : ∀ k, rhizomeref02_Nearest.l0 (k + 1) (low : Nat) (high : Nat) (bs (Lib.decDigits w)) e = (rhizomeref02_Amount.f k (Fp.mant m : Nat) (((Fp.plc m : Nat) : Int) - 1074)).bind fun bt362 => ((rhizomeref02_Less.f k (bs (Lib.decDigits w)) e bt362.1 bt362.2).bind fun t364 => (if t364 = true then (rhizomeref02_Nearest.l0 k (low : Nat) (m : Nat) (bs (Lib.decDigits w)) e) else (rhizomeref02_Nearest.l0 k (m : Nat) (high : Nat) (bs (Lib.decDigits w)) e))) := by
        intro k
        conv => lhs; unfold rhizomeref02_Nearest.l0
        rw [hgap, if_pos (by omega), hmid, of2_k m (by omega)]
        rfl
      by_cases cl : nN w e < Fp.vl m * nD e
      · rw [decide_eq_true cl] at a2
        obtain ⟨r, r1, r2⟩ := ih (m - low) (by omega) low m rfl hm1 (by omega) hlo cl
        exact ⟨r, Ev.step step (Ev.bind a1 (Ev.bind a2 (Ev.congr (fun k => by rw [if_pos rfl]) r1))), r2⟩
      · rw [decide_eq_false cl] at a2
        obtain ⟨r, r1, r2⟩ := ih (high - m) (by omega) m high rfl hm2 hh (by omega) hhi
        exact ⟨r, Ev.step step (Ev.bind a1 (Ev.bind a2 (Ev.congr (fun k => by rw [if_neg (by decide)]) r1))), r2⟩
    · obtain rfl : high = low + 1 := by omega
      have hmm : Fp.mant low < 9007199254740992 := by unfold Fp.mant; split <;> omega
      have hp := plc_bd (k := low) (by omega)
      obtain ⟨ds', e', a1, a2, a3⟩ := less_amt hw hl he1 he2 (2 * Fp.mant low + 1) (((Fp.plc low : Nat) : Int) - 1075) (by omega) (by omega) (by omega) (by omega)
      have hmid : (2 * Fp.mant low + 1) * 2 ^ (((Fp.plc low : Nat) : Int) - 1075 + 1075).toNat = Fp.mid low := by
        rw [show (((Fp.plc low : Nat) : Int) - 1075 + 1075).toNat = Fp.plc low by omega]; rfl
      rw [hmid] at a2 a3
      have hgap : IntKind.u64.wrap (((low + 1 : Nat) : Int) - ((low : Nat) : Int)) = ((1 : Nat) : Int) := by
        rw [show ((low + 1 : Nat) : Int) - ((low : Nat) : Int) = ((1 : Nat) : Int) by omega, u64w _ (by omega)]
      have e1 : IntKind.u64.wrap (IntKind.u64.wrap (2 * ((Fp.mant low : Nat) : Int)) + 1) = ((2 * Fp.mant low + 1 : Nat) : Int) := by
        rw [show (2 : Int) * ((Fp.mant low : Nat) : Int) = ((2 * Fp.mant low : Nat) : Int) by omega, u64w _ (by omega), show ((2 * Fp.mant low : Nat) : Int) + 1 = ((2 * Fp.mant low + 1 : Nat) : Int) by omega, u64w _ (by omega)]
      have e2 : wrap64 (((Fp.plc low : Nat) : Int) - 1074 - 1) = ((Fp.plc low : Nat) : Int) - 1075 := by rw [w64 (by omega) (by omega)]; omega
      have e3 : IntKind.u64.wrap (((low : Nat) : Int) + 1) = ((low + 1 : Nat) : Int) := by rw [show ((low : Nat) : Int) + 1 = ((low + 1 : Nat) : Int) by omega, u64w _ (by omega)]
      have e4 : Int.tmod ((low : Nat) : Int) 2 = ((low % 2 : Nat) : Int) := by rw [show (2 : Int) = ((2 : Nat) : Int) from rfl, ← Int.ofNat_tmod]
      have step : ∀ k, rhizomeref02_Nearest.l0 (k + 1) (low : Nat) ((low + 1 : Nat) : Int) (bs (Lib.decDigits w)) e = (rhizomeref02_Amount.f k ((2 * Fp.mant low + 1 : Nat) : Int) (((Fp.plc low : Nat) : Int) - 1075)).bind fun bt367 => ((rhizomeref02_Less.f k bt367.1 bt367.2 (bs (Lib.decDigits w)) e).bind fun t370 => (if t370 = true then (some (((low + 1 : Nat) : Int), true)) else ((rhizomeref02_Less.f k (bs (Lib.decDigits w)) e bt367.1 bt367.2).bind fun t371 => (if t371 = true then (some (((low : Nat) : Int), true)) else (if ((low % 2 : Nat) : Int) = 1 then (some (((low + 1 : Nat) : Int), true)) else (some (((low : Nat) : Int), true))))))) := by
        intro k
        conv => lhs; unfold rhizomeref02_Nearest.l0
        rw [hgap, if_neg (by omega), of2_k low (by omega)]
        simp only [Option.bind_some]
        rw [e1, e2, e3, e4]
      have up1 : nN w e < Fp.mid (low + 1) * nD e := Nat.lt_trans hhi (Nat.mul_lt_mul_of_pos_right (Fp.vl_step (low + 1)).1 hD)
      have lo0 : low = 0 ∨ Fp.mid (low - 1) * nD e < nN w e := by
        rcases Nat.eq_zero_or_pos low with h | h
        · exact .inl h
        · right
          have := (Fp.vl_step (low - 1)).2
          rw [Nat.sub_add_cancel h] at this
          exact Nat.lt_of_lt_of_le (Nat.mul_lt_mul_of_pos_right this hD) hlo
      by_cases c1 : Fp.mid low * nD e < nN w e
      · rw [decide_eq_true c1] at a3
        refine ⟨low + 1, Ev.step step (Ev.bind a1 (Ev.bind a3 (Ev.congr (fun k => by rw [if_pos rfl]) (Ev.now _)))), .inr (.inl (by rw [Nat.add_sub_cancel]; exact c1)), .inl up1⟩
      · rw [decide_eq_false c1] at a3
        by_cases c2 : nN w e < Fp.mid low * nD e
        · rw [decide_eq_true c2] at a2
          refine ⟨low, Ev.step step (Ev.bind a1 (Ev.bind a3 (Ev.congr (fun k => by rw [if_neg (by decide)]) (Ev.bind a2 (Ev.congr (fun k => by rw [if_pos rfl]) (Ev.now _)))))), ?_, .inl c2⟩
          rcases lo0 with h | h
          · exact .inl h
          · exact .inr (.inl h)
        · rw [decide_eq_false c2] at a2
          have heq : nN w e = Fp.mid low * nD e := by omega
          by_cases c3 : low % 2 = 1
          · refine ⟨low + 1, Ev.step step (Ev.bind a1 (Ev.bind a3 (Ev.congr (fun k => by rw [if_neg (by decide)]) (Ev.bind a2 (Ev.congr (fun k => by rw [if_neg (by decide), if_pos (by omega)]) (Ev.now _)))))), .inr (.inr ⟨by rw [Nat.add_sub_cancel]; exact heq.symm, by omega⟩), .inl up1⟩
          · refine ⟨low, Ev.step step (Ev.bind a1 (Ev.bind a3 (Ev.congr (fun k => by rw [if_neg (by decide)]) (Ev.bind a2 (Ev.congr (fun k => by rw [if_neg (by decide), if_neg (by omega)]) (Ev.now _)))))), ?_, .inr ⟨heq, by omega⟩⟩
            rcases lo0 with h | h
            · exact .inl h
            · exact .inr (.inl h)
end Go.Proofs.YtapinbbflfkglaaGreatDoor.PFloatsParses
namespace Go.Proofs.YtapinbbflfkglaaGreatDoor.PFloatsParses
open Go.RowKit Go.Proofs.YtapinbbflfkglaaGreatDoorW.PrintWords Go.Proofs.YtapinbbflfkglaaGreatDoorW.PrintLast Go.Proofs.YtapinbbflfkglaaGreatDoorW.PrintMore
set_option maxRecDepth 100000
set_option exponentiation.threshold 3000 in
theorem mid_top : Fp.mid 9218868437227405311 = 18014398509481983 * 2 ^ 2045 := by
  unfold Fp.mid Fp.mant Fp.plc
  rw [if_neg (by decide)]
theorem less_nil (a : List UInt8) (x : Int) (M : Nat) (e : Int) (hM : 1 ≤ M) (hM2 : M < 18446744073709551616) (h1 : -5000 ≤ e) (h2 : e ≤ 5000) :
    ∃ ds' e', Ev (fun k => rhizomeref02_Amount.f k (M : Nat) e) (bs ds', e') ∧ (a = [] → Ev (fun k => rhizomeref02_Less.f k (bs a) x (bs ds') e') true) := by
  obtain ⟨ds, y, g1, g2⟩ := amount_ev M e hM2 h1 h2
  have hv0 : (if 0 ≤ e then M * 2 ^ e.toNat else M * 5 ^ (-e).toNat) ≠ 0 := by
    split
    · exact Nat.ne_of_gt (Nat.mul_pos (by omega) (Nat.two_pow_pos _))
    · exact Nat.ne_of_gt (Nat.mul_pos (by omega) (Nat.pow_pos (by omega)))
  rcases g2 with ⟨h, _, _⟩ | ⟨w', z, _, _, g3, _⟩
  · exact absurd h hv0
  refine ⟨ds, y, g1, fun ha => ?_⟩
  subst ha
  refine Ev.congr (fun k => ?_) (Ev.step (g := fun k => rhizomeref02_Less.j0 k true (bs []) x (bs ds) y) (f := fun _ => some true) (fun k => ?_) (Ev.now _))
  · unfold rhizomeref02_Less.f
    rw [if_pos (bs_toList [])]
  · show (if (bs []).toList = ([] : List UInt8) then some ((bs ds).toList != ([] : List UInt8)) else some false) = some true
    rw [if_pos (bs_toList []), bs_toList, g3]
    congr 1
    rw [bne_iff_ne]
    intro h
    have := congrArg List.length h
    rw [Lib.decDigits_length] at this
    have := Lib.nDigits_pos w'
    simp at *
    omega
theorem nearest_zero (x : Int) : Ev (fun k => rhizomeref02_Nearest.f k (bs []) x) (((0 : Nat) : Int), true) := by
  obtain ⟨ds, y, g1, g2⟩ := less_nil [] x 18014398509481983 970 (by omega) (by omega) (by omega) (by omega)
  have hj : Ev (fun k => rhizomeref02_Nearest.j0 k true (bs []) x) (((0 : Nat) : Int), true) := Ev.step (f := fun _ => some (((0 : Nat) : Int), true)) (fun k => rfl) (Ev.now _)
  have step : ∀ k, rhizomeref02_Nearest.f k (bs []) x = (rhizomeref02_Amount.f k ((18014398509481983 : Nat) : Int) 970).bind fun bt357 => ((rhizomeref02_Less.f k (bs []) x bt357.1 bt357.2).bind fun t359 => (if t359 = true then (rhizomeref02_Nearest.j0 k true (bs []) x) else (some (((0 : Nat) : Int), false)))) := by
    intro k
    unfold rhizomeref02_Nearest.f
    simp only [if_pos (bs_toList [])]
    rfl
  exact Ev.congr step (Ev.bind g1 (Ev.bind (g2 rfl) (Ev.congr (fun k => by rw [if_pos rfl]) hj)))
set_option exponentiation.threshold 2000 in
theorem pow324 : 2 ^ 1075 < 10 ^ 324 := by decide +kernel
set_option exponentiation.threshold 3000 in
theorem nearest_ev {w : Nat} {e : Int} (hw : 1 ≤ w) (hl : Lib.nDigits w < 1000) (he1 : -200000 ≤ e) (he2 : e ≤ 200000) :
    (nN w e < Fp.mid 9218868437227405311 * nD e → ∃ r, Ev (fun k => rhizomeref02_Nearest.f k (bs (Lib.decDigits w)) e) (((r : Nat) : Int), true) ∧ Fp.IsNear (nN w e) (nD e) r ∧ r ≤ 9218868437227405311) ∧
    (¬ nN w e < Fp.mid 9218868437227405311 * nD e → Ev (fun k => rhizomeref02_Nearest.f k (bs (Lib.decDigits w)) e) (((0 : Nat) : Int), false)) := by
  have hD := nD_pos e
  obtain ⟨ds', e', a1, a2, _⟩ := less_amt hw hl he1 he2 18014398509481983 970 (by omega) (by omega) (by omega) (by omega)
  rw [show ((970 : Int) + 1075).toNat = 2045 from rfl, ← mid_top] at a2
  have hne : ¬ (bs (Lib.decDigits w)).toList = [] := by
    intro h
    rw [bs_toList] at h
    have := congrArg List.length h
    rw [Lib.decDigits_length] at this
    have := Lib.nDigits_pos w
    simp at *; omega
  have hsz : wrap64 (((bs (Lib.decDigits w)).size : Int) + e) = (Lib.nDigits w : Int) + e := by rw [bs_size, Lib.decDigits_length, w64 (by omega) (by omega)]
  have step : ∀ k, rhizomeref02_Nearest.f k (bs (Lib.decDigits w)) e = (rhizomeref02_Amount.f k ((18014398509481983 : Nat) : Int) 970).bind fun bt357 => ((rhizomeref02_Less.f k (bs (Lib.decDigits w)) e bt357.1 bt357.2).bind fun t359 => (if t359 = true then (rhizomeref02_Nearest.j0 k (decide ((Lib.nDigits w : Int) + e < (-400))) (bs (Lib.decDigits w)) e) else (some (((0 : Nat) : Int), false)))) := by
    intro k
    unfold rhizomeref02_Nearest.f
    simp only [if_neg hne, hsz]
    rfl
  constructor
  · intro hfit
    rw [decide_eq_true hfit] at a2
    have hle : ∀ r, Fp.IsNear (nN w e) (nD e) r → r ≤ 9218868437227405311 := by
      intro r hr
      rcases Nat.lt_or_ge 9218868437227405311 r with h | h
      · exfalso
        have hm : Fp.mid 9218868437227405311 ≤ Fp.mid (r - 1) := by
          rcases Nat.lt_or_ge 9218868437227405311 (r - 1) with g | g
          · exact Nat.le_of_lt (Fp.mid_lt g)
          · rw [show r - 1 = 9218868437227405311 by omega]; exact Nat.le_refl _
        have hm2 := Nat.mul_le_mul_right (nD e) hm
        rcases hr.1 with g | g | g
        · omega
        · omega
        · omega
      · exact h
    by_cases c : (Lib.nDigits w : Int) + e < -400
    · have hj : Ev (fun k => rhizomeref02_Nearest.j0 k true (bs (Lib.decDigits w)) e) (((0 : Nat) : Int), true) := Ev.step (f := fun _ => some (((0 : Nat) : Int), true)) (fun k => rfl) (Ev.now _)
      refine ⟨0, Ev.congr step (Ev.bind a1 (Ev.bind a2 (Ev.congr (fun k => by rw [if_pos rfl, decide_eq_true c]) hj))), ⟨.inl rfl, .inl ?_⟩, by omega⟩
      have hm0 : Fp.mid 0 = 1 := by decide
      rw [hm0, Nat.one_mul]
      unfold nN nD
      have hwl := Lib.lt_pow_nDigits w
      rw [show e.toNat = 0 by omega, Nat.pow_zero, Nat.mul_one]
      have h324 := pow324
      calc w * 2 ^ 1075 < 10 ^ Lib.nDigits w * 10 ^ 324 := Nat.mul_lt_mul'' hwl h324
        _ = 10 ^ (Lib.nDigits w + 324) := by rw [Nat.pow_add]
        _ ≤ _ := Nat.pow_le_pow_right (by omega) (by omega)
    · obtain ⟨r, r1, r2⟩ := near_l0 hw hl he1 he2 _ 0 9218868437227405312 rfl (by omega) (by omega) (by rw [show Fp.vl 0 = 0 by decide, Nat.zero_mul]; exact Nat.zero_le _)
        (Nat.lt_trans hfit (Nat.mul_lt_mul_of_pos_right (Fp.vl_step 9218868437227405311).2 hD))
      have hj : Ev (fun k => rhizomeref02_Nearest.j0 k false (bs (Lib.decDigits w)) e) (((r : Nat) : Int), true) := Ev.step (fun k => by
        show rhizomeref02_Nearest.j0 (k + 1) false (bs (Lib.decDigits w)) e = rhizomeref02_Nearest.l0 k ((0 : Nat) : Int) ((9218868437227405312 : Nat) : Int) (bs (Lib.decDigits w)) e
        rfl) r1
      exact ⟨r, Ev.congr step (Ev.bind a1 (Ev.bind a2 (Ev.congr (fun k => by rw [if_pos rfl, decide_eq_false c]) hj))), r2, hle r r2⟩
  · intro hfit
    rw [decide_eq_false hfit] at a2
    exact Ev.congr step (Ev.bind a1 (Ev.bind a2 (Ev.congr (fun k => by rw [if_neg (by decide)]) (Ev.now _))))
theorem wrap_u64_mod (x : Int) : IntKind.u64.wrap x = x % 18446744073709551616 := by
  unfold IntKind.wrap
  rfl
end Go.Proofs.YtapinbbflfkglaaGreatDoor.PFloatsParses
namespace Go.Proofs.YtapinbbflfkglaaGreatDoor.PFloatsParses
open Go.RowKit Go.Proofs.YtapinbbflfkglaaGreatDoorW.PrintWords Go.Proofs.YtapinbbflfkglaaGreatDoorW.PrintLast Go.Proofs.YtapinbbflfkglaaGreatDoorW.PrintMore
set_option maxRecDepth 100000
theorem e8 (k : Nat) (b : ByteArray) (g down : Bool) (i : Int) (dg : ByteArray) (ex : Int) : rhizomeref02_Read.j8 (k + 1) b g i down dg ex = (rhizomeref02_digits.f k b i).bind fun t315 => (if t315 = 0 then (some (false, (⟨#[]⟩ : ByteArray), 0, false)) else (rhizomeref02_Read.l0 k b g i t315 down 0 0 dg ex)) := rfl
theorem e7t (k : Nat) (b : ByteArray) (g down : Bool) (i : Int) (dg : ByteArray) (ex : Int) : rhizomeref02_Read.j7 (k + 1) b g i down true dg ex = rhizomeref02_Read.j8 k b g (wrap64 (i + 1)) down dg ex := rfl
theorem e7f (k : Nat) (b : ByteArray) (g down : Bool) (i : Int) (dg : ByteArray) (ex : Int) : rhizomeref02_Read.j7 (k + 1) b g i down false dg ex = rhizomeref02_Read.j8 k b g i down dg ex := rfl
theorem e6 (k : Nat) (b : ByteArray) (g down : Bool) (i : Int) (dg : ByteArray) (ex : Int) : rhizomeref02_Read.j6 (k + 1) b g i down dg ex = (if i < (b.size : Int) then (if 0 ≤ i then (if (bt b i) = 45 then (rhizomeref02_Read.j7 k b g i down true dg ex) else (rhizomeref02_Read.j7 k b g i down ((bt b i) == 43) dg ex)) else none) else (rhizomeref02_Read.j7 k b g i down false dg ex)) := rfl
theorem e5t (k : Nat) (b : ByteArray) (g : Bool) (i : Int) (dg : ByteArray) (ex : Int) : rhizomeref02_Read.j5 (k + 1) b g i true dg ex = (if (wrap64 (i + 1)) < (b.size : Int) then (if 0 ≤ (wrap64 (i + 1)) then (rhizomeref02_Read.j6 k b g (wrap64 (i + 1)) ((bt b (wrap64 (i + 1))) == 45) dg ex) else none) else (rhizomeref02_Read.j6 k b g (wrap64 (i + 1)) false dg ex)) := rfl
theorem e5f (k : Nat) (b : ByteArray) (g : Bool) (i : Int) (dg : ByteArray) (ex : Int) : rhizomeref02_Read.j5 (k + 1) b g i false dg ex = (rhizomeref02_cut.f k dg ex).bind fun bt320 => (some (g, bt320.1, bt320.2, (i == (b.size : Int)))) := rfl
theorem e4 (k : Nat) (b : ByteArray) (g : Bool) (i : Int) (dg : ByteArray) (ex : Int) : rhizomeref02_Read.j4 (k + 1) b g i dg ex = (if i < (b.size : Int) then (if 0 ≤ i then (if (bt b i) = 101 then (rhizomeref02_Read.j5 k b g i true dg ex) else (rhizomeref02_Read.j5 k b g i ((bt b i) == 69) dg ex)) else none) else (rhizomeref02_Read.j5 k b g i false dg ex)) := rfl
theorem e3t (k : Nat) (b : ByteArray) (g : Bool) (i : Int) (dg : ByteArray) (ex : Int) : rhizomeref02_Read.j3 (k + 1) b g i true dg ex = ((rhizomeref02_digits.f k b (wrap64 (i + 1))).bind fun t314 => (if t314 = 0 then (some (false, (⟨#[]⟩ : ByteArray), 0, false)) else (if 0 ≤ (wrap64 (i + 1)) then (if (wrap64 (i + 1)) ≤ (wrap64 ((wrap64 (i + 1)) + t314)) then (if (wrap64 ((wrap64 (i + 1)) + t314)) ≤ (b.size : Int) then (if dg.size + (b.extract ((wrap64 (i + 1)) : Int).toNat ((wrap64 ((wrap64 (i + 1)) + t314)) : Int).toNat).size ≤ 9223372036854775807 then (rhizomeref02_Read.j4 k b g (wrap64 (i + (wrap64 (1 + t314)))) (dg ++ (b.extract ((wrap64 (i + 1)) : Int).toNat ((wrap64 ((wrap64 (i + 1)) + t314)) : Int).toNat)) (wrap64 (-t314))) else none) else none) else none) else none))) := rfl
theorem e3f (k : Nat) (b : ByteArray) (g : Bool) (i : Int) (dg : ByteArray) (ex : Int) : rhizomeref02_Read.j3 (k + 1) b g i false dg ex = rhizomeref02_Read.j4 k b g i dg ex := rfl
theorem e2t (k : Nat) (b : ByteArray) (g : Bool) (i n : Int) : rhizomeref02_Read.j2 (k + 1) b g i n true = some (false, (⟨#[]⟩ : ByteArray), 0, false) := rfl
theorem e2f (k : Nat) (b : ByteArray) (g : Bool) (i n : Int) : rhizomeref02_Read.j2 (k + 1) b g i n false = (if 0 ≤ i then (if i ≤ (wrap64 (i + n)) then (if (wrap64 (i + n)) ≤ (b.size : Int) then (if (wrap64 (i + n)) < (b.size : Int) then (if 0 ≤ (wrap64 (i + n)) then (rhizomeref02_Read.j3 k b g (wrap64 (i + n)) ((bt b (wrap64 (i + n))) == 46) (b.extract (i : Int).toNat ((wrap64 (i + n)) : Int).toNat) 0) else (none)) else (rhizomeref02_Read.j3 k b g (wrap64 (i + n)) false (b.extract (i : Int).toNat ((wrap64 (i + n)) : Int).toNat) 0)) else (none)) else (none)) else (none)) := rfl
theorem e1 (k : Nat) (b : ByteArray) (g : Bool) (i : Int) : rhizomeref02_Read.j1 (k + 1) b g i = (rhizomeref02_digits.f k b i).bind fun t312 => (if t312 = 0 then (rhizomeref02_Read.j2 k b g i t312 true) else (if t312 > 1 then (if 0 ≤ i then (if i < (b.size : Int) then (rhizomeref02_Read.j2 k b g i t312 ((bt b i) == 48)) else (none)) else (none)) else (rhizomeref02_Read.j2 k b g i t312 false))) := rfl
theorem e0t (k : Nat) (b : ByteArray) : rhizomeref02_Read.j0 (k + 1) b true = some (false, (⟨#[]⟩ : ByteArray), 0, false) := rfl
theorem e0f (k : Nat) (b : ByteArray) : rhizomeref02_Read.j0 (k + 1) b false = (if 0 < (b.size : Int) then (if (bt b 0) = 45 then (rhizomeref02_Read.j1 k b ((bt b 0) == 45) 1) else (rhizomeref02_Read.j1 k b ((bt b 0) == 45) 0)) else (none)) := rfl
theorem bt_nat {l : List UInt8} {i : Nat} (h : i < l.length) : bt (bs l) ((i : Nat) : Int) = ((l[i].toNat : Nat) : Int) := by
  unfold bt
  rw [dif_pos (by rw [bs_size]; simpa using h)]
  show ((l.toArray[((i : Nat) : Int).toNat]'(by simpa using h)).toNat : Int) = _
  simp
theorem runL_cons {c : UInt8} {r : List UInt8} : runL (c :: r) = if digB c then runL r + 1 else 0 := by
  unfold runL
  rw [List.takeWhile_cons]
  split <;> simp
theorem digits_l0 (l : List UInt8) (hl : l.length ≤ 64) (i : Nat) : ∀ (d j : Nat), d = l.length - (i + j) → i + j ≤ l.length → j + runL (l.drop (i + j)) ≤ 64 → Ev (fun k => rhizomeref02_digits.l0 k (bs l) (i : Nat) (j : Nat)) (((j + runL (l.drop (i + j)) : Nat)) : Int) := by
  intro d
  induction d with
  | zero =>
    intro j hd hj _
    have e : l.drop (i + j) = [] := List.drop_eq_nil_of_le (by omega)
    refine Ev.step (f := fun _ => some ((j : Nat) : Int)) (fun k => ?_) (by rw [e]; exact Ev.now _)
    conv => lhs; unfold rhizomeref02_digits.l0
    rw [w64 (by omega) (by omega), if_neg (by rw [bs_size]; omega)]
  | succ d ih =>
    intro j hd hj hb
    have hlt : i + j < l.length := by omega
    have e : l.drop (i + j) = l[i + j] :: l.drop (i + (j + 1)) := by rw [List.drop_eq_getElem_cons hlt]; rfl
    rw [e, runL_cons] at hb ⊢
    have hbt : bt (bs l) (((i : Nat) : Int) + ((j : Nat) : Int)) = ((l[i + j].toNat : Nat) : Int) := by rw [← Int.natCast_add]; exact bt_nat hlt
    have hdg : digB l[i + j] = true ↔ 48 ≤ l[i + j].toNat ∧ l[i + j].toNat ≤ 57 := by
      unfold digB
      rw [Bool.and_eq_true, decide_eq_true_iff, decide_eq_true_iff, UInt8.le_iff_toNat_le, UInt8.le_iff_toNat_le]; rfl
    by_cases c : digB l[i + j] = true
    · rw [if_pos c] at hb ⊢
      obtain ⟨c1, c2⟩ := hdg.1 c
      have := ih (j + 1) (by omega) (by omega) (by omega)
      rw [show j + (runL (l.drop (i + (j + 1))) + 1) = j + 1 + runL (l.drop (i + (j + 1))) by omega]
      refine Ev.step (fun k => ?_) this
      conv => lhs; unfold rhizomeref02_digits.l0
      rw [w64 (x := ((i : Nat) : Int) + ((j : Nat) : Int)) (by omega) (by omega), if_pos (by rw [bs_size]; omega), if_pos (by omega), hbt, if_pos (by omega), if_pos (by omega), w64 (by omega) (by omega)]
      rfl
    · rw [if_neg c, Nat.add_zero]
      refine Ev.step (f := fun _ => some ((j : Nat) : Int)) (fun k => ?_) (Ev.now _)
      conv => lhs; unfold rhizomeref02_digits.l0
      rw [w64 (x := ((i : Nat) : Int) + ((j : Nat) : Int)) (by omega) (by omega), if_pos (by rw [bs_size]; omega), if_pos (by omega), hbt]
      by_cases c1 : 48 ≤ l[i + j].toNat
      · rw [if_pos (by omega), if_neg (by intro h; exact c (hdg.2 ⟨c1, by omega⟩))]
      · rw [if_neg (by omega)]
theorem digits_ev (l : List UInt8) (hl : l.length ≤ 64) (i : Nat) (hi : i ≤ l.length) : Ev (fun k => rhizomeref02_digits.f k (bs l) (i : Nat)) ((runL (l.drop i) : Nat) : Int) := by
  have := digits_l0 l hl i (l.length - i) 0 (by omega) (by omega) (by have := run_le (l.drop i); simp at this ⊢; omega)
  rw [Nat.add_zero, Nat.zero_add] at this
  exact this
def xF : List UInt8 → Nat → Nat
  | [], x => x
  | c :: r, x => xF r (min 100000 (10 * x + (c.toNat - 48)))
theorem xF_le : ∀ (l : List UInt8) (x : Nat), x ≤ 100000 → xF l x ≤ 100000
  | [], _, h => h
  | _ :: r, _, _ => xF_le r _ (by omega)
abbrev Rd := Bool × List UInt8 × Int × Bool
def enc (r : Rd) : Bool × ByteArray × Int × Bool := (r.1, bs r.2.1, r.2.2.1, r.2.2.2)
def noRd : Rd := (false, [], 0, false)
def cutP (dg : List UInt8) (x : Int) : List UInt8 × Int := cutR (dg.dropWhile (· == 48)).reverse x
def fin (g : Bool) (dg : List UInt8) (x : Int) (ok : Bool) : Rd := (g, (cutP dg x).1, (cutP dg x).2, ok)
def readX (g down : Bool) (dg : List UInt8) (ex : Int) (z : List UInt8) : Rd :=
  if runL z = 0 then noRd else fin g dg (if down then ex - (xF (z.take (runL z)) 0 : Nat) else ex + (xF (z.take (runL z)) 0 : Nat)) (z.drop (runL z)).isEmpty
def readE (g : Bool) (dg : List UInt8) (ex : Int) (z : List UInt8) : Rd :=
  if headE z then (if headS z.tail then readX g (z.tail.head? == some 45) dg ex z.tail.tail else readX g false dg ex z.tail) else fin g dg ex z.isEmpty
def readB (g : Bool) (I b : List UInt8) : Rd :=
  if Lib.hasPrefix b [46] then (if runL b.tail = 0 then noRd else readE g (I ++ b.tail.take (runL b.tail)) (-((runL b.tail : Nat) : Int)) (b.tail.drop (runL b.tail))) else readE g I 0 b
def readN (g : Bool) (a : List UInt8) : Rd :=
  if runL a = 0 ∨ (1 < runL a ∧ a.head? = some 48) then noRd else readB g (a.take (runL a)) (a.drop (runL a))
def readL (l : List UInt8) : Rd :=
  if l = [] ∨ 64 < l.length then noRd else readN (l.head? == some 45) (Lib.trimPrefix l [45])
theorem isEmpty_drop {l : List UInt8} {i : Nat} (hi : i ≤ l.length) : (((i : Nat) : Int) == ((bs l).size : Int)) = (l.drop i).isEmpty := by
  rw [bs_size, Bool.eq_iff_iff, beq_iff_eq, List.isEmpty_iff, List.drop_eq_nil_iff]
  omega
theorem read_l0 (l : List UInt8) (hl : l.length ≤ 64) (g down : Bool) (i n : Nat) (hn : i + n ≤ l.length) (hdig : ∀ j, j < n → ∀ h : i + j < l.length, digB l[i + j] = true) (dg : List UInt8) (ex : Int) (hdg : dg.length ≤ 64) (hex1 : -64 ≤ ex) (hex2 : ex ≤ 0) :
    ∀ (m j x : Nat), j + m = n → x ≤ 100000 → Ev (fun k => rhizomeref02_Read.l0 k (bs l) g (i : Nat) (n : Nat) down (x : Nat) (j : Nat) (bs dg) ex)
      (enc (fin g dg (if down then ex - (xF ((l.drop (i + j)).take m) x : Nat) else ex + (xF ((l.drop (i + j)).take m) x : Nat)) (l.drop (i + n)).isEmpty)) := by
  intro m
  induction m with
  | zero =>
    intro j x hj hx
    rw [List.take_zero]
    have e0 : wrap64 (((i : Nat) : Int) + ((n : Nat) : Int)) = ((i + n : Nat) : Int) := by rw [← Int.natCast_add, w64 (by omega) (by omega)]
    cases down
    · have hc := cut_ev dg (ex + ((x : Nat) : Int)) (by omega) (by omega) (by omega)
      refine Ev.step (fun k => ?_) (Ev.bind (f := fun _ bt => some (g, bt.1, bt.2, (l.drop (i + n)).isEmpty)) hc (Ev.now _))
      conv => lhs; unfold rhizomeref02_Read.l0
      rw [if_neg (by omega), if_neg (by decide), w64 (x := ex + ((x : Nat) : Int)) (by omega) (by omega), e0, isEmpty_drop hn]
    · have hc := cut_ev dg (ex - ((x : Nat) : Int)) (by omega) (by omega) (by omega)
      refine Ev.step (fun k => ?_) (Ev.bind (f := fun _ bt => some (g, bt.1, bt.2, (l.drop (i + n)).isEmpty)) hc (Ev.now _))
      conv => lhs; unfold rhizomeref02_Read.l0
      rw [if_neg (by omega), if_pos rfl, w64 (x := -((x : Nat) : Int)) (by omega) (by omega), show ex + -((x : Nat) : Int) = ex - ((x : Nat) : Int) by omega, w64 (x := ex - ((x : Nat) : Int)) (by omega) (by omega), e0, isEmpty_drop hn]
  | succ m ih =>
    intro j x hj hx
    have hlt : i + j < l.length := by omega
    have hd := hdig j (by omega) hlt
    have hdd : 48 ≤ l[i + j].toNat ∧ l[i + j].toNat ≤ 57 := by
      unfold digB at hd
      rw [Bool.and_eq_true, decide_eq_true_iff, decide_eq_true_iff, UInt8.le_iff_toNat_le, UInt8.le_iff_toNat_le] at hd
      exact hd
    have e : (l.drop (i + j)).take (m + 1) = l[i + j] :: (l.drop (i + (j + 1))).take m := by rw [List.drop_eq_getElem_cons hlt, List.take_succ_cons]; rfl
    have := ih (j + 1) (min 100000 (10 * x + (l[i + j].toNat - 48))) (by omega) (by omega)
    rw [e]
    refine Ev.step (fun k => ?_) this
    conv => lhs; unfold rhizomeref02_Read.l0
    have e0 : wrap64 (((i : Nat) : Int) + ((j : Nat) : Int)) = ((i + j : Nat) : Int) := by rw [← Int.natCast_add, w64 (by omega) (by omega)]
    have e1 : mn 100000 (wrap64 ((wrap64 (10 * ((x : Nat) : Int))) + ((bt (bs l) ((i + j : Nat) : Int)) - 48) % 256)) = ((min 100000 (10 * x + (l[i + j].toNat - 48)) : Nat) : Int) := by
      rw [bt_nat hlt, w64 (x := 10 * ((x : Nat) : Int)) (by omega) (by omega), show (((l[i + j].toNat : Nat) : Int) - 48) % 256 = ((l[i + j].toNat - 48 : Nat) : Int) by omega, w64 (by omega) (by omega)]
      unfold mn
      split <;> omega
    rw [if_pos (by omega), e0, if_pos (by omega), if_pos (by rw [bs_size]; omega), e1, w64 (x := ((j : Nat) : Int) + 1) (by omega) (by omega)]
    rfl
theorem run_dig : ∀ (l : List UInt8) (j : Nat), j < runL l → ∀ h : j < l.length, digB l[j] = true
  | [], j, h, _ => by simp [runL] at h
  | c :: r, j, h, hj => by
    rw [runL_cons] at h
    split at h
    · next hc =>
      cases j with
      | zero => exact hc
      | succ j => exact run_dig r j (by omega) (by simpa using hj)
    · omega
theorem read_j8 (l : List UInt8) (hl : l.length ≤ 64) (g down : Bool) (i : Nat) (hi : i ≤ l.length) (dg : List UInt8) (ex : Int) (hdg : dg.length ≤ 64) (hex1 : -64 ≤ ex) (hex2 : ex ≤ 0) :
    Ev (fun k => rhizomeref02_Read.j8 k (bs l) g (i : Nat) down (bs dg) ex) (enc (readX g down dg ex (l.drop i))) := by
  have hd := digits_ev l hl i hi
  have hrl := run_le (l.drop i)
  rw [List.length_drop] at hrl
  have step := fun k => e8 k (bs l) g down ((i : Nat) : Int) (bs dg) ex
  unfold readX
  by_cases c : runL (l.drop i) = 0
  · rw [if_pos c]
    rw [c] at hd
    exact Ev.step step (Ev.bind hd (Ev.congr (fun k => by rw [if_pos (by rfl)]; rfl) (Ev.now (enc noRd))))
  · rw [if_neg c]
    have h0 := read_l0 l hl g down i (runL (l.drop i)) (by omega) (fun j hj h => by
      have := run_dig (l.drop i) j hj (by rw [List.length_drop]; omega)
      rwa [List.getElem_drop] at this) dg ex hdg hex1 hex2 (runL (l.drop i)) 0 0 (by omega) (by omega)
    rw [Nat.add_zero, ← List.drop_drop] at h0
    refine Ev.step step (Ev.bind hd (Ev.congr (fun k => ?_) h0))
    rw [if_neg (by omega)]
    rfl
theorem drop_tail {l : List UInt8} {i : Nat} (h : i < l.length) : (l.drop i).tail = l.drop (i + 1) := by rw [List.drop_eq_getElem_cons h, List.tail_cons]
theorem drop_head {l : List UInt8} {i : Nat} (h : i < l.length) : (l.drop i).head? = some l[i] := by rw [List.drop_eq_getElem_cons h, List.head?_cons]
theorem bt_is {l : List UInt8} {i : Nat} (h : i < l.length) (c : Nat) (hc : c < 256) : (bt (bs l) ((i : Nat) : Int) = (c : Int)) ↔ l[i] = UInt8.ofNat c := by
  rw [bt_nat h]
  constructor
  · intro e
    apply UInt8.toNat_inj.1
    rw [UInt8.toNat_ofNat_of_lt' (by simpa [UInt8.size] using hc)]
    omega
  · intro e
    rw [e, UInt8.toNat_ofNat_of_lt' (by simpa [UInt8.size] using hc)]
theorem bt_beq {l : List UInt8} {i : Nat} (h : i < l.length) (c : Nat) (hc : c < 256) : (bt (bs l) ((i : Nat) : Int) == (c : Int)) = (l[i] == UInt8.ofNat c) := by
  rw [Bool.eq_iff_iff, beq_iff_eq, beq_iff_eq]; exact bt_is h c hc
theorem read_j6 (l : List UInt8) (hl : l.length ≤ 64) (g : Bool) (i : Nat) (hi : i ≤ l.length) (dg : List UInt8) (ex : Int) (hdg : dg.length ≤ 64) (hex1 : -64 ≤ ex) (hex2 : ex ≤ 0) (down : Bool) (hdown : down = ((l.drop i).head? == some 45)) :
    Ev (fun k => rhizomeref02_Read.j6 k (bs l) g (i : Nat) down (bs dg) ex) (enc (if headS (l.drop i) then readX g down dg ex (l.drop i).tail else readX g false dg ex (l.drop i))) := by
  have w1 : wrap64 (((i : Nat) : Int) + 1) = ((i + 1 : Nat) : Int) := by rw [w64 (by omega) (by omega)]; rfl
  have s7t := fun k => e7t k (bs l) g down ((i : Nat) : Int) (bs dg) ex
  have s7f := fun k => e7f k (bs l) g down ((i : Nat) : Int) (bs dg) ex
  by_cases c : i < l.length
  · have hs : headS (l.drop i) = (l[i] == 43 || l[i] == 45) := by rw [List.drop_eq_getElem_cons c]; rfl
    have step : ∀ k, rhizomeref02_Read.j6 (k + 1) (bs l) g (i : Nat) down (bs dg) ex = (if (bt (bs l) (i : Nat)) = 45 then (rhizomeref02_Read.j7 k (bs l) g (i : Nat) down true (bs dg) ex) else (rhizomeref02_Read.j7 k (bs l) g (i : Nat) down ((bt (bs l) (i : Nat)) == 43) (bs dg) ex)) := by
      intro k
      rw [e6, if_pos (by rw [bs_size]; omega), if_pos (by omega)]
    have h45 : bt (bs l) ((i : Nat) : Int) = 45 ↔ l[i] = 45 := bt_is c 45 (by omega)
    have h43 := bt_beq c 43 (by omega)
    by_cases d : l[i] = 45
    · have hsT : headS (l.drop i) = true := by rw [hs, d]; rfl
      rw [if_pos hsT, drop_tail c]
      have := read_j8 l hl g down (i + 1) (by omega) dg ex hdg hex1 hex2
      exact Ev.step step (Ev.congr (fun k => by rw [if_pos (h45.2 d)]) (Ev.step s7t (by rw [w1]; exact this)))
    · by_cases e : l[i] = 43
      · have hsT : headS (l.drop i) = true := by rw [hs, e]; rfl
        rw [if_pos hsT, drop_tail c]
        have := read_j8 l hl g down (i + 1) (by omega) dg ex hdg hex1 hex2
        have h43' : (bt (bs l) ((i : Nat) : Int) == 43) = true := by
          have := h43
          rw [e] at this
          exact this
        exact Ev.step step (Ev.congr (fun k => by rw [if_neg (fun h => d (h45.1 h)), h43']) (Ev.step s7t (by rw [w1]; exact this)))
      · have hsF : headS (l.drop i) = false := by rw [hs]; simp [d, e]
        rw [hsF, if_neg (by decide)]
        have hdn : down = false := by rw [hdown, drop_head c]; simpa using d
        subst hdn
        have := read_j8 l hl g false i hi dg ex hdg hex1 hex2
        have h43' : (bt (bs l) ((i : Nat) : Int) == 43) = false := by
          have h := h43
          rw [beq_eq_false_iff_ne.2 (show l[i] ≠ UInt8.ofNat 43 from e)] at h
          exact h
        exact Ev.step step (Ev.congr (fun k => by rw [if_neg (fun h => d (h45.1 h)), h43']) (Ev.step s7f this))
  · have hz : l.drop i = [] := List.drop_eq_nil_of_le (by omega)
    have hdn : down = false := by rw [hdown, hz]; rfl
    subst hdn
    rw [hz]
    have := read_j8 l hl g false i hi dg ex hdg hex1 hex2
    rw [hz] at this
    have h7 : Ev (fun k => rhizomeref02_Read.j7 k (bs l) g (i : Nat) false false (bs dg) ex) _ := Ev.step s7f this
    refine Ev.step (fun k => ?_) h7
    rw [e6, if_neg (by rw [bs_size]; omega)]
theorem read_j4 (l : List UInt8) (hl : l.length ≤ 64) (g : Bool) (i : Nat) (hi : i ≤ l.length) (dg : List UInt8) (ex : Int) (hdg : dg.length ≤ 64) (hex1 : -64 ≤ ex) (hex2 : ex ≤ 0) :
    Ev (fun k => rhizomeref02_Read.j4 k (bs l) g (i : Nat) (bs dg) ex) (enc (readE g dg ex (l.drop i))) := by
  have w1 : wrap64 (((i : Nat) : Int) + 1) = ((i + 1 : Nat) : Int) := by rw [w64 (by omega) (by omega)]; rfl
  have hc := cut_ev dg ex (by omega) (by omega) (by omega)
  have no : Ev (fun k => rhizomeref02_Read.j5 k (bs l) g (i : Nat) false (bs dg) ex) (enc (fin g dg ex (l.drop i).isEmpty)) := by
    have s5 := fun k => e5f k (bs l) g ((i : Nat) : Int) (bs dg) ex
    rw [← isEmpty_drop hi]
    exact Ev.step s5 (Ev.bind hc (Ev.now _))
  unfold readE
  by_cases c : i < l.length
  · have hs : headE (l.drop i) = (l[i] == 101 || l[i] == 69) := by rw [List.drop_eq_getElem_cons c]; rfl
    have step : ∀ k, rhizomeref02_Read.j4 (k + 1) (bs l) g (i : Nat) (bs dg) ex = (if (bt (bs l) (i : Nat)) = 101 then (rhizomeref02_Read.j5 k (bs l) g (i : Nat) true (bs dg) ex) else (rhizomeref02_Read.j5 k (bs l) g (i : Nat) ((bt (bs l) (i : Nat)) == 69) (bs dg) ex)) := by
      intro k
      rw [e4, if_pos (by rw [bs_size]; omega), if_pos (by omega)]
    have h101 : bt (bs l) ((i : Nat) : Int) = 101 ↔ l[i] = 101 := bt_is c 101 (by omega)
    have h69 := bt_beq c 69 (by omega)
    have yes : Ev (fun k => rhizomeref02_Read.j5 k (bs l) g (i : Nat) true (bs dg) ex) (enc (if headS (l.drop i).tail then readX g ((l.drop i).tail.head? == some 45) dg ex (l.drop i).tail.tail else readX g false dg ex (l.drop i).tail)) := by
      rw [drop_tail c]
      have h6 := read_j6 l hl g (i + 1) (by omega) dg ex hdg hex1 hex2 _ rfl
      by_cases c2 : i + 1 < l.length
      · refine Ev.step (fun k => ?_) h6
        rw [e5t, w1, if_pos (by rw [bs_size]; omega), if_pos (by omega)]
        have : (bt (bs l) ((i + 1 : Nat) : Int) == 45) = ((l.drop (i + 1)).head? == some 45) := by
          have h := bt_beq c2 45 (by omega)
          rw [drop_head c2]
          refine Eq.trans h ?_
          simp
        rw [this]
      · have hz : l.drop (i + 1) = [] := List.drop_eq_nil_of_le (by omega)
        rw [hz] at h6 ⊢
        refine Ev.step (fun k => ?_) h6
        rw [e5t, w1, if_neg (by rw [bs_size]; omega)]
        rfl
    by_cases d : l[i] = 101
    · have hsT : headE (l.drop i) = true := by rw [hs, d]; rfl
      rw [if_pos hsT]
      exact Ev.step step (Ev.congr (fun k => by rw [if_pos (h101.2 d)]) yes)
    · by_cases e : l[i] = 69
      · have hsT : headE (l.drop i) = true := by rw [hs, e]; rfl
        rw [if_pos hsT]
        have h69' : (bt (bs l) ((i : Nat) : Int) == 69) = true := by
          have h := h69
          rw [e] at h
          exact h
        exact Ev.step step (Ev.congr (fun k => by rw [if_neg (fun h => d (h101.1 h)), h69']) yes)
      · have hsF : headE (l.drop i) = false := by rw [hs]; simp [d, e]
        rw [hsF, if_neg (by decide)]
        have h69' : (bt (bs l) ((i : Nat) : Int) == 69) = false := by
          have h := h69
          rw [beq_eq_false_iff_ne.2 (show l[i] ≠ UInt8.ofNat 69 from e)] at h
          exact h
        exact Ev.step step (Ev.congr (fun k => by rw [if_neg (fun h => d (h101.1 h)), h69']) no)
  · have hz : l.drop i = [] := List.drop_eq_nil_of_le (by omega)
    rw [hz] at no ⊢
    refine Ev.step (fun k => ?_) no
    rw [e4, if_neg (by rw [bs_size]; omega)]
end Go.Proofs.YtapinbbflfkglaaGreatDoor.PFloatsParses
namespace Go.Proofs.YtapinbbflfkglaaGreatDoor.PFloatsParses
open Go.RowKit Go.Proofs.YtapinbbflfkglaaGreatDoorW.PrintWords Go.Proofs.YtapinbbflfkglaaGreatDoorW.PrintLast Go.Proofs.YtapinbbflfkglaaGreatDoorW.PrintMore
set_option maxRecDepth 100000
theorem bs_ext (l : List UInt8) (a c : Nat) : (bs l).extract a c = bs ((l.drop a).take (c - a)) := by
  apply ByteArray.ext
  rw [ByteArray.data_extract]
  show l.toArray.extract a c = ((l.drop a).take (c - a)).toArray
  rw [List.extract_toArray]
theorem bs_app (a c : List UInt8) : bs a ++ bs c = bs (a ++ c) := by
  apply ByteArray.ext
  show (bs a ++ bs c).data = (a ++ c).toArray
  rw [ByteArray.data_append]
  show a.toArray ++ c.toArray = _
  simp
theorem pre46 (b : List UInt8) : Lib.hasPrefix b [46] = (b.head? == some 46) := by
  cases b with
  | nil => rfl
  | cons x t => simp [Lib.hasPrefix, List.isPrefixOf]; rw [Bool.eq_iff_iff, beq_iff_eq, beq_iff_eq]; exact eq_comm
theorem read_j3 (l : List UInt8) (hl : l.length ≤ 64) (g : Bool) (i : Nat) (hi : i ≤ l.length) (I : List UInt8) (hI : I.length ≤ i) (t : Bool) (ht : t = Lib.hasPrefix (l.drop i) [46]) :
    Ev (fun k => rhizomeref02_Read.j3 k (bs l) g (i : Nat) t (bs I) 0) (enc (readB g I (l.drop i))) := by
  unfold readB
  cases t with
  | false =>
    rw [← ht, if_neg (by decide)]
    exact Ev.step (fun k => e3f k (bs l) g ((i : Nat) : Int) (bs I) 0) (read_j4 l hl g i hi I 0 (by omega) (by omega) (by omega))
  | true =>
    rw [← ht, if_pos rfl]
    have hlt : i < l.length := by
      apply Classical.byContradiction
      intro c
      rw [List.drop_eq_nil_of_le (by omega)] at ht
      exact absurd ht (by decide)
    rw [drop_tail hlt]
    have w1 : wrap64 (((i : Nat) : Int) + 1) = ((i + 1 : Nat) : Int) := by rw [w64 (by omega) (by omega)]; rfl
    have step := fun k => e3t k (bs l) g ((i : Nat) : Int) (bs I) 0
    rw [w1] at step
    have hd := digits_ev l hl (i + 1) (by omega)
    have hrl := run_le (l.drop (i + 1))
    rw [List.length_drop] at hrl
    obtain ⟨n, hn⟩ : ∃ n, n = runL (l.drop (i + 1)) := ⟨_, rfl⟩
    rw [← hn] at hd hrl ⊢
    by_cases c : n = 0
    · rw [if_pos c]
      subst c
      exact Ev.step step (Ev.bind hd (Ev.congr (fun k => by rw [if_pos (by rfl)]; rfl) (Ev.now (enc noRd))))
    · rw [if_neg c]
      have e1 : wrap64 (((i + 1 : Nat) : Int) + ((n : Nat) : Int)) = ((i + 1 + n : Nat) : Int) := by rw [w64 (by omega) (by omega)]; omega
      have e2 : wrap64 (((i : Nat) : Int) + wrap64 (1 + ((n : Nat) : Int))) = ((i + 1 + n : Nat) : Int) := by rw [w64 (x := 1 + ((n : Nat) : Int)) (by omega) (by omega), w64 (by omega) (by omega)]; omega
      have e3 : wrap64 (-((n : Nat) : Int)) = -((n : Nat) : Int) := w64 (by omega) (by omega)
      have e4 : (bs l).extract (((i + 1 : Nat) : Int).toNat) (((i + 1 + n : Nat) : Int).toNat) = bs ((l.drop (i + 1)).take n) := by
        rw [Int.toNat_natCast, Int.toNat_natCast, bs_ext, show i + 1 + n - (i + 1) = n by omega]
      have hlen : ((l.drop (i + 1)).take n).length ≤ n := by rw [List.length_take]; omega
      have h4 := read_j4 l hl g (i + 1 + n) (by omega) (I ++ (l.drop (i + 1)).take n) (-((n : Nat) : Int)) (by rw [List.length_append]; omega) (by omega) (by omega)
      rw [List.drop_drop]
      refine Ev.step step (Ev.bind hd (Ev.congr (fun k => ?_) h4))
      rw [if_neg (by omega), if_pos (by omega), e1, if_pos (by omega), if_pos (by rw [bs_size]; omega), e2, e3, e4, if_pos (by rw [bs_size, bs_size]; omega), bs_app]
theorem read_j1 (l : List UInt8) (hl : l.length ≤ 64) (g : Bool) (i : Nat) (hi : i ≤ l.length) :
    Ev (fun k => rhizomeref02_Read.j1 k (bs l) g (i : Nat)) (enc (readN g (l.drop i))) := by
  have step := fun k => e1 k (bs l) g ((i : Nat) : Int)
  have hd := digits_ev l hl i hi
  have hrl := run_le (l.drop i)
  rw [List.length_drop] at hrl
  unfold readN
  obtain ⟨n, hn⟩ : ∃ n, n = runL (l.drop i) := ⟨_, rfl⟩
  rw [← hn] at hd hrl ⊢
  have no : Ev (fun k => rhizomeref02_Read.j2 k (bs l) g (i : Nat) ((n : Nat) : Int) true) (enc noRd) := Ev.step (f := fun _ => some (enc noRd)) (fun k => e2t k (bs l) g ((i : Nat) : Int) ((n : Nat) : Int)) (Ev.now _)
  have yes : Ev (fun k => rhizomeref02_Read.j2 k (bs l) g (i : Nat) ((n : Nat) : Int) false) (enc (readB g ((l.drop i).take n) (l.drop (i + n)))) := by
    have w1 : wrap64 (((i : Nat) : Int) + ((n : Nat) : Int)) = ((i + n : Nat) : Int) := by rw [w64 (by omega) (by omega)]; omega
    have e4 : (bs l).extract (((i : Nat) : Int).toNat) (((i + n : Nat) : Int).toNat) = bs ((l.drop i).take n) := by
      rw [Int.toNat_natCast, Int.toNat_natCast, bs_ext, show i + n - i = n by omega]
    have h3 := read_j3 l hl g (i + n) (by omega) ((l.drop i).take n) (by rw [List.length_take]; omega) _ rfl
    refine Ev.step (fun k => ?_) h3
    rw [e2f, w1, if_pos (by omega), if_pos (by omega), if_pos (by rw [bs_size]; omega), e4]
    by_cases c : i + n < l.length
    · rw [if_pos (by rw [bs_size]; omega), if_pos (by omega)]
      have : (bt (bs l) ((i + n : Nat) : Int) == 46) = Lib.hasPrefix (l.drop (i + n)) [46] := by
        have h := bt_beq c 46 (by omega)
        rw [pre46, drop_head c]
        refine Eq.trans h ?_
        simp
      rw [this]
    · rw [if_neg (by rw [bs_size]; omega), List.drop_eq_nil_of_le (show l.length ≤ i + n by omega)]
      rfl
  by_cases c : n = 0
  · rw [if_pos (.inl c)]
    subst c
    exact Ev.step step (Ev.bind hd (Ev.congr (fun k => by rw [if_pos (by rfl)]) no))
  · by_cases c2 : 1 < n
    · have hlt : i < l.length := by omega
      have h48 := bt_beq hlt 48 (by omega)
      have hh := drop_head hlt
      rw [hh]
      by_cases c3 : l[i] = 48
      · rw [if_pos (.inr ⟨c2, by rw [c3]⟩)]
        refine Ev.step step (Ev.bind hd (Ev.congr (fun k => ?_) no))
        rw [if_neg (by omega), if_pos (by omega), if_pos (by omega), if_pos (by rw [bs_size]; omega)]
        have : (bt (bs l) ((i : Nat) : Int) == 48) = true := by
          have h := h48
          rw [c3] at h
          exact h
        rw [this]
      · rw [if_neg (by rintro (h | ⟨_, h⟩); exact c h; exact c3 (by simpa using h)), List.drop_drop]
        refine Ev.step step (Ev.bind hd (Ev.congr (fun k => ?_) yes))
        rw [if_neg (by omega), if_pos (by omega), if_pos (by omega), if_pos (by rw [bs_size]; omega)]
        have : (bt (bs l) ((i : Nat) : Int) == 48) = false := by
          have h := h48
          rw [beq_eq_false_iff_ne.2 (show l[i] ≠ UInt8.ofNat 48 from c3)] at h
          exact h
        rw [this]
    · rw [if_neg (by rintro (h | ⟨h, _⟩) <;> omega), List.drop_drop]
      refine Ev.step step (Ev.bind hd (Ev.congr (fun k => ?_) yes))
      rw [if_neg (by omega), if_neg (by omega)]
theorem take_run (z : List UInt8) : allD (z.take (runL z)) := by
  intro c hc
  obtain ⟨j, hj, rfl⟩ := List.getElem_of_mem hc
  rw [List.length_take] at hj
  rw [List.getElem_take]
  exact run_dig z j (by omega) (by omega)
theorem take_run_ne {z : List UInt8} (h : runL z ≠ 0) : z.take (runL z) ≠ [] := by
  intro e
  have h1 := congrArg List.length e
  rw [List.length_take, List.length_nil] at h1
  have h2 := run_le z
  omega
theorem readX_ok {g down : Bool} {dg : List UInt8} {ex : Int} {z : List UInt8} :
    (readX g down dg ex z).2.2.2 = expo z ∧ (expo z = true → allD z ∧ z ≠ [] ∧ readX g down dg ex z = fin g dg (if down then ex - (xF z 0 : Nat) else ex + (xF z 0 : Nat)) true) := by
  unfold readX expo
  by_cases c : runL z = 0
  · rw [if_pos c, c]
    exact ⟨rfl, fun h => by cases h⟩
  · rw [if_neg c]
    have hb : (runL z != 0) = true := by simpa using c
    rw [hb, Bool.true_and]
    refine ⟨rfl, fun h => ?_⟩
    have hd : z.drop (runL z) = [] := List.isEmpty_iff.1 h
    have ht : z.take (runL z) = z := by
      have := List.take_append_drop (runL z) z
      rw [hd, List.append_nil] at this
      exact this
    rw [h, ht]
    refine ⟨?_, ?_, rfl⟩
    · have := take_run z; rwa [ht] at this
    · rintro rfl; exact c rfl
theorem readE_ok {g : Bool} {dg : List UInt8} {ex : Int} {z : List UInt8} :
    (readE g dg ex z).2.2.2 = formE z ∧ (formE z = true → (z = [] ∧ readE g dg ex z = fin g dg ex true) ∨
      ∃ c k es, z = c :: (sgX k ++ es) ∧ (c = 101 ∨ c = 69) ∧ k ≤ 2 ∧ allD es ∧ es ≠ [] ∧ readE g dg ex z = fin g dg (ex + if k = 2 then -((xF es 0 : Nat) : Int) else ((xF es 0 : Nat) : Int)) true) := by
  unfold readE formE
  by_cases c : headE z = true
  · rw [if_pos c, if_pos c]
    obtain ⟨x, t, rfl⟩ : ∃ x t, z = x :: t := by
      cases z with
      | nil => exact absurd c (by decide)
      | cons x t => exact ⟨x, t, rfl⟩
    have hx : x = 101 ∨ x = 69 := by
      unfold headE at c
      rw [Bool.or_eq_true, beq_iff_eq, beq_iff_eq] at c
      exact c
    rw [List.tail_cons]
    by_cases d : headS t = true
    · rw [if_pos d, if_pos d]
      obtain ⟨y, r, rfl⟩ : ∃ y r, t = y :: r := by
        cases t with
        | nil => exact absurd d (by decide)
        | cons y r => exact ⟨y, r, rfl⟩
      have hy : y = 43 ∨ y = 45 := by
        unfold headS at d
        rw [Bool.or_eq_true, beq_iff_eq, beq_iff_eq] at d
        exact d
      rw [List.tail_cons, List.head?_cons]
      refine ⟨readX_ok.1, fun h => .inr ?_⟩
      obtain ⟨a1, a2, a3⟩ := (readX_ok (g := g) (down := (some y == some 45)) (dg := dg) (ex := ex)).2 h
      rcases hy with rfl | rfl
      · refine ⟨x, 1, r, rfl, hx, by omega, a1, a2, ?_⟩
        rw [a3, if_neg (by decide), if_neg (by decide)]
      · refine ⟨x, 2, r, rfl, hx, by omega, a1, a2, ?_⟩
        rw [a3, if_pos (by decide), if_pos rfl, Int.sub_eq_add_neg]
    · rw [if_neg d, if_neg d]
      refine ⟨readX_ok.1, fun h => .inr ?_⟩
      obtain ⟨a1, a2, a3⟩ := (readX_ok (g := g) (down := false) (dg := dg) (ex := ex)).2 h
      refine ⟨x, 0, t, rfl, hx, by omega, a1, a2, ?_⟩
      rw [a3, if_neg (by decide), if_neg (by decide)]
  · rw [if_neg c, if_neg c]
    refine ⟨rfl, fun h => .inl ⟨List.isEmpty_iff.1 h, ?_⟩⟩
    rw [h]
def behindR (X : List UInt8) (y : Int) : Prop :=
  (X = [] ∧ y = 0) ∨ ∃ c k es, X = c :: (sgX k ++ es) ∧ (c = 101 ∨ c = 69) ∧ k ≤ 2 ∧ allD es ∧ es ≠ [] ∧ y = if k = 2 then -((xF es 0 : Nat) : Int) else ((xF es 0 : Nat) : Int)
theorem readB_ok {g : Bool} {I b : List UInt8} :
    (readB g I b).2.2.2 = formB b ∧ (formB b = true → ∃ F X y, b = dotF F ++ X ∧ allD F ∧ behindR X y ∧ readB g I b = fin g (I ++ F) (y - (F.length : Nat)) true) := by
  unfold readB formB
  by_cases c : Lib.hasPrefix b [46] = true
  · rw [if_pos c, if_pos c]
    have ht : Lib.trimPrefix b [46] = b.tail := by
      unfold Lib.trimPrefix
      rw [if_pos c]
      cases b <;> rfl
    obtain ⟨t, rfl⟩ : ∃ t, b = 46 :: t := by
      cases b with
      | nil => exact absurd c (by decide)
      | cons x t => rw [pre46, List.head?_cons, beq_iff_eq] at c; injection c with c; exact ⟨t, by rw [c]⟩
    rw [ht, List.tail_cons]
    by_cases d : runL t = 0
    · rw [if_pos d, if_pos d]
      exact ⟨rfl, fun h => absurd h (by decide)⟩
    · rw [if_neg d, if_neg d]
      refine ⟨readE_ok.1, fun h => ?_⟩
      have hF := take_run t
      have hF0 := take_run_ne d
      have hlen : (t.take (runL t)).length = runL t := by rw [List.length_take]; have := run_le t; omega
      have hb : ∀ X, t.drop (runL t) = X → 46 :: t = dotF (t.take (runL t)) ++ X := by
        intro X hX
        unfold dotF
        rw [if_neg hF0, List.cons_append, ← hX, List.take_append_drop]
      rcases (readE_ok (g := g) (dg := I ++ t.take (runL t)) (ex := -((runL t : Nat) : Int))).2 h with ⟨a, e⟩ | ⟨x, k, es, a, a1, a2, a3, a4, e⟩
      · refine ⟨_, [], 0, hb _ a, hF, .inl ⟨rfl, rfl⟩, ?_⟩
        rw [e, hlen]
        congr 1
        omega
      · refine ⟨_, _, _, hb _ a, hF, .inr ⟨x, k, es, rfl, a1, a2, a3, a4, rfl⟩, ?_⟩
        rw [e, hlen]
        congr 1
        omega
  · rw [if_neg c, if_neg c]
    refine ⟨readE_ok.1, fun h => ?_⟩
    rcases (readE_ok (g := g) (dg := I) (ex := 0)).2 h with ⟨a, e⟩ | ⟨x, k, es, a, a1, a2, a3, a4, e⟩
    · refine ⟨[], [], 0, by rw [a]; rfl, fun _ h => absurd h (by simp), .inl ⟨rfl, rfl⟩, ?_⟩
      rw [e, List.append_nil]
      rfl
    · refine ⟨[], _, _, by rw [a]; rfl, fun _ h => absurd h (by simp), .inr ⟨x, k, es, rfl, a1, a2, a3, a4, rfl⟩, ?_⟩
      rw [e, List.append_nil]
      congr 1
      show 0 + _ = _ - ((0 : Nat) : Int)
      omega
theorem readN_ok {g : Bool} {a : List UInt8} :
    (readN g a).2.2.2 = formN a ∧ (formN a = true → ∃ I F X y, a = I ++ (dotF F ++ X) ∧ allD I ∧ I ≠ [] ∧ allD F ∧ behindR X y ∧ readN g a = fin g (I ++ F) (y - (F.length : Nat)) true) := by
  unfold readN formN
  by_cases c : runL a = 0 ∨ (1 < runL a ∧ a.head? = some 48)
  · rw [if_pos c, if_pos c]
    exact ⟨rfl, fun h => absurd h (by decide)⟩
  · rw [if_neg c, if_neg c]
    refine ⟨readB_ok.1, fun h => ?_⟩
    obtain ⟨F, X, y, e1, e2, e3, e4⟩ := (readB_ok (g := g) (I := a.take (runL a))).2 h
    refine ⟨a.take (runL a), F, X, y, ?_, take_run a, take_run_ne (fun e => c (.inl e)), e2, e3, e4⟩
    rw [← e1, List.take_append_drop]
theorem readL_ok {l : List UInt8} :
    (readL l).2.2.2 = formL l ∧ (formL l = true → ∃ g I F X y, l = sgB g ++ (I ++ (dotF F ++ X)) ∧ l.length ≤ 64 ∧ allD I ∧ I ≠ [] ∧ allD F ∧ behindR X y ∧ readL l = fin g (I ++ F) (y - (F.length : Nat)) true) := by
  unfold readL formL
  by_cases c : l = [] ∨ 64 < l.length
  · rw [if_pos c, if_pos c]
    exact ⟨rfl, fun h => absurd h (by decide)⟩
  · rw [if_neg c, if_neg c]
    refine ⟨readN_ok.1, fun h => ?_⟩
    obtain ⟨I, F, X, y, e1, e2, e3, e4, e5, e6⟩ := (readN_ok (g := (l.head? == some 45))).2 h
    refine ⟨_, I, F, X, y, ?_, by omega, e2, e3, e4, e5, e6⟩
    rw [← e1]
    cases l with
    | nil => exact absurd rfl (fun e => c (.inl e))
    | cons x t =>
      unfold Lib.trimPrefix
      by_cases hx : x = 45
      · subst hx
        rw [if_pos (by simp [Lib.hasPrefix, List.isPrefixOf])]
        rfl
      · rw [if_neg (by simp [Lib.hasPrefix, List.isPrefixOf]; exact fun e => hx e.symm)]
        have : ((x :: t).head? == some 45) = false := by simpa using hx
        rw [this]
        rfl
end Go.Proofs.YtapinbbflfkglaaGreatDoor.PFloatsParses
namespace Go.Proofs.YtapinbbflfkglaaGreatDoor.PFloatsParses
open Go.RowKit Go.Proofs.YtapinbbflfkglaaGreatDoorW.PrintWords Go.Proofs.YtapinbbflfkglaaGreatDoorW.PrintLast Go.Proofs.YtapinbbflfkglaaGreatDoorW.PrintMore
open Go.Proofs.YtapinbbflfkglaaGreatDoor.Fp (IsNear mid)
set_option maxRecDepth 100000
theorem read_f (l : List UInt8) : Ev (fun k => rhizomeref02_Read.f k (bs l)) (enc (readL l)) := by
  unfold readL
  have no : Ev (fun k => rhizomeref02_Read.j0 k (bs l) true) (enc noRd) := Ev.step (f := fun _ => some (enc noRd)) (fun k => e0t k (bs l)) (Ev.now _)
  by_cases c : l = []
  · rw [if_pos (.inl c)]
    subst c
    refine Ev.congr (fun k => ?_) no
    unfold rhizomeref02_Read.f
    rw [if_pos (by rw [bs_size]; decide)]
  · have h1 : 0 < l.length := List.length_pos_iff.2 c
    by_cases c2 : 64 < l.length
    · rw [if_pos (.inr c2)]
      refine Ev.congr (fun k => ?_) no
      unfold rhizomeref02_Read.f
      rw [if_neg (by rw [bs_size]; omega), decide_eq_true (show ((bs l).size : Int) > 64 by rw [bs_size]; omega)]
    · rw [if_neg (by rintro (h | h); exact c h; exact c2 h)]
      have h45 := bt_is h1 45 (by omega)
      have h45b := bt_beq h1 45 (by omega)
      have hh : l.head? = some l[0] := by
        cases l with
        | nil => exact absurd rfl c
        | cons x t => rfl
      have step : ∀ k, rhizomeref02_Read.f (k + 1) (bs l) = (if (bt (bs l) 0) = 45 then (rhizomeref02_Read.j1 k (bs l) ((bt (bs l) 0) == 45) 1) else (rhizomeref02_Read.j1 k (bs l) ((bt (bs l) 0) == 45) 0)) := by
        intro k
        unfold rhizomeref02_Read.f
        rw [if_neg (by rw [bs_size]; omega), decide_eq_false (show ¬ ((bs l).size : Int) > 64 by rw [bs_size]; omega), e0f, if_pos (by rw [bs_size]; omega)]
      rw [hh]
      by_cases d : l[0] = 45
      · have hg : (some l[0] == some (45 : UInt8)) = true := by rw [d]; rfl
        have ht : Lib.trimPrefix l [45] = l.drop 1 := by
          cases l with
          | nil => exact absurd rfl c
          | cons x t =>
            have : x = 45 := d
            subst this
            unfold Lib.trimPrefix
            rw [if_pos (by simp [Lib.hasPrefix, List.isPrefixOf])]
            rfl
        rw [hg, ht]
        have := read_j1 l (by omega) true 1 (by omega)
        refine Ev.step step (Ev.congr (fun k => ?_) this)
        have hb : (bt (bs l) 0 == 45) = true := by
          have h := h45b
          rw [d] at h
          exact h
        rw [if_pos (show bt (bs l) 0 = 45 from h45.2 d), hb]
        rfl
      · have hg : (some l[0] == some (45 : UInt8)) = false := by simpa using d
        have ht : Lib.trimPrefix l [45] = l.drop 0 := by
          cases l with
          | nil => exact absurd rfl c
          | cons x t =>
            have hx : x ≠ 45 := d
            unfold Lib.trimPrefix
            rw [if_neg (by simp [Lib.hasPrefix, List.isPrefixOf]; exact fun e => hx e.symm)]
            rfl
        rw [hg, ht]
        have := read_j1 l (by omega) false 0 (by omega)
        refine Ev.step step (Ev.congr (fun k => ?_) this)
        have hb : (bt (bs l) 0 == 45) = false := by
          have h := h45b
          rw [beq_eq_false_iff_ne.2 (show l[0] ≠ UInt8.ofNat 45 from d)] at h
          exact h
        rw [if_neg (show ¬ bt (bs l) 0 = 45 from fun h => d (h45.1 h)), hb]
        rfl
theorem low_snoc : ∀ (t : List Nat) (d : Nat), low (t ++ [d]) = low t + d * 10 ^ t.length
  | [], d => by simp [low]
  | a :: r, d => by
    rw [List.cons_append]
    show a + 10 * low (r ++ [d]) = a + 10 * low r + d * 10 ^ (r.length + 1)
    rw [low_snoc r d, Nat.pow_succ, Nat.mul_add, ← Nat.add_assoc, Nat.mul_comm 10 (d * 10 ^ r.length), Nat.mul_assoc]
theorem numF_low : ∀ (l : List UInt8) (m : Nat), numF l m = m * 10 ^ l.length + low ((l.map fun c => c.toNat - 48).reverse)
  | [], m => by simp [numF, low]
  | c :: cs, m => by
    show numF cs (m * 10 + (c.toNat - 48)) = _
    rw [numF_low cs, List.map_cons, List.reverse_cons, low_snoc, List.length_reverse, List.length_map, List.length_cons, Nat.pow_succ, Nat.add_mul, Nat.mul_assoc m, Nat.mul_comm 10]
    omega
theorem back_dB {l : List UInt8} (h : allD l) : (l.map fun c => c.toNat - 48).map dB = l := by
  rw [List.map_map]
  have : ∀ c ∈ l, (dB ∘ fun c : UInt8 => c.toNat - 48) c = c := by
    intro c hc
    obtain ⟨a, b⟩ := dig_iff.1 (h c hc)
    show UInt8.ofNat (48 + (c.toNat - 48)) = c
    rw [show 48 + (c.toNat - 48) = c.toNat by omega, UInt8.ofNat_toNat]
  conv => rhs; rw [← List.map_id l]
  exact List.map_congr_left (fun c hc => by rw [this c hc]; rfl)
theorem cutP_canon {dl : List UInt8} (h : allD dl) (x : Int) : Canon (numF dl 0) x (cutP dl x).1 (cutP dl x).2 := by
  have hd : ∀ d ∈ (dl.map fun c => c.toNat - 48).reverse, d < 10 := by
    intro d hd
    rw [List.mem_reverse, List.mem_map] at hd
    obtain ⟨c, hc, rfl⟩ := hd
    obtain ⟨a, b⟩ := dig_iff.1 (h c hc)
    omega
  have := cut_canon (dl.map fun c => c.toNat - 48).reverse hd x
  rw [List.reverse_reverse, back_dB h] at this
  rw [numF_low, Nat.zero_mul, Nat.zero_add]
  exact this
theorem numF_lt {l : List UInt8} (h : allD l) : numF l 0 < 10 ^ l.length := by
  have key : ∀ (l : List UInt8) (m n : Nat), allD l → m < 10 ^ n → numF l m < 10 ^ (n + l.length) := by
    intro l
    induction l with
    | nil => intro m n _ hm; exact hm
    | cons c cs ih =>
      intro m n hl hm
      obtain ⟨a, b⟩ := dig_iff.1 (hl c (List.mem_cons_self ..))
      have := ih (m * 10 + (c.toNat - 48)) (n + 1) (fun x hx => hl x (List.mem_cons_of_mem _ hx)) (by rw [Nat.pow_succ]; omega)
      rw [List.length_cons, show n + (cs.length + 1) = n + 1 + cs.length by omega]
      exact this
  have := key l 0 0 h (by decide)
  rwa [Nat.zero_add] at this
theorem xF_bd {X : List UInt8} {y : Int} (h : behindR X y) : -100000 ≤ y ∧ y ≤ 100000 := by
  rcases h with ⟨_, h⟩ | ⟨c, k, es, _, _, _, _, _, h⟩
  · omega
  · have := xF_le es 0 (by omega)
    rw [h]; split <;> omega
def RefAns (g : Bool) (D : Nat) (x : Int) (r : Int × Int) : Prop :=
  (∃ q : Nat, r = (((sgN g + q : Nat) : Int), 0) ∧ q < 9218868437227405312 ∧ IsNear (nN D x) (nD x) q) ∨ (r = (0, 21) ∧ mid 9218868437227405311 * nD x ≤ nN D x)
theorem nN_shift (w z : Nat) (x : Int) : nN (w * 10 ^ z) x * nD (x + (z : Nat)) = nN w (x + (z : Nat)) * nD x := by
  unfold nN nD
  have e : (10 : Nat) ^ z * 10 ^ x.toNat * 10 ^ (-(x + (z : Int))).toNat = 10 ^ (x + (z : Int)).toNat * 10 ^ (-x).toNat := by
    rw [← Nat.pow_add, ← Nat.pow_add, ← Nat.pow_add]; congr 1; omega
  generalize (2 : Nat) ^ 1075 = T
  generalize (10 : Nat) ^ (-(x + (z : Int))).toNat = a at *
  generalize (10 : Nat) ^ (x + (z : Int)).toNat = c at *
  generalize (10 : Nat) ^ (-x).toNat = f at *
  generalize (10 : Nat) ^ x.toNat = h at *
  generalize (10 : Nat) ^ z = k at *
  calc w * k * h * T * a = w * T * (k * h * a) := by grind
    _ = w * T * (c * f) := by rw [e]
    _ = _ := by grind
set_option exponentiation.threshold 3000 in
theorem parse_ref_ok {l : List UInt8} {g : Bool} {I F X : List UInt8} {y : Int} (hl : l = sgB g ++ (I ++ (dotF F ++ X))) (hlen : l.length ≤ 64) (hI : allD I) (hF : allD F) (hX : behindR X y) (hr : readL l = fin g (I ++ F) (y - (F.length : Nat)) true) :
    ∃ r, Ev (fun k => rhizomeref02_Parse.f k (bs l)) r ∧ RefAns g (numF (I ++ F) 0) (y - (F.length : Nat)) r := by
  have hIF : allD (I ++ F) := by intro c hc; rw [List.mem_append] at hc; rcases hc with h | h; exact hI c h; exact hF c h
  have hcan := cutP_canon hIF (y - (F.length : Nat))
  have hlt := numF_lt hIF
  have hread := read_f l
  rw [hr] at hread
  have hy := xF_bd hX
  have hlenIF : (I ++ F).length ≤ 64 := by
    have := congrArg List.length hl
    rw [List.length_append, List.length_append, List.length_append] at this
    have hFl : F.length ≤ (dotF F).length := by
      unfold dotF; split
      · next e => rw [e]; simp
      · simp
    rw [List.length_append]
    omega
  have hFl : F.length ≤ 64 := by rw [List.length_append] at hlenIF; omega
  obtain ⟨x, hx⟩ : ∃ x, x = y - ((F.length : Nat) : Int) := ⟨_, rfl⟩
  rw [← hx] at hread hcan ⊢
  obtain ⟨D, hD⟩ : ∃ D, D = numF (I ++ F) 0 := ⟨_, rfl⟩
  rw [← hD] at hcan hlt ⊢
  have step := fun k => (show rhizomeref02_Parse.f k (bs l) = (rhizomeref02_Read.f k (bs l)).bind fun bt372 => (if bt372.2.2.2 = true then ((rhizomeref02_Nearest.f k bt372.2.1 bt372.2.2.1).bind fun bt377 => (if bt377.2 = true then (if bt372.1 = true then (some (IntKind.u64.wrap (bt377.1 + 9223372036854775808), 0)) else (some (bt377.1, 0))) else (some (0, 21)))) else (some (0, 20))) from rfl)
  have fine : ∀ q : Nat, q < 9218868437227405312 → Ev (fun k => rhizomeref02_Nearest.f k (bs (cutP (I ++ F) x).1) (cutP (I ++ F) x).2) (((q : Nat) : Int), true) → Ev (fun k => rhizomeref02_Parse.f k (bs l)) (((sgN g + q : Nat) : Int), 0) := by
    intro q hq hn
    refine Ev.congr step (Ev.bind hread ?_)
    refine Ev.congr (fun k => if_pos rfl) (Ev.bind hn ?_)
    refine Ev.congr (fun k => if_pos rfl) ?_
    cases g
    · refine Ev.congr (fun k => if_neg (show ¬ (false = true) by decide)) ?_
      rw [show sgN false + q = q by unfold sgN; simp]
      exact Ev.now _
    · refine Ev.congr (fun k => if_pos rfl) ?_
      have e : IntKind.u64.wrap (((q : Nat) : Int) + 9223372036854775808) = ((sgN true + q : Nat) : Int) := by
        rw [wrap_u64_mod]; unfold sgN; simp only [if_true]; omega
      show Ev (fun k => some (IntKind.u64.wrap (((q : Nat) : Int) + 9223372036854775808), 0)) _
      rw [e]
      exact Ev.now _
  have bad : Ev (fun k => rhizomeref02_Nearest.f k (bs (cutP (I ++ F) x).1) (cutP (I ++ F) x).2) (((0 : Nat) : Int), false) → Ev (fun k => rhizomeref02_Parse.f k (bs l)) (0, 21) := by
    intro hn
    refine Ev.congr step (Ev.bind hread ?_)
    refine Ev.congr (fun k => if_pos rfl) (Ev.bind hn ?_)
    exact Ev.congr (fun k => if_neg (by decide)) (Ev.now _)
  rcases hcan with ⟨h0, hc1, hc2⟩ | ⟨w, z, h1, h2, h3, h4⟩
  · refine ⟨_, fine 0 (by decide) ?_, .inl ⟨0, rfl, by decide, .inl rfl, .inl ?_⟩⟩
    · rw [hc1, hc2]; exact nearest_zero 0
    · rw [h0]
      have : mid 0 = 1 := by decide
      rw [this, Nat.one_mul]
      unfold nN
      rw [Nat.zero_mul, Nat.zero_mul]
      exact nD_pos x
  · have hw : 1 ≤ w := by
      apply Nat.pos_of_ne_zero
      rintro rfl
      exact h2 rfl
    have hp : 1 ≤ 10 ^ z := Nat.pow_pos (by omega)
    have hwD : w ≤ D := by rw [h1]; exact Nat.le_mul_of_pos_right _ hp
    have h64 : (10 : Nat) ^ (I ++ F).length ≤ 10 ^ 64 := Nat.pow_le_pow_right (n := 10) (by omega) hlenIF
    have hnd : Lib.nDigits w ≤ 64 := nDigits_le hw (by omega)
    have hz : z < 64 := by
      apply Classical.byContradiction
      intro c
      have : (10 : Nat) ^ 64 ≤ 10 ^ z := Nat.pow_le_pow_right (n := 10) (by omega) (by omega)
      have h5 : 1 * 10 ^ z ≤ w * 10 ^ z := Nat.mul_le_mul_right _ hw
      omega
    obtain ⟨n1, n2⟩ := nearest_ev (w := w) (e := x + (z : Nat)) hw (by omega) (by omega) (by omega)
    have hsh := nN_shift w z x
    rw [← h1] at hsh
    rw [← h3, ← h4] at n1 n2
    by_cases c : nN w (x + (z : Nat)) < mid 9218868437227405311 * nD (x + (z : Nat))
    · rw [← h4] at c
      obtain ⟨q, q1, q2, q3⟩ := n1 c
      rw [h4] at q2
      exact ⟨_, fine q (by omega) q1, .inl ⟨q, rfl, by omega, near_ratio (nD_pos _) (nD_pos _) hsh.symm q2⟩⟩
    · have c2 := c
      rw [← h4] at c2
      refine ⟨_, bad (n2 c2), .inr ⟨rfl, ?_⟩⟩
      apply Nat.le_of_mul_le_mul_right _ (nD_pos (x + (z : Nat)))
      rw [hsh, Nat.mul_right_comm]
      exact Nat.mul_le_mul_right _ (by omega)
theorem parse_ref_none {l : List UInt8} (h : formL l = false) : Ev (fun k => rhizomeref02_Parse.f k (bs l)) (0, 20) := by
  have hread := read_f l
  have hok := (readL_ok (l := l)).1
  rw [h] at hok
  have step := fun k => (show rhizomeref02_Parse.f k (bs l) = (rhizomeref02_Read.f k (bs l)).bind fun bt372 => (if bt372.2.2.2 = true then ((rhizomeref02_Nearest.f k bt372.2.1 bt372.2.2.1).bind fun bt377 => (if bt377.2 = true then (if bt372.1 = true then (some (IntKind.u64.wrap (bt377.1 + 9223372036854775808), 0)) else (some (bt377.1, 0))) else (some (0, 21)))) else (some (0, 20))) from rfl)
  refine Ev.congr step (Ev.bind hread ?_)
  refine Ev.congr (fun k => if_neg ?_) (Ev.now _)
  show ¬ (readL l).2.2.2 = true
  rw [hok]
  decide
theorem parse_ref (l : List UInt8) : (formL l = false ∧ Ev (fun k => rhizomeref02_Parse.f k (bs l)) (0, 20)) ∨
    (formL l = true ∧ ∃ g I F X y, l = sgB g ++ (I ++ (dotF F ++ X)) ∧ l.length ≤ 64 ∧ allD I ∧ I ≠ [] ∧ allD F ∧ behindR X y ∧ readL l = fin g (I ++ F) (y - (F.length : Nat)) true ∧
      ∃ r, Ev (fun k => rhizomeref02_Parse.f k (bs l)) r ∧ RefAns g (numF (I ++ F) 0) (y - (F.length : Nat)) r) := by
  cases h : formL l
  · exact .inl ⟨rfl, parse_ref_none h⟩
  · obtain ⟨g, I, F, X, y, h1, h2, h3, h4, h5, h6, h7⟩ := (readL_ok (l := l)).2 h
    exact .inr ⟨rfl, g, I, F, X, y, h1, h2, h3, h4, h5, h6, h7, parse_ref_ok h1 h2 h3 h5 h6 h7⟩
end Go.Proofs.YtapinbbflfkglaaGreatDoor.PFloatsParses
