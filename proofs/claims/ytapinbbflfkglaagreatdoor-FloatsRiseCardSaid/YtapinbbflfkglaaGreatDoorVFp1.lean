namespace Go.Proofs.YtapinbbflfkglaaGreatDoor
namespace Fp
def unr (n d : Nat) : Nat := if n % d = 0 then n / d else if n / d % 2 = 0 then n / d + 1 else n / d
def rhe (a b : Nat) : Nat := let q := a / b; let r := a % b; if 2 * r < b then q else if b < 2 * r then q + 1 else q + q % 2
def rnd (u : Nat) : Nat := (u + 1 + u / 4 % 2) / 4
theorem unr_even {n d : Nat} : n / d ≤ unr n d ∧ unr n d ≤ n / d + 1 ∧ unr n d / 2 = n / d / 2 := by
  unfold unr
  split
  · omega
  · split <;> omega
theorem unr_div {n d k : Nat} (hd : 0 < d) (hk : 0 < k) (hk2 : k % 2 = 0) :
    unr n (d * k) = (let q := unr n d / k; if unr n d % k = 0 then q else if q % 2 = 0 then q + 1 else q) := by
  have hq : n / (d * k) = n / d / k := by rw [Nat.div_div_eq_div_mul]
  have hm : n % (d * k) = n % d + d * (n / d % k) := by
    rw [Nat.mod_mul]
  obtain ⟨c, rfl⟩ : ∃ c, k = 2 * c := ⟨k / 2, by omega⟩
  have hc : 0 < c := by omega
  have e1 : ∀ m : Nat, m / (2 * c) = m / 2 / c := fun m => by rw [Nat.div_div_eq_div_mul]
  have hu := @unr_even n d
  have hdiv : unr n d / (2 * c) = n / d / (2 * c) := by rw [e1, e1, hu.2.2]
  have hz : n % (d * (2 * c)) = 0 ↔ unr n d % (2 * c) = 0 := by
    rw [hm]
    constructor
    · intro h
      have h1 : n % d = 0 := by omega
      have h2 : d * (n / d % (2 * c)) = 0 := by omega
      have h3 : n / d % (2 * c) = 0 := by
        rcases Nat.mul_eq_zero.1 h2 with h | h
        · omega
        · exact h
      have : unr n d = n / d := by unfold unr; rw [if_pos h1]
      rw [this]; exact h3
    · intro h
      have hev : unr n d % 2 = 0 := by
        have := Nat.mod_mul_right_mod (unr n d) 2 c
        rw [h] at this; omega
      have h1 : n % d = 0 := by
        apply Classical.byContradiction
        intro hne
        unfold unr at hev
        rw [if_neg hne] at hev
        split at hev <;> omega
      have h3 : unr n d = n / d := by unfold unr; rw [if_pos h1]
      rw [h3] at h
      rw [h1, h]; rfl
  show unr n (d * (2 * c)) = _
  dsimp only
  rw [hdiv]
  conv => lhs; unfold unr
  rw [hq]
  by_cases h : unr n d % (2 * c) = 0
  · rw [if_pos h, if_pos (hz.2 h)]
  · rw [if_neg h, if_neg (fun h' => h (hz.1 h'))]
theorem rnd_unr {n d : Nat} (hd : 0 < d) : rnd (unr n d) = rhe n (d * 4) := by
  have hq : n / (d * 4) = n / d / 4 := by rw [Nat.div_div_eq_div_mul]
  have hm : n % (d * 4) = n % d + d * (n / d % 4) := by rw [Nat.mod_mul]
  have hr : n % d < d := Nat.mod_lt _ hd
  unfold rhe rnd
  dsimp only
  rw [hq, hm]
  have h4 : n / d % 4 < 4 := Nat.mod_lt _ (by omega)
  generalize hQ : n / d = Q at *
  generalize hR : n % d = R at *
  have hU : unr n d = if R = 0 then Q else if Q % 2 = 0 then Q + 1 else Q := by unfold unr; rw [hQ, hR]
  rw [hU]
  have hcase : Q % 4 = 0 ∨ Q % 4 = 1 ∨ Q % 4 = 2 ∨ Q % 4 = 3 := by omega
  rcases hcase with h | h | h | h <;> rw [h] <;> by_cases h0 : R = 0
  all_goals (simp only [h0, if_true, if_false])
  all_goals (repeat' split)
  all_goals omega
def mant (k : Nat) : Nat := if k / 4503599627370496 = 0 then k else 4503599627370496 + k % 4503599627370496
def plc (k : Nat) : Nat := k / 4503599627370496 - 1
def mid (k : Nat) : Nat := (2 * mant k + 1) * 2 ^ plc k
def vl (k : Nat) : Nat := (2 * mant k) * 2 ^ plc k
theorem mant_plc {t m : Nat} (h1 : m < 9007199254740992) (h2 : t = 0 ∨ 4503599627370496 ≤ m) : mant (t * 4503599627370496 + m) = m ∧ plc (t * 4503599627370496 + m) = t := by
  unfold mant plc
  have hm := Nat.div_add_mod (t * 4503599627370496 + m) 4503599627370496
  have hl := Nat.mod_lt (t * 4503599627370496 + m) (show 0 < 4503599627370496 by omega)
  by_cases h : m < 4503599627370496
  · have ht : t = 0 := by omega
    subst ht
    have : (0 * 4503599627370496 + m) / 4503599627370496 = 0 := by omega
    rw [if_pos this]; omega
  · have : (t * 4503599627370496 + m) / 4503599627370496 = t + 1 := by omega
    rw [if_neg (by omega)]; omega
theorem split_size (k : Nat) : ∃ t m, k = t * 4503599627370496 + m ∧ m < 9007199254740992 ∧ (t = 0 ∨ 4503599627370496 ≤ m) := by
  by_cases h : k < 4503599627370496
  · exact ⟨0, k, by omega, by omega, .inl rfl⟩
  · exact ⟨k / 4503599627370496 - 1, k % 4503599627370496 + 4503599627370496, by omega, by omega, .inr (by omega)⟩
theorem vl_step (k : Nat) : vl k < mid k ∧ mid k < vl (k + 1) := by
  obtain ⟨t, m, rfl, h1, h2⟩ := split_size k
  have hp : 0 < 2 ^ t := Nat.two_pow_pos t
  obtain ⟨e1, e2⟩ := mant_plc h1 h2
  have hvl : vl (t * 4503599627370496 + m + 1) = (2 * m + 2) * 2 ^ t := by
    unfold vl
    by_cases h : m + 1 < 9007199254740992
    · obtain ⟨e3, e4⟩ := mant_plc (t := t) h (by omega)
      rw [Nat.add_assoc, e3, e4]; rfl
    · have hm : m + 1 = 9007199254740992 := by omega
      have : t * 4503599627370496 + m + 1 = (t + 1) * 4503599627370496 + 4503599627370496 := by omega
      rw [this]
      obtain ⟨e3, e4⟩ := mant_plc (t := t + 1) (m := 4503599627370496) (by decide) (.inr (Nat.le_refl _))
      rw [e3, e4, Nat.pow_succ]
      have : 2 * m + 2 = 2 * 4503599627370496 * 2 := by omega
      rw [this]; grind
  constructor
  · unfold vl mid; rw [e1, e2]; exact Nat.mul_lt_mul_of_pos_right (by omega) hp
  · rw [hvl]; unfold mid; rw [e1, e2]; exact Nat.mul_lt_mul_of_pos_right (by omega) hp
theorem vl_lt {a b : Nat} (h : a < b) : vl a < vl b := by
  induction b with
  | zero => omega
  | succ b ih =>
    have hs := vl_step b
    by_cases e : a = b
    · subst e; omega
    · have := ih (by omega); omega
theorem mid_lt {a b : Nat} (h : a < b) : mid a < mid b := by
  have h1 := (vl_step a).2
  have h2 := (vl_step b).1
  by_cases e : a + 1 = b
  · subst e; omega
  · have := vl_lt (a := a + 1) (b := b) (by omega); omega
def IsNear (N D k : Nat) : Prop :=
  (k = 0 ∨ mid (k - 1) * D < N ∨ (mid (k - 1) * D = N ∧ k % 2 = 0)) ∧ (N < mid k * D ∨ (N = mid k * D ∧ k % 2 = 0))
theorem IsNear.unique {N D a b : Nat} (hD : 0 < D) (ha : IsNear N D a) (hb : IsNear N D b) : a = b := by
  have key : ∀ {a b : Nat}, IsNear N D a → IsNear N D b → ¬ a < b := by
    intro a b ha hb hlt
    have h1 := ha.2
    have h2 := hb.1
    have hle : mid a * D ≤ mid (b - 1) * D := by
      apply Nat.mul_le_mul_right
      by_cases e : a = b - 1
      · rw [e]; exact Nat.le_refl _
      · exact Nat.le_of_lt (mid_lt (by omega))
    rcases h1 with h1 | ⟨h1, h1e⟩
    · rcases h2 with h2 | h2 | ⟨h2, h2e⟩ <;> omega
    · rcases h2 with h2 | h2 | ⟨h2, h2e⟩
      · omega
      · omega
      · have : mid a * D = mid (b - 1) * D := by omega
        have : mid a = mid (b - 1) := Nat.eq_of_mul_eq_mul_right hD this
        have hab : a = b - 1 := by
          apply Classical.byContradiction
          intro hne
          have := mid_lt (a := a) (b := b - 1) (by omega)
          omega
        omega
  have := key ha hb
  have := key hb ha
  omega
theorem rhe_between {a b : Nat} (hb : 0 < b) : (rhe a b = 0 ∨ (2 * rhe a b - 1) * b < 2 * a ∨ ((2 * rhe a b - 1) * b = 2 * a ∧ rhe a b % 2 = 0)) ∧
    (2 * a < (2 * rhe a b + 1) * b ∨ (2 * a = (2 * rhe a b + 1) * b ∧ rhe a b % 2 = 0)) := by
  have h := Nat.div_add_mod a b
  have hl := Nat.mod_lt a hb
  unfold rhe
  dsimp only
  generalize a / b = q at *
  generalize a % b = r at *
  have e1 : (2 * q + 1) * b = 2 * (b * q) + b := by grind
  by_cases h1 : 2 * r < b
  · rw [if_pos h1]
    refine ⟨?_, .inl (by omega)⟩
    by_cases hq : q = 0
    · exact .inl hq
    · right; left
      have e2 : (2 * q - 1) * b = 2 * (b * q) - b := by
        rw [Nat.sub_mul]; grind
      have := Nat.le_mul_of_pos_right b (Nat.pos_of_ne_zero hq)
      rw [e2]; omega
  · rw [if_neg h1]
    by_cases h2 : b < 2 * r
    · rw [if_pos h2]
      have e3 : 2 * (q + 1) - 1 = 2 * q + 1 := by omega
      have e4 : (2 * (q + 1) + 1) * b = 2 * (b * q) + 3 * b := by grind
      rw [e3, e1, e4]
      exact ⟨.inr (.inl (by omega)), .inl (by omega)⟩
    · rw [if_neg h2]
      by_cases hq : q % 2 = 0
      · rw [hq]
        have e3 : q + 0 = q := rfl
        rw [e3, e1]
        refine ⟨?_, .inr ⟨by omega, hq⟩⟩
        by_cases hq0 : q = 0
        · exact .inl hq0
        · right; left
          have e2 : (2 * q - 1) * b = 2 * (b * q) - b := by
            rw [Nat.sub_mul]; grind
          have := Nat.le_mul_of_pos_right b (Nat.pos_of_ne_zero hq0)
          rw [e2]; omega
      · have hq1 : q % 2 = 1 := by omega
        rw [hq1]
        have e3 : 2 * (q + 1) - 1 = 2 * q + 1 := by omega
        have e4 : (2 * (q + 1) + 1) * b = 2 * (b * q) + 3 * b := by grind
        rw [e3, e1, e4]
        exact ⟨.inr (.inr ⟨by omega, by omega⟩), .inl (by omega)⟩
theorem near_of_rhe {N D t m : Nat} (hD : 0 < D) (hm : m = rhe N (D * 2 ^ (t + 1))) (hup : m ≤ 9007199254740992)
    (hlow : t = 0 ∨ 18014398509481983 * (D * 2 ^ t) ≤ 2 * N) : IsNear N D (t * 4503599627370496 + m) := by
  obtain ⟨P, hP⟩ : ∃ P, P = 2 ^ t := ⟨_, rfl⟩
  have hPpos : 0 < P := by rw [hP]; exact Nat.two_pow_pos _
  have hb : 0 < D * 2 ^ (t + 1) := Nat.mul_pos hD (Nat.two_pow_pos _)
  have hr := @rhe_between N _ hb
  rw [← hm] at hr
  have hpow : D * 2 ^ (t + 1) = 2 * (P * D) := by rw [Nat.pow_succ, hP]; grind
  rw [hpow] at hr
  have e1 : (2 * m + 1) * (2 * (P * D)) = 2 * ((2 * m + 1) * P * D) := by grind
  have e0 : (2 * m - 1) * (2 * (P * D)) = 2 * ((2 * m - 1) * P * D) := by grind
  rw [e1, e0] at hr
  have hpar : t = 0 ∨ 4503599627370496 ≤ m → (t * 4503599627370496 + m) % 2 = m % 2 := by intro _; omega
  have hm52 : t = 0 ∨ 4503599627370496 ≤ m := by
    rcases hlow with h | h
    · exact .inl h
    · right
      apply Classical.byContradiction
      intro hn
      have h2 : (2 * m + 1) * P * D ≤ (9007199254740991) * P * D := Nat.mul_le_mul_right _ (Nat.mul_le_mul_right _ (by omega))
      have h3 : 18014398509481983 * (D * 2 ^ t) = 2 * ((9007199254740991) * P * D) + P * D := by rw [← hP]; grind
      have h4 : 0 < P * D := Nat.mul_pos hPpos hD
      have h5 := hr.2
      rw [h3] at h
      rcases h5 with h5 | ⟨h5, _⟩ <;> omega
  have hk2 := hpar hm52
  constructor
  · by_cases hk : t * 4503599627370496 + m = 0
    · exact .inl hk
    · right
      rw [hk2]
      by_cases hm53 : t = 0 ∨ 4503599627370496 < m
      ·
        have hm1 : 0 < m := by omega
        have : t * 4503599627370496 + m - 1 = t * 4503599627370496 + (m - 1) := by omega
        obtain ⟨a1, a2⟩ := mant_plc (t := t) (m := m - 1) (by omega) (by omega)
        unfold mid
        rw [this, a1, a2, ← hP]
        have : 2 * (m - 1) + 1 = 2 * m - 1 := by omega
        rw [this]
        rcases hr.1 with h | h | ⟨h, h'⟩
        · omega
        · exact .inl (by omega)
        · exact .inr ⟨by omega, h'⟩
      · have ht : t ≠ 0 := by omega
        have hme : m = 4503599627370496 := by omega
        subst hme
        obtain ⟨t', rfl⟩ : ∃ t', t = t' + 1 := ⟨t - 1, by omega⟩
        have : (t' + 1) * 4503599627370496 + 4503599627370496 - 1 = t' * 4503599627370496 + (9007199254740991) := by omega
        obtain ⟨a1, a2⟩ := mant_plc (t := t') (m := 9007199254740991) (by decide) (.inr (by decide))
        unfold mid
        rw [this, a1, a2]
        rcases hlow with h | h
        · omega
        · have h3 : (2 * (9007199254740991) + 1) * 2 ^ t' * D * 2 = 18014398509481983 * (D * 2 ^ (t' + 1)) := by
            rw [Nat.pow_succ]
            have : 2 * (9007199254740991) + 1 = 2 ^ 54 - 1 := by decide
            rw [this]; grind
          rw [← h3] at h
          clear h3 hr e1 e0 hk2 hpow a1 a2 this hpar hm
          generalize (2 * (9007199254740991) + 1) * 2 ^ t' * D = X at *
          by_cases heq : X = N
          · exact .inr ⟨heq, by decide⟩
          · exact .inl (by omega)
  · rw [hk2]
    by_cases hm53 : m < 9007199254740992
    · obtain ⟨a1, a2⟩ := mant_plc hm53 hm52
      unfold mid
      rw [a1, a2, ← hP]
      rcases hr.2 with h | ⟨h, h'⟩
      · exact .inl (by omega)
      · exact .inr ⟨by omega, h'⟩
    · have hme : m = 9007199254740992 := by omega
      subst hme
      have : t * 4503599627370496 + 9007199254740992 = (t + 1) * 4503599627370496 + 4503599627370496 := by omega
      obtain ⟨a1, a2⟩ := mant_plc (t := t + 1) (m := 4503599627370496) (by decide) (.inr (Nat.le_refl _))
      unfold mid
      rw [this, a1, a2, Nat.pow_succ, ← hP]
      left
      have h6 : (2 * 9007199254740992 + 1) * P * D < (2 * 4503599627370496 + 1) * (P * 2) * D := by
        have : (2 * 4503599627370496 + 1) * (P * 2) * D = (2 * 9007199254740992 + 2) * P * D := by grind
        rw [this]
        exact Nat.mul_lt_mul_of_pos_right (Nat.mul_lt_mul_of_pos_right (by decide) hPpos) hD
      rcases hr.2 with h | ⟨h, _⟩ <;> omega
end Fp
end Go.Proofs.YtapinbbflfkglaaGreatDoor
