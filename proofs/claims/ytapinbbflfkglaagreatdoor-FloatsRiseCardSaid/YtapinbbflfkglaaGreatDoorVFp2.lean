import Derived.Test.YtapinbbflfkglaaGreatDoorVFp1
namespace Go.Proofs.YtapinbbflfkglaaGreatDoor
namespace Fp
structure Cert where
  q1 : Nat
  k1 : Nat
  q2 : Nat
  k2 : Nat
def Cert.ok (c : Cert) (a M A B X0 N L : Nat) : Bool :=
  c.q1 * c.k2 == c.q2 * c.k1 + 1 && decide (c.k1 * M ≤ c.q1 * a) && decide (c.q2 * a ≤ c.k2 * M) && decide (N ≤ c.q1 + c.q2) &&
  ((c.q1 * A == c.k1 * M * B && decide (L < (c.q1 * a - c.k1 * M) + (c.k2 * M - c.q2 * a))) || decide (L * c.q1 < X0 * (c.q1 * a - c.k1 * M)) || decide (L < c.q1 * a - c.k1 * M)) &&
  (decide (L * c.q2 ≤ X0 * (c.k2 * M - c.q2 * a)) || decide (L ≤ c.k2 * M - c.q2 * a))
theorem lattice {q1 k1 q2 k2 a M x k y : Int} (hd : q1 * k2 - q2 * k1 = 1) (h : x * a = k * M + y) :
    ∃ i j : Int, x = i * q1 + j * q2 ∧ k = i * k1 + j * k2 ∧ y = i * (q1 * a - k1 * M) - j * (k2 * M - q2 * a) :=
  ⟨x * k2 - k * q2, k * q1 - x * k1, by grind, by grind, by grind⟩
theorem mul_pos_le {a b : Int} (ha : 1 ≤ a) (hb : 0 ≤ b) : b ≤ a * b := by
  have := Int.mul_le_mul_of_nonneg_right ha hb; omega
theorem Cert.sound {c : Cert} {a M A B X0 N L : Nat} (hc : c.ok a M A B X0 N L = true) {x : Nat} (hx1 : 1 ≤ x) (hx0 : X0 ≤ x) (hxN : x < N)
    {k y : Int} (h : (x : Int) * a = k * M + y) (hlo : -(L : Int) < y) (hhi : y ≤ L) : (x : Int) * A = k * (M * B) := by
  obtain ⟨q1, k1, q2, k2⟩ := c
  simp only [Cert.ok, Bool.and_eq_true, Bool.or_eq_true, beq_iff_eq, decide_eq_true_eq] at hc
  obtain ⟨⟨⟨⟨⟨hd, hr1⟩, hr2⟩, hN⟩, hlow⟩, hup⟩ := hc
  obtain ⟨r1, hr1e⟩ : ∃ r, q1 * a = k1 * M + r := ⟨q1 * a - k1 * M, by omega⟩
  obtain ⟨r2, hr2e⟩ : ∃ r, k2 * M = q2 * a + r := ⟨k2 * M - q2 * a, by omega⟩
  have e1 : q1 * a - k1 * M = r1 := by omega
  have e2 : k2 * M - q2 * a = r2 := by omega
  rw [e1, e2] at hlow
  rw [e2] at hup
  have hd' : (q1 : Int) * k2 - q2 * k1 = 1 := by have := congrArg (fun n : Nat => (n : Int)) hd; simp at this; omega
  obtain ⟨i, j, hx, hk, hy⟩ := lattice hd' h
  have e1' : (q1 : Int) * a - k1 * M = r1 := by have := congrArg (fun n : Nat => (n : Int)) hr1e; simp at this; omega
  have e2' : (k2 : Int) * M - q2 * a = r2 := by have := congrArg (fun n : Nat => (n : Int)) hr2e; simp at this; omega
  rw [e1', e2'] at hy
  have hq1 : (0 : Int) ≤ q1 := by omega
  have hq2 : (0 : Int) ≤ q2 := by omega
  have hr1' : (0 : Int) ≤ r1 := by omega
  have hr2' : (0 : Int) ≤ r2 := by omega
  by_cases hi : 1 ≤ i
  · by_cases hj : 1 ≤ j
    · have := mul_pos_le hi hq1; have := mul_pos_le hj hq2; omega
    · obtain ⟨m, rfl⟩ : ∃ m : Int, j = -m := ⟨-j, by omega⟩
      have hm : 0 ≤ m := by omega
      have hm2 : 0 ≤ m * r2 := Int.mul_nonneg hm hr2'
      have hmq : 0 ≤ m * q2 := Int.mul_nonneg hm hq2
      have hx' : (x : Int) ≤ i * q1 := by rw [Int.neg_mul] at hx; omega
      have hy' : y = i * r1 + m * r2 := by rw [Int.neg_mul] at hy; omega
      rcases hlow with (⟨hex, hsum⟩ | hs) | hs
      · by_cases hm0 : m = 0
        · subst hm0
          simp at hx hk
          have hex' := congrArg (fun n : Nat => (n : Int)) hex
          simp at hex'
          rw [hx, hk, Int.mul_assoc, hex']; grind
        · have h1 := mul_pos_le (a := m) (by omega) hr2'
          have h2 := mul_pos_le hi hr1'
          omega
      · exfalso
        have h1 : (X0 : Int) * r1 ≤ x * r1 := Int.mul_le_mul_of_nonneg_right (by omega) hr1'
        have h2 : (x : Int) * r1 ≤ i * q1 * r1 := Int.mul_le_mul_of_nonneg_right hx' hr1'
        have h3 : (L : Int) * q1 < X0 * r1 := by have := Int.ofNat_lt.2 hs; simpa using this
        have h4 : (i * r1) * q1 ≤ L * q1 := Int.mul_le_mul_of_nonneg_right (by omega) hq1
        have h5 : i * q1 * r1 = (i * r1) * q1 := by grind
        omega
      · have := mul_pos_le hi hr1'; omega
  · exfalso
    have hj : 1 ≤ j := by
      apply Classical.byContradiction
      intro hj
      have h1 : i * q1 ≤ 0 := Int.mul_nonpos_of_nonpos_of_nonneg (by omega) hq1
      have h2 : j * q2 ≤ 0 := Int.mul_nonpos_of_nonpos_of_nonneg (by omega) hq2
      omega
    have h1 : i * q1 ≤ 0 := Int.mul_nonpos_of_nonpos_of_nonneg (by omega) hq1
    have h1r : i * r1 ≤ 0 := Int.mul_nonpos_of_nonpos_of_nonneg (by omega) hr1'
    have hx' : (x : Int) ≤ j * q2 := by omega
    have hjr : j * r2 < L := by omega
    have h2 : (X0 : Int) * r2 ≤ x * r2 := Int.mul_le_mul_of_nonneg_right (by omega) hr2'
    have h3 : (x : Int) * r2 ≤ j * q2 * r2 := Int.mul_le_mul_of_nonneg_right hx' hr2'
    rcases hup with hup | hup
    case inr => have := mul_pos_le hj hr2'; omega
    have h4 : (L : Int) * q2 ≤ X0 * r2 := by have := Int.ofNat_le.2 hup; simpa using this
    have h5 : j * q2 * r2 = (j * r2) * q2 := by grind
    have hq2' : (0 : Int) < q2 := by
      apply Classical.byContradiction
      intro hn
      have : (q2 : Int) = 0 := by omega
      rw [this] at hx'
      omega
    have h6 : (j * r2) * q2 < L * q2 := Int.mul_lt_mul_of_pos_right hjr hq2'
    omega
def search (N : Nat) : Nat → Nat → Nat → Nat → Nat → Nat → Nat → Cert
  | 0, q1, k1, _, q2, k2, _ => ⟨q1, k1, q2, k2⟩
  | f + 1, q1, k1, r1, q2, k2, r2 =>
    if N ≤ q1 + q2 then ⟨q1, k1, q2, k2⟩ else
    if r2 ≤ r1 then
      let c := if q2 = 0 then r1 / r2 else min (r1 / r2) ((N - q1 - 1) / q2)
      search N f (q1 + c * q2) (k1 + c * k2) (r1 - c * r2) q2 k2 r2
    else
      let c := if r1 = 0 then (N - q2 - 1) / q1 else min ((r2 - 1) / r1) ((N - q2 - 1) / q1)
      search N f q1 k1 r1 (q2 + c * q1) (k2 + c * k1) (r2 - c * r1)
def certOf (a M N : Nat) : Cert := search N 200 1 (a / M) (a % M) 0 1 M
def lp10 (p : Int) : Int := p * 108853 / 32768
def numA (p : Int) : Nat := if 0 ≤ p then 10 ^ p.toNat * 2 ^ (127 - lp10 p).toNat else 2 ^ (127 - lp10 p).toNat
def denB (p : Int) : Nat := if 0 ≤ p then 2 ^ (lp10 p - 127).toNat else 10 ^ (-p).toNat
def pmOf (p : Int) : Nat := (numA p + denB p - 1) / denB p
def parseOk (p : Int) : Bool := (certOf (pmOf p) (2 ^ 136) (2 ^ 64)).ok (pmOf p) (2 ^ 136) (numA p) (denB p) (2 ^ 63) (2 ^ 64) (2 ^ 64)
def allOk (f : Int → Bool) (lo : Int) : Nat → Bool
  | 0 => true
  | n + 1 => f (lo + n) && allOk f lo n
theorem parse_all : allOk parseOk (-345) 656 = true := by decide +kernel
theorem allOk_get {f : Int → Bool} {lo : Int} : ∀ {n : Nat}, allOk f lo n = true → ∀ p : Int, lo ≤ p → p < lo + n → f p = true
  | 0, _, p, h1, h2 => by omega
  | n + 1, h, p, h1, h2 => by
    simp only [allOk, Bool.and_eq_true] at h
    by_cases e : p = lo + n
    · rw [e]; exact h.1
    · exact allOk_get h.2 p h1 (by omega)
def mark (q : Nat) : Nat := if q % 2 = 0 then q + 1 else q
def uscaleN (x hi lo s : Nat) : Nat :=
  let H := x * hi / 2 ^ 64
  let mid := x * hi % 2 ^ 64
  if H / 2 ^ s * 2 ^ s ≠ H then mark (H / 2 ^ s)
  else
    let mid2 := x * lo / 2 ^ 64
    let H' := if mid < mid2 then H - 1 else H
    if 1 < (mid + 2 ^ 64 - mid2) % 2 ^ 64 then mark (H' / 2 ^ s) else H' / 2 ^ s
theorem unr_between {N D q : Nat} (h1 : q * D < N) (h2 : N < (q + 1) * D) : unr N D = mark q := by
  have hD : 0 < D := by
    rcases Nat.eq_zero_or_pos D with h | h
    · subst h; simp at h2
    · exact h
  have hq : N / D = q := by
    apply Nat.le_antisymm
    · have := Nat.div_lt_of_lt_mul (m := N) (n := D) (k := q + 1) (by rw [Nat.mul_comm]; exact h2)
      omega
    · exact (Nat.le_div_iff_mul_le hD).2 (Nat.le_of_lt h1)
  have hm : N % D ≠ 0 := by
    intro h
    have := Nat.div_add_mod N D
    rw [hq, h, Nat.mul_comm] at this
    omega
  unfold unr mark
  rw [if_neg hm, hq]
theorem unr_exact {D q : Nat} (hD : 0 < D) : unr (q * D) D = q := by
  unfold unr
  rw [if_pos (Nat.mul_mod_left q D), Nat.mul_div_cancel q hD]
theorem uscale_core {x hi lo s A B pm : Nat} (hx : x < 2 ^ 64) (hx0 : 0 < x) (hlo : lo < 2 ^ 64) (hpm : pm + lo = hi * 2 ^ 64)
    (hB : 0 < B) (hA1 : pm * B < A + B) (hA2 : A ≤ pm * B)
    (good : ∀ k y : Int, (x : Int) * pm = k * (2 ^ (128 + s) : Nat) + y → -(2 ^ 64 : Nat) < y → y ≤ (2 ^ 64 : Nat) → (x : Int) * A = k * ((2 ^ (128 + s) : Nat) * B)) :
    uscaleN x hi lo s = unr (x * A) (B * 2 ^ (128 + s)) := by
  obtain ⟨W, hW⟩ : ∃ W, W = 2 ^ 64 := ⟨_, rfl⟩
  obtain ⟨S, hS⟩ : ∃ S, S = 2 ^ s := ⟨_, rfl⟩
  have hSpos : 0 < S := by rw [hS]; exact Nat.two_pow_pos _
  have hWpos : 2 < W := by rw [hW]; decide
  have hT : 2 ^ (128 + s) = W * W * S := by rw [Nat.pow_add, hW, hS]
  rw [hT] at good ⊢
  unfold uscaleN
  rw [← hW] at hx hlo hpm good ⊢
  rw [← hS]
  dsimp only
  obtain ⟨H, hH⟩ : ∃ H, H = x * hi / W := ⟨_, rfl⟩
  obtain ⟨mid, hmid⟩ : ∃ m, m = x * hi % W := ⟨_, rfl⟩
  obtain ⟨mid2, hmid2⟩ : ∃ m, m = x * lo / W := ⟨_, rfl⟩
  obtain ⟨lo2, hlo2⟩ : ∃ m, m = x * lo % W := ⟨_, rfl⟩
  rw [← hH, ← hmid, ← hmid2]
  have d1 : x * hi = W * H + mid := by rw [hH, hmid]; exact (Nat.div_add_mod _ _).symm
  have d2 : x * lo = W * mid2 + lo2 := by rw [hmid2, hlo2]; exact (Nat.div_add_mod _ _).symm
  have m1 : mid < W := by rw [hmid]; exact Nat.mod_lt _ (by omega)
  have m2 : lo2 < W := by rw [hlo2]; exact Nat.mod_lt _ (by omega)
  have hF : x * pm + (W * mid2 + lo2) = W * (W * H + mid) := by
    rw [← d1, ← d2, ← Nat.mul_add, hpm, Nat.mul_comm hi W, Nat.mul_left_comm]
  have hxl : x * lo + x ≤ (W - 1) * W := by
    have h1 : x * lo + x = x * (lo + 1) := by rw [Nat.mul_add, Nat.mul_one]
    rw [h1]
    exact Nat.mul_le_mul (by omega) (by omega)
  have hmm2 : mid2 + 2 ≤ W := by
    apply Classical.byContradiction
    intro hn
    have h3 : W * (W - 1) ≤ W * mid2 := Nat.mul_le_mul_left _ (by omega)
    have h4 : (W - 1) * W = W * (W - 1) := Nat.mul_comm _ _
    omega
  have nA2 : x * A ≤ x * pm * B := by rw [Nat.mul_assoc]; exact Nat.mul_le_mul_left x hA2
  have nA1 : x * pm * B < x * A + x * B := by
    rw [Nat.mul_assoc, ← Nat.mul_add]
    exact Nat.mul_lt_mul_of_pos_left hA1 hx0
  have up : ∀ q, x * pm < q * (W * W) → x * A < q * (W * W) * B := fun q h =>
    Nat.lt_of_le_of_lt nA2 (Nat.mul_lt_mul_of_pos_right h hB)
  have dn : ∀ q, q * (W * W) + x ≤ x * pm → q * (W * W) * B < x * A := fun q h => by
    have h1 := Nat.mul_le_mul_right B h
    rw [Nat.add_mul] at h1
    omega
  have hWW : (W - 1) * W + W = W * W := by
    have : (W - 1) * W + W = (W - 1 + 1) * W := by rw [Nat.add_mul, Nat.one_mul]
    rw [this]; congr 1; omega
  have e1 : W * (W * H + mid) = H * (W * W) + W * mid := by rw [Nat.mul_add, ← Nat.mul_assoc, Nat.mul_comm]
  rw [e1] at hF
  have wm : W * mid + W ≤ W * W := by
    have : W * mid + W = W * (mid + 1) := by rw [Nat.mul_add, Nat.mul_one]
    rw [this]; exact Nat.mul_le_mul_left _ (by omega)
  have assoc : ∀ q, q * (B * (W * W * S)) = q * S * (W * W) * B := fun q => by
    simp only [Nat.mul_comm, Nat.mul_left_comm]
  by_cases hb : H / S * S = H
  · rw [if_neg (by simpa using hb)]
    obtain ⟨q, hq⟩ : ∃ q, q = H / S := ⟨_, rfl⟩
    rw [← hq] at hb
    by_cases hlt : mid < mid2
    ·
      rw [if_pos hlt]
      have ht : (mid + W - mid2) % W = mid + W - mid2 := Nat.mod_eq_of_lt (by omega)
      rw [ht, if_pos (by omega)]
      have hH0 : 0 < H := by
        apply Classical.byContradiction
        intro hn
        have h0 : H = 0 := by omega
        rw [h0, Nat.zero_mul] at hF
        have : W * (mid + 1) ≤ W * mid2 := Nat.mul_le_mul_left _ hlt
        rw [Nat.mul_add] at this
        have hpos : 0 ≤ x * pm := Nat.zero_le _
        have : W * mid2 = W * mid + W * (mid2 - mid) := by rw [← Nat.mul_add]; congr 1; omega
        omega
      have hq0 : 0 < q := by
        rcases Nat.eq_zero_or_pos q with h | h
        · rw [h] at hb; omega
        · exact h
      have hdiv : (H - 1) / S = q - 1 := by
        rw [← hb]
        obtain ⟨q', rfl⟩ : ∃ q', q = q' + 1 := ⟨q - 1, by omega⟩
        apply Nat.div_eq_of_lt_le
        · simp [Nat.add_mul]; omega
        · simp [Nat.add_mul]; omega
      rw [hdiv]
      symm
      apply unr_between
      · rw [assoc]
        refine Nat.lt_of_le_of_lt ?_ (dn (H - 1) ?_)
        · apply Nat.mul_le_mul_right
          apply Nat.mul_le_mul_right
          rw [← hb]
          obtain ⟨q', rfl⟩ : ∃ q', q = q' + 1 := ⟨q - 1, by omega⟩
          simp [Nat.add_mul]; omega
        · have : H * (W * W) = (H - 1) * (W * W) + W * W := by
            have : H = (H - 1) + 1 := by omega
            conv => lhs; rw [this, Nat.add_mul, Nat.one_mul]
          have h0 : 0 ≤ W * mid := Nat.zero_le _
          omega
      · rw [assoc]
        have : (q - 1 + 1) * S = H := by rw [← hb]; congr 1; omega
        rw [this]
        apply up
        have : W * (mid + 1) ≤ W * mid2 := Nat.mul_le_mul_left _ hlt
        rw [Nat.mul_add, Nat.mul_one] at this
        omega
    · rw [if_neg hlt]
      have ht : (mid + W - mid2) % W = mid - mid2 := by
        have : mid + W - mid2 = (mid - mid2) + W := by omega
        rw [this, Nat.add_mod_right]
        exact Nat.mod_eq_of_lt (by omega)
      rw [ht]
      have hdq : H / S = q := hq.symm
      rw [hdq]
      by_cases h2 : 1 < mid - mid2
      · rw [if_pos h2]
        symm
        apply unr_between
        · rw [assoc, hb]
          apply dn
          have : W * (mid2 + 2) ≤ W * mid := Nat.mul_le_mul_left _ (by omega)
          rw [Nat.mul_add] at this
          omega
        · rw [assoc]
          have : (q + 1) * S = H + S := by rw [Nat.add_mul, Nat.one_mul, hb]
          rw [this]
          apply up
          have : (H + S) * (W * W) = H * (W * W) + S * (W * W) := Nat.add_mul _ _ _
          have h3 : 1 * (W * W) ≤ S * (W * W) := Nat.mul_le_mul_right _ hSpos
          omega
      · rw [if_neg h2]
        have hk := good (q : Int) ((W * mid : Nat) - (W * mid2 + lo2 : Nat)) (by
          have h5 := congrArg (fun n : Nat => (n : Int)) hF
          have h6 : H * (W * W) = q * (W * W * S) := by rw [← hb]; simp only [Nat.mul_comm, Nat.mul_left_comm]
          have h7 := congrArg (fun n : Nat => (n : Int)) h6
          simp only [Int.natCast_add, Int.natCast_mul] at h5 h7 ⊢
          omega) (by
            have : W * mid2 ≤ W * mid := Nat.mul_le_mul_left _ (by omega)
            omega) (by
            have : W * mid ≤ W * (mid2 + 1) := Nat.mul_le_mul_left _ (by omega)
            rw [Nat.mul_add, Nat.mul_one] at this
            omega)
        have hk' : x * A = q * (B * (W * W * S)) := by
          have h8 : ((x * A : Nat) : Int) = ((q * (B * (W * W * S)) : Nat) : Int) := by
            rw [Int.natCast_mul, hk]; push_cast; grind
          exact Int.ofNat.inj h8
        rw [hk', unr_exact (Nat.mul_pos hB (Nat.mul_pos (Nat.mul_pos (by omega) (by omega)) hSpos))]
  · rw [if_pos (by simpa using hb)]
    obtain ⟨q, hq⟩ : ∃ q, q = H / S := ⟨_, rfl⟩
    rw [← hq] at hb ⊢
    have hdm := Nat.div_add_mod H S
    have hml := Nat.mod_lt H hSpos
    rw [← hq, Nat.mul_comm] at hdm
    have hmp : 0 < H % S := by omega
    symm
    apply unr_between
    · rw [assoc]
      refine Nat.lt_of_le_of_lt ?_ (dn (H - 1) ?_)
      · apply Nat.mul_le_mul_right
        apply Nat.mul_le_mul_right
        omega
      · have : H * (W * W) = (H - 1) * (W * W) + W * W := by
          have : H = (H - 1) + 1 := by omega
          conv => lhs; rw [this, Nat.add_mul, Nat.one_mul]
        have h0 : 0 ≤ W * mid := Nat.zero_le _
        omega
    · rw [assoc]
      apply up
      have h3 : (H + 1) * (W * W) ≤ (q + 1) * S * (W * W) := by
        apply Nat.mul_le_mul_right
        rw [Nat.add_mul, Nat.one_mul]; omega
      rw [Nat.add_mul, Nat.one_mul] at h3
      omega
theorem denB_pos (p : Int) : 0 < denB p := by
  unfold denB
  split
  · exact Nat.two_pow_pos _
  · exact Nat.pow_pos (by omega)
theorem ceil_up (A B : Nat) (hB : 0 < B) : A ≤ (A + B - 1) / B * B ∧ (A + B - 1) / B * B < A + B := by
  have h := Nat.div_add_mod (A + B - 1) B
  have h2 := Nat.mod_lt (A + B - 1) hB
  rw [Nat.mul_comm] at h
  omega
theorem parse_uscale {p : Int} (h1 : -345 ≤ p) (h2 : p ≤ 310) {x hi lo s : Nat} (hx1 : 2 ^ 63 ≤ x) (hx2 : x < 2 ^ 64) (hlo : lo < 2 ^ 64)
    (hpm : pmOf p + lo = hi * 2 ^ 64) (hs : 8 ≤ s) : uscaleN x hi lo s = unr (x * numA p) (denB p * 2 ^ (128 + s)) := by
  have hc := allOk_get parse_all p h1 (by omega)
  have hcl := ceil_up (numA p) (denB p) (denB_pos p)
  refine uscale_core hx2 (Nat.lt_of_lt_of_le (Nat.two_pow_pos _) hx1) hlo hpm (denB_pos p) hcl.2 hcl.1 ?_
  intro k y hk hlo' hhi'
  have hsp : 2 ^ (128 + s) = 2 ^ (s - 8) * 2 ^ 136 := by rw [← Nat.pow_add]; congr 1; omega
  unfold parseOk at hc
  rw [hsp] at hk ⊢
  generalize hP : (2 ^ 136 : Nat) = P at *
  generalize hQ : (2 ^ (s - 8) : Nat) = Q at *
  have := Cert.sound hc (x := x) (Nat.le_trans (Nat.two_pow_pos _) hx1) hx1 hx2 (k := k * Q) (y := y) (by
    rw [hk, Int.natCast_mul, Int.mul_assoc]) hlo' hhi'
  rw [this, Int.natCast_mul]; grind
end Fp
end Go.Proofs.YtapinbbflfkglaaGreatDoor
