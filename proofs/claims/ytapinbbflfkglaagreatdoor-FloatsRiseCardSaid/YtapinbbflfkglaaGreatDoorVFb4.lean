import Derived.Test.YtapinbbflfkglaaGreatDoorVFb3
import Derived.Test.YtapinbbflfkglaaGreatDoorVFp2
namespace Go.Proofs.YtapinbbflfkglaaGreatDoor
open Go.RowKit
set_option maxRecDepth 100000
theorem log10Pow2_any (x : Int) (w : World) (h1 : -5000 ≤ x) (h2 : x ≤ 5000) :
    Calls Tryz.prog 100 #[.int .i64 x] w fun e w' => e = .returned (.int .i64 (x * 78913 / 262144)) ∧ w = w' := by
  go_enter Tryz.func100, Tryz.ntmps100
  go_wp2
  go_ret
  exact ⟨rfl, rfl⟩
theorem log2Pow10_any (x : Int) (w : World) (h1 : -5000 ≤ x) (h2 : x ≤ 5000) :
    Calls Tryz.prog 135 #[.int .i64 x] w fun e w' => e = .returned (.int .i64 (Fp.lp10 x)) ∧ w = w' := by
  have h : x * 108853 / 32768 = Fp.lp10 x := rfl
  go_enter Tryz.func135, Tryz.ntmps135
  go_wp2
  go_ret
  exact ⟨rfl, rfl⟩
theorem unmin_any (x : Int) (w : World) (h1 : 1 ≤ x) (h2 : x ≤ 1000000000000000000) :
    Calls Tryz.prog 142 #[.int .u64 x] w fun e w' => e = .returned (.int .u64 (x * 4 - 2)) ∧ w = w' := by
  go_enter Tryz.func142, Tryz.ntmps142
  go_wp2
  go_ret
  exact ⟨rfl, rfl⟩
theorem and_one_bits (q : Nat) (h : q < 18446744073709551616) : bits .and .u64 (q : Nat) 1 = ((q % 2 : Nat) : Int) := by
  have := u64_and_nat q 1 h (by omega)
  simp only [Int.cast_ofNat_Int] at this
  rw [this, Nat.and_one_is_mod]
theorem round_any (u : Nat) (w : World) (h2 : u < 9223372036854775808) :
    Calls Tryz.prog 140 #[.int .u64 (u : Nat)] w fun e w' => e = .returned (.int .u64 (Fp.rnd u : Nat)) ∧ w = w' := by
  have k := and_one_bits (u / 4) (by omega)
  have k2 : ((u / 4 : Nat) : Int) = (u : Int) / 4 := by omega
  rw [k2] at k
  have hr : ((u : Int) + 1 + ((u / 4 % 2 : Nat) : Int)) / 4 = (Fp.rnd u : Nat) := by unfold Fp.rnd; omega
  have hb : ((u / 4 % 2 : Nat) : Int) ≤ 1 := by omega
  have hb0 : 0 ≤ ((u / 4 % 2 : Nat) : Int) := by omega
  generalize ((u / 4 % 2 : Nat) : Int) = z at *
  clear k2
  go_enter Tryz.func140, Tryz.ntmps140
  go_wp2
  go_ret
  exact ⟨rfl, rfl⟩
theorem or_nat (a b : Nat) (ha : a < 18446744073709551616) (hb : b < 18446744073709551616) : bits .or .u64 (a : Nat) (b : Nat) = ((a ||| b : Nat) : Int) := u64_or_nat a b ha hb
theorem or_one_mark (q : Nat) : q ||| 1 = Fp.mark q := by
  have e : ∀ a, 2 * a ||| 1 = 2 * a + 1 := fun a => (Nat.two_pow_add_eq_or_of_lt (i := 1) (b := 1) (by decide) a).symm
  unfold Fp.mark
  by_cases hq : q % 2 = 0
  · rw [if_pos hq]
    obtain ⟨a, rfl⟩ : ∃ a, q = 2 * a := ⟨q / 2, by omega⟩
    rw [e]
  · rw [if_neg hq]
    obtain ⟨a, rfl⟩ : ∃ a, q = 2 * a + 1 := ⟨q / 2, by omega⟩
    rw [← e, Nat.or_assoc]; rfl
def divN (u : Nat) : Nat := if u % 10 = 0 then u / 10 else Fp.mark (u / 10)
theorem divN_or (u : Nat) : (u / 10 ||| u % 2) ||| (if u % 10 = 0 then 0 else 1) = divN u := by
  unfold divN
  by_cases h : u % 10 = 0
  · rw [if_pos h, if_pos h, Nat.or_zero]
    have : u % 2 = 0 := by omega
    rw [this, Nat.or_zero]
  · rw [if_neg h, if_neg h]
    have : u % 2 = 0 ∨ u % 2 = 1 := by omega
    rcases this with h2 | h2
    · rw [h2, Nat.or_zero, or_one_mark]
    · rw [h2, Nat.or_assoc]; exact or_one_mark _
theorem bool2u_any (b : Bool) (w : World) :
    Calls Tryz.prog 165 #[.bool b] w fun e w' => e = .returned (.int .u64 (if b then 1 else 0)) ∧ w' = w := by
  cases b <;> (go_enter Tryz.func165, Tryz.ntmps165; go_wp2; go_ret; exact ⟨rfl, rfl⟩)
set_option maxHeartbeats 1000000 in
theorem div_walk (u : Nat) (k : Int) (w : World) (h2 : u < 9223372036854775808) (hk : Hid (k = 10)) :
    Calls Tryz.prog 143 #[.int .u64 (u : Nat), .int .u64 k] w fun e w' => e = .returned (.int .u64 (divN u : Nat)) ∧ ∃ n, w' = w.drewN n := by
  obtain ⟨z, hz⟩ : ∃ z, z = u % 2 := ⟨_, rfl⟩
  obtain ⟨q, hq⟩ : ∃ q, q = u / 10 := ⟨_, rfl⟩
  have k1 := and_one_bits u (by omega)
  have k2 := or_nat (u / 10) (u % 2) (by omega) (by omega)
  have k4 := divN_or u
  rw [← hz] at k1 k2 k4
  rw [← hq] at k2 k4
  obtain ⟨v, hv⟩ : ∃ v, v = (q ||| z) := ⟨_, rfl⟩
  rw [← hv] at k2 k4
  have hvb : v < 18446744073709551616 := by
    rw [hv]; exact Nat.or_lt_two_pow (n := 64) (by omega) (by omega)
  have hqb : q < 9223372036854775808 := by omega
  have k6 : (u : Int) / k = (q : Nat) := by rw [hk.out]; omega
  obtain ⟨t, ht⟩ : ∃ t : Int, t = (u : Int) % k := ⟨_, rfl⟩
  have k7 : (u : Int) % k = t := ht.symm
  have htt : t = 0 ↔ u % 10 = 0 := by rw [ht, hk.out]; omega
  have k8 : 1 ≤ k := by rw [hk.out]; omega
  have k9 : 0 ≤ t := by rw [ht, hk.out]; omega
  have k10 : t ≤ 10 := by rw [ht, hk.out]; omega
  have k3 := or_nat v 0 hvb (by omega)
  have k5 := or_nat v 1 hvb (by omega)
  clear hv hz hvb hq ht
  by_cases h : u % 10 = 0
  · rw [if_pos h] at k4
    rw [k4] at k3
    have c : (t != 0) = false := by simp [htt.2 h]
    have kk : bits .or .u64 (v : Nat) 0 = (divN u : Nat) := k3
    clear k4 h k3 k5 htt k9 k10
    go_enter Tryz.func143, Tryz.ntmps143
    go_wp2_with fail
    go_quiet ((go_at_call 165; exact Calls.quiet_of_same (bool2u_any _ _)))
    go_wp2_with fail
    go_ret
    exact ⟨rfl, _, rfl⟩
  · rw [if_neg h] at k4
    rw [k4] at k5
    have c : (t != 0) = true := by simp; intro h2; exact h (htt.1 h2)
    have kk : bits .or .u64 (v : Nat) 1 = (divN u : Nat) := k5
    clear k4 h k3 k5 htt
    go_enter Tryz.func143, Tryz.ntmps143
    go_wp2_with fail
    go_quiet ((go_at_call 165; exact Calls.quiet_of_same (bool2u_any _ _)))
    go_wp2_with fail
    go_ret
    exact ⟨rfl, _, rfl⟩
theorem div_any (u : Nat) (w : World) (h2 : u < 9223372036854775808) :
    Calls Tryz.prog 143 #[.int .u64 (u : Nat), .int .u64 10] w fun e w' => e = .returned (.int .u64 (divN u : Nat)) ∧ ∃ n, w' = w.drewN n :=
  div_walk u 10 w h2 (Lib.hid rfl)
theorem bool2_any (b : Bool) (w : World) :
    Calls Tryz.prog 126 #[.bool b] w fun e w' => e = .returned (.int .u64 (if b then 1 else 0)) ∧ w' = w := by
  cases b <;> (go_enter Tryz.func126, Tryz.ntmps126; go_wp2; go_ret; exact ⟨rfl, rfl⟩)
theorem or_one (q : Nat) (h : q < 18446744073709551616) : bits .or .u64 (q : Nat) 1 = (Fp.mark q : Nat) := by
  have := u64_or_nat q 1 h (by omega)
  simp only [Int.cast_ofNat_Int] at this
  rw [this]
  have e : ∀ a, 2 * a ||| 1 = 2 * a + 1 := fun a => (Nat.two_pow_add_eq_or_of_lt (i := 1) (b := 1) (by decide) a).symm
  unfold Fp.mark
  by_cases hq : q % 2 = 0
  · rw [if_pos hq]
    obtain ⟨a, rfl⟩ : ∃ a, q = 2 * a := ⟨q / 2, by omega⟩
    rw [e]
  · rw [if_neg hq]
    obtain ⟨a, rfl⟩ : ∃ a, q = 2 * a + 1 := ⟨q / 2, by omega⟩
    rw [← e, Nat.or_assoc]; rfl
theorem or_zero (q : Nat) (h : q < 18446744073709551616) : bits .or .u64 (q : Nat) 0 = (q : Nat) := by
  have := u64_or_nat q 0 h (by omega)
  simp only [Int.cast_ofNat_Int] at this
  rw [this, Nat.or_zero]
theorem and63 : ∀ s : Nat, s < 64 → bits .and .i64 (s : Nat) 63 = (s : Nat) := by decide +kernel
set_option maxHeartbeats 1000000 in
theorem uscale_walk (x hi lo s : Nat) (b : Nat) (w : World) (hs : s < 64) (hx : x < 18446744073709551616) (hh : hi < 18446744073709551616) (hl : lo < 18446744073709551616) (hH1 : 1 ≤ x * hi / 18446744073709551616)
    (h0 : w.cell? ⟨b, 0, none⟩ = some (.int .u64 (hi : Nat))) (h1 : w.cell? ⟨b, 1, none⟩ = some (.int .u64 (lo : Nat))) (h2 : w.cell? ⟨b, 2, none⟩ = some (.int .i64 (s : Nat))) :
    Calls Tryz.prog 136 #[.int .u64 (x : Nat), .pointer (some ⟨b, 0, none⟩)] w fun e w' => e = .returned (.int .u64 (Fp.uscaleN x hi lo s : Nat)) ∧ ∃ n, w' = w.drewN n := by
  have m1 : bits .and .i64 (s : Nat) 63 = s := and63 s hs
  have hm1 := Lib.hid (Tryz.bits_Mul64 x hi hx hh)
  have hm2 := Lib.hid (Tryz.bits_Mul64 x lo hx hl)
  obtain ⟨r, hr⟩ : ∃ r, r = Fp.uscaleN x hi lo s := ⟨_, rfl⟩
  rw [← hr]
  unfold Fp.uscaleN at hr
  dsimp only at hr
  rw [show (2 : Nat) ^ 64 = 18446744073709551616 from rfl] at hr
  obtain ⟨H, hH⟩ : ∃ H, H = x * hi / 18446744073709551616 := ⟨_, rfl⟩
  obtain ⟨mid, hmid⟩ : ∃ H, H = x * hi % 18446744073709551616 := ⟨_, rfl⟩
  obtain ⟨mid2, hmid2⟩ : ∃ H, H = x * lo / 18446744073709551616 := ⟨_, rfl⟩
  rw [← hH, ← hmid, ← hmid2] at hr
  have bH : H < 18446744073709551616 := by
    rw [hH]; apply Nat.div_lt_of_lt_mul
    exact Nat.mul_lt_mul_of_lt_of_le hx (Nat.le_of_lt hh) (by omega)
  have bm : mid < 18446744073709551616 := by rw [hmid]; exact Nat.mod_lt _ (by omega)
  have bm2 : mid2 < 18446744073709551616 := by
    rw [hmid2]; apply Nat.div_lt_of_lt_mul
    exact Nat.mul_lt_mul_of_lt_of_le hx (Nat.le_of_lt hl) (by omega)
  rw [← hH, ← hmid] at hm1
  rw [← hH] at hH1
  rw [← hmid2] at hm2
  clear hx hh hl hH hmid hmid2
  obtain ⟨Q, hQ⟩ : ∃ Q, Q = H / 2 ^ s := ⟨_, rfl⟩
  obtain ⟨T, hT⟩ : ∃ T, T = Q * 2 ^ s := ⟨_, rfl⟩
  rw [← hQ, ← hT] at hr
  have bQ : Q ≤ H := by rw [hQ]; exact Nat.div_le_self _ _
  have bT : T ≤ H := by rw [hT, hQ]; exact Nat.div_mul_le_self _ _
  have e1 : ((H : Nat) : Int) / 2 ^ s = (Q : Nat) := by rw [hQ]; push_cast; rfl
  have e2 : IntKind.u64.wrap (((Q : Nat) : Int) * 2 ^ s) = (T : Nat) := by
    have : ((Q : Nat) : Int) * 2 ^ s = (T : Nat) := by rw [hT]; push_cast; rfl
    rw [this]; exact u64_in (by omega) (by omega)
  have hs0 : ((s : Nat) : Int) < 64 := by omega
  have hQ' := Lib.hid hQ
  clear hQ hT
  by_cases c : T = H
  · have c' : (((T : Nat) : Int) != ((H : Nat) : Int)) = false := by simp [c]
    have hr2 := Lib.hid (hr.trans (if_neg (fun h => h c)))
    clear hr c bT
    obtain ⟨t, ht⟩ : ∃ t, t = (mid + 18446744073709551616 - mid2) % 18446744073709551616 := ⟨_, rfl⟩
    rw [← ht] at hr2
    have w3 : IntKind.u64.wrap (((mid : Nat) : Int) - ((mid2 : Nat) : Int)) = (t : Nat) := by rw [IntKind.wrap_u64, ht]; omega
    clear ht
    obtain ⟨K, hK⟩ : ∃ K, K = if mid < mid2 then H - 1 else H := ⟨_, rfl⟩
    rw [← hK] at hr2
    have wH := u64_in (x := ((H : Nat) : Int)) (by omega) (by omega)
    have w2 : ∃ m : Bool, decide (mid < mid2) = m ∧ IntKind.u64.wrap (((H : Nat) : Int) - (if m then 1 else 0)) = (K : Nat) := by
      refine ⟨decide (mid < mid2), rfl, ?_⟩
      by_cases d : mid < mid2
      · rw [if_pos d] at hK
        simp only [d, decide_true, if_true]
        rw [hK, u64_in (by omega) (by omega)]; omega
      · rw [if_neg d] at hK
        simp only [d, decide_false, if_false, Bool.false_eq_true]
        rw [hK, u64_in (by omega) (by omega)]; omega
    have bK : K < 18446744073709551616 := by rw [hK]; split <;> omega
    obtain ⟨m, w4, w5⟩ := w2
    obtain ⟨V, hV⟩ : ∃ V, V = K / 2 ^ s := ⟨_, rfl⟩
    rw [← hV] at hr2
    have bV : V ≤ K := by rw [hV]; exact Nat.div_le_self _ _
    have e4 : ((K : Nat) : Int) / 2 ^ s = (V : Nat) := by rw [hV]; push_cast; rfl
    have e5 := or_one V (by omega)
    have e6 := or_zero V (by omega)
    have hVQ : m = false → V = Q := by
      intro hm
      rw [hm] at w4
      have : ¬ mid < mid2 := by simpa using w4
      rw [if_neg this] at hK
      rw [hV, hK, hQ'.out]
    have hw1 : m = true → IntKind.u64.wrap (((H : Nat) : Int) - 1) = (K : Nat) := fun hm => by rw [← w5, hm]; rfl
    have hVQ := Lib.hid hVQ
    have hw1 := Lib.hid hw1
    clear hK hH1 bK bV hV bm bm2 bQ bH w5
    have hr3 := Lib.hid hr2.out
    clear hr2
    by_cases ct : 1 < t
    · have hr4 := Lib.hid (hr3.out.trans (if_pos ct))
      have ct' : decide (1 < ((t : Nat) : Int)) = true := by simp; omega
      clear ct hr3
      cases m
      · have hv := hVQ.out rfl
        subst hv
        clear hw1 hVQ e4
        go_enter Tryz.func136, Tryz.ntmps136
        go_wp2_with fail
        refine (hm1.out _).mono ?_
        rintro e w' ⟨rfl, rfl⟩
        go_wp2_with fail
        refine (hm2.out _).mono ?_
        rintro e w' ⟨rfl, rfl⟩
        go_wp2_with fail
        refine (bool2_any _ _).mono ?_
        rintro e w' ⟨rfl, rfl⟩
        go_wp2_with fail
        go_quiet ((go_at_call 126; exact Calls.quiet_of_same (bool2_any _ _)))
        go_wp2_with fail
        go_ret
        exact ⟨ret_of (by rw [hr4.out]; rfl), _, rfl⟩
      · have w5 := hw1.out rfl
        clear hw1 hVQ
        go_enter Tryz.func136, Tryz.ntmps136
        go_wp2_with fail
        refine (hm1.out _).mono ?_
        rintro e w' ⟨rfl, rfl⟩
        go_wp2_with fail
        refine (hm2.out _).mono ?_
        rintro e w' ⟨rfl, rfl⟩
        go_wp2_with fail
        refine (bool2_any _ _).mono ?_
        rintro e w' ⟨rfl, rfl⟩
        go_wp2_with fail
        go_quiet ((go_at_call 126; exact Calls.quiet_of_same (bool2_any _ _)))
        go_wp2_with fail
        go_ret
        exact ⟨ret_of (by rw [hr4.out]; rfl), _, rfl⟩
    · have hr4 := Lib.hid (hr3.out.trans (if_neg ct))
      have ct' : decide (1 < ((t : Nat) : Int)) = false := by simp; omega
      clear ct hr3
      cases m
      · have hv := hVQ.out rfl
        subst hv
        clear hw1 hVQ e4
        go_enter Tryz.func136, Tryz.ntmps136
        go_wp2_with fail
        refine (hm1.out _).mono ?_
        rintro e w' ⟨rfl, rfl⟩
        go_wp2_with fail
        refine (hm2.out _).mono ?_
        rintro e w' ⟨rfl, rfl⟩
        go_wp2_with fail
        refine (bool2_any _ _).mono ?_
        rintro e w' ⟨rfl, rfl⟩
        go_wp2_with fail
        go_quiet ((go_at_call 126; exact Calls.quiet_of_same (bool2_any _ _)))
        go_wp2_with fail
        go_ret
        exact ⟨ret_of (by rw [hr4.out]; rfl), _, rfl⟩
      · have w5 := hw1.out rfl
        clear hw1 hVQ
        go_enter Tryz.func136, Tryz.ntmps136
        go_wp2_with fail
        refine (hm1.out _).mono ?_
        rintro e w' ⟨rfl, rfl⟩
        go_wp2_with fail
        refine (hm2.out _).mono ?_
        rintro e w' ⟨rfl, rfl⟩
        go_wp2_with fail
        refine (bool2_any _ _).mono ?_
        rintro e w' ⟨rfl, rfl⟩
        go_wp2_with fail
        go_quiet ((go_at_call 126; exact Calls.quiet_of_same (bool2_any _ _)))
        go_wp2_with fail
        go_ret
        exact ⟨ret_of (by rw [hr4.out]; rfl), _, rfl⟩
  · have c' : (((T : Nat) : Int) != ((H : Nat) : Int)) = true := by simp; omega
    have hr2 := Lib.hid (hr.trans (if_pos c))
    have e3 := or_one Q (by omega)
    clear hr c bT bm bm2 bH bQ
    go_enter Tryz.func136, Tryz.ntmps136
    go_wp2_with fail
    refine (hm1.out _).mono ?_
    rintro e w' ⟨rfl, rfl⟩
    go_wp2_with fail
    go_ret
    exact ⟨ret_of (by rw [hr2.out]; rfl), 0, rfl⟩
def hiOf (p : Int) : Nat := (Fp.pmOf p + 18446744073709551615) / 18446744073709551616
def loOf (p : Int) : Nat := hiOf p * 18446744073709551616 - Fp.pmOf p
set_option maxHeartbeats 1000000 in
theorem prescale_walk (e p lp : Int) (j : Nat) (b : Nat) (w : World) (hp : p + 348 = (j : Nat)) (hj : j < 696) (he : -4000 ≤ e ∧ e ≤ 4000) (hlp : -4000 ≤ lp ∧ lp ≤ 4000)
    (ht0 : w.cell? ⟨11, j * 2, none⟩ = some (.int .u64 (hiOf p : Nat))) (ht1 : w.cell? ⟨11, j * 2 + 1, none⟩ = some (.int .u64 (loOf p : Nat)))
    (x0 x1 x2 : Value) (ha0 : w.cell? ⟨b, 0, none⟩ = some x0) (ha1 : w.cell? ⟨b, 1, none⟩ = some x1) (ha2 : w.cell? ⟨b, 2, none⟩ = some x2) (hz0 : w.frozen? ⟨b, 0, none⟩ = false) (hz1 : w.frozen? ⟨b, 1, none⟩ = false) (hz2 : w.frozen? ⟨b, 2, none⟩ = false) :
    Calls Tryz.prog 134 #[.pointer (some ⟨b, 0, none⟩), .int .i64 e, .int .i64 p, .int .i64 lp] w fun e' w' => e' = .returned (.tuple #[]) ∧ (((w.setCell ⟨b, 0, none⟩ (.int .u64 (hiOf p : Nat))).setCell ⟨b, 1, none⟩ (.int .u64 (loOf p : Nat))).setCell ⟨b, 2, none⟩ (.int .i64 (-(e + lp + 3)))) = w' := by
  obtain ⟨he1, he2⟩ := he
  obtain ⟨hl1, hl2⟩ := hlp
  have hp2 : p = (j : Int) - 348 := by omega
  subst hp2
  have hj2 : ((j : Nat) : Int) < 696 := by omega
  go_enter Tryz.func134, Tryz.ntmps134
  go_wp2
  go_end0
  exact ⟨rfl, rfl⟩
end Go.Proofs.YtapinbbflfkglaaGreatDoor
