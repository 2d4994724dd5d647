import Derived.Test.YtapinbbflfkglaaGreatDoorVFb4
namespace Go.Proofs.YtapinbbflfkglaaGreatDoor
open Go.RowKit
set_option maxRecDepth 100000
theorem uscaleN_lt {x hi lo s : Nat} (hx : x < 18446744073709551616) (hh : hi < 18446744073709551616) (hs : 2 ≤ s) : Fp.uscaleN x hi lo s < 9223372036854775808 := by
  have hH : x * hi / 2 ^ 64 < 2 ^ 64 := by
    apply Nat.div_lt_of_lt_mul
    rw [← Nat.pow_add]
    exact Nat.lt_of_lt_of_le (Nat.mul_lt_mul_of_lt_of_le hx (Nat.le_of_lt hh) (by omega)) (by decide)
  have key : ∀ h : Nat, h < 2 ^ 64 → h / 2 ^ s ≤ 4611686018427387903 := by
    intro h hh
    have : h / 2 ^ s ≤ h / 2 ^ 2 := Nat.div_le_div_left (Nat.pow_le_pow_right (by omega) hs) (by decide)
    simp only [Nat.reducePow] at *
    omega
  have mk : ∀ q, q ≤ 4611686018427387903 → Fp.mark q < 9223372036854775808 := fun q hq => by unfold Fp.mark; split <;> omega
  unfold Fp.uscaleN
  dsimp only
  have k1 := key _ hH
  have k2 : (if x * hi % 2 ^ 64 < x * lo / 2 ^ 64 then x * hi / 2 ^ 64 - 1 else x * hi / 2 ^ 64) / 2 ^ s ≤ 4611686018427387903 := by
    apply key; split <;> omega
  split
  · exact mk _ k1
  · split
    · exact mk _ k2
    · omega
set_option maxHeartbeats 2000000 in
theorem fixed_walk (m : Nat) (e : Int) (p : Int) (j sN : Nat) (w : World) (he1 : -1200 ≤ e) (he2 : e ≤ 1000) (hp : Hid (p = 16 - (e + 63) * 78913 / 262144)) (hp1 : -320 ≤ p) (hp2 : p ≤ 347)
    (hj : Hid (p + 348 = (j : Nat))) (hsN : Hid (-(e + Fp.lp10 p + 3) = (sN : Nat))) (hs2 : 2 ≤ sN) (hs : sN < 64) (hm : m < 18446744073709551616) (hh : hiOf p < 18446744073709551616) (hlo : loOf p < 18446744073709551616) (hH : 1 ≤ m * hiOf p / 18446744073709551616)
    (ht0 : w.cell? ⟨11, j * 2, none⟩ = some (.int .u64 (hiOf p : Nat))) (ht1 : w.cell? ⟨11, j * 2 + 1, none⟩ = some (.int .u64 (loOf p : Nat))) (ht2 : w.cell? ⟨7, 17, none⟩ = some (.int .u64 100000000000000000)) :
    Calls Tryz.prog 101 #[.int .u64 (m : Nat), .int .i64 e, .int .i64 17, .int .i64 16, .int .u8 101] w fun e' w' =>
      e' = .returned (if 399999999999999998 ≤ Fp.uscaleN m (hiOf p) (loOf p) sN then .tuple #[.int .u64 (Fp.rnd (divN (Fp.uscaleN m (hiOf p) (loOf p) sN)) : Nat), .int .i64 (-(p - 1))] else .tuple #[.int .u64 (Fp.rnd (Fp.uscaleN m (hiOf p) (loOf p) sN) : Nat), .int .i64 (-p)]) ∧ Below w.heap.size w w' := by
  have hub := uscaleN_lt (lo := loOf p) hm hh hs2
  have HL10 := Lib.hid (log10Pow2_any (e + 63))
  have HL2 := Lib.hid (log2Pow10_any p)
  have hlpb : -4000 ≤ Fp.lp10 p ∧ Fp.lp10 p ≤ 4000 := by unfold Fp.lp10; omega
  have HPS := Lib.hid (fun b w => prescale_walk e p (Fp.lp10 p) j b w hj.out (by have := hj.out; omega) ⟨by omega, by omega⟩ hlpb)
  have HUS := Lib.hid (fun b w => uscale_walk m (hiOf p) (loOf p) sN b w hs hm hh hlo hH)
  obtain ⟨L, hL⟩ : ∃ L, L = Fp.lp10 p := ⟨_, rfl⟩
  obtain ⟨u, hu⟩ : ∃ u, u = Fp.uscaleN m (hiOf p) (loOf p) sN := ⟨_, rfl⟩
  rw [← hu] at hub HUS
  rw [← hu]
  rw [← hL] at HL2 HPS hsN
  have hpw : 16 - (e + 63) * 78913 / 262144 = p := hp.out.symm
  obtain ⟨hi, hhi⟩ : ∃ hi, hi = hiOf p := ⟨_, rfl⟩
  obtain ⟨lo, hlo2⟩ : ∃ lo, lo = loOf p := ⟨_, rfl⟩
  rw [← hhi] at ht0 HPS HUS
  rw [← hlo2] at ht1 HPS HUS
  have hsz : 11 < w.heap.size := World.block_lt_of_cell? _ _ ht0
  obtain ⟨o0, ho0⟩ : ∃ o0 : Obj, o0 = .cells #[.int .u64 0, .int .u64 0, .int .i64 0] 159 := ⟨_, rfl⟩
  have HPS2 : Calls Tryz.prog 134 #[.pointer (some ⟨w.heap.size, 0, none⟩), .int .i64 e, .int .i64 p, .int .i64 L] (w.alloc (.cells #[.int .u64 0, .int .u64 0, .int .i64 0] 159)) fun e' w' => e' = .returned (.tuple #[]) ∧ w.alloc (.cells #[.int .u64 (hi : Nat), .int .u64 (lo : Nat), .int .i64 (sN : Nat)] 159) = w' := by
    refine (HPS.out w.heap.size _ ?_ ?_ _ _ _ (World.cell?_alloc_at _ _ _ _ rfl) (World.cell?_alloc_at _ _ _ _ rfl) (World.cell?_alloc_at _ _ _ _ rfl) (World.frozen?_alloc_at _ _ _ _ rfl) (World.frozen?_alloc_at _ _ _ _ rfl) (World.frozen?_alloc_at _ _ _ _ rfl)).mono ?_
    · rw [World.cell?_alloc_past _ _ _ hsz]; exact ht0
    · rw [World.cell?_alloc_past _ _ _ hsz]; exact ht1
    · rintro e' w' ⟨rfl, rfl⟩
      refine ⟨rfl, ?_⟩
      rw [World.setCell_alloc_at _ _ _ _ _ rfl, World.setCell_alloc_at _ _ _ _ _ rfl, World.setCell_alloc_at _ _ _ _ _ rfl, hsN.out]
      rfl
  have HPS3 := Lib.hid HPS2
  have HUS2 : Calls Tryz.prog 136 #[.int .u64 (m : Nat), .pointer (some ⟨w.heap.size, 0, none⟩)] (w.alloc (.cells #[.int .u64 (hi : Nat), .int .u64 (lo : Nat), .int .i64 (sN : Nat)] 159)) fun e w' => e = .returned (.int .u64 (u : Nat)) ∧ ∃ n, w' = (w.alloc (.cells #[.int .u64 (hi : Nat), .int .u64 (lo : Nat), .int .i64 (sN : Nat)] 159)).drewN n :=
    HUS.out w.heap.size _ (World.cell?_alloc_at _ _ _ _ rfl) (World.cell?_alloc_at _ _ _ _ rfl) (World.cell?_alloc_at _ _ _ _ rfl)
  have HUS3 := Lib.hid HUS2
  have ht7 : ∀ n, ((w.alloc (.cells #[.int .u64 (hi : Nat), .int .u64 (lo : Nat), .int .i64 (sN : Nat)] 159)).drewN n).cell? ⟨7, 17, none⟩ = some (.int .u64 100000000000000000) := fun n => by
    rw [World.cell?_drewN, World.cell?_alloc_past _ _ _ (World.block_lt_of_cell? _ _ ht2)]; exact ht2
  have hBel : ∀ n, Below w.heap.size w ((w.alloc (.cells #[.int .u64 (hi : Nat), .int .u64 (lo : Nat), .int .i64 (sN : Nat)] 159)).drewN n) := fun n => below_drewN ((Below.refl _ _).alloc (Nat.le_refl _) _) n
  have HB := Lib.hid hBel
  clear HPS2 HUS2 HPS HUS ho0 hBel
  clear hu hL hp hm hh hlo hH hhi hlo2 hlpb
  go_enter Tryz.func101, Tryz.ntmps101
  go_wp2_with fail
  refine (HL10.out _ (by omega) (by omega)).mono ?_
  rintro e' w' ⟨rfl, rfl⟩
  go_wp2_with fail
  refine (HL2.out _ (by omega) (by omega)).mono ?_
  rintro e' w' ⟨rfl, hw'⟩
  subst hw'
  go_wp2_with fail
  refine HPS3.out.mono ?_
  rintro e' w' ⟨rfl, hw'⟩
  subst hw'
  go_wp2_with fail
  refine HUS3.out.mono ?_
  rintro e' w2 ⟨rfl, n, rfl⟩
  have ht8 := ht7 n
  have hbn := HB.out n
  clear HB ht7
  generalize (w.alloc (.cells #[.int .u64 (hi : Nat), .int .u64 (lo : Nat), .int .i64 (sN : Nat)] 159)).drewN n = w2 at *
  go_wp2_with fail
  refine (unmin_any _ _ (by omega) (by omega)).mono ?_
  rintro e' w' ⟨rfl, rfl⟩
  have hdiv := Lib.hid (div_any u)
  have hrnd := Lib.hid (round_any)
  by_cases c : 399999999999999998 ≤ u
  · have c' : decide ((399999999999999998 : Int) ≤ (u : Nat)) = true := by simp; omega
    go_wp2_with fail
    refine (hdiv.out _ hub).mono ?_
    rintro e' w3 ⟨rfl, n3, rfl⟩
    have hd2 : divN u < 9223372036854775808 := by unfold divN Fp.mark; (repeat' split) <;> omega
    go_wp2_with fail
    refine (hrnd.out _ _ hd2).mono ?_
    rintro e' w4 ⟨rfl, rfl⟩
    go_wp2_with fail
    go_ret2
    exact ⟨rfl, below_drewN hbn n3⟩
  · have c' : decide ((399999999999999998 : Int) ≤ (u : Nat)) = false := by simp; omega
    go_wp2_with fail
    refine (hrnd.out _ _ hub).mono ?_
    rintro e' w4 ⟨rfl, rfl⟩
    go_wp2_with fail
    go_ret2
    exact ⟨rfl, hbn⟩
end Go.Proofs.YtapinbbflfkglaaGreatDoor
