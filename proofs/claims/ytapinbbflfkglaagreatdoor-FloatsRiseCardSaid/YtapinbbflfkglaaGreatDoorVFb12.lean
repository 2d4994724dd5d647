import Derived.Test.YtapinbbflfkglaaGreatDoorVFb10
import Derived.Deep.CutBlock
import Derived.Deep.CutRange
import Derived.Deep.QuietTactic
import Derived.BigQuiet
import Derived.Deep.RegionWith
namespace Go.Proofs.YtapinbbflfkglaaGreatDoor
open Go.RowKit Go.Lib Go.Sort
set_option maxRecDepth 100000
theorem ext92 (n : Nat) (w : World) : (callFunc 92 #[.float .f64 n]).run Tryz.prog w = .ok (.value (.int .u64 n)) w := by
  rw [run_callFunc_extern Tryz.func92 (by kernel_rfl) (by kernel_rfl) (by kernel_rfl) (e := Extern.MathFloatBits.float64bits) (by kernel_rfl)]; rfl
theorem and2047 (S : Nat) (h : S < 4096) : bits .and .i64 ((S : Nat) : Int) 2047 = ((S % 2048 : Nat) : Int) := by
  have h2 : ∀ n, n < 4096 → bits .and .i64 ((n : Nat) : Int) 2047 = ((n % 2048 : Nat) : Int) := by decide +kernel
  exact h2 S h
theorem and52 (b : Nat) (h : b < 18446744073709551616) : bits .and .u64 ((b : Nat) : Int) 4503599627370495 = ((b % 4503599627370496 : Nat) : Int) := by
  have := u64_and_nat b 4503599627370495 h (by omega)
  simp only [Int.cast_ofNat_Int] at this
  rw [this, show (4503599627370495 : Nat) = 2 ^ 52 - 1 from rfl, Nat.and_two_pow_sub_one_eq_mod]
theorem or52 (m : Nat) (h : m < 4503599627370496) : bits .or .u64 ((m : Nat) : Int) 4503599627370496 = ((m + 4503599627370496 : Nat) : Int) := by
  have := u64_or_nat m 4503599627370496 (by omega) (by omega)
  simp only [Int.cast_ofNat_Int] at this
  rw [this]
  have k := Nat.two_pow_add_eq_or_of_lt (i := 52) (b := m) h 1
  rw [Nat.or_comm, show (4503599627370496 : Nat) = 2 ^ 52 * 1 from rfl, ← k, Nat.add_comm]
theorem lt_of_heap {w : World} {k : Nat} {o : Obj} (h : w.heap[k]? = some o) : k < w.heap.size := by
  rcases Nat.lt_or_ge k w.heap.size with c | c
  · exact c
  · rw [Array.getElem?_eq_none c] at h; cases h
set_option maxHeartbeats 4000000 in
theorem ftoa_nz (W w : World) (g : Nat) (cur : Array Value) (b : Nat) (hb : b < 18446744073709551616) (q m0 : Nat) (hq : Hid (q = b / 4503599627370496 % 2048)) (hm : Hid (m0 = b % 4503599627370496)) (hfin : q < 2047)
    (E : Int) (M : Nat) (hE : Hid (E = if q = 0 then -1022 else (q : Int) - 1023)) (hM : Hid (M = if q = 0 then m0 else m0 + 4503599627370496)) (hM1 : 1 ≤ M)
    (hT : ∀ w', Below W.heap.size W w' → Tabs w') (hBW : Below W.heap.size W w) (hWw : W.heap.size ≤ g) (hg : w.heap[g]? = some (.cells cur 5 (0, 0))) (hcur : cur.size = 24)
    (sh : Nat) (hL : Lib.bitLen M + sh = 64) (hsh1 : 11 ≤ sh) (hsh2 : sh ≤ 63) (hms1 : 9223372036854775808 ≤ M * 2 ^ sh) (hms2 : M * 2 ^ sh < 18446744073709551616)
    (D : Nat) (P : Int) (hD : Hid (D = fxD (M * 2 ^ sh) (E - sh - 52))) (hP : Hid (P = fxP (M * 2 ^ sh) (E - sh - 52))) (hD1 : 1 ≤ D) (hD2 : D < 100000000000000000) (hP1 : -370 ≤ P) (hP2 : P ≤ 370) :
    Calls Tryz.prog 75 #[.slice (some ⟨g, 0, none⟩) 0 24, .float .f64 b, .int .u8 101, .int .i64 16] w fun e w' =>
      ∃ m n z, e = .returned (.slice (some ⟨g, 0, none⟩) n 24) ∧ m ≤ Lib.nDigits D ∧ (∀ i, i < Lib.nDigits D - m → D / 10 ^ i % 10 = 0) ∧ (m = 0 ∨ D / 10 ^ (Lib.nDigits D - m) % 10 ≠ 0) ∧
        Bf W w' g z n (dsL D) (outE ((b : Int) / 9223372036854775808 != 0) (dsL D) m (if m = 0 then 0 else (Lib.nDigits D : Int) + P - 1)) := by
  have k := ext92
  have hs : ((b : Nat) : Int) / 4503599627370496 = ((b / 4503599627370496 : Nat) : Int) := by omega
  obtain ⟨S, hS⟩ : ∃ S, S = b / 4503599627370496 := ⟨_, rfl⟩
  have hS1 : S < 4096 := by omega
  rw [← hS] at hs
  have c1 : bits .and .i64 ((S : Nat) : Int) 2047 = ((q : Nat) : Int) := by rw [and2047 S hS1, hq.out, hS]
  have c2 : bits .and .u64 ((b : Nat) : Int) 4503599627370495 = ((m0 : Nat) : Int) := by rw [and52 b hb, hm.out]
  have hm1 : m0 < 4503599627370496 := by rw [hm.out]; exact Nat.mod_lt _ (by omega)
  have c3 : decide (((q : Nat) : Int) = 2047) = false := by simp only [decide_eq_false_iff_not]; omega
  have hM2 : M < 9007199254740992 := by rw [hM.out]; split <;> omega
  have hE1 : -1022 ≤ E := by rw [hE.out]; split <;> omega
  have hE2 : E ≤ 1023 := by rw [hE.out]; split <;> omega
  have HT := Lib.hid hT
  have HBW := Lib.hid hBW
  have HG := Lib.hid hg
  obtain ⟨L, hLE⟩ : ∃ L, L = 64 - sh := ⟨_, rfl⟩
  have hL1 : 1 ≤ L := by omega
  have hL2 : L ≤ 53 := by omega
  have HLen : Hid (∀ w, Calls Tryz.prog 96 #[.int .u64 (M : Nat)] w fun e w' => e = .returned (.int .i64 (L : Nat)) ∧ w' = w) := Lib.hid (fun w => by
    have := Tryz.bits_Len64 (M : Nat) w (by omega) (by omega)
    rw [Int.toNat_natCast, show Lib.bitLen M = L by omega] at this
    exact this)
  have hFX : ∀ w, Tabs w → Calls Tryz.prog 101 #[.int .u64 ((M * 2 ^ sh : Nat) : Nat), .int .i64 (E - sh - 52), .int .i64 17, .int .i64 16, .int .u8 101] w fun e' w' =>
      e' = .returned (.tuple #[.int .u64 (D : Nat), .int .i64 P]) ∧ Below w.heap.size w w' := fun w T => by
    rw [hD.out, hP.out]
    exact fx_walk (M * 2 ^ sh) (E - sh - 52) w (by omega) (by omega) hms1 hms2 T
  obtain ⟨ms, hmsE⟩ : ∃ ms, ms = M * 2 ^ sh := ⟨_, rfl⟩
  have hshl : IntKind.u64.wrap (((M : Nat) : Int) * 2 ^ (64 - L)) = ((ms : Nat) : Int) := by
    rw [show 64 - L = sh by omega, show ((M : Nat) : Int) * 2 ^ sh = ((M * 2 ^ sh : Nat) : Int) by rw [Int.natCast_mul, Int.natCast_pow]; rfl, ← hmsE]
    exact u64_in (by omega) (by omega)
  have hexp : E + 1023 + -1023 - (64 - (L : Int)) - 52 = E - sh - 52 := by omega
  have HSH := Lib.hid hshl
  have HEX := Lib.hid hexp
  rw [← hmsE] at hms1 hms2 hFX
  have HFX := Lib.hid hFX
  clear hS hT hBW hg hFX hD hP hL hmsE hshl hexp hLE
  go_enter Tryz.func75, Tryz.ntmps75
  go_wp2_with (fail)
  go_quiet (fail)
  go_upto_if 78 with (fail)
  clear c1 c2 hs
  obtain ⟨w1, hw1⟩ : ∃ x, x = w.drewN nq := ⟨_, rfl⟩
  rw [← hw1]
  have HW1 := Lib.hid hw1
  clear hw1
  go_cut [14, 15] (fun v14 v15 wc => wc = w1 ∧ v14 = .int .i64 (E + 1023) ∧ v15 = .int .u64 (M : Nat))
  case first =>
    as_aux_lemma =>
      by_cases c : q = 0
      · have c4 : decide (((q : Nat) : Int) = 0) = true := by simp only [decide_eq_true_eq]; omega
        have e1 : Hid (E + 1023 = 1) := Lib.hid (by rw [hE.out, if_pos c]; omega)
        have e2 : Hid (M = m0) := Lib.hid (by rw [hM.out, if_pos c])
        subst c
        go_wp2_with (fail)
        go_meet
        exact ⟨rfl, by rw [e1.out], by rw [e2.out]⟩
      · have c4 : decide (((q : Nat) : Int) = 0) = false := by simp only [decide_eq_false_iff_not]; omega
        have e1 : Hid (E + 1023 = (q : Nat)) := Lib.hid (by rw [hE.out, if_neg c]; omega)
        have e2 : Hid (M = m0 + 4503599627370496) := Lib.hid (by rw [hM.out, if_neg c])
        have c5 : bits .or .u64 ((m0 : Nat) : Int) 4503599627370496 = ((m0 + 4503599627370496 : Nat) : Int) := or52 m0 hm1
        go_wp2_with (fail)
        go_meet
        exact ⟨rfl, by rw [e1.out], by rw [e2.out, Int.natCast_add]; rfl⟩
  case rest =>
    as_aux_lemma =>
      obtain ⟨rfl, rfl, rfl⟩ := hcut
      have hB1 : Below W.heap.size W wc := by rw [HW1.out]; exact below_drewN HBW.out _
      have hg1 : wc.heap[g]? = some (.cells cur 5 (0, 0)) := by rw [HW1.out]; exact HG.out
      have ht1 := (HT.out wc hB1).opt
      have c4 : decide (((M : Nat) : Int) = 0) = false := by simp only [decide_eq_false_iff_not]; omega
      have HB1 := Lib.hid hB1
      have HG1 := Lib.hid hg1
      clear c3 hE hM hq hm HBW HG HW1 hB1 hg1
      go_wp2_with (fail)
      refine (HLen.out _).mono ?_
      rintro e' w' ⟨rfl, rfl⟩
      go_wp2_with (fail)
      rw [HSH.out, HEX.out]
      obtain ⟨w2, hw2⟩ : ∃ w2, w2 = wc.alloc (.cells zero24 117) := ⟨_, rfl⟩
      have hB2 : Below W.heap.size W w2 := by rw [hw2]; exact HB1.out.alloc HB1.out.size _
      have hg2 : w2.heap[g]? = some (.cells cur 5 (0, 0)) := by
        rw [hw2, Below.heap_alloc _ _ _ (lt_of_heap HG1.out)]; exact HG1.out
      have hz2 : w2.heap[wc.heap.size]? = some (.cells zero24 117 (0, 0)) := by rw [hw2]; exact heap_alloc_new wc _
      have hgz : g ≠ wc.heap.size := Nat.ne_of_lt (lt_of_heap HG1.out)
      obtain ⟨z, hz⟩ : ∃ z, z = wc.heap.size := ⟨_, rfl⟩
      have hWz : W.heap.size ≤ z := by rw [hz]; exact HB1.out.size
      rw [← hz] at hz2 hgz
      have HX2 := Lib.hid hw2
      have HB2 := Lib.hid hB2
      have HG2 := Lib.hid hg2
      have HZ2 := Lib.hid hz2
      have HZ := Lib.hid hz
      change Calls _ 101 _ (wc.alloc (.cells zero24 117)) _
      rw [← HX2.out]
      clear hw2 hB2 hg2 hz2 hz
      refine (HFX.out _ (HT.out w2 HB2.out)).mono ?_
      rintro e' w3 ⟨rfl, hb3⟩
      have HB3 : Hid (Below W.heap.size W w3) := Lib.hid (HB2.out.trans (hb3.mono HB2.out.size))
      have HG3 : Hid (w3.heap[g]? = some (.cells cur 5 (0, 0))) := Lib.hid ((hb3.block g (lt_of_heap HG2.out)).trans HG2.out)
      have HZ3 : Hid (w3.heap[z]? = some (.cells zero24 117 (0, 0))) := Lib.hid ((hb3.block z (lt_of_heap HZ2.out)).trans HZ2.out)
      clear hb3 HB2 HG2 HZ2 HX2 HB1 HG1 HFX HLen
      obtain ⟨N, hN⟩ : ∃ N, N = Lib.nDigits D := ⟨_, rfl⟩
      have hN17 : N ≤ 17 := by rw [hN]; exact nDigits_le hD1 (k := 17) hD2
      have hDN : D < 10 ^ N := by rw [hN]; exact Lib.lt_pow_nDigits D
      have HND : Hid (∀ w', Below W.heap.size W w' → Calls Tryz.prog 99 #[.int .u64 (D : Nat)] w' fun e w'' => e = .returned (.int .i64 (N : Nat)) ∧ w'' = w') := Lib.hid (fun w' h => by
        rw [hN]; exact Tryz.internal_strconv_numDigits D hD1 (by omega) w' (HT.out w' h).tab)
      have HSD := Lib.hid (fun (w' : World) (h : w'.heap[z]? = some (.cells zero24 117 (0, 0))) => setDigits_any z 0 24 24 N D P (Array.replicate N 0) w' Array.size_replicate (by omega) (by omega) (zero_holds h (by omega)) hDN (by omega) (by omega) (by omega) (by omega))
      have HN := Lib.hid hN
      clear hN hDN
      have c5 : decide (((D : Nat) : Int) = 0) = false := by simp only [decide_eq_false_iff_not]; omega
      rw [← HZ.out]
      clear HZ
      go_wp2_with (fail)
      go_region_with (first | (go_at_call 99; refine (HND.out _ ?_).mono ?_; (first | exact HB3.out | exact below_drewN HB3.out _ | exact HB3.out.drew); rintro e' w' ⟨rfl, rfl⟩) | (go_at_call 98; refine (HSD.out _ ?_).mono ?_; exact HZ3.out; rintro e' w4 ⟨m, rfl, hS⟩))
      obtain ⟨hm, hzr, hst, n4, dk, hw4, hdk, hdg⟩ := hS
      have HB4 : Hid (Bf W w4 g z 0 (dsL D) []) := Lib.hid (by
        rw [hw4]
        exact bf_start HB3.out.drew hWw hWz HG3.out hcur hgz HZ3.out (by rw [← HN.out]; omega) (by rw [← HN.out]; exact hdk) (by rw [← HN.out]; exact hdg))
      obtain ⟨x, hx⟩ : ∃ x : Int, x = if m = 0 then 0 else ((N : Nat) : Int) + P - 1 := ⟨_, rfl⟩
      have hx1 : -400 ≤ x := by rw [hx]; split <;> omega
      have hx2 : x ≤ 400 := by rw [hx]; split <;> omega
      have HFE := Lib.hid (fmtE_any W w4 g z m 24 24 ((b : Int) / 9223372036854775808 != 0) (dsL D) ((N : Nat) + P) x (.slice (some ⟨z, 0, none⟩) 24 24) HB4.out (by omega) (by rw [dsL_length, ← HN.out]; exact hm) (.inr rfl) (by omega) (by omega) (dsL_byte D (by rw [← HN.out]; exact hm)) (Lib.hid hx) hx1 hx2 (by omega) (by omega))
      have HX := Lib.hid hx
      have HZR := Lib.hid hzr
      have HST := Lib.hid hst
      clear hx hzr hst hw4 hdk hdg HB3 HG3 HZ3 HND HSD HB4
      go_wp2_with (fail)
      refine HFE.out.mono ?_
      rintro e' w5 ⟨n, rfl, hB5⟩
      have HB5 := Lib.hid hB5
      clear hB5 HFE
      go_wp2_with (fail)
      go_ret
      rw [← HN.out]
      exact ⟨m, n, z, rfl, hm, HZR.out, HST.out, by rw [← HX.out]; exact HB5.out⟩
end Go.Proofs.YtapinbbflfkglaaGreatDoor
