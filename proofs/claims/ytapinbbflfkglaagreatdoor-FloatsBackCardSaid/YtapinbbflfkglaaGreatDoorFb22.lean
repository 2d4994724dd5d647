/-
  THE PRINTED DIGITS' BOUNDS: seventeen digits, whatever the number; the text of a finite number, as a list of bytes.
-/
import Derived.Test.YtapinbbflfkglaaGreatDoorFb14
namespace Go.Proofs.YtapinbbflfkglaaGreatDoor
open Go.RowKit Go.Lib Go.Sort
set_option maxRecDepth 100000
/-- the quotient whose rounding is printed, times 4: numerator's factor and denominator -/
def prA (e : Int) : Nat := Fp.numA (pOf e)
def prB (e : Int) : Nat := Fp.denB (pOf e) * 2 ^ (128 + fxS e)
def bdOk (n : Nat) : Bool :=
  let e := (n : Int) - 1137
  decide (10 ^ 16 * 4 * prB e ≤ 2 ^ 63 * prA e) && decide (2 ^ 64 * prA e ≤ 8 * 10 ^ 17 * prB e) && decide (-291 ≤ pOf e) && decide (pOf e ≤ 340) && decide (3 ≤ fxS e)
theorem bd_all : (List.range 2098).all bdOk = true := by decide +kernel
theorem bd_get (e : Int) (h1 : -1137 ≤ e) (h2 : e ≤ 960) : 10 ^ 16 * 4 * prB e ≤ 2 ^ 63 * prA e ∧ 2 ^ 64 * prA e ≤ 8 * 10 ^ 17 * prB e ∧ -291 ≤ pOf e ∧ pOf e ≤ 340 ∧ 3 ≤ fxS e := by
  have := List.all_eq_true.1 bd_all (e + 1137).toNat (by simp; omega)
  unfold bdOk at this
  rw [show (((e + 1137).toNat : Nat) : Int) - 1137 = e by omega] at this
  simp only [Bool.and_eq_true, decide_eq_true_eq] at this
  exact ⟨this.1.1.1.1, this.1.1.1.2, this.1.1.2, this.1.2, this.2⟩
theorem prB_pos (e : Int) : 0 < prB e := Nat.mul_pos (Fp.denB_pos _) (Nat.two_pow_pos _)
theorem pm_hilo (p : Int) : Fp.pmOf p + loOf p = hiOf p * 2 ^ 64 := by
  unfold loOf hiOf
  generalize Fp.pmOf p = x
  omega
theorem fxU_eq {m : Nat} {e : Int} (h1 : -1137 ≤ e) (h2 : e ≤ 960) (hm1 : 2 ^ 52 ≤ m) (hm2 : m < 2 ^ 53) : fxU (2048 * m) e = Fp.unr (2048 * m * prA e) (prB e) := by
  obtain ⟨_, _, b3, b4, b5⟩ := bd_get e h1 h2
  have hl := hilo (pOf e) (by omega) (by omega)
  exact Fp.print_uscale b3 b4 hm1 hm2 hl.2.2 (pm_hilo _) b5
theorem fxU_bd {m : Nat} {e : Int} (h1 : -1137 ≤ e) (h2 : e ≤ 960) (hm1 : 2 ^ 52 ≤ m) (hm2 : m < 2 ^ 53) : 40000000000000000 ≤ fxU (2048 * m) e ∧ fxU (2048 * m) e ≤ 800000000000000001 := by
  obtain ⟨b1, b2, _, _, _⟩ := bd_get e h1 h2
  rw [fxU_eq h1 h2 hm1 hm2]
  have hB := prB_pos e
  have hu := @Fp.unr_even (2048 * m * prA e) (prB e)
  have g1 : 40000000000000000 ≤ 2048 * m * prA e / prB e := by
    rw [Nat.le_div_iff_mul_le hB]
    refine Nat.le_trans (by simpa using b1) (Nat.mul_le_mul_right _ ?_)
    omega
  have g2 : 2048 * m * prA e / prB e ≤ 800000000000000000 := by
    refine Nat.div_le_of_le_mul (Nat.le_trans (Nat.mul_le_mul_right _ (show 2048 * m ≤ 2 ^ 64 by omega)) ?_)
    rw [Nat.mul_comm (prB e)]
    simpa using b2
  omega
theorem fxD_bd {m : Nat} {e : Int} (h1 : -1137 ≤ e) (h2 : e ≤ 960) (hm1 : 2 ^ 52 ≤ m) (hm2 : m < 2 ^ 53) : 10000000000000000 ≤ fxD (2048 * m) e ∧ fxD (2048 * m) e < 100000000000000000 := by
  obtain ⟨b1, b2⟩ := fxU_bd h1 h2 hm1 hm2
  unfold fxD Fp.rnd divN Fp.mark
  generalize fxU (2048 * m) e = u at *
  repeat' split
  all_goals omega
theorem fxP_bd {m : Nat} {e : Int} (h1 : -1137 ≤ e) (h2 : e ≤ 960) : -340 ≤ fxP m e ∧ fxP m e ≤ 292 := by
  obtain ⟨_, _, b3, b4, _⟩ := bd_get e h1 h2
  unfold fxP
  split <;> omega
theorem nDigits17 {D : Nat} (h1 : 10000000000000000 ≤ D) (h2 : D < 100000000000000000) : Lib.nDigits D = 17 := Lib.nDigits_unique 16 D (by simpa using h1) (by simpa using h2)
/-- the last kept digit is not 0; behind it all are -/
theorem kp_spec : ∀ (N D : Nat), kp D N ≤ N ∧ (∀ i, i < N - kp D N → D / 10 ^ i % 10 = 0) ∧ (kp D N = 0 ∨ D / 10 ^ (N - kp D N) % 10 ≠ 0)
  | 0, D => ⟨Nat.le_refl _, fun i h => absurd h (by unfold kp; omega), .inl rfl⟩
  | N + 1, D => by
    unfold kp
    by_cases c : D % 10 = 0
    · rw [if_pos c]
      obtain ⟨a1, a2, a3⟩ := kp_spec N (D / 10)
      refine ⟨by omega, fun i hi => ?_, ?_⟩
      · cases i with
        | zero => simpa using c
        | succ i =>
          rw [Nat.pow_succ, Nat.mul_comm, ← Nat.div_div_eq_div_mul]
          exact a2 i (by omega)
      · refine a3.imp id fun h => ?_
        rw [show N + 1 - kp (D / 10) N = (N - kp (D / 10) N) + 1 by omega, Nat.pow_succ, Nat.mul_comm, ← Nat.div_div_eq_div_mul]
        exact h
    · rw [if_neg c]
      exact ⟨Nat.le_refl _, fun i h => absurd h (by omega), .inr (by simpa using c)⟩
theorem kp_pos {D N : Nat} (h : D / 10 ^ (N - 1) % 10 ≠ 0) (hN : 1 ≤ N) : 1 ≤ kp D N := by
  obtain ⟨a1, a2, a3⟩ := kp_spec N D
  rcases Nat.eq_zero_or_pos (kp D N) with c | c
  · rw [c] at a2
    exact absurd (a2 (N - 1) (by omega)) h
  · exact c

/-! the text -/
def sgB (neg : Bool) : List UInt8 := if neg then [45] else []
/-- a number's text: sign, first digit, the others behind a point, the exponent -/
def numT (neg : Bool) (ds : List UInt8) (k : Nat) (x : Int) : List UInt8 :=
  sgB neg ++ ds.getD 0 0 :: (if k ≤ 1 then [] else 46 :: (ds.take k).drop 1) ++ [101] ++ Lib.itoa x
theorem index_byte : ∀ (A X : List UInt8) (c : UInt8), (∀ b ∈ A, b ≠ c) → Lib.index (A ++ c :: X) [c] = A.length
  | [], X, c, _ => by rw [List.nil_append]; unfold Lib.index; rw [if_pos (by simp [List.isPrefixOf])]; rfl
  | a :: A, X, c, h => by
    have ih := index_byte A X c (fun b hb => h b (List.mem_cons_of_mem _ hb))
    have ha : (c == a) = false := by rw [beq_eq_false_iff_ne]; exact fun e => h a (List.mem_cons_self ..) e.symm
    rw [List.cons_append]
    unfold Lib.index
    rw [if_neg (by simp [List.isPrefixOf, ha]), ih, if_neg (by first | (simp; done) | (simp; omega))]
    first | (simp; done) | rfl
theorem cut_byte (A X : List UInt8) (c : UInt8) (h : ∀ b ∈ A, b ≠ c) : Lib.cut (A ++ c :: X) [c] = (A, X, true) := by
  unfold Lib.cut
  rw [index_byte A X c h, if_pos (by omega)]
  simp
theorem trimR_last {A : List UInt8} {b c : UInt8} (n : Nat) (h : b ≠ c) : Lib.trimRightB (A ++ b :: List.replicate n c) c = A ++ [b] := by
  unfold Lib.trimRightB
  rw [List.reverse_append, List.reverse_cons, List.reverse_replicate, List.append_assoc]
  have : ∀ (m : Nat) (r : List UInt8), List.dropWhile (· == c) (List.replicate m c ++ r) = List.dropWhile (· == c) r := by
    intro m r
    induction m with
    | zero => rfl
    | succ m ih => rw [List.replicate_succ, List.cons_append, List.dropWhile_cons, if_pos (by simp), ih]
  rw [this]
  have hb : (b == c) = false := by rw [beq_eq_false_iff_ne]; exact h
  rw [List.singleton_append, List.dropWhile_cons, if_neg (by simp [hb])]
  simp
theorem trimS_yes (A : List UInt8) (c : UInt8) : Lib.trimSuffix (A ++ [c]) [c] = A := by
  unfold Lib.trimSuffix
  have : Lib.hasSuffix (A ++ [c]) [c] = true := by
    unfold Lib.hasSuffix
    rw [List.isSuffixOf_iff_suffix]
    exact List.suffix_append _ _
  rw [if_pos this]
  simp
theorem trimS_no (A : List UInt8) {b c : UInt8} (h : b ≠ c) : Lib.trimSuffix (A ++ [b]) [c] = A ++ [b] := by
  unfold Lib.trimSuffix
  rw [if_neg]
  unfold Lib.hasSuffix
  rw [List.isSuffixOf_iff_suffix]
  intro hs
  have := List.suffix_iff_eq_drop.1 hs
  simp at this
  exact h this.symm
theorem expDB_atoi : ∀ a : Nat, a < 400 → Lib.atoi (45 :: expDB a) = some (-(a : Int)) ∧ Lib.atoi (43 :: expDB a) = some (a : Int) := by decide +kernel
theorem expDB_len (a : Nat) : (expDB a).length ≤ 3 := by unfold expDB; repeat' split; all_goals simp
theorem outB_parts {neg : Bool} {ds : List UInt8} {m : Nat} {x : Int} (hm : 1 ≤ m) :
    outB neg ds m x = (sgB neg ++ ds.getD 0 0 :: 46 :: ((ds.take m).drop 1 ++ List.replicate (17 - m) 48)) ++ 101 :: ((if x < 0 then 45 else 43) :: expDB x.natAbs) := by
  unfold outB sgB
  rw [if_neg (show ¬ m = 0 by omega), Nat.max_eq_left hm]
  simp
/-- FormatFloat's bytes, cut and trimmed: the text -/
theorem mant_of {neg : Bool} {ds : List UInt8} {m : Nat} {x : Int} (hm : 1 ≤ m) (hml : m ≤ ds.length) (hl : ds.length ≤ 17) (hd : ∀ b ∈ ds, 48 ≤ b.toNat ∧ b.toNat ≤ 57) (hlast : ds.getD (m - 1) 0 ≠ 48) (h0 : 1 ≤ ds.length) (hx : x.natAbs < 400) :
    mant0 (outB neg ds m x) ++ [101] ++ Lib.itoa x = numT neg ds m x ∧ Lib.atoi (Lib.cut (outB neg ds m x) [101]).2.1 = some x ∧ (Lib.cut (outB neg ds m x) [101]).2.1.length ≤ 18 ∧ (outB neg ds m x).length ≤ 24 := by
  have hg : ds.getD 0 0 ∈ ds := by
    rw [List.getD_eq_getElem?_getD, List.getElem?_eq_getElem (by omega)]
    exact List.getElem_mem _
  have hsg : ∀ b ∈ sgB neg, b = 45 := by intro b; unfold sgB; split <;> simp
  have hne : ∀ b ∈ sgB neg ++ ds.getD 0 0 :: 46 :: ((ds.take m).drop 1 ++ List.replicate (17 - m) 48), b ≠ 101 := by
    intro b hb e
    subst e
    simp only [List.mem_append, List.mem_cons, List.mem_replicate] at hb
    rcases hb with hb | hb | hb | hb | hb
    · exact absurd (hsg _ hb) (by decide)
    · have := hd _ hg; rw [← hb] at this; exact absurd this (by decide)
    · exact absurd hb (by decide)
    · have := hd _ (List.mem_of_mem_take (List.mem_of_mem_drop hb)); exact absurd this (by decide)
    · exact absurd hb.2 (by decide)
  have hcut := cut_byte _ ((if x < 0 then 45 else 43) :: expDB x.natAbs) 101 hne
  rw [← outB_parts (x := x) hm] at hcut
  have hea := expDB_atoi x.natAbs hx
  have hel := expDB_len x.natAbs
  refine ⟨?_, ?_, ?_, ?_⟩
  · have hmt : mantT (outB neg ds m x) = sgB neg ++ ds.getD 0 0 :: (if m ≤ 1 then [] else 46 :: (ds.take m).drop 1) := by
      unfold mantT
      rw [hcut]
      by_cases c : m ≤ 1
      · rw [if_pos c]
        obtain rfl : m = 1 := by omega
        have e1 : (ds.take 1).drop 1 = [] := by simp
        rw [e1, List.nil_append]
        have := trimR_last (A := sgB neg ++ [ds.getD 0 0]) (b := 46) (c := 48) (17 - 1) (by decide)
        rw [List.append_assoc, List.singleton_append] at this
        show Lib.trimSuffix (Lib.trimRightB (sgB neg ++ ds.getD 0 0 :: 46 :: List.replicate (17 - 1) 48) 48) [46] = _
        rw [this, trimS_yes]
      · rw [if_neg c]
        have e1 : (ds.take m).drop 1 = (ds.take (m - 1)).drop 1 ++ [ds.getD (m - 1) 0] := by
          have : ds.take m = ds.take (m - 1) ++ [ds.getD (m - 1) 0] := by
            conv => lhs; rw [show m = (m - 1) + 1 by omega]
            rw [List.take_add_one, List.getElem?_eq_getElem (by omega), List.getD_eq_getElem?_getD, List.getElem?_eq_getElem (by omega)]
            rfl
          rw [this, List.drop_append_of_le_length (by simp; omega)]
        have e2 : sgB neg ++ ds.getD 0 0 :: 46 :: ((ds.take m).drop 1 ++ List.replicate (17 - m) 48) = (sgB neg ++ ds.getD 0 0 :: 46 :: (ds.take (m - 1)).drop 1) ++ ds.getD (m - 1) 0 :: List.replicate (17 - m) 48 := by
          rw [e1]; simp
        show Lib.trimSuffix (Lib.trimRightB (sgB neg ++ ds.getD 0 0 :: 46 :: ((ds.take m).drop 1 ++ List.replicate (17 - m) 48)) 48) [46] = _
        rw [e2, trimR_last _ hlast]
        have hl46 : ds.getD (m - 1) 0 ≠ 46 := by
          have : ds.getD (m - 1) 0 ∈ ds := by
            rw [List.getD_eq_getElem?_getD, List.getElem?_eq_getElem (by omega)]
            exact List.getElem_mem _
          intro e
          have := hd _ this
          rw [e] at this
          exact absurd this (by decide)
        rw [trimS_no _ hl46, e1]
        simp
    have hg0 := hd _ hg
    unfold mant0 numT
    rw [hmt, if_neg]
    · intro h
      rcases h with h | h
      · simp at h
      · cases neg with
        | false =>
          simp only [sgB, Bool.false_eq_true, if_false, List.nil_append, List.cons.injEq] at h
          rw [h.1] at hg0
          exact absurd hg0 (by decide)
        | true => simp [sgB] at h
  · rw [hcut]
    show Lib.atoi ((if x < 0 then 45 else 43) :: expDB x.natAbs) = some x
    by_cases c : x < 0
    · rw [if_pos c, hea.1]; congr 1; omega
    · rw [if_neg c, hea.2]; congr 1; omega
  · rw [hcut]
    show ((if x < 0 then (45 : UInt8) else 43) :: expDB x.natAbs).length ≤ 18
    simp; omega
  · rw [outB_parts hm]
    have : (sgB neg).length ≤ 1 := by unfold sgB; split <;> simp
    simp
    omega
end Go.Proofs.YtapinbbflfkglaaGreatDoor
