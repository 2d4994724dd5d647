import Derived.Test.YtapinbbflfkglaaGreatDoorVRm
import Derived.Test.YtapinbbflfkglaaGreatDoorVFq
import Derived.Lib.Strings
import Derived.Lib.ItoaNum
import Derived.Test.YtapinbbflfkglaaGreatDoorVFb8
import Derived.Lib.ConvBytes
import Derived.Laws.BytesArg
import Derived.Test.YtapinbbflfkglaaGreatDoorVFp1
import Derived.Test.YtapinbbflfkglaaGreatDoorVFb24
import Derived.Test.YtapinbbflfkglaaGreatDoorVFc4
namespace Go.Proofs.YtapinbbflfkglaaGreatDoor.PFloatsParses
open Go.RowKit Go.Proofs.YtapinbbflfkglaaGreatDoorW.PrintWords Go.Proofs.YtapinbbflfkglaaGreatDoorW.PrintLast Go.Proofs.YtapinbbflfkglaaGreatDoorW.PrintMore
def lim (l : List Nat) : List Int := l.map fun (n : Nat) => (n : Int)
def val : List Nat → Nat
  | [] => 0
  | a :: r => a + 1000000000 * val r
def mulc (b : Nat) : List Nat → Nat → List Nat × Nat
  | [], c => ([], c)
  | a :: r, c => (((a * b + c) % 1000000000) :: (mulc b r ((a * b + c) / 1000000000)).1, (mulc b r ((a * b + c) / 1000000000)).2)
def stepN (b : Nat) (l : List Nat) : List Nat := if 0 < (mulc b l 0).2 then (mulc b l 0).1 ++ [(mulc b l 0).2] else (mulc b l 0).1
def mulN (b : Nat) : Nat → List Nat → List Nat
  | 0, l => l
  | n + 1, l => mulN b n (stepN b l)
theorem lim_length (l : List Nat) : (lim l).length = l.length := by simp [lim]
theorem lim_append (a b : List Nat) : lim (a ++ b) = lim a ++ lim b := by simp [lim]
theorem rd_mid (p : List Nat) (a : Nat) (r : List Nat) : rd (lim (p ++ a :: r)) ((p.length : Nat) : Int) = a := by
  unfold rd lim
  simp
theorem set_mid (p : List Nat) (a x : Nat) (r : List Nat) : (lim (p ++ a :: r)).set p.length (x : Int) = lim ((p ++ [x]) ++ r) := by
  unfold lim
  simp
theorem w64 {x : Int} (h1 : -9223372036854775808 ≤ x) (h2 : x < 9223372036854775808) : wrap64 x = x := by unfold wrap64; omega
theorem mulc_bd {b : Nat} (hb : 1 ≤ b) : ∀ (l : List Nat) (c : Nat), (∀ a ∈ l, a < 1000000000) → c < b → (∀ a ∈ (mulc b l c).1, a < 1000000000) ∧ (mulc b l c).2 < b ∧ (mulc b l c).1.length = l.length ∧ val (mulc b l c).1 + 1000000000 ^ l.length * (mulc b l c).2 = val l * b + c
  | [], c, _, hc => ⟨fun a h => by simp [mulc] at h, hc, rfl, by simp [mulc, val]⟩
  | a :: r, c, hl, hc => by
    have ha := hl a (List.mem_cons_self ..)
    have hc' : (a * b + c) / 1000000000 < b := by
      rw [Nat.div_lt_iff_lt_mul (by omega)]
      have : a * b + b ≤ 1000000000 * b := by rw [← Nat.succ_mul]; exact Nat.mul_le_mul_right b ha
      rw [Nat.mul_comm b]
      omega
    obtain ⟨i1, i2, i3, i4⟩ := mulc_bd hb r ((a * b + c) / 1000000000) (fun x hx => hl x (List.mem_cons_of_mem _ hx)) hc'
    refine ⟨?_, i2, by simp [mulc, i3], ?_⟩
    · intro x hx
      simp only [mulc, List.mem_cons] at hx
      rcases hx with rfl | hx
      · exact Nat.mod_lt _ (by omega)
      · exact i1 x hx
    · simp only [mulc, val, List.length_cons]
      have hm := Nat.div_add_mod (a * b + c) 1000000000
      generalize (a * b + c) / 1000000000 = q at *
      generalize (a * b + c) % 1000000000 = s at *
      rw [Nat.pow_succ, Nat.mul_comm _ 1000000000, Nat.mul_assoc]
      generalize (1000000000 ^ r.length * (mulc b r q).2) = y at *
      generalize val (mulc b r q).1 = z at *
      rw [Nat.add_mul, Nat.mul_assoc]
      generalize val r * b = v at *
      generalize a * b = u at *
      omega
theorem times_l1 {b : Nat} (hb : 1 ≤ b) (hb5 : b ≤ 5) (often : Nat) (h1 : 1 ≤ often) (h2 : often < 1000000) (R : List Int) : ∀ (l p : List Nat) (c : Nat), (∀ a ∈ l, a < 1000000000) → c < b → p.length + l.length < 1000000 →
    Ev (fun k => if 0 < (mulc b l c).2 then rhizomeref02_times.l0 k (lim (p ++ (mulc b l c).1 ++ [(mulc b l c).2])) b ((often - 1 : Nat) : Int) else rhizomeref02_times.l0 k (lim (p ++ (mulc b l c).1)) b ((often - 1 : Nat) : Int)) R →
    Ev (fun k => rhizomeref02_times.l1 k (lim (p ++ l)) b often c p.length) R
  | [], p, c, _, hc, hn, h => by
    refine Ev.step (fun k => ?_) h
    unfold rhizomeref02_times.l1
    rw [if_neg (by rw [lim_length]; simp)]
    simp only [mulc, List.append_nil]
    have hw : wrap64 (((often : Nat) : Int) - 1) = ((often - 1 : Nat) : Int) := by rw [w64 (by omega) (by omega)]; omega
    by_cases c0 : 0 < c
    · rw [if_pos (by omega), if_pos c0, if_pos (by rw [lim_length]; simp at hn; omega), hw, lim_append]
      rfl
    · rw [if_neg (by omega), if_neg c0, hw]
  | a :: r, p, c, hl, hc, hn, h => by
    have ha := hl a (List.mem_cons_self ..)
    have hmul : a * b ≤ 1000000000 * 5 := Nat.mul_le_mul (by omega) hb5
    have hc' : (a * b + c) / 1000000000 < b := by
      rw [Nat.div_lt_iff_lt_mul (by omega)]
      have : a * b + b ≤ 1000000000 * b := by rw [← Nat.succ_mul]; exact Nat.mul_le_mul_right b ha
      rw [Nat.mul_comm b]
      omega
    have ih := times_l1 hb hb5 often h1 h2 R r (p ++ [(a * b + c) % 1000000000]) ((a * b + c) / 1000000000) (fun x hx => hl x (List.mem_cons_of_mem _ hx)) hc' (by simp at hn ⊢; omega)
      (by simpa [mulc] using h)
    refine Ev.step (fun k => ?_) ih
    conv => lhs; unfold rhizomeref02_times.l1
    have e1 : wrap64 (((a : Nat) : Int) * ((b : Nat) : Int)) = ((a * b : Nat) : Int) := by
      rw [← Int.natCast_mul, w64 (by omega) (by omega)]
    have e2 : wrap64 (((a * b : Nat) : Int) + ((c : Nat) : Int)) = ((a * b + c : Nat) : Int) := by rw [← Int.natCast_add, w64 (by omega) (by omega)]
    have e3 : Int.tmod ((a * b + c : Nat) : Int) 1000000000 = (((a * b + c) % 1000000000 : Nat) : Int) := by
      rw [show (1000000000 : Int) = ((1000000000 : Nat) : Int) from rfl, ← Int.ofNat_tmod]
    have e4 : wrap64 (Int.tdiv ((a * b + c : Nat) : Int) 1000000000) = (((a * b + c) / 1000000000 : Nat) : Int) := by
      rw [show (1000000000 : Int) = ((1000000000 : Nat) : Int) from rfl, ← Int.ofNat_tdiv, w64 (by omega) (by omega)]
    have e5 : wrap64 (((p.length : Nat) : Int) + 1) = (((p ++ [(a * b + c) % 1000000000]).length : Nat) : Int) := by rw [w64 (by omega) (by simp at hn; omega)]; simp
    rw [if_pos (by rw [lim_length]; simp; omega), if_pos (by omega), rd_mid, e1, e2, e3, e4, e5, Int.toNat_natCast, set_mid]
theorem stepN_spec {b : Nat} (hb : 1 ≤ b) {l : List Nat} (hl : ∀ a ∈ l, a < 1000000000) (hb5 : b ≤ 5) : (∀ a ∈ stepN b l, a < 1000000000) ∧ val (stepN b l) = val l * b ∧ (stepN b l).length ≤ l.length + 1 := by
  obtain ⟨i1, i2, i3, i4⟩ := mulc_bd hb l 0 hl (by omega)
  unfold stepN
  have hv : ∀ (x : List Nat) (c : Nat), val (x ++ [c]) = val x + 1000000000 ^ x.length * c := by
    intro x c
    induction x with
    | nil => simp [val]
    | cons a r ih =>
      simp only [List.cons_append, val, ih, List.length_cons]
      rw [Nat.pow_succ, Nat.mul_comm _ 1000000000, Nat.mul_assoc, Nat.mul_add, Nat.add_assoc]
  split
  · refine ⟨?_, ?_, by simp [i3]⟩
    · intro a ha
      rw [List.mem_append, List.mem_singleton] at ha
      rcases ha with ha | rfl
      · exact i1 a ha
      · omega
    · rw [hv, i3, i4]; omega
  · refine ⟨i1, ?_, by omega⟩
    have : (mulc b l 0).2 = 0 := by omega
    rw [this] at i4
    omega
theorem times_ev {b : Nat} (hb : 1 ≤ b) (hb5 : b ≤ 5) : ∀ (n : Nat) (l : List Nat), (∀ a ∈ l, a < 1000000000) → l.length + n < 1000000 → Ev (fun k => rhizomeref02_times.f k (lim l) b n) (lim (mulN b n l))
  | 0, l, hl, hn => by
    refine Ev.step (f := fun _ => some (lim l)) (fun k => ?_) (Ev.now _)
    show rhizomeref02_times.l0 (k + 1) (lim l) b ((0 : Nat) : Int) = _
    unfold rhizomeref02_times.l0
    rw [if_neg (by omega)]
  | n + 1, l, hl, hn => by
    obtain ⟨s1, s2, s3⟩ := stepN_spec hb hl hb5
    have ih := times_ev hb hb5 n (stepN b l) s1 (by omega)
    refine Ev.step (f := fun k => rhizomeref02_times.l1 k (lim ([] ++ l)) b ((n + 1 : Nat) : Int) ((0 : Nat) : Int) (([] : List Nat).length : Nat)) (fun k => ?_) (times_l1 hb hb5 (n + 1) (by omega) (by omega) _ l [] 0 hl (by omega) (by simp; omega) ?_)
    · show rhizomeref02_times.l0 (k + 1) (lim l) b ((n + 1 : Nat) : Int) = _
      conv => lhs; unfold rhizomeref02_times.l0
      rw [if_pos (by omega)]
      rfl
    · refine Ev.congr (fun k => ?_) ih
      unfold stepN
      simp only [List.nil_append, Nat.add_sub_cancel]
      show _ = rhizomeref02_times.l0 k _ b (n : Nat)
      split
      · rfl
      · rfl
theorem mulN_spec {b : Nat} (hb : 1 ≤ b) (hb5 : b ≤ 5) : ∀ (n : Nat) (l : List Nat), (∀ a ∈ l, a < 1000000000) → (∀ a ∈ mulN b n l, a < 1000000000) ∧ val (mulN b n l) = val l * b ^ n ∧ (mulN b n l).length ≤ l.length + n
  | 0, l, hl => ⟨hl, by simp [mulN], Nat.le_refl _⟩
  | n + 1, l, hl => by
    obtain ⟨s1, s2, s3⟩ := stepN_spec hb hl hb5
    obtain ⟨i1, i2, i3⟩ := mulN_spec hb hb5 n (stepN b l) s1
    refine ⟨i1, ?_, by unfold mulN; omega⟩
    show val (mulN b n (stepN b l)) = _
    rw [i2, s2, Nat.pow_succ, Nat.mul_assoc, Nat.mul_comm b]
end Go.Proofs.YtapinbbflfkglaaGreatDoor.PFloatsParses
namespace Go.Proofs.YtapinbbflfkglaaGreatDoor.PFloatsParses
open Go.RowKit Go.Proofs.YtapinbbflfkglaaGreatDoorW.PrintWords Go.Proofs.YtapinbbflfkglaaGreatDoorW.PrintLast Go.Proofs.YtapinbbflfkglaaGreatDoorW.PrintMore
def lowD (l : List Nat) : List Nat := l.flatMap (d9 9)
def low : List Nat → Nat
  | [] => 0
  | d :: r => d + 10 * low r
def asc (l : List Nat) : List Int := l.map fun d => ((48 + d : Nat) : Int)
theorem asc_length (l : List Nat) : (asc l).length = l.length := by simp [asc]
theorem d9_lt : ∀ j n, ∀ d ∈ d9 j n, d < 10
  | 0, _, d, h => by simp [d9] at h
  | j + 1, n, d, h => by
    simp only [d9, List.mem_cons] at h
    rcases h with rfl | h
    · exact Nat.mod_lt _ (by omega)
    · exact d9_lt j _ d h
theorem d9_low : ∀ j n, n < 10 ^ j → low (d9 j n) = n
  | 0, n, h => by simp at h; simp [d9, low, h]
  | j + 1, n, h => by
    simp only [d9, low]
    rw [d9_low j (n / 10) (by rw [Nat.div_lt_iff_lt_mul (by omega)]; rw [Nat.pow_succ] at h; exact h)]
    omega
theorem low_append : ∀ a b, low (a ++ b) = low a + 10 ^ a.length * low b
  | [], b => by simp [low]
  | d :: r, b => by
    simp only [List.cons_append, low, low_append r b, List.length_cons]
    rw [Nat.pow_succ, Nat.mul_comm _ 10, Nat.mul_assoc, Nat.mul_add, Nat.add_assoc]
theorem lowD_low : ∀ l, (∀ a ∈ l, a < 1000000000) → low (lowD l) = val l
  | [], _ => rfl
  | a :: r, h => by
    have e : lowD (a :: r) = d9 9 a ++ lowD r := by simp [lowD]
    rw [e, low_append, d9_low 9 a (h a (List.mem_cons_self ..)), d9_length, lowD_low r (fun x hx => h x (List.mem_cons_of_mem _ hx))]
    rfl
theorem lowD_length : ∀ l, (lowD l).length = 9 * l.length
  | [] => rfl
  | a :: r => by
    have e : lowD (a :: r) = d9 9 a ++ lowD r := by simp [lowD]
    rw [e, List.length_append, d9_length, lowD_length r, List.length_cons]; omega
theorem lowD_lt (l : List Nat) : ∀ d ∈ lowD l, d < 10 := by
  intro d h
  simp only [lowD, List.mem_flatMap] at h
  obtain ⟨a, _, h⟩ := h
  exact d9_lt _ _ _ h
theorem dec_l1 (R : ByteArray) (xs : List Int) (i : Nat) (hi : i < 1000000) : ∀ (m n : Nat) (o : List Nat), m ≤ 9 → n < 1000000000 → o.length + m < 100000000 →
    Ev (fun k => rhizomeref02_decimal.l0 k xs (asc (o ++ d9 m n)) ((i + 1 : Nat) : Int)) R → Ev (fun k => rhizomeref02_decimal.l1 k xs (asc o) i n ((9 - m : Nat) : Int)) R
  | 0, n, o, _, _, _, h => by
    refine Ev.step (fun k => ?_) h
    conv => lhs; unfold rhizomeref02_decimal.l1
    rw [if_neg (by omega), w64 (by omega) (by omega)]
    simp [d9]
  | m + 1, n, o, hm, hn, ho, h => by
    have ih := dec_l1 R xs i hi m (n / 10) (o ++ [n % 10]) (by omega) (by omega) (by simp; omega) (by simpa [d9] using h)
    refine Ev.step (fun k => ?_) ih
    conv => lhs; unfold rhizomeref02_decimal.l1
    have e1 : (wrap64 (48 + (Int.tmod ((n : Nat) : Int) 10))) % 256 = ((48 + n % 10 : Nat) : Int) := by
      rw [show (10 : Int) = ((10 : Nat) : Int) from rfl, ← Int.ofNat_tmod, w64 (by omega) (by omega)]; omega
    have e2 : wrap64 (Int.tdiv ((n : Nat) : Int) 10) = ((n / 10 : Nat) : Int) := by
      rw [show (10 : Int) = ((10 : Nat) : Int) from rfl, ← Int.ofNat_tdiv, w64 (by omega) (by omega)]
    have e3 : wrap64 (((9 - (m + 1) : Nat) : Int) + 1) = ((9 - m : Nat) : Int) := by rw [w64 (by omega) (by omega)]; omega
    rw [if_pos (by omega), if_pos (by rw [asc_length]; omega), e1, e2, e3]
    congr 1
    simp [asc]
theorem dec_l0 (R : ByteArray) : ∀ (r p o : List Nat), (∀ a ∈ r, a < 1000000000) → p.length + r.length < 1000000 → o.length + 9 * r.length < 90000000 →
    Ev (fun k => rhizomeref02_decimal.l2 k (asc (o ++ lowD r)) 0) R → Ev (fun k => rhizomeref02_decimal.l0 k (lim (p ++ r)) (asc o) ((p.length : Nat) : Int)) R
  | [], p, o, _, _, _, h => by
    refine Ev.step (fun k => ?_) h
    conv => lhs; unfold rhizomeref02_decimal.l0
    rw [if_neg (by rw [lim_length]; simp)]
    simp [lowD]
  | a :: r, p, o, hl, hp, ho, h => by
    have e : lowD (a :: r) = d9 9 a ++ lowD r := by simp [lowD]
    have ih := dec_l0 R r (p ++ [a]) (o ++ d9 9 a) (fun x hx => hl x (List.mem_cons_of_mem _ hx)) (by simp at hp ⊢; omega) (by simp [d9_length] at ho ⊢; omega) (by rw [e] at h; simpa [List.append_assoc] using h)
    have h1 := dec_l1 R (lim (p ++ a :: r)) p.length (by simp at hp; omega) 9 a o (by omega) (hl a (List.mem_cons_self ..)) (by simp at ho; omega) (by simpa using ih)
    refine Ev.step (fun k => ?_) h1
    conv => lhs; unfold rhizomeref02_decimal.l0
    rw [if_pos (by rw [lim_length]; simp; omega), if_pos (by omega), rd_mid]
    rfl
def Half (xs s : List Int) (i : Nat) : Prop := s.length = xs.length ∧ ∀ j, j < xs.length → s.getD j 0 = if j < i ∨ xs.length ≤ i + j then xs.getD (xs.length - 1 - j) 0 else xs.getD j 0
theorem half_done {xs s : List Int} {i : Nat} (h : Half xs s i) (hi : xs.length / 2 ≤ i) : s = xs.reverse := by
  apply List.ext_getElem (by rw [List.length_reverse]; exact h.1)
  intro j h1 h2
  rw [List.length_reverse] at h2
  have := h.2 j h2
  rw [List.getD_eq_getElem?_getD, List.getElem?_eq_getElem h1, Option.getD_some] at this
  rw [this, List.getElem_reverse]
  have hx : ∀ m (hm : m < xs.length), xs.getD m 0 = xs[m] := fun m hm => by rw [List.getD_eq_getElem?_getD, List.getElem?_eq_getElem hm, Option.getD_some]
  split
  · rw [hx _ (by omega)]
  · rw [hx _ h2]
    congr 1
    omega
theorem dec_l2 (xs : List Int) (hl : xs.length < 100000000) : ∀ (m i : Nat) (s : List Int), i + m = xs.length / 2 → Half xs s i → Ev (fun k => rhizomeref02_decimal.l2 k s i) (strOfNums xs.reverse)
  | 0, i, s, hi, h => by
    refine Ev.step (f := fun _ => some (strOfNums xs.reverse)) (fun k => ?_) (Ev.now _)
    conv => lhs; unfold rhizomeref02_decimal.l2
    have hw : wrap64 (((s.length : Nat) : Int) / 2) = ((xs.length / 2 : Nat) : Int) := by rw [h.1, w64 (by omega) (by omega)]; omega
    rw [hw, if_neg (by omega), half_done h (by omega)]
  | m + 1, i, s, hi, h => by
    have hw : wrap64 (((s.length : Nat) : Int) / 2) = ((xs.length / 2 : Nat) : Int) := by rw [h.1, w64 (by omega) (by omega)]; omega
    have hw2 : wrap64 (wrap64 (((s.length : Nat) : Int) - 1) - (i : Nat)) = ((xs.length - 1 - i : Nat) : Int) := by
      rw [h.1, w64 (x := ((xs.length : Nat) : Int) - 1) (by omega) (by omega), w64 (by omega) (by omega)]; omega
    have hw3 : wrap64 (((i : Nat) : Int) + 1) = ((i + 1 : Nat) : Int) := by rw [w64 (by omega) (by omega)]; omega
    have r1 : rd s ((i : Nat) : Int) = xs.getD i 0 := by
      show s.getD _ 0 = _
      rw [Int.toNat_natCast, h.2 i (by omega), if_neg (by omega)]
    have r2 : rd s ((xs.length - 1 - i : Nat) : Int) = xs.getD (xs.length - 1 - i) 0 := by
      show s.getD _ 0 = _
      rw [Int.toNat_natCast, h.2 _ (by omega)]
      split
      · omega
      · rfl
    refine Ev.step (fun k => ?_) (dec_l2 xs hl m (i + 1) ((s.set i (xs.getD (xs.length - 1 - i) 0)).set (xs.length - 1 - i) (xs.getD i 0)) (by omega) ⟨by simp [h.1], fun j hj => ?_⟩)
    · conv => lhs; unfold rhizomeref02_decimal.l2
      rw [hw, hw2, hw3, r1, r2, if_pos (by omega), if_pos (by omega), if_pos (by rw [h.1]; omega), if_pos (by omega), if_pos (by rw [h.1]; omega), Int.toNat_natCast, Int.toNat_natCast]
    · rw [List.getD_eq_getElem?_getD, List.getElem?_set, List.getElem?_set]
      have h2 := h.2 j hj
      rw [List.getD_eq_getElem?_getD] at h2
      have hs1 := h.1
      by_cases c1 : xs.length - 1 - i = j
      · rw [if_pos c1, if_pos (by simp; omega), Option.getD_some, if_pos (by omega)]
        congr 1
        omega
      · rw [if_neg c1]
        by_cases c2 : i = j
        · rw [if_pos c2, if_pos (by omega), Option.getD_some, if_pos (by omega), c2]
        · rw [if_neg c2, h2]
          by_cases c3 : j < i ∨ xs.length ≤ i + j
          · rw [if_pos c3, if_pos (by omega)]
          · rw [if_neg c3, if_neg (by omega)]
theorem decimal_ev (l : List Nat) (hl : ∀ a ∈ l, a < 1000000000) (hn : l.length < 1000000) : Ev (fun k => rhizomeref02_decimal.f k (lim l)) ⟨((lowD l).reverse.map dB).toArray⟩ := by
  have h := dec_l0 ⟨((lowD l).reverse.map dB).toArray⟩ l [] [] hl (by simpa using hn) (by simp; omega) ?_
  · exact h
  · have h2 := dec_l2 (asc (lowD l)) (by rw [asc_length, lowD_length]; omega) ((asc (lowD l)).length / 2) 0 (asc (lowD l)) (by omega) ⟨rfl, fun j hj => by rw [if_neg (by omega)]⟩
    have e : strOfNums (asc (lowD l)).reverse = ⟨((lowD l).reverse.map dB).toArray⟩ := by
      unfold strOfNums asc
      congr 2
      rw [← List.map_reverse, List.map_map]
      apply List.map_congr_left
      intro d _
      simp only [Function.comp, Int.toNat_natCast]
      rfl
    rw [e] at h2
    simpa using h2
end Go.Proofs.YtapinbbflfkglaaGreatDoor.PFloatsParses
namespace Go.Proofs.YtapinbbflfkglaaGreatDoor
open Go.RowKit Go.Lib Go.Sort
set_option maxRecDepth 100000
structure Byt (W w : World) (g : Nat) (xs : List UInt8) : Prop where
  below : Below W.heap.size W w
  ge : W.heap.size ≤ g
  cell : ∀ j (h : j < xs.length), w.cell? ⟨g, j, none⟩ = some (.int .u8 (xs[j].toNat : Int))
  free : ∀ j, j < xs.length → w.frozen? ⟨g, j, none⟩ = false
theorem Byt.set {W w : World} {g : Nat} {xs : List UInt8} (h : Byt W w g xs) {i : Nat} (hi : i < xs.length) (b : UInt8) : Byt W (w.setCell ⟨g, i, none⟩ (.int .u8 (b.toNat : Int))) g (xs.set i b) := by
  refine ⟨h.below.setCell h.ge _, h.ge, fun j hj => ?_, fun j hj => ?_⟩
  · rw [List.length_set] at hj
    by_cases c : i = j
    · subst c
      rw [World.cell?_setCell_same _ _ _ (h.cell i hi), List.getElem_set_self]
    · rw [World.cell?_setCell_other _ _ _ _ (by intro e; injection e with _ e _; exact c e), h.cell j hj, List.getElem_set_ne c]
  · rw [List.length_set] at hj
    rw [World.frozen?_setCell]; exact h.free j hj
def upAt : Nat → List UInt8 → List UInt8
  | 0, xs => 49 :: xs
  | i + 1, xs => if xs.getD i 0 = 57 then upAt i (xs.set i 48) else xs.set i (xs.getD i 0 + 1)
theorem below_bytes (w : World) (s : ByteArray) : Below w.heap.size w (bytesWorld w 5 s) :=
  ⟨rfl, rfl, rfl, by rw [bytesWorld_size]; omega, fun i hi => bytesWorld_at_old w 5 s i hi⟩
theorem byt_new (w : World) (l : List UInt8) : Byt w (bytesWorld w 5 ⟨l.toArray⟩) w.heap.size l := by
  refine ⟨below_bytes w _, Nat.le_refl _, fun j hj => ?_, fun j hj => ?_⟩
  · rw [bytesWorld_cell _ _ _ _ (by show j < l.toArray.size; simpa using hj)]
    simp [List.getD, hj]
  · unfold World.frozen?
    rw [bytesWorld_at_new]
    have : (bytesCells w 5 ⟨l.toArray⟩).size ≥ l.length := by unfold bytesCells; simp
    simp
    omega
theorem cons_ba (b : UInt8) (x : List UInt8) : (⟨#[b]⟩ ++ ⟨x.toArray⟩ : ByteArray) = ⟨(b :: x).toArray⟩ := by
  apply ByteArray.ext
  simp [ByteArray.data_append]
theorem conv_byt {W w : World} {g n : Nat} {xs : List UInt8} (C : Nat) (h : Byt W w g xs) (hx : xs.length = n) : (convert 83 9 (.slice (some ⟨g, 0, none⟩) n C)).run Tryz.prog w = .ok (.string ⟨xs.toArray⟩) w := by
  have := run_convert_bytes_arg (P := Tryz.prog) w 83 5 Tryz.underlying83 (by rfl) g 0 n C (xs.map fun b => (b.toNat : Int)) (by simp [hx]) (fun i hi => by
    rw [Nat.zero_add, h.cell i (by omega)]
    simp [List.getD, hx, hi]) 9 Tryz.underlying9
  rw [this]
  congr 2
  unfold strOfNums
  rw [List.map_map]
  congr 2
  conv => rhs; rw [← List.map_id xs]
  apply List.map_congr_left
  intro b _
  simp
set_option maxHeartbeats 1000000 in
theorem up_any (w : World) (l : List UInt8) (hl1 : 1 ≤ l.length) (hl2 : l.length ≤ 64) :
    Calls Tryz.prog 63 #[.string ⟨l.toArray⟩] w fun e w' => e = .returned (.string ⟨(upAt l.length l).toArray⟩) ∧ Below w.heap.size w w' := by
  have hcv : ∀ w, (convert 9 83 (.string ⟨l.toArray⟩)).run Tryz.prog w = .ok (.slice (some ⟨w.heap.size, 0, none⟩) l.length (grownCap w l.length 0 5)) (bytesWorld w 5 ⟨l.toArray⟩) := fun w =>
    Lib.run_convert_string_bytes w 9 83 5 ⟨l.toArray⟩ Tryz.underlying9 Tryz.underlying83 (by rfl)
  have hb0 := byt_new w l
  obtain ⟨w0, hw0⟩ : ∃ x, x = bytesWorld w 5 ⟨l.toArray⟩ := ⟨_, rfl⟩
  rw [← hw0] at hb0
  have hcv1 := hcv w
  rw [← hw0] at hcv1
  clear hcv
  obtain ⟨g, hg⟩ : ∃ g, g = w.heap.size := ⟨_, rfl⟩
  obtain ⟨n, hn⟩ : ∃ n, n = l.length := ⟨_, rfl⟩
  obtain ⟨C, hC⟩ : ∃ C, C = grownCap w l.length 0 5 := ⟨_, rfl⟩
  rw [← hC, ← hn, ← hg] at hcv1
  rw [← hg] at hb0
  rw [← hn] at hl1 hl2
  obtain ⟨U, hU⟩ : ∃ U, U = upAt l.length l := ⟨_, rfl⟩
  rw [← hU]
  rw [← hn] at hU
  have HB := Lib.hid hb0
  have HU := Lib.hid hU
  have HN := Lib.hid hn
  clear hw0 hg hn hC hb0 hU
  go_enter Tryz.func63, Tryz.ntmps63
  go_wp2
  go_loopw [4] (fun vi wr => ∃ xs : List UInt8, xs.length = n ∧ Byt w wr g xs ∧ ((vi = .int .i64 (-1) ∧ Hid (49 :: xs = U)) ∨ ∃ j : Nat, vi = .int .i64 (j : Nat) ∧ j < n ∧ Hid (upAt (j + 1) xs = U))) (fun vi _ => (RowKit.intOf vi + 1).toNat)
  case atStart =>
    refine ⟨l, HN.out.symm, HB.out, .inr ⟨n - 1, ?_, by omega, Lib.hid (by rw [HU.out, Nat.sub_add_cancel hl1])⟩⟩
    congr 1
    omega
  case round =>
    obtain ⟨xs, hx, hB, h⟩ := hrel
    have HBx := Lib.hid hB
    clear hB HB HU
    rcases h with ⟨rfl, hu⟩ | ⟨j, rfl, hj, hu⟩
    · have hconv := conv_byt C HBx.out hx
      go_wp2
      go_ret
      refine ⟨?_, HBx.out.below⟩
      show Ending.returned (.string (⟨#[49]⟩ ++ ⟨xs.toArray⟩)) = _
      rw [← hu.out, cons_ba]
    · have hc := HBx.out.cell j (by omega)
      have hf := HBx.out.free j (by omega)
      obtain ⟨c, hce⟩ : ∃ c, c = xs[j] := ⟨_, rfl⟩
      have hgd : xs.getD j 0 = c := by rw [hce, List.getD_eq_getElem?_getD, List.getElem?_eq_getElem (by omega), Option.getD_some]
      rw [← hce] at hc
      clear hce
      obtain ⟨B, hBc⟩ : ∃ B : Nat, B = c.toNat := ⟨_, rfl⟩
      rw [← hBc] at hc
      have hB256 : B < 256 := by rw [hBc]; exact c.toNat_lt
      have HG := Lib.hid hgd
      have HC := Lib.hid hBc
      clear hgd hBc
      by_cases c57 : B = 57
      · have hset := HBx.out.set (i := j) (by omega) 48
        have HS := Lib.hid hset
        have hu2 : Hid (upAt j (xs.set j 48) = U) := Lib.hid (by
          have := hu.out
          unfold upAt at this
          rwa [if_pos (by rw [HG.out]; apply UInt8.toNat_inj.1; rw [← HC.out, c57]; rfl)] at this)
        clear hset hu HG HC
        cases j with
        | zero =>
          go_wp2
          refine ⟨⟨xs.set 0 48, by simp [hx], HS.out, .inl ⟨rfl, hu2⟩⟩, by simp [RowKit.intOf]⟩
        | succ m =>
          go_wp2
          refine ⟨⟨xs.set (m + 1) 48, by simp [hx], HS.out, .inr ⟨m, by first | rfl | (congr 1; omega), by omega, hu2⟩⟩, by simp [RowKit.intOf]; try omega⟩
      · have hset := HBx.out.set (i := j) (by omega) (c + 1)
        have e1 : ((c + 1).toNat : Int) = (B + 1) % 256 := by rw [UInt8.toNat_add, ← HC.out]; show (((B + 1) % 256 : Nat) : Int) = _; omega
        rw [e1] at hset
        have HS := Lib.hid hset
        have hu2 : Hid (xs.set j (c + 1) = U) := Lib.hid (by
          have := hu.out
          unfold upAt at this
          rwa [if_neg (by rw [HG.out]; intro e; apply c57; rw [HC.out, e]; rfl), HG.out] at this)
        have hconv := conv_byt (n := n) C hset (by simp [hx])
        clear hset hu HG HC
        go_wp2
        go_ret
        exact ⟨by rw [← hu2.out]; rfl, HS.out.below⟩
end Go.Proofs.YtapinbbflfkglaaGreatDoor
namespace Go.Proofs.YtapinbbflfkglaaGreatDoor.PFloatsParses
open Go.RowKit Go.Proofs.YtapinbbflfkglaaGreatDoorW.PrintWords Go.Proofs.YtapinbbflfkglaaGreatDoorW.PrintLast Go.Proofs.YtapinbbflfkglaaGreatDoorW.PrintMore
set_option maxRecDepth 100000
def bs (l : List UInt8) : ByteArray := ⟨l.toArray⟩
theorem bs_size (l : List UInt8) : (bs l).size = l.length := rfl
theorem bs_toList (l : List UInt8) : (bs l).toList = l := by rw [Lib.toList_data]; rfl
theorem bs_drop (a : UInt8) (l : List UInt8) : (bs (a :: l)).extract 1 (bs (a :: l)).size = bs l := by
  rw [Lib.extract_eq]
  simp [bs, ByteArray.size]
theorem bs_take (l : List UInt8) (a : UInt8) : (bs (l ++ [a])).extract 0 l.length = bs l := by
  rw [Lib.extract_eq]
  simp [bs]
theorem bt_head (a : UInt8) (l : List UInt8) : bt (bs (a :: l)) 0 = a.toNat := by
  unfold bt
  rw [dif_pos (by show 0 < _; rw [bs_size]; simp)]
  rfl
theorem bt_last (l : List UInt8) (a : UInt8) : bt (bs (l ++ [a])) ((l.length : Nat) : Int) = a.toNat := by
  unfold bt
  rw [dif_pos (by rw [bs_size]; simp)]
  show (((l ++ [a]).toArray[(((l.length : Nat) : Int)).toNat]).toNat : Int) = _
  simp
def cutR (r : List UInt8) (x : Int) : List UInt8 × Int :=
  if r.dropWhile (· == 48) = [] then ([], 0) else ((r.dropWhile (· == 48)).reverse, x + ((r.length - (r.dropWhile (· == 48)).length : Nat) : Int))
theorem toNat48 (a : UInt8) : ((a.toNat : Int) = 48) ↔ a = 48 := by
  constructor
  · intro h; exact UInt8.toNat_inj.1 (by show a.toNat = 48; omega)
  · rintro rfl; rfl
theorem cut_l1 (r : List UInt8) : ∀ (x : Int), r.length < 100000000 → -1000000000 ≤ x → x + (r.length : Int) ≤ 1000000000 → Ev (fun k => rhizomeref02_cut.l1 k (bs r.reverse) x) (bs (cutR r x).1, (cutR r x).2) := by
  induction r with
  | nil =>
    intro x _ _ _
    refine Ev.step (f := fun _ => some (bs [], 0)) (fun k => ?_) (Ev.now _)
    conv => lhs; unfold rhizomeref02_cut.l1
    rw [List.reverse_nil, if_neg (by rw [bs_size]; simp), if_pos (bs_toList _)]
  | cons a r ih0 =>
    intro x hn h1 h2
    have hr : (a :: r).reverse = r.reverse ++ [a] := List.reverse_cons
    have hsz : ((bs (a :: r).reverse).size : Int) = ((r.length + 1 : Nat) : Int) := by rw [bs_size, List.length_reverse]; rfl
    have hw : wrap64 (((bs (a :: r).reverse).size : Int) - 1) = ((r.reverse.length : Nat) : Int) := by rw [hsz, w64 (by simp at hn; omega) (by simp at hn; omega)]; simp
    by_cases c : a = 48
    · have ih := ih0 (x + 1) (by simp at hn; omega) (by omega) (by simp at h2; omega)
      have e : cutR (a :: r) x = cutR r (x + 1) := by
        have hdw : (a :: r).dropWhile (· == 48) = r.dropWhile (· == 48) := by rw [List.dropWhile_cons, if_pos (by simp [c])]
        unfold cutR
        rw [hdw]
        have hle : (List.dropWhile (· == 48) r).length ≤ r.length := (List.dropWhile_suffix _).length_le
        have hlc : (a :: r).length = r.length + 1 := rfl
        split
        · rfl
        · rw [hlc]
          congr 1
          omega
      rw [e]
      refine Ev.step (fun k => ?_) ih
      conv => lhs; unfold rhizomeref02_cut.l1
      have hw2 : wrap64 (x + 1) = x + 1 := w64 (by omega) (by simp at h2; omega)
      rw [if_pos (by rw [hsz]; omega), hw, if_pos (by omega), if_pos (by rw [hsz]; simp; omega), hw2, hr, bt_last, if_pos ((toNat48 a).2 c), if_pos (by rw [bs_size]; simp; omega), Int.toNat_natCast, bs_take]
    · have e : cutR (a :: r) x = ((a :: r).reverse, x) := by
        have hdw : (a :: r).dropWhile (· == 48) = a :: r := by rw [List.dropWhile_cons, if_neg (by simp [c])]
        unfold cutR
        rw [hdw, if_neg (by simp)]
        simp
      rw [e]
      refine Ev.step (f := fun _ => some (bs (a :: r).reverse, x)) (fun k => ?_) (Ev.now _)
      conv => lhs; unfold rhizomeref02_cut.l1
      rw [if_pos (by rw [hsz]; omega), hw, if_pos (by omega), if_pos (by rw [hsz]; simp; omega)]
      rw [if_neg (by rw [hr, bt_last]; exact fun h => c ((toNat48 a).1 h)), if_neg (by rw [bs_toList]; simp)]
theorem cut_l0 (R : ByteArray × Int) (x : Int) : ∀ (l : List UInt8), l.length < 100000000 → Ev (fun k => rhizomeref02_cut.l1 k (bs (l.dropWhile (· == 48))) x) R → Ev (fun k => rhizomeref02_cut.l0 k (bs l) x) R
  | [], _, h => by
    refine Ev.step (f := fun k => rhizomeref02_cut.j1 k (bs []) x) (fun k => ?_) (Ev.step (fun k => ?_) h)
    · conv => lhs; unfold rhizomeref02_cut.l0
      rw [if_neg (by rw [bs_size]; simp)]
    · rfl
  | a :: r, hn, h => by
    have hsz : ((bs (a :: r)).size : Int) = ((r.length + 1 : Nat) : Int) := by rw [bs_size]; rfl
    by_cases c : a = 48
    · rw [List.dropWhile_cons, if_pos (by simp [c])] at h
      refine Ev.step (fun k => ?_) (cut_l0 R x r (by simp at hn; omega) h)
      conv => lhs; unfold rhizomeref02_cut.l0
      rw [if_pos (by rw [hsz]; omega), if_pos (by rw [hsz]; omega), bt_head, if_pos ((toNat48 a).2 c), if_pos (by rw [hsz]; omega), bs_drop]
    · rw [List.dropWhile_cons, if_neg (by simp [c])] at h
      refine Ev.step (f := fun k => rhizomeref02_cut.j1 k (bs (a :: r)) x) (fun k => ?_) (Ev.step (fun k => ?_) h)
      · conv => lhs; unfold rhizomeref02_cut.l0
        rw [if_pos (by rw [hsz]; omega), if_pos (by rw [hsz]; omega), bt_head, if_neg (fun h => c ((toNat48 a).1 h))]
      · rfl
theorem cut_ev (l : List UInt8) (x : Int) (hn : l.length < 100000000) (h1 : -100000000 ≤ x) (h2 : x ≤ 100000000) :
    Ev (fun k => rhizomeref02_cut.f k (bs l) x) (bs (cutR (l.dropWhile (· == 48)).reverse x).1, (cutR (l.dropWhile (· == 48)).reverse x).2) := by
  refine cut_l0 _ x l hn ?_
  have hle : (l.dropWhile (· == 48)).length ≤ l.length := (List.dropWhile_suffix _).length_le
  have := cut_l1 (l.dropWhile (· == 48)).reverse x (by simp; omega) (by omega) (by simp; omega)
  rwa [List.reverse_reverse] at this
def Canon (v : Nat) (x : Int) (ds : List UInt8) (e : Int) : Prop :=
  (v = 0 ∧ ds = [] ∧ e = 0) ∨ ∃ w z : Nat, v = w * 10 ^ z ∧ w % 10 ≠ 0 ∧ ds = Lib.decDigits w ∧ e = x + z
theorem dB48 {d : Nat} (h : d < 10) : dB d = 48 ↔ d = 0 := by
  unfold dB
  constructor
  · intro e
    have := congrArg UInt8.toNat e
    rw [UInt8.toNat_ofNat_of_lt' (by simp [UInt8.size]; omega)] at this
    have e48 : (48 : UInt8).toNat = 48 := rfl
    omega
  · rintro rfl; rfl
theorem decDigits_low : ∀ (t : List Nat), (∀ d ∈ t, d < 10) → t ≠ [] → t.getLast? ≠ some 0 → Lib.decDigits (low t) = t.reverse.map dB
  | [], _, h, _ => absurd rfl h
  | [d], hd, _, _ => by
    have := hd d (List.mem_cons_self ..)
    have e : low [d] = d := by simp [low]
    rw [e, Lib.decDigits, dif_pos this]
    rfl
  | d :: d' :: r, hd, _, hl => by
    have h10 := hd d (List.mem_cons_self ..)
    have hl' : (d' :: r).getLast? ≠ some 0 := by rwa [List.getLast?_cons_cons] at hl
    have ih := decDigits_low (d' :: r) (fun x hx => hd x (List.mem_cons_of_mem _ hx)) (by simp) hl'
    have hpos : ∀ (t : List Nat), t ≠ [] → t.getLast? ≠ some 0 → 1 ≤ low t := by
      intro t
      induction t with
      | nil => intro h; exact absurd rfl h
      | cons a r ih =>
        intro _ h
        cases r with
        | nil => simp [low] at h ⊢; omega
        | cons b r =>
          have := ih (by simp) (by rwa [List.getLast?_cons_cons] at h)
          simp only [low] at this ⊢
          omega
    have h1 := hpos (d' :: r) (by simp) hl'
    have e : low (d :: d' :: r) = d + 10 * low (d' :: r) := rfl
    rw [Lib.decDigits, dif_neg (by rw [e]; omega), show low (d :: d' :: r) / 10 = low (d' :: r) by rw [e]; omega, ih, show low (d :: d' :: r) % 10 = d by rw [e]; omega, List.reverse_cons (a := d), List.map_append]
    rfl
theorem low_trim : ∀ (t : List Nat), low (t.reverse.dropWhile (· == 0)).reverse = low t
  | [] => rfl
  | d :: r => by
    have ih := low_trim r
    rw [List.reverse_cons, List.dropWhile_append]
    by_cases c : (List.dropWhile (· == 0) r.reverse).isEmpty
    · rw [if_pos c]
      have e : List.dropWhile (· == 0) r.reverse = [] := by simpa using c
      rw [e] at ih
      simp only [List.reverse_nil, low] at ih
      by_cases h : d = 0
      · subst h
        simp [low, ← ih]
      · simp [h, low, ← ih]
    · rw [if_neg c, List.reverse_append, List.reverse_singleton, List.singleton_append]
      simp only [low, ih]
theorem dropWhile_map (l : List Nat) (h : ∀ d ∈ l, d < 10) : (l.map dB).dropWhile (· == 48) = (l.dropWhile (· == 0)).map dB := by
  induction l with
  | nil => rfl
  | cons d r ih =>
    have hd := h d (List.mem_cons_self ..)
    rw [List.map_cons, List.dropWhile_cons, List.dropWhile_cons]
    by_cases c : d = 0
    · rw [if_pos (by simp [(dB48 hd).2 c]), if_pos (by simp [c])]
      exact ih (fun x hx => h x (List.mem_cons_of_mem _ hx))
    · rw [if_neg (by simpa using fun e => c ((dB48 hd).1 e)), if_neg (by simp [c])]
      rfl
theorem low_drop : ∀ (t : List Nat), low t = low (t.dropWhile (· == 0)) * 10 ^ (t.length - (t.dropWhile (· == 0)).length)
  | [] => rfl
  | d :: r => by
    have ih := low_drop r
    rw [List.dropWhile_cons]
    by_cases c : d = 0
    · rw [if_pos (by simp [c])]
      have hle : (r.dropWhile (· == 0)).length ≤ r.length := (List.dropWhile_suffix _).length_le
      rw [List.length_cons, show r.length + 1 - (r.dropWhile (· == 0)).length = (r.length - (r.dropWhile (· == 0)).length) + 1 by omega, Nat.pow_succ, ← Nat.mul_assoc, ← ih]
      simp only [low, c]
      omega
    · rw [if_neg (by simp [c])]
      simp
theorem dropWhile_head {l : List Nat} {d : Nat} {r : List Nat} (h : l.dropWhile (· == 0) = d :: r) : d ≠ 0 := by
  induction l with
  | nil => simp at h
  | cons a l ih =>
    rw [List.dropWhile_cons] at h
    split at h
    · exact ih h
    · next c =>
      simp only [List.cons.injEq] at h
      rw [← h.1]
      simpa using c
theorem cut_canon (t : List Nat) (ht : ∀ d ∈ t, d < 10) (x : Int) :
    Canon (low t) x (cutR ((t.reverse.map dB).dropWhile (· == 48)).reverse x).1 (cutR ((t.reverse.map dB).dropWhile (· == 48)).reverse x).2 := by
  have hrev : ∀ d ∈ t.reverse, d < 10 := fun d h => ht d (by simpa using h)
  rw [dropWhile_map _ hrev, ← List.map_reverse]
  obtain ⟨u, hu⟩ : ∃ u, u = (t.reverse.dropWhile (· == 0)).reverse := ⟨_, rfl⟩
  have hv : low u = low t := by rw [hu]; exact low_trim t
  have hud : ∀ d ∈ u, d < 10 := by
    intro d h
    rw [hu, List.mem_reverse] at h
    exact hrev d ((List.dropWhile_suffix _).subset h)
  rw [← hu, ← hv]
  unfold cutR
  rw [dropWhile_map _ hud]
  have hlast : u.getLast? ≠ some 0 := by
    rw [hu, List.getLast?_reverse]
    cases hc : t.reverse.dropWhile (· == 0) with
    | nil => simp
    | cons d r => simpa using dropWhile_head hc
  by_cases c : u.dropWhile (· == 0) = []
  · left
    rw [c]
    refine ⟨?_, by simp, by simp⟩
    rw [low_drop u, c]
    simp [low]
  · right
    obtain ⟨d, r, hd⟩ : ∃ d r, u.dropWhile (· == 0) = d :: r := by
      cases h : u.dropWhile (· == 0) with
      | nil => exact absurd h c
      | cons d r => exact ⟨d, r, rfl⟩
    have hd0 := dropWhile_head hd
    have hdl := hud d ((List.dropWhile_suffix _).subset (by rw [hd]; exact List.mem_cons_self ..))
    refine ⟨low (u.dropWhile (· == 0)), u.length - (u.dropWhile (· == 0)).length, low_drop u, ?_, ?_, ?_⟩
    · rw [hd]; simp only [low]; omega
    · rw [decDigits_low _ (fun x hx => hud x ((List.dropWhile_suffix _).subset hx)) c, if_neg (by rw [hd]; simp), List.map_reverse]
      intro e
      apply hlast
      have hs : u.dropWhile (· == 0) <:+ u := List.dropWhile_suffix _
      obtain ⟨p, hp⟩ := hs
      rw [← hp, List.getLast?_append, e]
      rfl
    · rw [if_neg (by rw [hd]; simp)]
      simp
theorem amount_ev (m : Nat) (e : Int) (hm : m < 18446744073709551616) (h1 : -5000 ≤ e) (h2 : e ≤ 5000) :
    ∃ ds x, Ev (fun k => rhizomeref02_Amount.f k (m : Nat) e) (bs ds, x) ∧ Canon (if 0 ≤ e then m * 2 ^ e.toNat else m * 5 ^ (-e).toNat) (if 0 ≤ e then 0 else e) ds x := by
  have e1 : wrap64 (Int.tmod ((m : Nat) : Int) 1000000000) = ((m % 1000000000 : Nat) : Int) := by
    rw [show (1000000000 : Int) = ((1000000000 : Nat) : Int) from rfl, ← Int.ofNat_tmod, w64 (by omega) (by omega)]
  have u64 : ∀ x : Nat, x < 18446744073709551616 → IntKind.u64.wrap ((x : Nat) : Int) = x := fun x h => IntWalk.u64_in _ ⟨by omega, by omega⟩
  have e2 : wrap64 (Int.tmod (IntKind.u64.wrap (Int.tdiv ((m : Nat) : Int) 1000000000)) 1000000000) = ((m / 1000000000 % 1000000000 : Nat) : Int) := by
    rw [show (1000000000 : Int) = ((1000000000 : Nat) : Int) from rfl, ← Int.ofNat_tdiv, u64 _ (by omega), ← Int.ofNat_tmod, w64 (by omega) (by omega)]
  have e3 : wrap64 (IntKind.u64.wrap (Int.tdiv ((m : Nat) : Int) 1000000000000000000)) = ((m / 1000000000000000000 : Nat) : Int) := by
    rw [show (1000000000000000000 : Int) = ((1000000000000000000 : Nat) : Int) from rfl, ← Int.ofNat_tdiv, u64 _ (by omega), w64 (by omega) (by omega)]
  have hlim : ([wrap64 (Int.tmod ((m : Nat) : Int) 1000000000), wrap64 (Int.tmod (IntKind.u64.wrap (Int.tdiv ((m : Nat) : Int) 1000000000)) 1000000000), wrap64 (IntKind.u64.wrap (Int.tdiv ((m : Nat) : Int) 1000000000000000000))] : List Int) = lim [m % 1000000000, m / 1000000000 % 1000000000, m / 1000000000000000000] := by
    rw [e1, e2, e3]; rfl
  have hl : ∀ a ∈ [m % 1000000000, m / 1000000000 % 1000000000, m / 1000000000000000000], a < 1000000000 := by
    intro a ha
    simp only [List.mem_cons, List.not_mem_nil, or_false] at ha
    rcases ha with rfl | rfl | rfl <;> omega
  have hval : val [m % 1000000000, m / 1000000000 % 1000000000, m / 1000000000000000000] = m := by
    simp only [val]; omega
  have key : ∀ (b n : Nat) (x : Int), 1 ≤ b → b ≤ 5 → n ≤ 5000 → -5000 ≤ x → x ≤ 5000 → ∃ ds y, Ev (fun k => (rhizomeref02_times.f k (lim [m % 1000000000, m / 1000000000 % 1000000000, m / 1000000000000000000]) b n).bind fun t344 => ((rhizomeref02_decimal.f k t344).bind fun t347 => ((rhizomeref02_cut.f k t347 x).bind fun bt348 => (some (bt348.1, bt348.2))))) (bs ds, y) ∧ Canon (m * b ^ n) x ds y := by
    intro b n x hb hb5 hn hx1 hx2
    have ht := times_ev hb hb5 n _ hl (by simp; omega)
    obtain ⟨s1, s2, s3⟩ := mulN_spec hb hb5 n _ hl
    generalize mulN b n [m % 1000000000, m / 1000000000 % 1000000000, m / 1000000000000000000] = L at *
    have hL : L.length ≤ 6000 := by simp at s3; omega
    have hd := decimal_ev L s1 (by omega)
    have hc := cut_ev ((lowD L).reverse.map dB) x (by simp [lowD_length]; omega) (by omega) (by omega)
    refine ⟨_, _, Ev.bind ht (Ev.bind hd (Ev.bind hc (Ev.now _))), ?_⟩
    have := cut_canon (lowD L) (lowD_lt L) x
    rw [lowD_low L s1, s2, hval] at this
    exact this
  by_cases c : 0 ≤ e
  · obtain ⟨ds, y, k1, k2⟩ := key 2 e.toNat 0 (by omega) (by omega) (by omega) (by omega) (by omega)
    refine ⟨ds, y, Ev.congr (fun k => ?_) k1, ?_⟩
    · unfold rhizomeref02_Amount.f
      rw [hlim, Option.bind_some, if_pos (by omega), show ((e.toNat : Nat) : Int) = e by omega]
      rfl
    · rw [if_pos c, if_pos c]; exact k2
  · obtain ⟨ds, y, k1, k2⟩ := key 5 (-e).toNat e (by omega) (by omega) (by omega) (by omega) (by omega)
    refine ⟨ds, y, Ev.congr (fun k => ?_) k1, ?_⟩
    · unfold rhizomeref02_Amount.f
      rw [hlim, Option.bind_some, if_neg (by omega), w64 (by omega) (by omega), show (((-e).toNat : Nat) : Int) = -e by omega]
      rfl
    · rw [if_neg c, if_neg c]; exact k2
end Go.Proofs.YtapinbbflfkglaaGreatDoor.PFloatsParses
namespace Go.Proofs.YtapinbbflfkglaaGreatDoor.PFloatsParses
open Go.RowKit Go.Proofs.YtapinbbflfkglaaGreatDoorW.PrintWords Go.Proofs.YtapinbbflfkglaaGreatDoorW.PrintLast Go.Proofs.YtapinbbflfkglaaGreatDoorW.PrintMore
set_option maxRecDepth 100000
def moreL (ds : List UInt8) : Bool := decide (53 < (ds.getD 17 0).toNat) || (decide ((ds.getD 17 0).toNat = 53) && (decide (18 < ds.length) || decide ((ds.getD 16 0).toNat % 2 = 1)))
def headL (ds : List UInt8) : List UInt8 := if moreL ds then upAt 17 (ds.take 17) else ds.take 17
theorem upAt_len : ∀ (i : Nat) (l : List UInt8), (upAt i l).length ≤ l.length + 1
  | 0, l => by simp [upAt]
  | i + 1, l => by
    unfold upAt
    split
    · exact Nat.le_trans (upAt_len i _) (by simp)
    · simp
theorem headL_len (ds : List UInt8) (h : 17 < ds.length) : (headL ds).length ≤ 18 := by
  unfold headL
  have ht : (ds.take 17).length = 17 := by rw [List.length_take]; omega
  split
  · have := upAt_len 17 (ds.take 17); omega
  · omega
def roundL (ds : List UInt8) (e : Int) : List UInt8 × Int :=
  if ds.length ≤ 17 then (ds, e) else cutR ((headL ds).dropWhile (· == 48)).reverse (e + ((ds.length - 17 : Nat) : Int))
set_option maxHeartbeats 2000000 in
theorem round_short (w : World) (ds : List UInt8) (e : Int) (hl : ds.length ≤ 17) :
    Calls Tryz.prog 44 #[.agg #[.string (bs ds), .int .i64 e], .int .i64 17] w fun r w' => r = .returned (.agg #[.string (bs ds), .int .i64 e]) ∧ Below w.heap.size w w' := by
  have hu39 := Tryz.underlying39
  have HB := Aside0.mk (Below.refl w.heap.size w)
  have hsz : (bs ds).size = ds.length := rfl
  have c1 : decide (((bs ds).size : Int) ≤ 17) = true := by rw [hsz]; simp; omega
  have c2 : decide ((bs ds).size ≤ 17) = true := by rw [hsz]; simp; omega
  go_enter Tryz.func44, Tryz.ntmps44
  go_upto_region 1 with (first | ((with_reducible refine gate_dst (N := 2) rfl ?_); (try (refine gate_guard (by rfl) ?_; dsimp only)); refine box_event ?hg (N := 2) ?hd (cs := #[.string (bs ds), .int .i64 e]) (t := 39) ?hr ?_; (case hd => rfl); (case hg => rfl); (case hr => first | (go_simp; done) | (go_simp; rfl)); intro g1 hg w3 hbox hb; have n0_ := Aside0.mk (below_step (by repeat (first | (with_reducible first | exact HB.out | apply below_alloc | apply pw_below_drewN | apply below_drew1) | exact HB.out)) hb); have n1_ := Aside0.mk (hbox); have n2_ := Aside0.mk ((by rw [hg]; exact (below_size (by repeat (first | (with_reducible first | exact HB.out | apply below_alloc | apply pw_below_drewN | apply below_drew1) | exact HB.out))) : w.heap.size ≤ g1)); have n3_ := Aside0.mk ((by rw [hg]; exact (below_size (by repeat (first | (with_reducible first | exact HB.out | apply below_alloc | apply pw_below_drewN | apply below_drew1) | exact HB.out))) : w.heap.size ≤ g1)); clear HB; have HB := n0_; have BK1_ := n1_; have GW1_ := n2_; have GE1_ := n3_; clear n0_ n1_ n2_ n3_; clear hb hbox hg) | ((with_reducible refine gate_dst (N := 4) rfl ?_); (try (refine gate_guard (by rfl) ?_; dsimp only)); refine box_event ?hg (N := 4) ?hd (cs := #[.string (⟨#[]⟩ : ByteArray), .int .i64 0]) (t := 39) ?hr ?_; (case hd => rfl); (case hg => rfl); (case hr => first | (go_simp; done) | (go_simp; rfl)); intro g2 hg w4 hbox hb; have n0_ := Aside0.mk (blk_below (g := g1) (o := .cells #[.string (bs ds), .int .i64 e] 39 (0, 0)) (by (with_reducible repeat (first | refine blk_drewN ?_ _ | refine blk_drew ?_ | refine blk_alloc ?_ _)); exact BK1_.out) hb); have n1_ := Aside0.mk (below_step (by repeat (first | (with_reducible first | exact HB.out | apply below_alloc | apply pw_below_drewN | apply below_drew1 | refine below_set ?_ GE1_.out) | exact HB.out)) hb); have n2_ := Aside0.mk (hbox); have n3_ := Aside0.mk ((by rw [hg]; exact (below_size (by repeat (first | (with_reducible first | exact HB.out | apply below_alloc | apply pw_below_drewN | apply below_drew1 | refine below_set ?_ GE1_.out) | exact HB.out))) : w.heap.size ≤ g2)); have n4_ := Aside0.mk ((by rw [hg]; exact (below_size (by repeat (first | (with_reducible first | exact HB.out | apply below_alloc | apply pw_below_drewN | apply below_drew1 | refine below_set ?_ GE1_.out) | exact HB.out))) : w.heap.size ≤ g2)); have n5_ := Aside0.mk ((by rw [hg]; exact Nat.ne_of_lt (blk_lt (g := g1) (o := .cells #[.string (bs ds), .int .i64 e] 39 (0, 0)) (by (with_reducible repeat (first | refine blk_drewN ?_ _ | refine blk_drew ?_ | refine blk_alloc ?_ _)); exact BK1_.out)) : g1 ≠ g2)); have n6_ := Aside0.mk ((by rw [hg]; exact Nat.ne_of_gt (blk_lt (g := g1) (o := .cells #[.string (bs ds), .int .i64 e] 39 (0, 0)) (by (with_reducible repeat (first | refine blk_drewN ?_ _ | refine blk_drew ?_ | refine blk_alloc ?_ _)); exact BK1_.out)) : g2 ≠ g1)); clear BK1_; clear HB; have BK1_ := n0_; have HB := n1_; have BK2_ := n2_; have GW2_ := n3_; have GE2_ := n4_; have NB1__2_ := n5_; have NB2__1_ := n6_; clear n0_ n1_ n2_ n3_ n4_ n5_ n6_; clear hb hbox hg))
  (try simp only [Act.put, List.setIfInBounds_toArray, List.set_cons_zero, List.set_cons_succ])
  have hcz1_0 : w4.cell? ⟨g1, 0, none⟩ = some (.string (bs ds)) := (blk_cell BK1_.out 0).trans rfl
  have hcz1_1 : w4.cell? ⟨g1, 1, none⟩ = some (.int .i64 e) := (blk_cell BK1_.out 1).trans rfl
  have hfz1_0 := blk_frozen BK1_.out 0
  have hfz1_1 := blk_frozen BK1_.out 1
  have hcz2_0 : w4.cell? ⟨g2, 0, none⟩ = some (.string (⟨#[]⟩ : ByteArray)) := (blk_cell BK2_.out 0).trans rfl
  have hcz2_1 : w4.cell? ⟨g2, 1, none⟩ = some (.int .i64 0) := (blk_cell BK2_.out 1).trans rfl
  have hfz2_0 := blk_frozen BK2_.out 0
  have hfz2_1 := blk_frozen BK2_.out 1
  have hnb := NB1__2_.out
  have hnc := NB2__1_.out
  go_wp2
  refine bodyPost_ret (results_cell_row rfl _ _ g2 39 #[.string (bs ds), .int .i64 e] (0, 0) _ rfl (by (with_reducible repeat (first | refine blk_drewN ?_ _ | refine blk_drew ?_ | refine blk_alloc ?_ _)); refine blk_put (cs := #[.string (bs ds), .int .i64 0]) ?_ 1 _ rfl; (with_reducible repeat (first | refine blk_drewN ?_ _ | refine blk_drew ?_ | refine blk_alloc ?_ _)); refine blk_put (cs := #[.string (⟨#[]⟩ : ByteArray), .int .i64 0]) ?_ 0 _ rfl; (with_reducible repeat (first | refine blk_drewN ?_ _ | refine blk_drew ?_ | refine blk_alloc ?_ _)); exact BK2_.out) Tryz.underlying39 rfl (by kernel_rfl)) rfl ?_
  exact ⟨by first | rfl | (simp [errW_none, errW_some] <;> rfl) | (simp [*, errW_none, errW_some] <;> rfl), by repeat (first | (with_reducible first | exact HB.out | apply below_alloc | apply pw_below_drewN | apply below_drew1 | refine below_set ?_ GE1_.out | refine below_set ?_ GE2_.out) | exact HB.out)⟩
set_option maxHeartbeats 2000000 in
theorem round_long (w : World) (ds RR : List UInt8) (e RE : Int) (hRR : RR = (roundL ds e).1) (hRE : RE = (roundL ds e).2) (hl : 17 < ds.length) (hl2 : ds.length ≤ 5000) (he1 : -6000 ≤ e) (he2 : e ≤ 6000) :
    Calls Tryz.prog 44 #[.agg #[.string (bs ds), .int .i64 e], .int .i64 17] w fun r w' => r = .returned (.agg #[.string (bs RR), .int .i64 RE]) ∧ Below w.heap.size w w' := by
  have hu39 := Tryz.underlying39
  have HB := Aside0.mk (Below.refl w.heap.size w)
  have hsz : (bs ds).size = ds.length := rfl
  have c1 : decide (((bs ds).size : Int) ≤ 17) = false := by rw [hsz]; simp; omega
  have c2 : decide ((bs ds).size ≤ 17) = false := by rw [hsz]; simp; omega
  have c3 : decide ((17 : Int) ≤ ((bs ds).size : Int)) = true := by rw [hsz]; simp; omega
  go_enter Tryz.func44, Tryz.ntmps44
  go_upto_region 1 with (first | ((with_reducible refine gate_dst (N := 2) rfl ?_); (try (refine gate_guard (by rfl) ?_; dsimp only)); refine box_event ?hg (N := 2) ?hd (cs := #[.string (bs ds), .int .i64 e]) (t := 39) ?hr ?_; (case hd => rfl); (case hg => rfl); (case hr => first | (go_simp; done) | (go_simp; rfl)); intro g1 hg w3 hbox hb; have n0_ := Aside0.mk (below_step (by repeat (first | (with_reducible first | exact HB.out | apply below_alloc | apply pw_below_drewN | apply below_drew1) | exact HB.out)) hb); have n1_ := Aside0.mk (hbox); have n2_ := Aside0.mk ((by rw [hg]; exact (below_size (by repeat (first | (with_reducible first | exact HB.out | apply below_alloc | apply pw_below_drewN | apply below_drew1) | exact HB.out))) : w.heap.size ≤ g1)); have n3_ := Aside0.mk ((by rw [hg]; exact (below_size (by repeat (first | (with_reducible first | exact HB.out | apply below_alloc | apply pw_below_drewN | apply below_drew1) | exact HB.out))) : w.heap.size ≤ g1)); clear HB; have HB := n0_; have BK1_ := n1_; have GW1_ := n2_; have GE1_ := n3_; clear n0_ n1_ n2_ n3_; clear hb hbox hg) | ((with_reducible refine gate_dst (N := 4) rfl ?_); (try (refine gate_guard (by rfl) ?_; dsimp only)); refine box_event ?hg (N := 4) ?hd (cs := #[.string (⟨#[]⟩ : ByteArray), .int .i64 0]) (t := 39) ?hr ?_; (case hd => rfl); (case hg => rfl); (case hr => first | (go_simp; done) | (go_simp; rfl)); intro g2 hg w4 hbox hb; have n0_ := Aside0.mk (blk_below (g := g1) (o := .cells #[.string (bs ds), .int .i64 e] 39 (0, 0)) (by (with_reducible repeat (first | refine blk_drewN ?_ _ | refine blk_drew ?_ | refine blk_alloc ?_ _)); exact BK1_.out) hb); have n1_ := Aside0.mk (below_step (by repeat (first | (with_reducible first | exact HB.out | apply below_alloc | apply pw_below_drewN | apply below_drew1 | refine below_set ?_ GE1_.out) | exact HB.out)) hb); have n2_ := Aside0.mk (hbox); have n3_ := Aside0.mk ((by rw [hg]; exact (below_size (by repeat (first | (with_reducible first | exact HB.out | apply below_alloc | apply pw_below_drewN | apply below_drew1 | refine below_set ?_ GE1_.out) | exact HB.out))) : w.heap.size ≤ g2)); have n4_ := Aside0.mk ((by rw [hg]; exact (below_size (by repeat (first | (with_reducible first | exact HB.out | apply below_alloc | apply pw_below_drewN | apply below_drew1 | refine below_set ?_ GE1_.out) | exact HB.out))) : w.heap.size ≤ g2)); have n5_ := Aside0.mk ((by rw [hg]; exact Nat.ne_of_lt (blk_lt (g := g1) (o := .cells #[.string (bs ds), .int .i64 e] 39 (0, 0)) (by (with_reducible repeat (first | refine blk_drewN ?_ _ | refine blk_drew ?_ | refine blk_alloc ?_ _)); exact BK1_.out)) : g1 ≠ g2)); have n6_ := Aside0.mk ((by rw [hg]; exact Nat.ne_of_gt (blk_lt (g := g1) (o := .cells #[.string (bs ds), .int .i64 e] 39 (0, 0)) (by (with_reducible repeat (first | refine blk_drewN ?_ _ | refine blk_drew ?_ | refine blk_alloc ?_ _)); exact BK1_.out)) : g2 ≠ g1)); clear BK1_; clear HB; have BK1_ := n0_; have HB := n1_; have BK2_ := n2_; have GW2_ := n3_; have GE2_ := n4_; have NB1__2_ := n5_; have NB2__1_ := n6_; clear n0_ n1_ n2_ n3_ n4_ n5_ n6_; clear hb hbox hg))
  (try simp only [Act.put, List.setIfInBounds_toArray, List.set_cons_zero, List.set_cons_succ])
  have hcz1_0 : w4.cell? ⟨g1, 0, none⟩ = some (.string (bs ds)) := (blk_cell BK1_.out 0).trans rfl
  have hcz1_1 : w4.cell? ⟨g1, 1, none⟩ = some (.int .i64 e) := (blk_cell BK1_.out 1).trans rfl
  have hfz1_0 := blk_frozen BK1_.out 0
  have hfz1_1 := blk_frozen BK1_.out 1
  have hcz2_0 : w4.cell? ⟨g2, 0, none⟩ = some (.string (⟨#[]⟩ : ByteArray)) := (blk_cell BK2_.out 0).trans rfl
  have hcz2_1 : w4.cell? ⟨g2, 1, none⟩ = some (.int .i64 0) := (blk_cell BK2_.out 1).trans rfl
  have hfz2_0 := blk_frozen BK2_.out 0
  have hfz2_1 := blk_frozen BK2_.out 1
  have hnb := NB1__2_.out
  have hnc := NB2__1_.out
  go_upto_region 4 with (go_quiet (fail))
  have e1 : (bs ds).extract 0 17 = bs (ds.take 17) := by rw [Lib.extract_eq]; simp [bs]
  have e2 : (bs ds).extract 17 ds.length = bs (ds.drop 17) := by
    rw [Lib.extract_eq]; unfold bs; congr 2
    show (ds.drop 17).take (ds.length - 17) = _
    rw [List.take_of_length_le (by simp)]
  rw [e1, e2]
  obtain ⟨hd, hhd⟩ : ∃ x, x = ds.take 17 := ⟨_, rfl⟩
  obtain ⟨tl, htl⟩ : ∃ x, x = ds.drop 17 := ⟨_, rfl⟩
  obtain ⟨B, hB⟩ : ∃ B : Nat, B = (ds.getD 17 0).toNat := ⟨_, rfl⟩
  obtain ⟨H, hH⟩ : ∃ B : Nat, B = (ds.getD 16 0).toNat := ⟨_, rfl⟩
  obtain ⟨n, hn⟩ : ∃ n, n = tl.length := ⟨_, rfl⟩
  have hn1 : ds.length = n + 17 := by rw [hn, htl, List.length_drop]; omega
  have hb0 : bt (bs tl) 0 = (B : Int) := by
    rw [htl, hB, List.getD_eq_getElem?_getD, List.getElem?_eq_getElem (by omega)]
    unfold bt
    rw [dif_pos (by rw [bs_size]; simp; omega)]
    show (((ds.drop 17).toArray[0]'(by simp; omega)).toNat : Int) = _
    simp
  have hb16 : bt (bs hd) 16 = (H : Int) := by
    rw [hhd, hH, List.getD_eq_getElem?_getD, List.getElem?_eq_getElem (by omega)]
    unfold bt
    rw [dif_pos (by rw [bs_size]; simp; omega)]
    show (((ds.take 17).toArray[16]'(by simp; omega)).toNat : Int) = _
    simp
  have x0 : ∀ h : 0 < (bs tl).size, (((bs tl)[0]'h).toNat : Int) = (B : Int) := fun h => (bt_at (bs tl) 0 h).trans hb0
  have x16 : ∀ h : 16 < (bs hd).size, (((bs hd)[16]'h).toNat : Int) = (H : Int) := fun h => (bt_at (bs hd) 16 h).trans hb16
  have s0 : (bs tl).size = n := hn.symm
  have s16 : (bs hd).size = 17 := by rw [bs_size, hhd, List.length_take]; omega
  have hH256 : H < 256 := by rw [hH]; exact (ds.getD 16 0).toNat_lt
  have hB256 : B < 256 := by rw [hB]; exact (ds.getD 17 0).toNat_lt
  rw [← hhd, ← htl]
  obtain ⟨M, hM⟩ : ∃ M, M = moreL ds := ⟨_, rfl⟩
  have hM2 := hM
  unfold moreL at hM2
  rw [← hB, ← hH, hn1] at hM2
  have HM := Lib.hid hM2
  have HM1 := Lib.hid hM
  have HHD := Lib.hid hhd
  have HTL := Lib.hid htl
  have HDL := Lib.hid hn1
  have hn0 : 1 ≤ n := by omega
  have hn2 : n ≤ 5000 := by omega
  clear hM hM2 hB hH hhd htl e1 e2 hb0 hb16 hn c1 c2 c3 hsz
  clear hcz1_0 hcz1_1 hfz1_0 hfz1_1 hcz2_0 hcz2_1 hfz2_0 hfz2_1
  obtain ⟨w5, hw5⟩ : ∃ x, x = w4.drewN nq := ⟨_, rfl⟩
  rw [← hw5]
  replace BK1_ : Aside0 (w5.heap[g1]? = some (.cells #[.string (bs ds), .int .i64 e] 39 (0, 0))) := ⟨by rw [hw5]; exact BK1_.out⟩
  replace BK2_ : Aside0 (w5.heap[g2]? = some (.cells #[.string (⟨#[]⟩ : ByteArray), .int .i64 0] 39 (0, 0))) := ⟨by rw [hw5]; exact BK2_.out⟩
  replace HB : Aside0 (Below w.heap.size w w5) := ⟨by rw [hw5]; apply pw_below_drewN; exact HB.out⟩
  clear hw5
  go_cut [7] (fun v7 wc => v7 = .bool M ∧ Aside0 (wc.heap[g1]? = some (.cells #[.string (bs ds), .int .i64 e] 39 (0, 0))) ∧ Aside0 (wc.heap[g2]? = some (.cells #[.string (⟨#[]⟩ : ByteArray), .int .i64 0] 39 (0, 0))) ∧ Aside0 (Below w.heap.size w wc))
  case first =>
    as_aux_lemma =>
      have hfin : ∀ (M' : Bool), M' = M → ∀ wc : World, wc = w5 → (Value.bool M' = Value.bool M ∧ Aside0 (wc.heap[g1]? = some (.cells #[.string (bs ds), .int .i64 e] 39 (0, 0))) ∧ Aside0 (wc.heap[g2]? = some (.cells #[.string (⟨#[]⟩ : ByteArray), .int .i64 0] 39 (0, 0))) ∧ Aside0 (Below w.heap.size w wc)) := fun M' h wc h2 => by
        subst h2
        exact ⟨by rw [h], BK1_, BK2_, HB⟩
      have HFIN := Lib.hid hfin
      clear hfin
      by_cases c : 53 < B
      · have HQ : Hid (true = M) := Lib.hid (by rw [HM.out]; simp [c])
        clear HM
        go_wp2
        go_meet
        exact HFIN.out _ HQ.out _ rfl
      · by_cases c' : B < 53
        · have HQ : Hid (decide ((53 : Int) < ((B : Nat) : Int)) = M) := Lib.hid (by rw [HM.out, Bool.eq_iff_iff]; simp; omega)
          clear HM
          go_wp2
          go_meet
          exact HFIN.out _ HQ.out _ rfl
        · obtain rfl : B = 53 := by omega
          have HQ : Hid ((decide ((1 : Int) < ((n : Nat) : Int)) || (((H : Nat) : Int) % 2 == 1)) = M) := Lib.hid (by rw [HM.out, Bool.eq_iff_iff]; simp; omega)
          clear HM
          by_cases d : 1 < n
          · go_wp2
            go_meet
            first | exact HFIN.out _ HQ.out _ rfl | exact HFIN.out _ (by have h := HQ.out; rw [show decide ((1 : Int) < ((n : Nat) : Int)) = true by simp; omega, Bool.true_or] at h; exact h) _ rfl
          · go_wp2
            go_meet
            exact HFIN.out _ HQ.out _ rfl
  case rest =>
    obtain ⟨rfl, hb1, hb2, hbw⟩ := hcut
    clear BK1_ BK2_ HB HM
    have BK1_ := hb1
    have BK2_ := hb2
    have HB := hbw
    clear hb1 hb2 hbw
    have hlen17 : hd.length = 17 := s16
    have HC : Hid (∃ k, rhizomeref02_cut.f k (bs (headL ds)) (e + ((n : Nat) : Int)) = some (bs RR, RE)) := Lib.hid (by
      have h := (cut_ev (headL ds) (e + ((ds.length - 17 : Nat) : Int)) (by have := headL_len ds (by omega); omega) (by omega) (by omega)).rounds
      rw [hRR, hRE]
      unfold roundL
      rw [if_neg (by omega)]
      rw [show e + ((n : Nat) : Int) = e + ((ds.length - 17 : Nat) : Int) by rw [HDL.out]; omega]
      exact h)
    have HHEAD : Hid (headL ds = if M then upAt 17 hd else hd) := Lib.hid (by unfold headL; rw [← HM1.out, ← HHD.out])
    clear HM1 HHD HTL x0 x16 hRR hRE
    cases M
    · rw [show (if false = true then upAt 17 hd else hd) = hd from rfl] at HHEAD
      rw [HHEAD.out] at HC
      have hcz1_0 : wc.cell? ⟨g1, 0, none⟩ = some (.string (bs ds)) := (blk_cell BK1_.out 0).trans rfl
      have hcz1_1 : wc.cell? ⟨g1, 1, none⟩ = some (.int .i64 e) := (blk_cell BK1_.out 1).trans rfl
      have hfz1_0 := blk_frozen BK1_.out 0
      have hfz1_1 := blk_frozen BK1_.out 1
      go_wp2_with (fail)
      obtain ⟨k, hk⟩ := HC.out
      refine (rhizomeref02_cut.calls k _ _ _ _ _ hk).mono ?_
      rintro e' w6 ⟨rfl, hb⟩
      clear hk hcz1_0 hcz1_1 hfz1_0 hfz1_1
      have n1_ : Aside0 (w6.heap[g1]? = some (.cells #[.string (bs ds), .int .i64 e] 39 (0, 0))) := ⟨blk_below (by exact BK1_.out) hb⟩
      have n2_ : Aside0 (w6.heap[g2]? = some (.cells #[.string (⟨#[]⟩ : ByteArray), .int .i64 0] 39 (0, 0))) := ⟨blk_below (by exact BK2_.out) hb⟩
      have n3_ := Aside0.mk (below_step (by first | exact HB.out | (apply pw_below_drewN; exact HB.out)) hb)
      clear BK1_ BK2_ HB
      have BK1_ := n1_
      have BK2_ := n2_
      have HB := n3_
      clear n1_ n2_ n3_ hb
      have hcz2_0 : w6.cell? ⟨g2, 0, none⟩ = some (.string (⟨#[]⟩ : ByteArray)) := (blk_cell BK2_.out 0).trans rfl
      have hcz2_1 : w6.cell? ⟨g2, 1, none⟩ = some (.int .i64 0) := (blk_cell BK2_.out 1).trans rfl
      have hfz2_0 := blk_frozen BK2_.out 0
      have hfz2_1 := blk_frozen BK2_.out 1
      go_wp2
      refine bodyPost_ret (results_cell_row rfl _ _ g2 39 #[.string (bs RR), .int .i64 RE] (0, 0) _ rfl (by (with_reducible repeat (first | refine blk_drewN ?_ _ | refine blk_drew ?_ | refine blk_alloc ?_ _)); refine blk_put (cs := #[.string (bs RR), .int .i64 0]) ?_ 1 _ rfl; (with_reducible repeat (first | refine blk_drewN ?_ _ | refine blk_drew ?_ | refine blk_alloc ?_ _)); refine blk_put (cs := #[.string (⟨#[]⟩ : ByteArray), .int .i64 0]) ?_ 0 _ rfl; (with_reducible repeat (first | refine blk_drewN ?_ _ | refine blk_drew ?_ | refine blk_alloc ?_ _)); exact BK2_.out) Tryz.underlying39 rfl (by kernel_rfl)) rfl ?_
      exact ⟨by first | rfl | (simp [errW_none, errW_some] <;> rfl) | (simp [*, errW_none, errW_some] <;> rfl), by repeat (first | (with_reducible first | exact HB.out | apply below_alloc | apply pw_below_drewN | apply below_drew1 | refine below_set ?_ GE1_.out | refine below_set ?_ GE2_.out) | exact HB.out)⟩
    · rw [show (if true = true then upAt 17 hd else hd) = upAt 17 hd from rfl] at HHEAD
      rw [HHEAD.out] at HC
      have hup := up_any wc hd (by omega) (by omega)
      rw [hlen17] at hup
      have HUP := Lib.hid hup
      clear hup
      go_wp2_with (fail)
      refine HUP.out.mono ?_
      rintro e' w5' ⟨rfl, hb⟩
      clear HUP
      have n1_ : Aside0 (w5'.heap[g1]? = some (.cells #[.string (bs ds), .int .i64 e] 39 (0, 0))) := ⟨blk_below (by exact BK1_.out) hb⟩
      have n2_ : Aside0 (w5'.heap[g2]? = some (.cells #[.string (⟨#[]⟩ : ByteArray), .int .i64 0] 39 (0, 0))) := ⟨blk_below (by exact BK2_.out) hb⟩
      have n3_ := Aside0.mk (below_step (by first | exact HB.out | (apply pw_below_drewN; exact HB.out)) hb)
      clear BK1_ BK2_ HB
      have BK1_ := n1_
      have BK2_ := n2_
      have HB := n3_
      clear n1_ n2_ n3_ hb
      have hcz1_0 : w5'.cell? ⟨g1, 0, none⟩ = some (.string (bs ds)) := (blk_cell BK1_.out 0).trans rfl
      have hcz1_1 : w5'.cell? ⟨g1, 1, none⟩ = some (.int .i64 e) := (blk_cell BK1_.out 1).trans rfl
      have hfz1_0 := blk_frozen BK1_.out 0
      have hfz1_1 := blk_frozen BK1_.out 1
      go_wp2_with (fail)
      obtain ⟨k, hk⟩ := HC.out
      refine (rhizomeref02_cut.calls k _ _ _ _ _ hk).mono ?_
      rintro e' w6 ⟨rfl, hb⟩
      clear hk hcz1_0 hcz1_1 hfz1_0 hfz1_1
      have n1_ : Aside0 (w6.heap[g1]? = some (.cells #[.string (bs ds), .int .i64 e] 39 (0, 0))) := ⟨blk_below (by exact BK1_.out) hb⟩
      have n2_ : Aside0 (w6.heap[g2]? = some (.cells #[.string (⟨#[]⟩ : ByteArray), .int .i64 0] 39 (0, 0))) := ⟨blk_below (by exact BK2_.out) hb⟩
      have n3_ := Aside0.mk (below_step (by first | exact HB.out | (apply pw_below_drewN; exact HB.out)) hb)
      clear BK1_ BK2_ HB
      have BK1_ := n1_
      have BK2_ := n2_
      have HB := n3_
      clear n1_ n2_ n3_ hb
      have hcz2_0 : w6.cell? ⟨g2, 0, none⟩ = some (.string (⟨#[]⟩ : ByteArray)) := (blk_cell BK2_.out 0).trans rfl
      have hcz2_1 : w6.cell? ⟨g2, 1, none⟩ = some (.int .i64 0) := (blk_cell BK2_.out 1).trans rfl
      have hfz2_0 := blk_frozen BK2_.out 0
      have hfz2_1 := blk_frozen BK2_.out 1
      go_wp2
      refine bodyPost_ret (results_cell_row rfl _ _ g2 39 #[.string (bs RR), .int .i64 RE] (0, 0) _ rfl (by (with_reducible repeat (first | refine blk_drewN ?_ _ | refine blk_drew ?_ | refine blk_alloc ?_ _)); refine blk_put (cs := #[.string (bs RR), .int .i64 0]) ?_ 1 _ rfl; (with_reducible repeat (first | refine blk_drewN ?_ _ | refine blk_drew ?_ | refine blk_alloc ?_ _)); refine blk_put (cs := #[.string (⟨#[]⟩ : ByteArray), .int .i64 0]) ?_ 0 _ rfl; (with_reducible repeat (first | refine blk_drewN ?_ _ | refine blk_drew ?_ | refine blk_alloc ?_ _)); exact BK2_.out) Tryz.underlying39 rfl (by kernel_rfl)) rfl ?_
      exact ⟨by first | rfl | (simp [errW_none, errW_some] <;> rfl) | (simp [*, errW_none, errW_some] <;> rfl), by repeat (first | (with_reducible first | exact HB.out | apply below_alloc | apply pw_below_drewN | apply below_drew1 | refine below_set ?_ GE1_.out | refine below_set ?_ GE2_.out) | exact HB.out)⟩
end Go.Proofs.YtapinbbflfkglaaGreatDoor.PFloatsParses
namespace Go.Proofs.YtapinbbflfkglaaGreatDoor.PFloatsParses
open Go.RowKit Go.Proofs.YtapinbbflfkglaaGreatDoorW.PrintWords Go.Proofs.YtapinbbflfkglaaGreatDoorW.PrintLast Go.Proofs.YtapinbbflfkglaaGreatDoorW.PrintMore
set_option maxRecDepth 100000
theorem digit_toNat {w i : Nat} (h : i < Lib.nDigits w) : ((Lib.decDigits w).getD i 0).toNat = 48 + w / 10 ^ (Lib.nDigits w - 1 - i) % 10 := by
  rw [dec_getD h, dg_toNat]
end Go.Proofs.YtapinbbflfkglaaGreatDoor.PFloatsParses
namespace Go.Proofs.YtapinbbflfkglaaGreatDoor.PFloatsParses
open Go.RowKit
set_option maxRecDepth 100000
theorem ten_unique {w w' a b : Nat} (h : w % 10 ≠ 0) (h' : w' % 10 ≠ 0) (e : w * 10 ^ a = w' * 10 ^ b) : w = w' ∧ a = b := by
  have key : ∀ {w w' a b : Nat}, w % 10 ≠ 0 → w * 10 ^ a = w' * 10 ^ b → ¬ a < b := by
    intro w w' a b h e hlt
    obtain ⟨c, rfl⟩ : ∃ c, b = a + (c + 1) := ⟨b - a - 1, by omega⟩
    rw [Nat.pow_add, Nat.mul_comm (10 ^ a), ← Nat.mul_assoc] at e
    have := Nat.mul_right_cancel (Nat.pow_pos (by omega)) e
    rw [Nat.pow_succ, ← Nat.mul_assoc] at this
    omega
  have h1 := key h e
  have h2 := key h' e.symm
  obtain rfl : a = b := by omega
  exact ⟨Nat.mul_right_cancel (Nat.pow_pos (by omega)) e, rfl⟩
theorem Canon.unique {v v' t : Nat} {x x' e e' : Int} {ds ds' : List UInt8} (h : Canon v x ds e) (h' : Canon v' x' ds' e') (hv : v = v' * 10 ^ t) (hx : x' = x + (t : Nat)) (h0 : v' ≠ 0) : ds = ds' ∧ e = e' := by
  have hp : 0 < 10 ^ t := Nat.pow_pos (by omega)
  rcases h with ⟨h, _, _⟩ | ⟨w, z, h1, h2, h3, h4⟩
  · rw [h] at hv
    have := Nat.mul_pos (Nat.pos_of_ne_zero h0) hp
    omega
  rcases h' with ⟨h', _, _⟩ | ⟨w', z', k1, k2, k3, k4⟩
  · exact absurd h' h0
  have : w * 10 ^ z = w' * 10 ^ (z' + t) := by rw [← h1, hv, k1, Nat.pow_add, Nat.mul_assoc]
  obtain ⟨rfl, e2⟩ := ten_unique h2 k2 this
  exact ⟨by rw [h3, k3], by omega⟩
end Go.Proofs.YtapinbbflfkglaaGreatDoor.PFloatsParses
namespace Go.Proofs.YtapinbbflfkglaaGreatDoor.PFloatsParses
open Go.RowKit
set_option maxRecDepth 100000
end Go.Proofs.YtapinbbflfkglaaGreatDoor.PFloatsParses
namespace Go.Proofs.YtapinbbflfkglaaGreatDoor.PFloatsParses
open Go.RowKit Go.Proofs.YtapinbbflfkglaaGreatDoorW.PrintWords Go.Proofs.YtapinbbflfkglaaGreatDoorW.PrintLast Go.Proofs.YtapinbbflfkglaaGreatDoorW.PrintMore
set_option maxRecDepth 100000
theorem round_any (w : World) (ds RR : List UInt8) (e RE : Int) (hRR : RR = (roundL ds e).1) (hRE : RE = (roundL ds e).2) (hl2 : ds.length ≤ 5000) (he1 : -6000 ≤ e) (he2 : e ≤ 6000) :
    Calls Tryz.prog 44 #[.agg #[.string (bs ds), .int .i64 e], .int .i64 17] w fun r w' => r = .returned (.agg #[.string (bs RR), .int .i64 RE]) ∧ Below w.heap.size w w' := by
  by_cases c : 17 < ds.length
  · exact round_long w ds RR e RE hRR hRE c hl2 he1 he2
  · have h := round_short w ds e (by omega)
    have e1 : roundL ds e = (ds, e) := by unfold roundL; rw [if_pos (by omega)]
    rw [e1] at hRR hRE
    rw [hRR, hRE]
    exact h
end Go.Proofs.YtapinbbflfkglaaGreatDoor.PFloatsParses
namespace Go.Proofs.YtapinbbflfkglaaGreatDoor
open Go.RowKit Go.Lib Go.Sort
end Go.Proofs.YtapinbbflfkglaaGreatDoor
