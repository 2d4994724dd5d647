import Derived.Test.YtapinbbflfkglaaGreatDoorVFb9
namespace Go.Proofs.YtapinbbflfkglaaGreatDoor
open Go.RowKit Go.Lib Go.Sort
set_option maxRecDepth 100000
structure Tabs (w : World) : Prop where
  opt : w.cell? ⟨3, 0, none⟩ = some (.bool true)
  hi : ∀ j : Nat, j < 696 → w.cell? ⟨11, j * 2, none⟩ = some (.int .u64 (hiOf ((j : Int) - 348) : Nat))
  lo : ∀ j : Nat, j < 696 → w.cell? ⟨11, j * 2 + 1, none⟩ = some (.int .u64 (loOf ((j : Int) - 348) : Nat))
  p17 : w.cell? ⟨7, 17, none⟩ = some (.int .u64 100000000000000000)
  tab : Lib.TabIs Tryz.prog w "internal/strconv.uint64pow10" .u64 Lib.pow10Tab
def pOf (e : Int) : Int := 16 - (e + 63) * 78913 / 262144
def fxS (e : Int) : Nat := (-(e + Fp.lp10 (pOf e) + 3)).toNat
def fxU (m : Nat) (e : Int) : Nat := Fp.uscaleN m (hiOf (pOf e)) (loOf (pOf e)) (fxS e)
def fxD (m : Nat) (e : Int) : Nat := if 399999999999999998 ≤ fxU m e then Fp.rnd (divN (fxU m e)) else Fp.rnd (fxU m e)
def fxP (m : Nat) (e : Int) : Int := if 399999999999999998 ≤ fxU m e then -(pOf e - 1) else -(pOf e)
def hiloOk (n : Nat) : Bool := let p := (n : Int) - 348; decide (2 ≤ hiOf p) && decide (hiOf p < 18446744073709551616) && decide (loOf p < 18446744073709551616)
theorem hilo_all : (List.range 696).all hiloOk = true := by decide +kernel
def exOk (n : Nat) : Bool := let e := (n : Int) - 1200; let p := pOf e; let s := -(e + Fp.lp10 p + 3); decide (-300 ≤ p) && decide (p ≤ 345) && decide (2 ≤ s) && decide (s < 64)
theorem ex_all : (List.range 2171).all (fun n => decide (n < 60) || exOk n) = true := by decide +kernel
theorem hilo (p : Int) (h1 : -348 ≤ p) (h2 : p ≤ 347) : 2 ≤ hiOf p ∧ hiOf p < 18446744073709551616 ∧ loOf p < 18446744073709551616 := by
  have := List.all_eq_true.1 hilo_all (p + 348).toNat (by simp; omega)
  unfold hiloOk at this
  rw [show (((p + 348).toNat : Nat) : Int) - 348 = p by omega] at this
  simp only [Bool.and_eq_true, decide_eq_true_eq] at this
  exact ⟨this.1.1, this.1.2, this.2⟩
theorem ex_ok (e : Int) (h1 : -1140 ≤ e) (h2 : e ≤ 970) : -300 ≤ pOf e ∧ pOf e ≤ 345 ∧ 2 ≤ -(e + Fp.lp10 (pOf e) + 3) ∧ -(e + Fp.lp10 (pOf e) + 3) < 64 := by
  have := List.all_eq_true.1 ex_all (e + 1200).toNat (by simp; omega)
  rw [Bool.or_eq_true] at this
  have := this.resolve_left (by simp; omega)
  unfold exOk at this
  rw [show (((e + 1200).toNat : Nat) : Int) - 1200 = e by omega] at this
  simp only [Bool.and_eq_true, decide_eq_true_eq] at this
  exact ⟨this.1.1.1, this.1.1.2, this.1.2, this.2⟩
theorem fx_walk (m : Nat) (e : Int) (w : World) (he1 : -1140 ≤ e) (he2 : e ≤ 970) (hm0 : 9223372036854775808 ≤ m) (hm : m < 18446744073709551616) (T : Tabs w) :
    Calls Tryz.prog 101 #[.int .u64 (m : Nat), .int .i64 e, .int .i64 17, .int .i64 16, .int .u8 101] w fun e' w' =>
      e' = .returned (.tuple #[.int .u64 (fxD m e : Nat), .int .i64 (fxP m e)]) ∧ Below w.heap.size w w' := by
  obtain ⟨a1, a2, a3, a4⟩ := ex_ok e he1 he2
  obtain ⟨b1, b2, b3⟩ := hilo (pOf e) (by omega) (by omega)
  have hj : (((pOf e + 348).toNat : Nat) : Int) - 348 = pOf e := by omega
  have t0 := T.hi (pOf e + 348).toNat (by omega)
  have t1 := T.lo (pOf e + 348).toNat (by omega)
  rw [hj] at t0 t1
  refine (fixed_walk m e (pOf e) (pOf e + 348).toNat (fxS e) w (by omega) (by omega) (Lib.hid rfl) (by omega) (by omega) (Lib.hid (by omega)) (Lib.hid (by unfold fxS; omega)) (by unfold fxS; omega) (by unfold fxS; omega) hm b2 b3 ?_ t0 t1 T.p17).mono ?_
  · rw [Nat.le_div_iff_mul_le (by decide)]
    calc 1 * 18446744073709551616 = 9223372036854775808 * 2 := rfl
      _ ≤ m * hiOf (pOf e) := Nat.mul_le_mul hm0 b1
  · rintro e' w' ⟨h1, h2⟩
    refine ⟨?_, h2⟩
    rw [h1]
    unfold fxD fxP
    change (if 399999999999999998 ≤ fxU m e then _ else _ : Value) |> Ending.returned |> fun x => x = _
    split <;> rfl
theorem heap_putRow_other {w : World} {blk k off : Nat} {d : Array UInt8} (h : k ≠ blk) : (putRow encB w blk off d).heap[k]? = w.heap[k]? := by
  unfold putRow mapBlock
  simp only [Array.getElem?_modify, if_neg (Ne.symm h)]
theorem below_putRow {B : Nat} {a w : World} {blk off : Nat} {d : Array UInt8} (h : Below B a w) (hB : B ≤ blk) : Below B a (putRow encB w blk off d) :=
  ⟨h.os, h.tape, h.output, by rw [size_putRow]; exact h.size, fun k hk => (heap_putRow_other (by omega)).trans (h.block k hk)⟩
theorem nDigits_le {D k : Nat} (h : 1 ≤ D) (hk : D < 10 ^ k) : Lib.nDigits D ≤ k := by
  induction k generalizing D with
  | zero => simp at hk; omega
  | succ k ih =>
    by_cases c : D < 10
    · rw [Lib.nDigits_small c]; omega
    · rw [Lib.nDigits_big c]
      have := ih (D := D / 10) (by omega) (by rw [Nat.pow_succ] at hk; omega)
      omega
def zero24 : Array Value := #[.int .u8 0, .int .u8 0, .int .u8 0, .int .u8 0, .int .u8 0, .int .u8 0, .int .u8 0, .int .u8 0, .int .u8 0, .int .u8 0, .int .u8 0, .int .u8 0, .int .u8 0, .int .u8 0, .int .u8 0, .int .u8 0, .int .u8 0, .int .u8 0, .int .u8 0, .int .u8 0, .int .u8 0, .int .u8 0, .int .u8 0, .int .u8 0]
def dsL (D : Nat) : List Value := (List.range (Lib.nDigits D)).map fun t => encB (dg D (Lib.nDigits D - 1 - t))
theorem zero24_at : ∀ j, j < 24 → zero24[j]? = some (encB 0) := by
  have : zero24 = Array.replicate 24 (encB 0) := rfl
  intro j hj
  rw [this]; simp [hj]
theorem zero_holds {w : World} {z N : Nat} (h : w.heap[z]? = some (.cells zero24 117 (0, 0))) (hN : N ≤ 24) : Holds encB w z 0 (Array.replicate N 0) := by
  intro j hj
  rw [Array.size_replicate] at hj
  constructor
  · unfold World.cell?
    rw [h]
    simp [hj, zero24_at j (by omega)]
  · unfold World.frozen?
    rw [h]
    simp
theorem digits_hold {w : World} {z n D : Nat} {dk : Array UInt8} (h : Holds encB w z 0 (Array.replicate (Lib.nDigits D) 0)) (hs : dk.size = Lib.nDigits D) (hd : ∀ t, t < Lib.nDigits D → dk[t]! = dg D (Lib.nDigits D - 1 - t)) :
    ∀ j u, (dsL D)[j]? = some u → ((putRow encB w z 0 dk).drewN n).cell? ⟨z, j, none⟩ = some u := by
  intro j u hj
  have hj1 : j < Lib.nDigits D := by
    rcases Nat.lt_or_ge j (Lib.nDigits D) with c | c
    · exact c
    · rw [List.getElem?_eq_none (by simpa [dsL] using c)] at hj; cases hj
  rw [World.cell?_drewN]
  have := cell?_putRow encB w z 0 _ dk h (by rw [hs, Array.size_replicate]) j (by omega)
  rw [Nat.zero_add] at this
  rw [this, hd j hj1]
  simpa [dsL, hj1] using hj
theorem bf_start {W w : World} {g z n D : Nat} {cur : Array Value} {dk : Array UInt8} (hB : Below W.heap.size W w) (hWg : W.heap.size ≤ g) (hWz : W.heap.size ≤ z) (hg : w.heap[g]? = some (.cells cur 5 (0, 0))) (hcur : cur.size = 24) (hgz : g ≠ z)
    (hz : w.heap[z]? = some (.cells zero24 117 (0, 0))) (hN : Lib.nDigits D ≤ 24) (hs : dk.size = Lib.nDigits D) (hd : ∀ t, t < Lib.nDigits D → dk[t]! = dg D (Lib.nDigits D - 1 - t)) :
    Bf W ((putRow encB w z 0 dk).drewN n) g z 0 (dsL D) [] :=
  ⟨⟨rfl, .inr ⟨g, 24, cur, rfl, hWg, (heap_putRow_other hgz).trans hg, Nat.zero_le _, by decide, by omega, by simp⟩⟩, below_drewN (below_putRow hB hWz) n, digits_hold (zero_holds hz hN) hs hd, hgz, by
    show W.heap.size ≤ (putRow encB w z 0 dk).heap.size
    rw [size_putRow]; exact hB.size⟩
theorem dsL_length (D : Nat) : (dsL D).length = Lib.nDigits D := by simp [dsL]
theorem dsL_byte (D : Nat) {m : Nat} (hm : m ≤ Lib.nDigits D) : ∀ j, j < m → ∃ b : Nat, b < 256 ∧ (dsL D).getD j undef = bvI b := by
  intro j hj
  refine ⟨(dg D (Lib.nDigits D - 1 - j)).toNat, UInt8.toNat_lt _, ?_⟩
  rw [List.getD_eq_getElem?_getD, List.getElem?_eq_getElem (by rw [dsL_length]; omega)]
  simp [dsL, bvI]
end Go.Proofs.YtapinbbflfkglaaGreatDoor
