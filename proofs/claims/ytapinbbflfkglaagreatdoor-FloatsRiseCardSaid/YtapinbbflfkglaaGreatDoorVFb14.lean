import Derived.Test.YtapinbbflfkglaaGreatDoorVFb12
import Derived.Test.YtapinbbflfkglaaGreatDoorVFb13
namespace Go.Proofs.YtapinbbflfkglaaGreatDoor
open Go.RowKit Go.Lib Go.Sort
set_option maxRecDepth 100000
theorem bvI_enc {k : Nat} (h : k < 256) : bvI k = encB (UInt8.ofNat k) := by
  unfold bvI encB
  rw [UInt8.toNat_ofNat_of_lt' (by simpa using h)]
def expDB (a : Nat) : List UInt8 := if a < 10 then [48, UInt8.ofNat (48 + a)] else if a < 100 then [UInt8.ofNat (48 + a / 10), UInt8.ofNat (48 + a % 10)] else [UInt8.ofNat (48 + a / 100), UInt8.ofNat (48 + a / 10 % 10), UInt8.ofNat (48 + a % 10)]
theorem expD_map {a : Nat} (h : a < 1000) : expD a = (expDB a).map encB := by
  unfold expD expDB
  split
  · rw [bvI_enc (by omega), bvI_enc (by omega)]; rfl
  · split
    · rw [bvI_enc (by omega), bvI_enc (by omega)]; rfl
    · rw [bvI_enc (by omega), bvI_enc (by omega), bvI_enc (by omega)]; rfl
def outB (neg : Bool) (ds : List UInt8) (m : Nat) (x : Int) : List UInt8 :=
  (if neg then [45] else []) ++ [if m = 0 then 48 else ds.getD 0 0] ++ [46] ++ (ds.take m).drop 1 ++ List.replicate (17 - max m 1) 48 ++ [101] ++ ((if x < 0 then 45 else 43) :: expDB x.natAbs)
theorem dsL_map (D : Nat) : dsL D = (Lib.decDigits D).map encB := by
  rw [Lib.decDigits_eq, List.map_map]; rfl
theorem outE_map {neg : Bool} {D m : Nat} {x : Int} (hx : x.natAbs < 1000) : outE neg (dsL D) m x = (outB neg (Lib.decDigits D) m x).map encB := by
  unfold outE outB expL sgL
  rw [expD_map hx, dsL_map]
  have e : (if m = 0 then bvI 48 else ((Lib.decDigits D).map encB).getD 0 undef) = encB (if m = 0 then 48 else (Lib.decDigits D).getD 0 0) := by
    split
    · rfl
    · have : 0 < (Lib.decDigits D).length := by rw [Lib.decDigits_length]; exact Lib.nDigits_pos D
      simp [List.getD, List.getElem?_eq_getElem this]
  rw [e]
  simp only [List.map_append, List.map_cons, List.map_nil, List.map_drop, List.map_take, List.map_replicate]
  congr 1
  · congr 1
    congr 1
    congr 1
    congr 1
    congr 1
    split <;> rfl
  · split <;> rfl
def kp : Nat → Nat → Nat
  | _, 0 => 0
  | D, n + 1 => if D % 10 = 0 then kp (D / 10) n else n + 1
theorem kp_of : ∀ (N D m : Nat), m ≤ N → (∀ i, i < N - m → D / 10 ^ i % 10 = 0) → (m = 0 ∨ D / 10 ^ (N - m) % 10 ≠ 0) → m = kp D N
  | 0, D, m, h, _, _ => by unfold kp; omega
  | N + 1, D, m, h, hz, hn => by
    unfold kp
    by_cases c : m = N + 1
    · subst c
      have : D % 10 ≠ 0 := by simpa using hn
      rw [if_neg this]
    · have h0 := hz 0 (by omega)
      rw [Nat.pow_zero, Nat.div_one] at h0
      rw [if_pos h0]
      refine kp_of N (D / 10) m (by omega) (fun i hi => ?_) (hn.imp id fun h => ?_)
      · have := hz (i + 1) (by omega)
        rwa [Nat.pow_succ, Nat.mul_comm, ← Nat.div_div_eq_div_mul] at this
      · rwa [show N + 1 - m = N - m + 1 by omega, Nat.pow_succ, Nat.mul_comm, ← Nat.div_div_eq_div_mul] at h
theorem bf_cells {W w : World} {g z n : Nat} {ds : List Value} {l : List UInt8} (h : Bf W w g z n ds (l.map encB)) : n = l.length ∧ ∀ j (hj : j < l.length), w.cell? (Addr.add ⟨g, 0, none⟩ j) = some (.int .u8 (l[j].toNat : Int)) := by
  have hn : n = l.length := by have := h.own.1; simp at this; omega
  refine ⟨hn, fun j hj => ?_⟩
  rcases h.own.2 with ⟨h0, _⟩ | ⟨g', cap, cur, hv, hb, hg, h1, h2, h3, h4⟩
  · cases h0
  · cases hv
    rw [Addr.add_lit, Nat.zero_add]
    unfold World.cell?
    rw [hg]
    have hj2 : (cur.toList.take (n * 1))[j]? = some (encB l[j]) := by rw [h4]; simp [hj]
    rw [List.getElem?_take] at hj2
    split at hj2
    · simpa using hj2
    · cases hj2
def txt (b D : Nat) (P : Int) : List UInt8 :=
  outB ((b : Int) / 9223372036854775808 != 0) (Lib.decDigits D) (kp D (Lib.nDigits D)) (if kp D (Lib.nDigits D) = 0 then 0 else (Lib.nDigits D : Int) + P - 1)
theorem x_bd {k N : Nat} {P : Int} (h : N ≤ 17) (h1 : -370 ≤ P) (h2 : P ≤ 370) : (if k = 0 then (0 : Int) else (N : Int) + P - 1).natAbs < 1000 := by split <;> omega
theorem ftoaIs_nz (W : World) (b : Nat) (hb : b < 18446744073709551616) (q m0 : Nat) (hq : q = b / 4503599627370496 % 2048) (hm : m0 = b % 4503599627370496) (hfin : q < 2047)
    (E : Int) (M : Nat) (hE : E = if q = 0 then -1022 else (q : Int) - 1023) (hM : M = if q = 0 then m0 else m0 + 4503599627370496) (hM1 : 1 ≤ M)
    (hT : ∀ w', Below W.heap.size W w' → Tabs w')
    (sh : Nat) (hL : Lib.bitLen M + sh = 64) (hsh1 : 11 ≤ sh) (hsh2 : sh ≤ 63) (hms1 : 9223372036854775808 ≤ M * 2 ^ sh) (hms2 : M * 2 ^ sh < 18446744073709551616)
    (D : Nat) (P : Int) (hD : D = fxD (M * 2 ^ sh) (E - sh - 52)) (hP : P = fxP (M * 2 ^ sh) (E - sh - 52)) (hD1 : 1 ≤ D) (hD2 : D < 100000000000000000) (hP1 : -370 ≤ P) (hP2 : P ≤ 370) : FtoaIs W b (txt b D P) := by
  intro w g cur hBW hWw hg hcur
  refine (ftoa_nz W w g cur b hb q m0 (Lib.hid hq) (Lib.hid hm) hfin E M (Lib.hid hE) (Lib.hid hM) hM1 hT hBW hWw hg hcur sh hL hsh1 hsh2 hms1 hms2 D P (Lib.hid hD) (Lib.hid hP) hD1 hD2 hP1 hP2).mono ?_
  rintro e w' ⟨m, n, z, rfl, hmN, hz, hn, hB⟩
  have hk := kp_of _ D m hmN hz hn
  subst hk
  have hN17 : Lib.nDigits D ≤ 17 := nDigits_le hD1 (k := 17) hD2
  have hx := x_bd (k := kp D (Lib.nDigits D)) hN17 hP1 hP2
  rw [outE_map hx] at hB
  have hBb := hB.below
  obtain ⟨h1, h2⟩ := bf_cells hB
  subst h1
  exact ⟨rfl, hBb, h2⟩
end Go.Proofs.YtapinbbflfkglaaGreatDoor
