import Derived.Test.YtapinbbflfkglaaGreatDoorVFb5
import Derived.BigQuiet
import Derived.Deep.QuietTactic
import Derived.Deep.LoopGhost
import Derived.Deep.CutBlock
import Derived.Deep.CutRange
import Derived.Test.YtapinbbflfkglaaGreatDoorVRj
import Derived.ScopeJumps
import Derived.WalkMore
namespace Go.Proofs.YtapinbbflfkglaaGreatDoor
open Go.RowKit
set_option maxRecDepth 100000
structure Dec where
  d : Nat → Nat
  nd : Int
  dp : Int
  neg : Bool
  tr : Bool
def Dec.at_ (s : Dec) (i : Nat) : Value :=
  if i < 800 then .int .u8 ((s.d i : Nat) : Int) else if i = 800 then .int .i64 s.nd else if i = 801 then .int .i64 s.dp else if i = 802 then .bool s.neg else .bool s.tr
def Dec.cells (s : Dec) : Array Value := Array.ofFn (n := 804) fun i => s.at_ i
def putD (w : World) (g : Nat) (s : Dec) : World := { w with heap := w.heap.setIfInBounds g (.cells s.cells 122) }
def up (f : Nat → Nat) (i v : Nat) : Nat → Nat := fun j => if j = i then v else f j
theorem up_at (f : Nat → Nat) (i v : Nat) : up f i v i = v := by unfold up; rw [if_pos rfl]
theorem up_ne (f : Nat → Nat) {i j : Nat} (v : Nat) (h : j ≠ i) : up f i v j = f j := by unfold up; rw [if_neg h]
theorem Dec.cells_at (s : Dec) (i : Nat) (h : i < 804) : s.cells[i]? = some (s.at_ i) := by
  unfold Dec.cells
  rw [Array.getElem?_ofFn, dif_pos h]
section
variable (w : World) (g : Nat) (s : Dec)
theorem heap_putD (hg : g < w.heap.size) : (putD w g s).heap[g]? = some (.cells s.cells 122) := by
  unfold putD
  simp [hg]
theorem cell_putD (i : Nat) (hg : g < w.heap.size) (hi : i < 804) : (putD w g s).cell? ⟨g, i, none⟩ = some (s.at_ i) := by
  unfold World.cell?
  rw [heap_putD w g s hg]
  exact s.cells_at i hi
theorem cell_putD_dig (i : Nat) (hg : g < w.heap.size) (hi : i < 800) : (putD w g s).cell? ⟨g, i, none⟩ = some (.int .u8 ((s.d i : Nat) : Int)) := by
  rw [cell_putD w g s i hg (by omega)]; unfold Dec.at_; rw [if_pos hi]
theorem cell_putD_nd (hg : g < w.heap.size) : (putD w g s).cell? ⟨g, 800, none⟩ = some (.int .i64 s.nd) := cell_putD w g s 800 hg (by decide)
theorem cell_putD_dp (hg : g < w.heap.size) : (putD w g s).cell? ⟨g, 801, none⟩ = some (.int .i64 s.dp) := cell_putD w g s 801 hg (by decide)
theorem cell_putD_neg (hg : g < w.heap.size) : (putD w g s).cell? ⟨g, 802, none⟩ = some (.bool s.neg) := cell_putD w g s 802 hg (by decide)
theorem cell_putD_tr (hg : g < w.heap.size) : (putD w g s).cell? ⟨g, 803, none⟩ = some (.bool s.tr) := cell_putD w g s 803 hg (by decide)
theorem frozen_putD (i : Nat) (hg : g < w.heap.size) : (putD w g s).frozen? ⟨g, i, none⟩ = false := by
  unfold World.frozen?
  rw [heap_putD w g s hg]
  show (decide (0 ≤ i) && decide (i < 0)) = false
  simp
theorem cell_putD_ne (a : Addr) (h : a.block ≠ g) : (putD w g s).cell? a = w.cell? a := by
  unfold putD World.cell?
  show (match (w.heap.setIfInBounds g (.cells s.cells 122))[a.block]? with | some (.cells c _ _) => if a.spot.isSome then none else c[a.off]? | _ => none) = _
  rw [Array.getElem?_setIfInBounds_ne (fun e => h e.symm)]
  rfl
theorem setCell_drewN (n : Nat) (a : Addr) (v : Value) : (w.drewN n).setCell a v = (w.setCell a v).drewN n := rfl
theorem drewN_putD (n : Nat) : (putD w g s).drewN n = putD (w.drewN n) g s := rfl
theorem set_at (i : Nat) (v : Value) (s' : Dec) (h : ∀ j, j < 804 → s'.at_ j = if j = i then v else s.at_ j) : (putD w g s).setCell ⟨g, i, none⟩ v = putD w g s' := by
  have hc : s.cells.setIfInBounds i v = s'.cells := by
    apply Array.ext_getElem?
    intro j
    rw [Array.getElem?_setIfInBounds]
    by_cases hj : j < 804
    · rw [s'.cells_at j hj, s.cells_at j hj, h j hj]
      by_cases e : j = i
      · subst e
        rw [if_pos rfl, if_pos rfl, if_pos (by unfold Dec.cells; simpa using hj)]
      · rw [if_neg (fun e' => e e'.symm), if_neg e]
    · have n1 : s.cells[j]? = none := by rw [Array.getElem?_eq_none]; unfold Dec.cells; simp; omega
      have n2 : s'.cells[j]? = none := by rw [Array.getElem?_eq_none]; unfold Dec.cells; simp; omega
      rw [n1, n2]
      split
      · rw [if_neg (by unfold Dec.cells; simp; omega)]
      · rfl
  have H : (w.heap.setIfInBounds g (.cells s.cells 122)).modify g (fun
      | .cells c elem frozen => .cells (if (none : Option Unit).isSome then c else c.setIfInBounds i v) elem frozen
      | o => o) = w.heap.setIfInBounds g (.cells s'.cells 122) := by
    apply Array.ext_getElem?
    intro k
    rw [Array.getElem?_modify]
    by_cases e : g = k
    · subst e
      rw [if_pos rfl]
      by_cases hg : g < w.heap.size
      · simp [hg, hc]
      · simp [hg]
    · rw [if_neg e, Array.getElem?_setIfInBounds_ne e, Array.getElem?_setIfInBounds_ne e]
  exact congrArg (fun h => ({ w with heap := h } : World)) H
theorem set_putD_nd (n : Int) : (putD w g s).setCell ⟨g, 800, none⟩ (.int .i64 n) = putD w g { s with nd := n } := by
  apply set_at
  intro j hj
  unfold Dec.at_
  by_cases h1 : j < 800
  · rw [if_pos h1, if_neg (by omega), if_pos h1]
  · by_cases h2 : j = 800
    · subst h2; rfl
    · rw [if_neg h1, if_neg h2, if_neg h2, if_neg h1, if_neg h2]
theorem set_putD_dp (n : Int) : (putD w g s).setCell ⟨g, 801, none⟩ (.int .i64 n) = putD w g { s with dp := n } := by
  apply set_at
  intro j hj
  unfold Dec.at_
  by_cases h1 : j < 800
  · rw [if_pos h1, if_neg (by omega), if_pos h1]
  · by_cases h2 : j = 801
    · subst h2; rfl
    · rw [if_neg h1, if_neg h2, if_neg h2, if_neg h1, if_neg h2]
theorem set_putD_neg (b : Bool) : (putD w g s).setCell ⟨g, 802, none⟩ (.bool b) = putD w g { s with neg := b } := by
  apply set_at
  intro j hj
  unfold Dec.at_
  by_cases h1 : j < 800
  · rw [if_pos h1, if_neg (by omega), if_pos h1]
  · by_cases h2 : j = 802
    · subst h2; rfl
    · rw [if_neg h1, if_neg h2, if_neg h2, if_neg h1, if_neg h2]
theorem set_putD_tr (b : Bool) : (putD w g s).setCell ⟨g, 803, none⟩ (.bool b) = putD w g { s with tr := b } := by
  apply set_at
  intro j hj
  unfold Dec.at_
  by_cases h1 : j < 800
  · rw [if_pos h1, if_neg (by omega), if_pos h1]
  · by_cases h2 : j = 803
    · subst h2; rfl
    · rw [if_neg h1, if_neg h2, if_neg h1]
      by_cases h3 : j = 800
      · rw [if_pos h3, if_pos h3]
      · by_cases h4 : j = 801
        · rw [if_neg h3, if_pos h4, if_neg h3, if_pos h4]
        · rw [if_neg h3, if_neg h4, if_pos (by omega), if_neg h3, if_neg h4, if_pos (by omega)]
theorem set_putD_dig (i v : Nat) (x : Int) (hi : i < 800) (hx : x = (v : Nat)) : (putD w g s).setCell ⟨g, i, none⟩ (.int .u8 x) = putD w g { s with d := up s.d i v } := by
  subst hx
  apply set_at
  intro j hj
  unfold Dec.at_ up
  by_cases h1 : j < 800
  · rw [if_pos h1, if_pos h1]
    dsimp only
    split <;> rfl
  · rw [if_neg h1, if_neg (show ¬ j = i by omega), if_neg h1]
end
end Go.Proofs.YtapinbbflfkglaaGreatDoor
namespace Go.Proofs.YtapinbbflfkglaaGreatDoor
open Go.RowKit
set_option maxRecDepth 100000
attribute [local go_sem] setCell_drewN
def trimN (d : Nat → Nat) : Nat → Nat
  | 0 => 0
  | n + 1 => if d n = 48 then trimN d n else n + 1
def Dec.trim (s : Dec) : Dec := { s with nd := (trimN s.d s.nd.toNat : Nat), dp := if trimN s.d s.nd.toNat = 0 then 0 else s.dp }
theorem trimN_le (d : Nat → Nat) : ∀ n, trimN d n ≤ n
  | 0 => Nat.le_refl _
  | n + 1 => by unfold trimN; split; exact Nat.le_trans (trimN_le d n) (by omega); omega
set_option maxHeartbeats 1000000 in
theorem trim_any (w : World) (g : Nat) (s : Dec) (n : Nat) (hn : s.nd = (n : Nat)) (hn2 : n ≤ 800) (hg : g < w.heap.size) :
    Calls Tryz.prog 144 #[.pointer (some ⟨g, 0, none⟩)] (putD w g s) fun e w' => e = .returned (.tuple #[]) ∧ ∃ N, w' = (putD w g s.trim).drewN N := by
  obtain ⟨sd, snd, sdp, sneg, str⟩ := s
  dsimp only at hn
  subst hn
  go_enter Tryz.func144, Tryz.ntmps144
  go_wp2_with fail
  go_loopg [] n (fun k wr => k ≤ n ∧ Hid (trimN sd k = trimN sd n) ∧ ∃ N, wr = (putD w g ⟨sd, (k : Nat), sdp, sneg, str⟩).drewN N)
  case atStart => exact ⟨Nat.le_refl _, Lib.hid rfl, 0, rfl⟩
  case round =>
    obtain ⟨hk, ht, N, rfl⟩ := hrel
    have f0 := cell_putD_nd w g ⟨sd, (gk : Nat), sdp, sneg, str⟩ hg
    have f2 := cell_putD_dp w g ⟨sd, (gk : Nat), sdp, sneg, str⟩ hg
    have fz := fun i => frozen_putD w g ⟨sd, (gk : Nat), sdp, sneg, str⟩ i hg
    have fd := fun i => cell_putD_dig w g ⟨sd, (gk : Nat), sdp, sneg, str⟩ i hg
    obtain ⟨W, hW⟩ : ∃ W, W = putD w g ⟨sd, (gk : Nat), sdp, sneg, str⟩ := ⟨_, rfl⟩
    rw [← hW] at f0 f2
    simp only [← hW] at fz fd
    rw [← hW]
    replace hW := Lib.hid hW
    dsimp only at f0 fd
    cases gk with
    | zero =>
      have c1 : decide ((0 : Int) < ((0 : Nat) : Int)) = false := by simp
      clear fd
      go_wp2_with fail
      go_quiet (fail)
      go_wp2
      go_end0
      refine ⟨by rfl, N + nq, ?_⟩
      rw [hW.out, set_putD_dp]
      unfold Dec.trim
      have h0 : trimN sd n = 0 := ht.out.symm
      dsimp only
      rw [Int.toNat_natCast, h0]
      rfl
    | succ m =>
      have c1 : (0 : Int) < ((m + 1 : Nat) : Int) := by omega
      have kw : IntKind.i64.wrap ((m : Nat) : Int) = (m : Nat) := IntWalk.i64_in _ ⟨by omega, by omega⟩
      have km : ((m : Nat) : Int) < 800 := by omega
      have f1 := fd m (by omega)
      clear fd
      obtain ⟨B, hB⟩ : ∃ B, B = sd m := ⟨_, rfl⟩
      rw [← hB] at f1
      replace hB := Lib.hid hB
      by_cases c : B = 48
      · subst c
        go_wp2_with fail
        go_quiet (fail)
        go_wp2
        go_roundg m
        case measure => omega
        case rel =>
          refine ⟨by omega, Lib.hid ?_, N + nq, by rw [hW.out, set_putD_nd]⟩
          rw [← ht.out]
          show trimN sd m = trimN sd (m + 1)
          conv => rhs; unfold trimN
          rw [if_pos hB.out.symm]
      · have c2 : (B == 48) = false := by simpa using c
        have c3 : ((B : Nat) : Int) ≠ 48 := by omega
        go_wp2_with fail
        go_quiet (fail)
        go_wp2
        go_end0
        refine ⟨by rfl, N + nq, ?_⟩
        rw [hW.out]
        unfold Dec.trim
        have h0 : trimN sd n = m + 1 := by
          rw [← ht.out]
          conv => lhs; unfold trimN
          rw [if_neg (by rw [← hB.out]; exact c)]
        dsimp only
        rw [Int.toNat_natCast, h0]
        rfl
end Go.Proofs.YtapinbbflfkglaaGreatDoor
namespace Go.Proofs.YtapinbbflfkglaaGreatDoor
open Go.RowKit
set_option maxRecDepth 100000
def pv (f : Nat → Nat) : Nat → Nat
  | 0 => 0
  | n + 1 => 10 * pv f n + f n
theorem pv_congr {f h : Nat → Nat} : ∀ n, (∀ i, i < n → f i = h i) → pv f n = pv h n
  | 0, _ => rfl
  | n + 1, H => by unfold pv; rw [pv_congr n (fun i hi => H i (by omega)), H n (by omega)]
theorem pv_zero (f : Nat → Nat) (n : Nat) (h : ∀ i, n ≤ i → f i = 0) : ∀ j, pv f (n + j) = pv f n * 10 ^ j
  | 0 => by simp
  | j + 1 => by show 10 * pv f (n + j) + f (n + j) = _; rw [pv_zero f n h j, h (n + j) (by omega), Nat.pow_succ, Nat.add_zero, Nat.mul_comm 10, Nat.mul_assoc]
def dgt (d : Nat → Nat) (i : Nat) : Nat := d i - 48
def ext (d : Nat → Nat) (n i : Nat) : Nat := if i < n then d i - 48 else 0
theorem pv_pos {f : Nat → Nat} (h : 0 < f 0) : ∀ n, 0 < n → 0 < pv f n
  | 1, _ => by show 0 < 10 * 0 + f 0; omega
  | n + 2, _ => by have := pv_pos h (n + 1) (by omega); show 0 < 10 * pv f (n + 1) + f (n + 1); omega
structure RInv (f : Nat → Nat) (P r0 : Nat) (d d' : Nat → Nat) (w n : Nat) : Prop where
  eq : pv f (r0 + w) = 10 * (pv (dgt d') w * P) + n
  lt : n < 10 * P
  dig : ∀ i, i < w → 48 ≤ d' i ∧ d' i ≤ 57
  lead : 0 < w → d' 0 ≠ 48
  big : w = 0 → P ≤ n
  rest : ∀ i, w ≤ i → d' i = d i
theorem RInv.step {f : Nat → Nat} {P r0 : Nat} {d d' : Nat → Nat} {w n : Nat} (h : RInv f P r0 d d' w n) (hP : 0 < P) (hf : f (r0 + w) ≤ 9) : RInv f P r0 d (up d' w (n / P + 48)) (w + 1) (n % P * 10 + f (r0 + w)) := by
  have hm : n % P < P := Nat.mod_lt _ hP
  have hq : n / P < 10 := Nat.div_lt_of_lt_mul (by have := h.lt; rw [Nat.mul_comm] at this; exact this)
  have hdm : P * (n / P) + n % P = n := Nat.div_add_mod _ _
  have hpv : pv (dgt (up d' w (n / P + 48))) (w + 1) = 10 * pv (dgt d') w + n / P := by
    show 10 * pv _ w + dgt _ w = _
    rw [pv_congr (h := dgt d') w (fun i hi => by unfold dgt; rw [up_ne _ _ (by omega)])]
    unfold dgt
    rw [up_at, Nat.add_sub_cancel]
  have hb1 := fun e => (Nat.le_div_iff_mul_le (k := P) (x := 1) (y := n) hP).2 (by have := h.big e; omega)
  obtain ⟨q, hq2⟩ : ∃ q, q = n / P := ⟨_, rfl⟩
  obtain ⟨m, hm2⟩ : ∃ m, m = n % P := ⟨_, rfl⟩
  rw [← hq2] at hq hpv hb1 hdm
  rw [← hm2] at hm hdm
  rw [← hq2, ← hm2]
  clear hq2 hm2
  refine ⟨?_, by omega, ?_, ?_, by omega, ?_⟩
  · show 10 * pv f (r0 + w) + f (r0 + w) = _
    rw [h.eq, hpv, Nat.add_mul, Nat.mul_assoc 10 (pv (dgt d') w), Nat.mul_comm q]
    omega
  · intro i hi
    by_cases e : i = w
    · subst e; rw [up_at]; omega
    · rw [up_ne _ _ e]; exact h.dig i (by omega)
  · intro _
    by_cases e : w = 0
    · subst e
      rw [up_at]
      have := hb1 rfl
      omega
    · rw [up_ne _ _ (fun e' => e e'.symm)]; exact h.lead (by omega)
  · intro i hi
    rw [up_ne _ _ (by omega)]; exact h.rest i (by omega)
theorem RInv.done {f : Nat → Nat} {k r0 : Nat} {d d' : Nat → Nat} {w n nd : Nat} (h : RInv f (2 ^ k) r0 d d' w n) (hz : ∀ i, nd ≤ i → f i = 0) (hn : 0 < n) : r0 + w ≤ nd + k := by
  apply Classical.byContradiction
  intro hc
  obtain ⟨j, hj⟩ : ∃ j, r0 + w = nd + (k + 1 + j) := ⟨r0 + w - nd - (k + 1), by omega⟩
  have e := h.eq
  rw [hj, pv_zero f nd hz, show 10 ^ (k + 1 + j) = (10 * 2 ^ k) * (5 ^ k * 10 ^ j) by
    rw [Nat.pow_add, Nat.pow_succ, show (10 : Nat) ^ k = 2 ^ k * 5 ^ k by rw [← Nat.mul_pow]]
    rw [Nat.mul_comm (2 ^ k * 5 ^ k) 10, ← Nat.mul_assoc, Nat.mul_assoc]] at e
  have hlt := h.lt
  obtain ⟨P, hP⟩ : ∃ P, P = 10 * 2 ^ k := ⟨_, rfl⟩
  have e2 : P * (pv f nd * (5 ^ k * 10 ^ j)) = P * pv (dgt d') w + n := by
    rw [hP, Nat.mul_left_comm, e, Nat.mul_assoc 10, Nat.mul_comm (2 ^ k)]
  rw [← hP] at hlt
  have e3 := congrArg (· % P) e2
  simp only [Nat.mul_mod_right, Nat.mul_add_mod] at e3
  rw [Nat.mod_eq_of_lt hlt] at e3
  omega
def IsV (M : Nat) (x : Int) (A B : Nat) : Prop := ∀ i l : Nat, (i : Int) - l = x → M * 10 ^ i * B = A * 10 ^ l
theorem IsV.of_one {M : Nat} {x : Int} {A B : Nat} (i l : Nat) (hx : (i : Int) - l = x) (h : M * 10 ^ i * B = A * 10 ^ l) : IsV M x A B := by
  intro i' l' hx'
  have e : i' + l = i + l' := by omega
  apply Nat.eq_of_mul_eq_mul_right (Nat.pow_pos (n := l) (show 0 < 10 by omega))
  rw [Nat.mul_right_comm, Nat.mul_assoc M, ← Nat.pow_add, e, Nat.pow_add, ← Nat.mul_assoc, Nat.mul_right_comm, h, Nat.mul_right_comm]
theorem IsV.scale {M : Nat} {x : Int} {A B : Nat} (h : IsV M x A B) (a : Nat) : IsV (M * 10 ^ a) (x - a) A B := by
  intro i l hx
  rw [Nat.mul_assoc M, ← Nat.pow_add]
  exact h (a + i) l (by omega)
theorem IsV.unscale {M : Nat} {x : Int} {A B : Nat} (a : Nat) (h : IsV (M * 10 ^ a) (x - a) A B) : IsV M x A B := by
  intro i l hx
  have := h i (l + a) (by omega)
  apply Nat.eq_of_mul_eq_mul_right (Nat.pow_pos (n := a) (show 0 < 10 by omega))
  rw [Nat.mul_assoc A, ← Nat.pow_add, ← this]
  simp only [Nat.mul_assoc, Nat.mul_comm, Nat.mul_left_comm]
theorem IsV.half {M P : Nat} {x : Int} {A B : Nat} (h : IsV (M * P) x A B) : IsV M x A (B * P) := by
  intro i l hx
  rw [← h i l hx]
  simp only [Nat.mul_assoc, Nat.mul_comm, Nat.mul_left_comm]
theorem IsV.twice {M P : Nat} {x : Int} {A B : Nat} (h : IsV M x A B) : IsV (M * P) x (A * P) B := by
  intro i l hx
  rw [Nat.mul_right_comm A, ← h i l hx]
  simp only [Nat.mul_assoc, Nat.mul_comm, Nat.mul_left_comm]
structure Good (s : Dec) (n : Nat) : Prop where
  nd : s.nd = (n : Nat)
  pos : 1 ≤ n
  le : n ≤ 800
  dig : ∀ i, i < n → 48 ≤ s.d i ∧ s.d i ≤ 57
  lead : s.d 0 ≠ 48
  last : s.d (n - 1) ≠ 48
def Dec.is (s : Dec) (n : Nat) (A B : Nat) : Prop := IsV (pv (dgt s.d) n) (s.dp - n) A B
theorem trimN_pv (d : Nat → Nat) : ∀ n, pv (dgt d) n = pv (dgt d) (trimN d n) * 10 ^ (n - trimN d n)
  | 0 => by simp [trimN, pv]
  | n + 1 => by
    unfold trimN
    split
    · next h =>
      have hl := trimN_le d n
      show 10 * pv (dgt d) n + dgt d n = _
      rw [trimN_pv d n, show n + 1 - trimN d n = (n - trimN d n) + 1 by omega, Nat.pow_succ]
      have h0 : dgt d n = 0 := by unfold dgt; omega
      rw [h0, Nat.add_zero, Nat.mul_comm 10, Nat.mul_assoc]
    · simp
theorem trimN_pos (d : Nat → Nat) (h : d 0 ≠ 48) : ∀ n, 1 ≤ n → 1 ≤ trimN d n
  | 1, _ => by unfold trimN; rw [if_neg h]; omega
  | n + 2, _ => by unfold trimN; split; exact trimN_pos d h (n + 1) (by omega); omega
theorem trimN_last (d : Nat → Nat) : ∀ n, 1 ≤ trimN d n → d (trimN d n - 1) ≠ 48
  | 0, h => by unfold trimN at h; omega
  | n + 1, h => by
    unfold trimN at h ⊢
    split at h
    · next c => rw [if_pos c]; exact trimN_last d n h
    · next c => rw [if_neg c]; simpa using c
theorem Good.trim {s : Dec} {v : Nat} (hnd : s.nd = (v : Nat)) (hv : 1 ≤ v) (hv2 : v ≤ 800) (hdig : ∀ i, i < v → 48 ≤ s.d i ∧ s.d i ≤ 57) (hlead : s.d 0 ≠ 48) :
    Good s.trim (trimN s.d v) ∧ s.trim.dp = s.dp ∧ s.trim.neg = s.neg ∧ s.trim.tr = s.tr ∧ ∀ A B, s.is v A B → s.trim.is (trimN s.d v) A B := by
  have h1 := trimN_pos s.d hlead v hv
  have h2 := trimN_le s.d v
  have e : s.nd.toNat = v := by rw [hnd]; rfl
  have hdp : s.trim.dp = s.dp := by
    unfold Dec.trim
    dsimp only
    rw [e, if_neg (by omega)]
  refine ⟨⟨by unfold Dec.trim; dsimp only; rw [e], h1, by omega, fun i hi => hdig i (by omega), hlead, trimN_last s.d v h1⟩, hdp, rfl, rfl, fun A B h => ?_⟩
  unfold Dec.is at h ⊢
  rw [hdp]
  show IsV (pv (dgt s.d) (trimN s.d v)) _ A B
  rw [trimN_pv s.d v] at h
  refine IsV.unscale (v - trimN s.d v) ?_
  rw [show s.dp - ((trimN s.d v : Nat) : Int) - ((v - trimN s.d v : Nat) : Int) = s.dp - ((v : Nat) : Int) by omega]
  exact h
theorem ext_pv (d : Nat → Nat) (n j : Nat) : pv (ext d n) (n + j) = pv (dgt d) n * 10 ^ j := by
  rw [pv_zero (ext d n) n (fun i hi => by unfold ext; exact if_neg (show ¬ i < n by omega)) j]
  congr 1
  exact pv_congr n (fun i hi => by unfold ext dgt; rw [if_pos hi])
theorem RInv.value {s : Dec} {nd P r v : Nat} {d' : Nat → Nat} (h : RInv (ext s.d nd) P r s.d d' v 0) (hP : 0 < P) (hr : nd ≤ r + v) (hv2 : v ≤ 800) (hnd : s.nd = (nd : Nat)) :
    let t : Dec := ⟨d', (v : Nat), s.dp - ((r : Int) - 1), s.neg, s.tr⟩
    Good t.trim (trimN d' v) ∧ t.trim.neg = s.neg ∧ t.trim.tr = s.tr ∧ t.trim.dp = s.dp - ((r : Int) - 1) ∧ ∀ A B, s.is nd A B → t.trim.is (trimN d' v) A (B * P) := by
  intro t
  have hv : 1 ≤ v := by
    apply Classical.byContradiction
    intro c
    have := h.big (by omega)
    omega
  obtain ⟨g1, g2, g3, g4, g5⟩ := Good.trim (s := t) (v := v) rfl hv hv2 h.dig (h.lead hv)
  refine ⟨g1, g3, g4, g2, fun A B hs => g5 _ _ ?_⟩
  unfold Dec.is at hs ⊢
  show IsV (pv (dgt d') v) (s.dp - ((r : Int) - 1) - v) A (B * P)
  apply IsV.half
  obtain ⟨j, hj⟩ : ∃ j, r + v = nd + j := ⟨r + v - nd, by omega⟩
  have e := h.eq
  rw [hj, ext_pv, Nat.add_zero] at e
  have h1 := hs.scale j
  rw [e, Nat.mul_comm 10] at h1
  have : IsV (pv (dgt d') v * P * 10 ^ 1) ((s.dp - ((r : Int) - 1) - v) - (1 : Nat)) A B := by
    rw [show (s.dp - ((r : Int) - 1) - v) - ((1 : Nat) : Int) = s.dp - nd - j by omega]
    exact h1
  exact IsV.unscale 1 this
end Go.Proofs.YtapinbbflfkglaaGreatDoor
namespace Go.Proofs.YtapinbbflfkglaaGreatDoor
open Go.RowKit
set_option maxRecDepth 100000
attribute [local go_sem] setCell_drewN
theorem pv_lt9 (f : Nat → Nat) (h : ∀ i, f i ≤ 9) : ∀ n, pv f n < 10 ^ n
  | 0 => by simp [pv]
  | n + 1 => by have := pv_lt9 f h n; have := h n; rw [Nat.pow_succ]; show 10 * pv f n + f n < _; omega
set_option maxHeartbeats 1000000 in
theorem right_any (w : World) (g : Nat) (s : Dec) (nd k : Nat) (hnd : s.nd = (nd : Nat)) (h1 : 1 ≤ nd) (hk1 : 1 ≤ k) (hk2 : k ≤ 60) (qq : Nat) (hqq : 10 ^ qq ≤ 2 ^ k) (hnd8 : nd ≤ 800) (hroom : nd + k ≤ 800 + qq) (hg : g < w.heap.size) (hdp : -1000000 ≤ s.dp ∧ s.dp ≤ 1000000) (hdig : ∀ i, i < nd → 48 ≤ s.d i ∧ s.d i ≤ 57) (hlead : s.d 0 ≠ 48) :
    Calls Tryz.prog 146 #[.pointer (some ⟨g, 0, none⟩), .int .u64 (k : Nat)] (putD w g s) fun e w' => e = .returned (.tuple #[]) ∧ ∃ (N : Nat) (v r : Nat) (d' : Nat → Nat), w' = (putD w g (Dec.trim ⟨d', (v : Nat), s.dp - ((r : Int) - 1), s.neg, s.tr⟩)).drewN N ∧ RInv (ext s.d nd) (2 ^ k) r s.d d' v 0 ∧ nd ≤ r + v ∧ v ≤ 800 ∧ 1 ≤ r ∧ r + v ≤ nd + k + 1 ∧ r ≤ nd + k := by
  obtain ⟨sd, snd, sdp, sneg, str⟩ := s
  dsimp only at hnd hdig hlead hdp
  obtain ⟨hdp1, hdp2⟩ := hdp
  subst hnd
  obtain ⟨P, hP⟩ : ∃ P, P = 2 ^ k := ⟨_, rfl⟩
  have hP1 : 2 ≤ P := by rw [hP]; exact Nat.pow_le_pow_right (n := 2) (by omega) hk1
  have hP2 : P ≤ 1152921504606846976 := by rw [hP]; exact Nat.pow_le_pow_right (n := 2) (by omega) hk2
  have hsh : ∀ n : Nat, Hid (((n : Nat) : Int) / 2 ^ k = ((n / P : Nat) : Int)) := fun n => Lib.hid (by rw [hP, Int.natCast_ediv, Int.natCast_pow]; rfl)
  replace hP := Lib.hid hP
  replace hqq := Lib.hid hqq
  replace hdig := Lib.hid hdig
  replace hlead := Lib.hid hlead
  have f0 := cell_putD_nd w g ⟨sd, (nd : Nat), sdp, sneg, str⟩ hg
  have f2 := cell_putD_dp w g ⟨sd, (nd : Nat), sdp, sneg, str⟩ hg
  have fz := fun i => frozen_putD w g ⟨sd, (nd : Nat), sdp, sneg, str⟩ i hg
  have fd := Lib.hid (fun i hi => cell_putD_dig w g ⟨sd, (nd : Nat), sdp, sneg, str⟩ i hg hi)
  obtain ⟨W, hW⟩ : ∃ W, W = putD w g ⟨sd, (nd : Nat), sdp, sneg, str⟩ := ⟨_, rfl⟩
  rw [← hW] at f0 f2
  simp only [← hW] at fz fd
  rw [← hW]
  replace hW := Lib.hid hW
  dsimp only at f0 f2 fd
  go_enter Tryz.func146, Tryz.ntmps146
  go_upto_block 0 with fail
  go_cut [4, 6, 7] from 12 to 48 (fun s4 s6 s7 wx => ∃ r n : Nat, s4 = .int .i64 (r : Nat) ∧ s6 = .int .u64 (n : Nat) ∧ wx = W ∧ 1 ≤ r ∧ Hid (n = pv (ext sd nd) r) ∧ Hid (P ≤ n ∧ n < 10 * P))
  case first =>
    go_wp2_with fail
    go_loopg [4, 6, 7] nd (fun gk s4 s6 s7 wx => ∃ r n : Nat, s4 = .int .i64 (r : Nat) ∧ s6 = .int .u64 (n : Nat) ∧ wx = W ∧ gk + r = nd ∧ Hid (n = pv (ext sd nd) r) ∧ Hid (n < 10 * P))
    case atStart => exact ⟨0, 0, rfl, rfl, rfl, rfl, Lib.hid rfl, Lib.hid (by omega)⟩
    case round =>
      obtain ⟨r, n, rfl, rfl, rfl, hr, hn, hn2⟩ := hrel
      by_cases c : n < P
      · have hq : ((n : Nat) : Int) / 2 ^ k = 0 := by rw [(hsh n).out, Nat.div_eq_of_lt c]; rfl
        by_cases c2 : r < nd
        · obtain ⟨B, hB⟩ : ∃ B, B = sd r := ⟨_, rfl⟩
          have f3 := fd.out r (by omega)
          rw [← hB] at f3
          have hB1 : 48 ≤ B ∧ B ≤ 57 := by rw [hB]; exact hdig.out r c2
          obtain ⟨hB1, hB2⟩ := hB1
          have hn3 : n * 10 + B < 18446744073709551616 := by omega
          have hn4 : 48 ≤ n * 10 + B := by omega
          have hr3 : r < 800 := by omega
          replace hB := Lib.hid hB
          go_wp2_with fail
          go_roundg (gk - 1)
          case measure => omega
          case rel =>
            refine ⟨r + 1, n * 10 + (B - 48), by rw [Int.natCast_add]; rfl, by rw [show ((n : Int) * 10 + (B : Int) - 48) = ((n * 10 + (B - 48) : Nat) : Int) by omega], rfl, by omega, Lib.hid ?_, Lib.hid (by omega)⟩
            show _ = 10 * pv (ext sd nd) r + ext sd nd r
            rw [← hn.out, Nat.mul_comm 10]
            unfold ext
            rw [if_pos c2, hB.out]
        · have hr3 : r = nd := by omega
          have hn0 : 0 < n := by
            rw [hn.out]
            refine pv_pos ?_ r (by omega)
            unfold ext
            rw [if_pos (by omega)]
            have := (hdig.out 0 (by omega)).1
            have := hlead.out
            omega
          clear c2
          subst hr3
          have c3 : ((n : Nat) : Int) ≠ 0 := by omega
          go_wp2_with fail
          go_loopg [4, 6] (P - n) (fun gk s4 s6 wx => ∃ j m : Nat, s4 = .int .i64 ((r + j : Nat) : Int) ∧ s6 = .int .u64 (m : Nat) ∧ wx = wr ∧ gk = P - m ∧ Hid (m = pv (ext sd r) (r + j)) ∧ j < m ∧ m < 10 * P)
          case atStart => exact ⟨0, n, rfl, rfl, rfl, rfl, hn, hn0, hn2.out⟩
          case round =>
            obtain ⟨j, m, rfl, rfl, rfl, hj, hm, hm0, hm2⟩ := hrel
            by_cases c4 : m < P
            · have hq : ((m : Nat) : Int) / 2 ^ k = 0 := by rw [(hsh m).out, Nat.div_eq_of_lt c4]; rfl
              have hn3 : m * 10 < 18446744073709551616 := by omega
              go_wp2_with fail
              go_roundg (P - m * 10)
              case measure => omega
              case rel =>
                refine ⟨j + 1, m * 10, by rw [show ((r : Int) + (j : Int) + 1) = ((r + (j + 1) : Nat) : Int) by omega], by rw [show ((m : Int) * 10) = ((m * 10 : Nat) : Int) by omega], rfl, rfl, Lib.hid ?_, by omega, by omega⟩
                show _ = 10 * pv (ext sd r) (r + j) + ext sd r (r + j)
                rw [← hm.out]
                unfold ext
                rw [if_neg (by omega)]
                omega
            · have hq : (((m : Nat) : Int) / 2 ^ k == 0) = false := by
                rw [(hsh m).out, beq_eq_false_iff_ne]
                have : 1 ≤ m / P := (Nat.le_div_iff_mul_le (by omega)).2 (by omega)
                omega
              go_wp2_with fail
              go_meet
              case rel => exact ⟨r + j, m, rfl, rfl, rfl, by omega, hm, Lib.hid ⟨by omega, hm2⟩⟩
      · have hq : (((n : Nat) : Int) / 2 ^ k == 0) = false := by
          rw [(hsh n).out, beq_eq_false_iff_ne]
          have : 1 ≤ n / P := (Nat.le_div_iff_mul_le (by omega)).2 (by omega)
          omega
        go_wp2_with fail
        go_meet
        case rel =>
          refine ⟨r, n, rfl, rfl, rfl, ?_, hn, Lib.hid ⟨by omega, hn2.out⟩⟩
          cases r with
          | zero => have := hn.out; unfold pv at this; omega
          | succ r => omega
  case rest =>
    obtain ⟨r, n, rfl, rfl, rfl, hr, hn, hb⟩ := hcut
    obtain ⟨hb1, hb2⟩ := hb.out
    have hqr : qq < r := by
      apply Classical.byContradiction
      intro c
      have h9 : pv (ext sd nd) r < 10 ^ r := pv_lt9 _ (fun i => by unfold ext; split; (have := hdig.out i (by assumption); omega); omega) r
      have h10 : 10 ^ r ≤ 10 ^ qq := Nat.pow_le_pow_right (n := 10) (by omega) (by omega)
      have hn' := hn.out
      have hP' := hP.out
      rw [← hn'] at h9
      have hq' := hqq.out
      rw [← hP'] at hq'
      omega
    clear hqq
    have hR : RInv (ext sd nd) P r sd sd 0 n := ⟨by show pv _ r = 10 * (0 * P) + n; rw [← hn.out, Nat.zero_mul]; omega, hb2, fun i hi => absurd hi (by omega), fun h => absurd h (by omega), fun _ => hb1, fun _ _ => rfl⟩
    have hn1 : 0 < n := by omega
    have hez : ∀ i, nd ≤ i → ext sd nd i = 0 := fun i hi => by unfold ext; exact if_neg (show ¬ i < nd by omega)
    have hrk : r ≤ nd + k := by
      have h := hR
      rw [hP.out] at h
      exact h.done hez hn1
    clear hez hn1
    have hr2 : ((r : Nat) : Int) ≤ 860 := by omega
    have hmask : IntKind.u64.wrap (IntKind.u64.wrap (2 ^ k) - 1) = ((P - 1 : Nat) : Int) := by
      have e : ((2 : Int) ^ k) = ((P : Nat) : Int) := by rw [hP.out, Int.natCast_pow]; rfl
      rw [e, IntWalk.u64_in ((P : Nat) : Int) ⟨by omega, by omega⟩, IntWalk.u64_in (((P : Nat) : Int) - 1) ⟨by omega, by omega⟩]
      omega
    replace hR := Lib.hid hR
    clear hb hn hb1 hb2
    go_upto_block 4 with fail
    rw [hW.out, set_putD_dp]
    clear fz f0 f2 fd hW hlead
    obtain ⟨dp, hdp⟩ : ∃ dp : Int, dp = sdp - ((r : Int) - 1) := ⟨_, rfl⟩
    rw [← hdp]
    have hdp3 : -1001000 ≤ dp ∧ dp ≤ 1001000 := by omega
    obtain ⟨hdp3, hdp4⟩ := hdp3
    replace hdp := Lib.hid hdp
    go_cut [4, 5, 6, 9, 10] from 61 to 96 (fun s4 s5 s6 s9 s10 wx => ∃ (v n : Nat) (d' : Nat → Nat), s4 = .int .i64 ((r + v : Nat) : Int) ∧ s5 = .int .i64 (v : Nat) ∧ s6 = .int .u64 (n : Nat) ∧ wx = putD w g ⟨d', (nd : Nat), dp, sneg, str⟩ ∧ Hid (RInv (ext sd nd) P r sd d' v n) ∧ Hid (nd ≤ r + v) ∧ Hid (r + v ≤ nd + k))
    case first =>
      go_wp2_with fail
      go_loopg [4, 5, 6, 9, 10] (nd - r) (fun gk s4 s5 s6 s9 s10 wx => ∃ (v n : Nat) (d' : Nat → Nat), s4 = .int .i64 ((r + v : Nat) : Int) ∧ s5 = .int .i64 (v : Nat) ∧ s6 = .int .u64 (n : Nat) ∧ wx = putD w g ⟨d', (nd : Nat), dp, sneg, str⟩ ∧ Hid (RInv (ext sd nd) P r sd d' v n) ∧ gk = nd - (r + v) ∧ Hid (r + v ≤ nd + k))
      case atStart => exact ⟨0, n, sd, rfl, rfl, rfl, rfl, hR, by omega, Lib.hid (by omega)⟩
      case round =>
        obtain ⟨v, n, d', rfl, rfl, rfl, rfl, hR, hv, hvk⟩ := hrel
        have f0 := cell_putD_nd w g ⟨d', (nd : Nat), dp, sneg, str⟩ hg
        have fz := fun i => frozen_putD w g ⟨d', (nd : Nat), dp, sneg, str⟩ i hg
        have fd := Lib.hid (fun i hi => cell_putD_dig w g ⟨d', (nd : Nat), dp, sneg, str⟩ i hg hi)
        obtain ⟨W, hW⟩ : ∃ W, W = putD w g ⟨d', (nd : Nat), dp, sneg, str⟩ := ⟨_, rfl⟩
        rw [← hW] at f0
        simp only [← hW] at fz fd
        rw [← hW]
        replace hW := Lib.hid hW
        dsimp only at f0 fd
        by_cases c : r + v < nd
        · obtain ⟨B, hB⟩ : ∃ B, B = sd (r + v) := ⟨_, rfl⟩
          have f3 := fd.out (r + v) (by omega)
          rw [hR.out.rest (r + v) (by omega), ← hB] at f3
          have hB1 : 48 ≤ B ∧ B ≤ 57 := by rw [hB]; exact hdig.out (r + v) c
          obtain ⟨hB1, hB2⟩ := hB1
          have hst := hR.out.step (by omega) (show ext sd nd (r + v) ≤ 9 by unfold ext; rw [if_pos c, ← hB]; omega)
          have hx : ext sd nd (r + v) = B - 48 := by unfold ext; rw [if_pos c, hB]
          rw [hx] at hst
          have hst := Lib.hid hst
          replace hB := Lib.hid hB
          have hlt := hR.out.lt
          have hq0 := (hsh n).out
          have hq1 : n / P < 10 := Nat.div_lt_of_lt_mul (by rw [Nat.mul_comm]; exact hlt)
          have hm1 : n % P < P := Nat.mod_lt _ (by omega)
          obtain ⟨q, hq⟩ : ∃ q, q = n / P := ⟨_, rfl⟩
          obtain ⟨m, hm⟩ : ∃ m, m = n % P := ⟨_, rfl⟩
          rw [← hq] at hq0 hq1 hst
          rw [← hm] at hm1 hst
          have hand : bits .and .u64 ((n : Nat) : Int) ((P - 1 : Nat) : Int) = ((m : Nat) : Int) := by
            rw [u64_and_nat n (P - 1) (by omega) (by omega), hP.out, Nat.and_two_pow_sub_one_eq_mod, hm, hP.out]
          replace hq := Lib.hid hq
          replace hm := Lib.hid hm
          clear hx
          have f4 := fd.out v (by omega)
          have hv8 : v < 800 := by omega
          have hx1 : m * 10 + B < 18446744073709551616 := by omega
          have hx2 : 48 ≤ m * 10 + B := by omega
          go_wp2_with fail
          go_roundg (gk - 1)
          case measure => omega
          case rel =>
            refine ⟨v + 1, m * 10 + (B - 48), up d' v (q + 48), by rw [show ((r : Int) + (v : Int) + 1) = ((r + (v + 1) : Nat) : Int) by omega], by rw [Int.natCast_add]; rfl, by rw [show ((m : Int) * 10 + (B : Int) - 48) = ((m * 10 + (B - 48) : Nat) : Int) by omega], ?_, hst, by omega, Lib.hid (by omega)⟩
            rw [hW.out]
            exact set_putD_dig _ _ _ _ _ _ hv8 (by omega)
        · have c2 : decide (((r + v : Nat) : Int) < ((nd : Nat) : Int)) = false := by simp; omega
          go_wp2_with fail
          go_meet
          case rel => exact ⟨v, n, d', rfl, rfl, rfl, hW.out, hR, Lib.hid (by omega), hvk⟩
    case rest =>
      obtain ⟨v0, n, d', rfl, rfl, rfl, rfl, hR, hv, hvk⟩ := hcut
      go_wp2_with fail
      go_loopg [5, 6, 11] (nd + k + 1 - (r + v0)) (fun gk s5 s6 s11 wx => ∃ (v n : Nat) (d' : Nat → Nat), s5 = .int .i64 (v : Nat) ∧ s6 = .int .u64 (n : Nat) ∧ wx = putD w g ⟨d', (nd : Nat), dp, sneg, str⟩ ∧ Hid (RInv (ext sd nd) P r sd d' v n) ∧ gk = nd + k + 1 - (r + v) ∧ Hid (nd ≤ r + v) ∧ Hid (r + v ≤ nd + k + 1))
      case atStart => exact ⟨v0, n, d', rfl, rfl, rfl, hR, rfl, hv, Lib.hid (by have := hvk.out; omega)⟩
      case round =>
        clear hR hv hvk
        obtain ⟨v, n, d', rfl, rfl, rfl, hR, hv, hv2, hv3⟩ := hrel
        have f0 := cell_putD_nd w g ⟨d', (nd : Nat), dp, sneg, str⟩ hg
        have fz := fun i => frozen_putD w g ⟨d', (nd : Nat), dp, sneg, str⟩ i hg
        have fd := Lib.hid (fun i hi => cell_putD_dig w g ⟨d', (nd : Nat), dp, sneg, str⟩ i hg hi)
        obtain ⟨W, hW⟩ : ∃ W, W = putD w g ⟨d', (nd : Nat), dp, sneg, str⟩ := ⟨_, rfl⟩
        rw [← hW] at f0
        simp only [← hW] at fz fd
        rw [← hW]
        replace hW := Lib.hid hW
        dsimp only at f0 fd
        by_cases c : 0 < n
        · have hez : ∀ i, nd ≤ i → ext sd nd i = 0 := fun i hi => by unfold ext; exact if_neg (show ¬ i < nd by omega)
          have hvk : r + v ≤ nd + k := by
            have h := hR.out
            rw [hP.out] at h
            exact h.done hez c
          have hst := hR.out.step (by omega) (by rw [hez _ hv2.out]; omega)
          rw [hez _ hv2.out, Nat.add_zero] at hst
          have hst := Lib.hid hst
          clear hez
          have hlt := hR.out.lt
          have hq0 := (hsh n).out
          have hq1 : n / P < 10 := Nat.div_lt_of_lt_mul (by rw [Nat.mul_comm]; exact hlt)
          have hm1 : n % P < P := Nat.mod_lt _ (by omega)
          obtain ⟨q, hq⟩ : ∃ q, q = n / P := ⟨_, rfl⟩
          obtain ⟨m, hm⟩ : ∃ m, m = n % P := ⟨_, rfl⟩
          rw [← hq] at hq0 hq1 hst
          rw [← hm] at hm1 hst
          have hand : bits .and .u64 ((n : Nat) : Int) ((P - 1 : Nat) : Int) = ((m : Nat) : Int) := by
            rw [u64_and_nat n (P - 1) (by omega) (by omega), hP.out, Nat.and_two_pow_sub_one_eq_mod, hm, hP.out]
          replace hq := Lib.hid hq
          replace hm := Lib.hid hm
          have f4 := fd.out v (by omega)
          have hv8 : v < 800 := by omega
          have hx1 : m * 10 < 18446744073709551616 := by omega
          go_wp2_with fail
          go_roundg (gk - 1)
          case measure => omega
          case rel =>
            refine ⟨v + 1, m * 10, up d' v (q + 48), by rw [Int.natCast_add]; rfl, by rw [show ((m : Int) * 10) = ((m * 10 : Nat) : Int) by omega], ?_, hst, by omega, Lib.hid (by have := hv2.out; omega), Lib.hid (by omega)⟩
            rw [hW.out]
            exact set_putD_dig _ _ _ _ _ _ hv8 (by omega)
        · have hn0 : n = 0 := by omega
          subst hn0
          have hvk : v ≤ 800 := by have := hv3.out; omega
          go_wp2_with fail
          rw [hW.out, set_putD_nd]
          refine (trim_any w g ⟨d', (v : Nat), dp, sneg, str⟩ v rfl hvk hg).mono ?_
          rintro e w' ⟨rfl, N, rfl⟩
          go_wp2
          go_end0
          exact ⟨by rfl, N, v, r, d', by rw [hdp.out], by rw [← hP.out]; exact hR.out, hv2.out, hvk, hr, hv3.out, hrk⟩
end Go.Proofs.YtapinbbflfkglaaGreatDoor
namespace Go.Proofs.YtapinbbflfkglaaGreatDoor
open Go.RowKit
open Go.PlainAid (bt get_bt bt_nonneg bt_le bt_end)
set_option maxRecDepth 100000
def ltp (d : Nat → Nat) (nd : Nat) : List UInt8 → Nat → Bool
  | [], _ => false
  | c :: t, i => if nd ≤ i then true else if d i = c.toNat then ltp d nd t (i + 1) else decide (d i < c.toNat)
set_option maxHeartbeats 1000000 in
theorem plt_walk (w : World) (g nd : Nat) (d : Nat → Nat) (s : List UInt8) (hnd : nd ≤ 800) (hs : s.length ≤ 100) (hcell : ∀ i, i < nd → w.cell? ⟨g, i, none⟩ = some (.int .u8 ((d i : Nat) : Int))) :
    Calls Tryz.prog 166 #[.slice (some ⟨g, 0, none⟩) nd 800, .string ⟨s.toArray⟩] w fun e w' => e = .returned (.bool (ltp d nd s 0)) ∧ ∃ N, w' = w.drewN N := by
  replace hcell := Lib.hid hcell
  have k1 := get_bt ⟨s.toArray⟩
  have hbb := Lib.hid (fun i hi => bt_bs s i hi)
  obtain ⟨L, hL⟩ : ∃ L, L = s.length := ⟨_, rfl⟩
  have hsz : (⟨s.toArray⟩ : ByteArray).size = L := by rw [hL]; simp [ByteArray.size]
  obtain ⟨S, hS⟩ : ∃ S : ByteArray, S = ⟨s.toArray⟩ := ⟨_, rfl⟩
  rw [← hS] at k1 hbb hsz ⊢
  rw [← hL] at hs
  replace hL := Lib.hid hL
  clear hS
  go_enter Tryz.func166, Tryz.ntmps166
  go_wp2_with fail
  go_loopg [5] L (fun gk s5 wx => ∃ i N : Nat, s5 = .int .i64 (i : Nat) ∧ wx = w.drewN N ∧ gk + i = L ∧ Hid (ltp d nd (s.drop i) i = ltp d nd s 0))
  case atStart => exact ⟨0, 0, rfl, rfl, rfl, Lib.hid rfl⟩
  case round =>
    obtain ⟨i, N, rfl, rfl, hi, ht⟩ := hrel
    by_cases c : i < L
    · by_cases c2 : nd ≤ i
      · go_wp2_with fail
        go_ret
        refine ⟨?_, N, rfl⟩
        rw [← ht.out, List.drop_eq_getElem_cons (by rw [← hL.out]; exact c)]
        unfold ltp
        rw [if_pos c2]
        rfl
      · have f0 := hcell.out i (by omega)
        have hc := List.drop_eq_getElem_cons (l := s) (i := i) (by rw [← hL.out]; exact c)
        have hb := hbb.out i (by rw [← hL.out]; exact c)
        obtain ⟨C, hC⟩ : ∃ C : UInt8, C = s[i]'(by rw [← hL.out]; exact c) := ⟨_, rfl⟩
        rw [← hC] at hc hb
        obtain ⟨K, hK⟩ : ∃ K, K = C.toNat := ⟨_, rfl⟩
        obtain ⟨B, hB⟩ : ∃ B, B = d i := ⟨_, rfl⟩
        rw [← hB] at f0
        rw [← hK] at hb
        replace hB := Lib.hid hB
        replace hK := Lib.hid hK
        replace hC := Lib.hid hC
        replace hc := Lib.hid hc
        have hi9 : i < 100 := by omega
        by_cases c3 : B = K
        · have c4 : (((B : Nat) : Int) != ((K : Nat) : Int)) = false := by simp [c3]
          go_wp2_with fail
          go_quiet (fail)
          go_wp2_with fail
          go_roundg (gk - 1)
          case measure => omega
          case rel =>
            refine ⟨i + 1, N + nq, by rw [Int.natCast_add]; rfl, rfl, by omega, Lib.hid ?_⟩
            rw [← ht.out, hc.out]
            conv => rhs; unfold ltp
            rw [if_neg c2, if_pos (by rw [← hB.out, ← hK.out]; exact c3)]
        · have c4 : (((B : Nat) : Int) != ((K : Nat) : Int)) = true := by rw [bne_iff_ne]; omega
          go_wp2_with fail
          go_quiet (fail)
          go_wp2_with fail
          go_quiet (fail)
          go_wp2_with fail
          go_ret
          refine ⟨?_, _, by rw [World.drewN_drewN, World.drewN_drewN]⟩
          · rw [← ht.out, hc.out]
            conv => rhs; unfold ltp
            rw [if_neg c2, if_neg (by rw [← hB.out, ← hK.out]; exact c3), ← hB.out, ← hK.out]
            simp
    · go_wp2_with fail
      go_ret
      refine ⟨?_, N, rfl⟩
      rw [← ht.out, List.drop_eq_nil_of_le (by have := hL.out; omega)]
      rfl
end Go.Proofs.YtapinbbflfkglaaGreatDoor
namespace Go.Proofs.YtapinbbflfkglaaGreatDoor
open Go.RowKit
set_option maxRecDepth 100000
set_option linter.unusedSimpArgs false
def cutL : List (List UInt8) := [[],
  [53],
  [50, 53],
  [49, 50, 53],
  [54, 50, 53],
  [51, 49, 50, 53],
  [49, 53, 54, 50, 53],
  [55, 56, 49, 50, 53],
  [51, 57, 48, 54, 50, 53],
  [49, 57, 53, 51, 49, 50, 53],
  [57, 55, 54, 53, 54, 50, 53],
  [52, 56, 56, 50, 56, 49, 50, 53],
  [50, 52, 52, 49, 52, 48, 54, 50, 53],
  [49, 50, 50, 48, 55, 48, 51, 49, 50, 53],
  [54, 49, 48, 51, 53, 49, 53, 54, 50, 53],
  [51, 48, 53, 49, 55, 53, 55, 56, 49, 50, 53],
  [49, 53, 50, 53, 56, 55, 56, 57, 48, 54, 50, 53],
  [55, 54, 50, 57, 51, 57, 52, 53, 51, 49, 50, 53],
  [51, 56, 49, 52, 54, 57, 55, 50, 54, 53, 54, 50, 53],
  [49, 57, 48, 55, 51, 52, 56, 54, 51, 50, 56, 49, 50, 53],
  [57, 53, 51, 54, 55, 52, 51, 49, 54, 52, 48, 54, 50, 53],
  [52, 55, 54, 56, 51, 55, 49, 53, 56, 50, 48, 51, 49, 50, 53],
  [50, 51, 56, 52, 49, 56, 53, 55, 57, 49, 48, 49, 53, 54, 50, 53],
  [49, 49, 57, 50, 48, 57, 50, 56, 57, 53, 53, 48, 55, 56, 49, 50, 53],
  [53, 57, 54, 48, 52, 54, 52, 52, 55, 55, 53, 51, 57, 48, 54, 50, 53],
  [50, 57, 56, 48, 50, 51, 50, 50, 51, 56, 55, 54, 57, 53, 51, 49, 50, 53],
  [49, 52, 57, 48, 49, 49, 54, 49, 49, 57, 51, 56, 52, 55, 54, 53, 54, 50, 53],
  [55, 52, 53, 48, 53, 56, 48, 53, 57, 54, 57, 50, 51, 56, 50, 56, 49, 50, 53],
  [51, 55, 50, 53, 50, 57, 48, 50, 57, 56, 52, 54, 49, 57, 49, 52, 48, 54, 50, 53],
  [49, 56, 54, 50, 54, 52, 53, 49, 52, 57, 50, 51, 48, 57, 53, 55, 48, 51, 49, 50, 53],
  [57, 51, 49, 51, 50, 50, 53, 55, 52, 54, 49, 53, 52, 55, 56, 53, 49, 53, 54, 50, 53],
  [52, 54, 53, 54, 54, 49, 50, 56, 55, 51, 48, 55, 55, 51, 57, 50, 53, 55, 56, 49, 50, 53],
  [50, 51, 50, 56, 51, 48, 54, 52, 51, 54, 53, 51, 56, 54, 57, 54, 50, 56, 57, 48, 54, 50, 53],
  [49, 49, 54, 52, 49, 53, 51, 50, 49, 56, 50, 54, 57, 51, 52, 56, 49, 52, 52, 53, 51, 49, 50, 53],
  [53, 56, 50, 48, 55, 54, 54, 48, 57, 49, 51, 52, 54, 55, 52, 48, 55, 50, 50, 54, 53, 54, 50, 53],
  [50, 57, 49, 48, 51, 56, 51, 48, 52, 53, 54, 55, 51, 51, 55, 48, 51, 54, 49, 51, 50, 56, 49, 50, 53],
  [49, 52, 53, 53, 49, 57, 49, 53, 50, 50, 56, 51, 54, 54, 56, 53, 49, 56, 48, 54, 54, 52, 48, 54, 50, 53],
  [55, 50, 55, 53, 57, 53, 55, 54, 49, 52, 49, 56, 51, 52, 50, 53, 57, 48, 51, 51, 50, 48, 51, 49, 50, 53],
  [51, 54, 51, 55, 57, 55, 56, 56, 48, 55, 48, 57, 49, 55, 49, 50, 57, 53, 49, 54, 54, 48, 49, 53, 54, 50, 53],
  [49, 56, 49, 56, 57, 56, 57, 52, 48, 51, 53, 52, 53, 56, 53, 54, 52, 55, 53, 56, 51, 48, 48, 55, 56, 49, 50, 53],
  [57, 48, 57, 52, 57, 52, 55, 48, 49, 55, 55, 50, 57, 50, 56, 50, 51, 55, 57, 49, 53, 48, 51, 57, 48, 54, 50, 53],
  [52, 53, 52, 55, 52, 55, 51, 53, 48, 56, 56, 54, 52, 54, 52, 49, 49, 56, 57, 53, 55, 53, 49, 57, 53, 51, 49, 50, 53],
  [50, 50, 55, 51, 55, 51, 54, 55, 53, 52, 52, 51, 50, 51, 50, 48, 53, 57, 52, 55, 56, 55, 53, 57, 55, 54, 53, 54, 50, 53],
  [49, 49, 51, 54, 56, 54, 56, 51, 55, 55, 50, 49, 54, 49, 54, 48, 50, 57, 55, 51, 57, 51, 55, 57, 56, 56, 50, 56, 49, 50, 53],
  [53, 54, 56, 52, 51, 52, 49, 56, 56, 54, 48, 56, 48, 56, 48, 49, 52, 56, 54, 57, 54, 56, 57, 57, 52, 49, 52, 48, 54, 50, 53],
  [50, 56, 52, 50, 49, 55, 48, 57, 52, 51, 48, 52, 48, 52, 48, 48, 55, 52, 51, 52, 56, 52, 52, 57, 55, 48, 55, 48, 51, 49, 50, 53],
  [49, 52, 50, 49, 48, 56, 53, 52, 55, 49, 53, 50, 48, 50, 48, 48, 51, 55, 49, 55, 52, 50, 50, 52, 56, 53, 51, 53, 49, 53, 54, 50, 53],
  [55, 49, 48, 53, 52, 50, 55, 51, 53, 55, 54, 48, 49, 48, 48, 49, 56, 53, 56, 55, 49, 49, 50, 52, 50, 54, 55, 53, 55, 56, 49, 50, 53],
  [51, 53, 53, 50, 55, 49, 51, 54, 55, 56, 56, 48, 48, 53, 48, 48, 57, 50, 57, 51, 53, 53, 54, 50, 49, 51, 51, 55, 56, 57, 48, 54, 50, 53],
  [49, 55, 55, 54, 51, 53, 54, 56, 51, 57, 52, 48, 48, 50, 53, 48, 52, 54, 52, 54, 55, 55, 56, 49, 48, 54, 54, 56, 57, 52, 53, 51, 49, 50, 53],
  [56, 56, 56, 49, 55, 56, 52, 49, 57, 55, 48, 48, 49, 50, 53, 50, 51, 50, 51, 51, 56, 57, 48, 53, 51, 51, 52, 52, 55, 50, 54, 53, 54, 50, 53],
  [52, 52, 52, 48, 56, 57, 50, 48, 57, 56, 53, 48, 48, 54, 50, 54, 49, 54, 49, 54, 57, 52, 53, 50, 54, 54, 55, 50, 51, 54, 51, 50, 56, 49, 50, 53],
  [50, 50, 50, 48, 52, 52, 54, 48, 52, 57, 50, 53, 48, 51, 49, 51, 48, 56, 48, 56, 52, 55, 50, 54, 51, 51, 51, 54, 49, 56, 49, 54, 52, 48, 54, 50, 53],
  [49, 49, 49, 48, 50, 50, 51, 48, 50, 52, 54, 50, 53, 49, 53, 54, 53, 52, 48, 52, 50, 51, 54, 51, 49, 54, 54, 56, 48, 57, 48, 56, 50, 48, 51, 49, 50, 53],
  [53, 53, 53, 49, 49, 49, 53, 49, 50, 51, 49, 50, 53, 55, 56, 50, 55, 48, 50, 49, 49, 56, 49, 53, 56, 51, 52, 48, 52, 53, 52, 49, 48, 49, 53, 54, 50, 53],
  [50, 55, 55, 53, 53, 53, 55, 53, 54, 49, 53, 54, 50, 56, 57, 49, 51, 53, 49, 48, 53, 57, 48, 55, 57, 49, 55, 48, 50, 50, 55, 48, 53, 48, 55, 56, 49, 50, 53],
  [49, 51, 56, 55, 55, 55, 56, 55, 56, 48, 55, 56, 49, 52, 52, 53, 54, 55, 53, 53, 50, 57, 53, 51, 57, 53, 56, 53, 49, 49, 51, 53, 50, 53, 51, 57, 48, 54, 50, 53],
  [54, 57, 51, 56, 56, 57, 51, 57, 48, 51, 57, 48, 55, 50, 50, 56, 51, 55, 55, 54, 52, 55, 54, 57, 55, 57, 50, 53, 53, 54, 55, 54, 50, 54, 57, 53, 51, 49, 50, 53],
  [51, 52, 54, 57, 52, 52, 54, 57, 53, 49, 57, 53, 51, 54, 49, 52, 49, 56, 56, 56, 50, 51, 56, 52, 56, 57, 54, 50, 55, 56, 51, 56, 49, 51, 52, 55, 54, 53, 54, 50, 53],
  [49, 55, 51, 52, 55, 50, 51, 52, 55, 53, 57, 55, 54, 56, 48, 55, 48, 57, 52, 52, 49, 49, 57, 50, 52, 52, 56, 49, 51, 57, 49, 57, 48, 54, 55, 51, 56, 50, 56, 49, 50, 53],
  [56, 54, 55, 51, 54, 49, 55, 51, 55, 57, 56, 56, 52, 48, 51, 53, 52, 55, 50, 48, 53, 57, 54, 50, 50, 52, 48, 54, 57, 53, 57, 53, 51, 51, 54, 57, 49, 52, 48, 54, 50, 53]]
def dlL : List Nat := [0, 1, 1, 1, 2, 2, 2, 3, 3, 3, 4, 4, 4, 4, 5, 5, 5, 6, 6, 6, 7, 7, 7, 7, 8, 8, 8, 9, 9, 9, 10, 10, 10, 10, 11, 11, 11, 12, 12, 12, 13, 13, 13, 13, 14, 14, 14, 15, 15, 15, 16, 16, 16, 16, 17, 17, 17, 18, 18, 18, 19]
def cutT (k : Nat) : List UInt8 := cutL.getD k []
def dlT (k : Nat) : Nat := dlL.getD k 0
def lv (l : List UInt8) : Nat := l.foldl (fun a c => 10 * a + (c.toNat - 48)) 0
def okT (k : Nat) : Bool := k == 0 || (lv (cutT k) == 5 ^ k && (cutT k).all (fun c => decide (48 ≤ c.toNat) && decide (c.toNat ≤ 57)) && (cutT k).getLast? == some 53 && dlT k + (cutT k).length == k + 1 && decide (10 ^ ((cutT k).length - 1) ≤ 5 ^ k) && decide (5 ^ k < 10 ^ (cutT k).length) && decide (1 ≤ (cutT k).length) && decide ((cutT k).length ≤ 45))
theorem okT_all : (List.range 61).all okT = true := by kernel_rfl
theorem okT_at (k : Nat) (h1 : 1 ≤ k) (h2 : k ≤ 60) : lv (cutT k) = 5 ^ k ∧ (∀ c ∈ cutT k, 48 ≤ c.toNat ∧ c.toNat ≤ 57) ∧ (cutT k).getLast? = some 53 ∧ dlT k + (cutT k).length = k + 1 ∧ 10 ^ ((cutT k).length - 1) ≤ 5 ^ k ∧ 5 ^ k < 10 ^ (cutT k).length ∧ 1 ≤ (cutT k).length ∧ (cutT k).length ≤ 45 := by
  have h := List.all_eq_true.1 okT_all k (List.mem_range.2 (by omega))
  unfold okT at h
  rw [Bool.or_eq_true, beq_iff_eq] at h
  rcases h with h | h
  · omega
  · simp only [Bool.and_eq_true, beq_iff_eq, decide_eq_true_eq, List.all_eq_true] at h
    obtain ⟨⟨⟨⟨⟨⟨⟨a, b⟩, c⟩, d⟩, e⟩, f⟩, g⟩, i⟩ := h
    exact ⟨a, b, c, d, e, f, g, i⟩
theorem lv_go : ∀ (l : List UInt8) (a : Nat), l.foldl (fun a c => 10 * a + (c.toNat - 48)) a = a * 10 ^ l.length + lv l
  | [], a => by simp [lv]
  | c :: t, a => by
    show t.foldl _ (10 * a + (c.toNat - 48)) = _
    rw [lv_go t, show lv (c :: t) = t.foldl (fun a c => 10 * a + (c.toNat - 48)) (10 * 0 + (c.toNat - 48)) from rfl, lv_go t (10 * 0 + (c.toNat - 48)), List.length_cons, Nat.pow_succ]
    rw [Nat.mul_zero, Nat.zero_add, Nat.add_mul, Nat.add_assoc, Nat.mul_comm 10 a, Nat.mul_assoc, Nat.mul_comm 10]
theorem lv_cons (c : UInt8) (t : List UInt8) : lv (c :: t) = (c.toNat - 48) * 10 ^ t.length + lv t := by
  rw [show lv (c :: t) = t.foldl (fun a c => 10 * a + (c.toNat - 48)) (10 * 0 + (c.toNat - 48)) from rfl, lv_go]
  simp
theorem pv_cons (f : Nat → Nat) : ∀ m, pv f (m + 1) = f 0 * 10 ^ m + pv (fun j => f (j + 1)) m
  | 0 => by simp [pv]
  | m + 1 => by
    show 10 * pv f (m + 1) + f (m + 1) = _ + (10 * pv (fun j => f (j + 1)) m + f (m + 1))
    rw [pv_cons f m, Nat.pow_succ, Nat.mul_add, ← Nat.add_assoc, Nat.mul_comm 10 (f 0 * 10 ^ m), Nat.mul_assoc]
theorem pv_lt (f : Nat → Nat) (h : ∀ i, f i ≤ 9) : ∀ n, pv f n < 10 ^ n
  | 0 => by simp [pv]
  | n + 1 => by have := pv_lt f h n; have := h n; rw [Nat.pow_succ]; show 10 * pv f n + f n < _; omega
theorem lv_lt : ∀ (l : List UInt8), (∀ c ∈ l, c.toNat ≤ 57) → lv l < 10 ^ l.length
  | [], _ => by simp [lv]
  | c :: t, h => by
    rw [lv_cons, List.length_cons, Nat.pow_succ]
    have h1 := lv_lt t (fun x hx => h x (List.mem_cons_of_mem _ hx))
    have h2 := h c List.mem_cons_self
    have : (c.toNat - 48) * 10 ^ t.length ≤ 9 * 10 ^ t.length := Nat.mul_le_mul_right _ (by omega)
    omega
theorem lv_pos : ∀ (l : List UInt8), l.getLast? = some 53 → 0 < lv l
  | [], h => by simp at h
  | [c], h => by simp at h; subst h; decide
  | c :: x :: t, h => by
    rw [lv_cons]
    have := lv_pos (x :: t) (by rw [← h]; rfl)
    omega
theorem ltp_iff (d : Nat → Nat) (nd : Nat) (hd : ∀ i, i < nd → 48 ≤ d i ∧ d i ≤ 57) : ∀ (l : List UInt8) (i : Nat), (∀ c ∈ l, 48 ≤ c.toNat ∧ c.toNat ≤ 57) → l = [] ∨ l.getLast? = some 53 →
    (ltp d nd l i = true ↔ pv (fun j => ext d nd (i + j)) l.length < lv l)
  | [], i, _, _ => by simp [ltp, lv, pv]
  | c :: t, i, hc, hl => by
    have hc0 := hc c List.mem_cons_self
    have hct : ∀ x ∈ t, 48 ≤ x.toNat ∧ x.toNat ≤ 57 := fun x hx => hc x (List.mem_cons_of_mem _ hx)
    have hlt : t = [] ∨ t.getLast? = some 53 := by
      cases t with
      | nil => exact .inl rfl
      | cons x t => rcases hl with h | h
                    · cases h
                    · exact .inr (by rw [← h]; rfl)
    have ih := ltp_iff d nd hd t (i + 1) hct hlt
    have hpos : 0 < lv (c :: t) := lv_pos _ (by rcases hl with h | h; cases h; exact h)
    rw [lv_cons] at hpos ⊢
    rw [List.length_cons, pv_cons]
    have e1 : (fun j => ext d nd (i + (j + 1))) = fun j => ext d nd (i + 1 + j) := by funext j; rw [show i + (j + 1) = i + 1 + j by omega]
    rw [e1]
    have hp := pv_lt (fun j => ext d nd (i + 1 + j)) (fun j => by unfold ext; split; have := hd (i + 1 + j) (by assumption); omega; omega) t.length
    have hq := lv_lt t (fun x hx => (hct x hx).2)
    obtain ⟨T, hT⟩ : ∃ T, T = 10 ^ t.length := ⟨_, rfl⟩
    rw [← hT] at hp hq hpos ⊢
    unfold ltp
    by_cases c1 : nd ≤ i
    · rw [if_pos c1]
      have z : ∀ j, ext d nd (i + j) = 0 := fun j => by unfold ext; exact if_neg (show ¬ i + j < nd by omega)
      have z2 : pv (fun j => ext d nd (i + 1 + j)) t.length = 0 := by
        have := pv_zero (fun j => ext d nd (i + 1 + j)) 0 (fun j _ => by have := z (1 + j); rw [← Nat.add_assoc] at this; exact this) t.length
        rw [Nat.zero_add] at this
        rw [this]; show 0 * _ = 0; omega
      rw [z2, z 0]
      simp only [true_iff]
      omega
    · rw [if_neg c1]
      have hdi := hd i (by omega)
      have ee : ext d nd (i + 0) = d i - 48 := by unfold ext; rw [Nat.add_zero, if_pos (by omega)]
      rw [ee]
      by_cases c2 : d i = c.toNat
      · rw [if_pos c2, ih, c2]; omega
      · rw [if_neg c2, decide_eq_true_iff]
        constructor
        · intro h
          have : (d i - 48 + 1) * T ≤ (c.toNat - 48) * T := Nat.mul_le_mul_right _ (by omega)
          rw [Nat.add_mul] at this
          omega
        · intro h
          apply Classical.byContradiction
          intro h2
          have : (c.toNat - 48 + 1) * T ≤ (d i - 48) * T := Nat.mul_le_mul_right _ (by omega)
          rw [Nat.add_mul] at this
          omega
theorem pv_split (f : Nat → Nat) (h : ∀ i, f i ≤ 9) (a : Nat) : ∀ b, pv f a * 10 ^ b ≤ pv f (a + b) ∧ pv f (a + b) < (pv f a + 1) * 10 ^ b
  | 0 => by simp
  | b + 1 => by
    obtain ⟨h1, h2⟩ := pv_split f h a b
    have h3 := h (a + b)
    rw [Nat.pow_succ, ← Nat.mul_assoc, ← Nat.mul_assoc]
    show _ ≤ 10 * pv f (a + b) + f (a + b) ∧ 10 * pv f (a + b) + f (a + b) < _
    omega
theorem pow5 (k : Nat) : (10 : Nat) ^ k = 2 ^ k * 5 ^ k := by rw [← Nat.mul_pow]
theorem left_size (d : Nat → Nat) (nd k : Nat) (hnd : 1 ≤ nd) (h1 : 1 ≤ k) (h2 : k ≤ 60) (hd : ∀ i, i < nd → 48 ≤ d i ∧ d i ≤ 57) (h0 : d 0 ≠ 48) (dl : Nat) (hdl : dl = if ltp d nd (cutT k) 0 then dlT k - 1 else dlT k) :
    pv (dgt d) nd * 2 ^ k < 10 ^ (nd + dl) ∧ 10 ^ (nd + dl) ≤ 10 * (pv (dgt d) nd * 2 ^ k) ∧ dl ≤ 60 ∧ 1 ≤ dlT k := by
  obtain ⟨t1, t2, t3, t4, t5, t6, t7, t8⟩ := okT_at k h1 h2
  have hi := ltp_iff d nd hd (cutT k) 0 t2 (.inr t3)
  have e0 : (fun j => ext d nd (0 + j)) = ext d nd := by funext j; rw [Nat.zero_add]
  rw [e0, t1] at hi
  obtain ⟨L, hL⟩ : ∃ L, L = (cutT k).length := ⟨_, rfl⟩
  rw [← hL] at t4 t5 t6 t7 t8 hi
  have hx9 : ∀ i, ext d nd i ≤ 9 := fun i => by unfold ext; split; have := hd i (by assumption); omega; omega
  have hsp := pv_split (ext d nd) hx9 L nd
  rw [Nat.add_comm L nd, ext_pv] at hsp
  have hV1 : pv (dgt d) nd < 10 ^ nd := by
    have := pv_lt (ext d nd) hx9 nd
    have e := ext_pv d nd 0
    rw [Nat.add_zero, Nat.pow_zero, Nat.mul_one] at e
    rw [← e]; exact this
  have hV2 : 10 ^ (nd - 1) ≤ pv (dgt d) nd := by
    obtain ⟨m, rfl⟩ : ∃ m, nd = m + 1 := ⟨nd - 1, by omega⟩
    rw [pv_cons, Nat.add_sub_cancel]
    have : 1 ≤ dgt d 0 := by unfold dgt; have := hd 0 (by omega); omega
    have := Nat.mul_le_mul_right (10 ^ m) this
    omega
  obtain ⟨V, hV⟩ : ∃ V, V = pv (dgt d) nd := ⟨_, rfl⟩
  obtain ⟨pre, hpre⟩ : ∃ p, p = pv (ext d nd) L := ⟨_, rfl⟩
  rw [← hV] at hsp hV1 hV2
  rw [← hpre] at hsp hi
  rw [← hV]
  clear hV hpre e0 hx9 t1 t2 t3
  have hk := pow5 k
  have h5 : 0 < 5 ^ k := Nat.pow_pos (by omega)
  have hd1 : 1 ≤ dlT k := by
    apply Classical.byContradiction
    intro c
    have hLk : L = k + 1 := by omega
    rw [hLk, Nat.add_sub_cancel] at t5
    rw [hk] at t5
    have : 2 * 5 ^ k ≤ 2 ^ k * 5 ^ k := Nat.mul_le_mul_right _ (Nat.pow_le_pow_right (n := 2) (by omega) h1)
    omega
  have hbnd : dl ≤ 60 ∧ (ltp d nd (cutT k) 0 = true → dl + L = k) ∧ (ltp d nd (cutT k) 0 = false → dl + L = k + 1) := by
    rw [hdl]
    cases ltp d nd (cutT k) 0
    · rw [if_neg (by decide)]; exact ⟨by omega, fun h => (by cases h), fun _ => by omega⟩
    · rw [if_pos rfl]; exact ⟨by omega, fun _ => by omega, fun h => (by cases h)⟩
  obtain ⟨hb0, hb1, hb2⟩ := hbnd
  have hT : V * 2 ^ k * 5 ^ k = V * 10 ^ k := by rw [hk, Nat.mul_assoc]
  obtain ⟨T, hTe⟩ : ∃ T, T = V * 2 ^ k := ⟨_, rfl⟩
  rw [← hTe] at hT ⊢
  refine ⟨?_, ?_, hb0, hd1⟩
  · cases hq : ltp d nd (cutT k) 0
    ·
      have e := hb2 hq
      apply Nat.lt_of_mul_lt_mul_right (a := 10 ^ (L - 1))
      rw [← Nat.pow_add, show nd + dl + (L - 1) = nd + k by omega, Nat.pow_add]
      exact Nat.lt_of_le_of_lt (Nat.mul_le_mul_left T t5) (by rw [hT]; exact Nat.mul_lt_mul_of_pos_right hV1 (Nat.pow_pos (by omega)))
    · have e := hb1 hq
      have hlt := hi.1 hq
      have a1 : V * 10 ^ L < 5 ^ k * 10 ^ nd := Nat.lt_of_lt_of_le hsp.2 (Nat.mul_le_mul_right _ hlt)
      apply Nat.lt_of_mul_lt_mul_right (a := 5 ^ k * 10 ^ L)
      have : T * (5 ^ k * 10 ^ L) = (V * 10 ^ L) * 10 ^ k := by rw [← Nat.mul_assoc, hT]; exact Nat.mul_right_comm _ _ _
      rw [this]
      refine Nat.lt_of_lt_of_le (Nat.mul_lt_mul_of_pos_right a1 (Nat.pow_pos (by omega))) (Nat.le_of_eq ?_)
      rw [show (10 : Nat) ^ k = 10 ^ dl * 10 ^ L by rw [← Nat.pow_add, e], Nat.pow_add]
      simp only [Nat.mul_assoc, Nat.mul_comm, Nat.mul_left_comm]
  · cases hq : ltp d nd (cutT k) 0
    · have e := hb2 hq
      have hge : 5 ^ k ≤ pre := by
        apply Nat.le_of_not_lt
        intro h
        rw [hi.2 h] at hq
        cases hq
      have a1 : 5 ^ k * 10 ^ nd ≤ V * 10 ^ L := Nat.le_trans (Nat.mul_le_mul_right _ hge) hsp.1
      apply Nat.le_of_mul_le_mul_right _ (show 0 < 5 ^ k * 10 ^ L from Nat.mul_pos h5 (Nat.pow_pos (by omega)))
      have : 10 * T * (5 ^ k * 10 ^ L) = (V * 10 ^ L) * 10 ^ (k + 1) := by
        rw [Nat.pow_succ, ← Nat.mul_assoc, Nat.mul_assoc 10, hT]
        simp only [Nat.mul_assoc, Nat.mul_comm, Nat.mul_left_comm]
      rw [this]
      refine Nat.le_trans (Nat.le_of_eq ?_) (Nat.mul_le_mul_right (10 ^ (k + 1)) a1)
      rw [← e, Nat.pow_add, Nat.pow_add]
      simp only [Nat.mul_assoc, Nat.mul_comm, Nat.mul_left_comm]
    · have e := hb1 hq
      apply Nat.le_of_mul_le_mul_right _ (show 0 < 10 ^ L from Nat.pow_pos (by omega))
      rw [← Nat.pow_add, show nd + dl + L = (nd - 1) + k + 1 by omega, Nat.pow_succ, Nat.mul_comm _ 10, Nat.mul_assoc]
      refine Nat.mul_le_mul_left 10 (Nat.le_trans ?_ (Nat.mul_le_mul_left T (Nat.le_of_lt t6)))
      rw [hT, Nat.pow_add]
      exact Nat.mul_le_mul_right _ hV2
def sv (f : Nat → Nat) (a m : Nat) : Nat := pv (fun j => dgt f (a + j)) m
theorem sv_cons (f : Nat → Nat) (a m : Nat) : sv f a (m + 1) = dgt f a * 10 ^ m + sv f (a + 1) m := by
  unfold sv
  rw [pv_cons]
  congr 2
  funext j
  rw [show a + (j + 1) = a + 1 + j by omega]
theorem sv_congr {f h : Nat → Nat} (a m : Nat) (H : ∀ i, a ≤ i → f i = h i) : sv f a m = sv h a m :=
  pv_congr m (fun i _ => by unfold dgt; rw [H _ (by omega)])
structure LInv (P E : Nat) (d d' : Nat → Nat) (X m n : Nat) : Prop where
  eq : X * P = n * 10 ^ m + sv d' (E - m) m
  lt : n < P
  dig : ∀ i, E - m ≤ i → i < E → 48 ≤ d' i ∧ d' i ≤ 57
  rest : ∀ i, i < E - m → d' i = d i
theorem LInv.step {P E : Nat} {d d' : Nat → Nat} {X m n c : Nat} (h : LInv P E d d' X m n) (hc : c ≤ 9) (hm : m + 1 ≤ E) :
    LInv P E d (up d' (E - (m + 1)) ((n + c * P) % 10 + 48)) (c * 10 ^ m + X) (m + 1) ((n + c * P) / 10) := by
  have hlt := h.lt
  have hcP : c * P ≤ 9 * P := Nat.mul_le_mul_right _ hc
  refine ⟨?_, by omega, ?_, ?_⟩
  · rw [Nat.add_mul, h.eq, sv_cons, show E - (m + 1) + 1 = E - m by omega]
    rw [sv_congr (f := up d' (E - (m + 1)) ((n + c * P) % 10 + 48)) (h := d') (E - m) m (fun i hi => up_ne _ _ (by omega))]
    unfold dgt
    rw [up_at, Nat.add_sub_cancel, Nat.pow_succ, ← Nat.add_assoc, ← Nat.add_assoc]
    congr 1
    have e : n + c * P = 10 * ((n + c * P) / 10) + (n + c * P) % 10 := (Nat.div_add_mod _ _).symm
    have e2 := congrArg (· * 10 ^ m) e
    simp only [Nat.add_mul] at e2
    rw [Nat.mul_right_comm c, Nat.add_comm (c * P * 10 ^ m), e2]
    congr 1
    rw [Nat.mul_comm 10, Nat.mul_assoc, Nat.mul_comm 10]
  · intro i hi1 hi2
    by_cases e : i = E - (m + 1)
    · rw [e, up_at]; omega
    · rw [up_ne _ _ e]; exact h.dig i (by omega) hi2
  · intro i hi
    rw [up_ne _ _ (by omega)]; exact h.rest i (by omega)
theorem sv_lt (f : Nat → Nat) (a m : Nat) (h : ∀ i, a ≤ i → i < a + m → f i ≤ 57) : sv f a m < 10 ^ m := by
  unfold sv
  have e : pv (fun j => dgt f (a + j)) m = pv (fun j => if j < m then dgt f (a + j) else 0) m := pv_congr m (fun i hi => by rw [if_pos hi])
  rw [e]
  refine pv_lt _ (fun i => ?_) m
  split
  · have := h (a + i) (by omega) (by omega); unfold dgt; omega
  · omega
theorem LInv.stop {P E : Nat} {d d' : Nat → Nat} {X m : Nat} (h : LInv P E d d' X m 0) (hm : m ≤ E) (hlo : 10 ^ E ≤ 10 * (X * P)) : m = E ∧ X * P = pv (dgt d') E := by
  have e := h.eq
  rw [Nat.zero_mul, Nat.zero_add] at e
  have hl := sv_lt d' (E - m) m (fun i h1 h2 => (h.dig i h1 (by omega)).2)
  have : m = E := by
    apply Classical.byContradiction
    intro c
    have : 10 ^ (m + 1) ≤ 10 ^ E := Nat.pow_le_pow_right (n := 10) (by omega) (by omega)
    rw [Nat.pow_succ] at this
    omega
  refine ⟨this, ?_⟩
  rw [e, this, Nat.sub_self]
  exact pv_congr E (fun i _ => by rw [Nat.zero_add])
theorem LInv.room {P E : Nat} {d d' : Nat → Nat} {X m n : Nat} (h : LInv P E d d' X m n) (hn : 0 < n) (hhi : X * P < 10 ^ E) : m + 1 ≤ E := by
  apply Classical.byContradiction
  intro c
  have e := h.eq
  have h1 : 10 ^ E ≤ 10 ^ m := Nat.pow_le_pow_right (n := 10) (by omega) (by omega)
  have h2 : 1 * 10 ^ m ≤ n * 10 ^ m := Nat.mul_le_mul_right _ hn
  omega
theorem LInv.value {s : Dec} {nd dl k : Nat} {d' : Nat → Nat} (h : LInv (2 ^ k) (nd + dl) s.d d' (pv (dgt s.d) nd) (nd + dl) 0) (hlo : 10 ^ (nd + dl) ≤ 10 * (pv (dgt s.d) nd * 2 ^ k)) (hnd : 1 ≤ nd) (hv2 : nd + dl ≤ 800) :
    let t : Dec := ⟨d', ((nd + dl : Nat) : Int), s.dp + (dl : Nat), s.neg, s.tr⟩
    Good t.trim (trimN d' (nd + dl)) ∧ t.trim.neg = s.neg ∧ t.trim.tr = s.tr ∧ t.trim.dp = s.dp + (dl : Nat) ∧ ∀ A B, s.is nd A B → t.trim.is (trimN d' (nd + dl)) (A * 2 ^ k) B := by
  intro t
  obtain ⟨_, hT⟩ := h.stop (Nat.le_refl _) hlo
  have hdig : ∀ i, i < nd + dl → 48 ≤ d' i ∧ d' i ≤ 57 := fun i hi => h.dig i (by omega) hi
  have hlead : d' 0 ≠ 48 := by
    intro c
    obtain ⟨m, hm⟩ : ∃ m, nd + dl = m + 1 := ⟨nd + dl - 1, by omega⟩
    rw [hT, hm, pv_cons, show dgt d' 0 = 0 by unfold dgt; omega, Nat.zero_mul, Nat.zero_add, Nat.pow_succ] at hlo
    have := sv_lt d' 1 m (fun i h1 h2 => (hdig i (by omega)).2)
    unfold sv at this
    have e : (fun j => dgt d' (1 + j)) = fun j => dgt d' (j + 1) := by funext j; rw [Nat.add_comm]
    rw [e] at this
    omega
  obtain ⟨g1, g2, g3, g4, g5⟩ := Good.trim (s := t) (v := nd + dl) rfl (by omega) hv2 hdig hlead
  refine ⟨g1, g3, g4, g2, fun A B hs => g5 _ _ ?_⟩
  unfold Dec.is at hs ⊢
  show IsV (pv (dgt d') (nd + dl)) (s.dp + (dl : Nat) - ((nd + dl : Nat) : Int)) (A * 2 ^ k) B
  rw [← hT, show s.dp + ((dl : Nat) : Int) - ((nd + dl : Nat) : Int) = s.dp - nd by omega]
  exact hs.twice
end Go.Proofs.YtapinbbflfkglaaGreatDoor
namespace Go.Proofs.YtapinbbflfkglaaGreatDoor
open Go.RowKit
set_option maxRecDepth 100000
attribute [local go_sem] setCell_drewN
theorem add_block (a : Addr) (n : Nat) : (a.add n).block = a.block := by unfold Addr.add; split <;> rfl
theorem arr_len : Tryz.prog.arrayLen 120 = 800 := by kernel_rfl
theorem arr_slice (w : World) (g nd : Nat) (h : nd ≤ 800) : (Instr.sliceAt 120 (.pointer (some ⟨g, 0, none⟩)) (some (.int .i64 0)) (some (.int .i64 ((nd : Nat) : Int))) none).run Tryz.prog w = .ok (.slice (some ⟨g, 0, none⟩) nd 800) w := by
  rw [run_sliceAt_array_lh (P := Tryz.prog) (w := w) 120 ⟨g, 0, none⟩ (by kernel_rfl) .i64 .i64 0 ((nd : Nat) : Int) (by omega) (by omega) (by rw [arr_len]; omega), arr_len]
  rw [show (sizeOf (Tryz.prog.elem 120)).run Tryz.prog w = .ok 1 w by rfl]
  unfold slicedAt
  simp [Result.andThen, Addr.add]
structure CutTab (w : World) (gp : Addr) : Prop where
  row : w.cell? ⟨12, 0, none⟩ = some (.slice (some gp) 61 61)
  dl : ∀ k, k ≤ 60 → w.cell? (gp.add (k * 2)) = some (.int .i64 (dlT k : Nat))
  cut : ∀ k, k ≤ 60 → w.cell? ((gp.add (k * 2)).add 1) = some (.string ⟨(cutT k).toArray⟩)
set_option maxHeartbeats 6000000 in
theorem left_any (w : World) (g : Nat) (gp : Addr) (s : Dec) (nd k : Nat) (ht : CutTab w gp) (hne : gp.block ≠ g) (hne2 : 12 ≠ g) (hnd : s.nd = (nd : Nat)) (h1 : 1 ≤ nd) (hk1 : 1 ≤ k) (hk2 : k ≤ 60) (hroom : nd + dlT k ≤ 800) (hg : g < w.heap.size) (hdp : -1000000 ≤ s.dp ∧ s.dp ≤ 1000000) (hdig : ∀ i, i < nd → 48 ≤ s.d i ∧ s.d i ≤ 57) (hlead : s.d 0 ≠ 48) :
    Calls Tryz.prog 145 #[.pointer (some ⟨g, 0, none⟩), .int .u64 (k : Nat)] (putD w g s) fun e w' => e = .returned (.tuple #[]) ∧ ∃ (N dl : Nat) (d' : Nat → Nat), w' = (putD w g (Dec.trim ⟨d', ((nd + dl : Nat) : Int), s.dp + (dl : Nat), s.neg, s.tr⟩)).drewN N ∧ LInv (2 ^ k) (nd + dl) s.d d' (pv (dgt s.d) nd) (nd + dl) 0 ∧ 10 ^ (nd + dl) ≤ 10 * (pv (dgt s.d) nd * 2 ^ k) ∧ dl ≤ dlT k ∧ dl ≤ 60 := by
  obtain ⟨sd, snd, sdp, sneg, str⟩ := s
  dsimp only at hnd hdig hlead hdp
  obtain ⟨hdp1, hdp2⟩ := hdp
  subst hnd
  have hLS := left_size sd nd k h1 hk1 hk2 hdig hlead _ rfl
  obtain ⟨D, hD⟩ : ∃ D, D = dlT k := ⟨_, rfl⟩
  obtain ⟨b, hb⟩ : ∃ b, b = ltp sd nd (cutT k) 0 := ⟨_, rfl⟩
  rw [← hb, ← hD] at hLS
  obtain ⟨dl, hdl⟩ : ∃ dl, dl = if b = true then D - 1 else D := ⟨_, rfl⟩
  rw [← hdl] at hLS
  obtain ⟨hL1, hL2, hL3, hL4⟩ := hLS
  have hdlD : dl ≤ D := by rw [hdl]; split <;> omega
  obtain ⟨_, _, _, _, _, _, _, hcl⟩ := okT_at k hk1 hk2
  have hD60 : D ≤ 61 := by rw [hdl] at hL3; split at hL3 <;> omega
  rw [← hD] at hroom
  obtain ⟨P, hP⟩ : ∃ P, P = 2 ^ k := ⟨_, rfl⟩
  have hP1 : 2 ≤ P := by rw [hP]; exact Nat.pow_le_pow_right (n := 2) (by omega) hk1
  have hP2 : P ≤ 1152921504606846976 := by rw [hP]; exact Nat.pow_le_pow_right (n := 2) (by omega) hk2
  have hPz : ((2 : Int) ^ k) = ((P : Nat) : Int) := by rw [hP, Int.natCast_pow]; rfl
  rw [← hP] at hL1 hL2
  obtain ⟨E, hE⟩ : ∃ E, E = nd + dl := ⟨_, rfl⟩
  rw [← hE] at hL1 hL2
  have f0 := cell_putD_nd w g ⟨sd, (nd : Nat), sdp, sneg, str⟩ hg
  have f2 := cell_putD_dp w g ⟨sd, (nd : Nat), sdp, sneg, str⟩ hg
  have fz := fun i => frozen_putD w g ⟨sd, (nd : Nat), sdp, sneg, str⟩ i hg
  have fd := fun i hi => cell_putD_dig w g ⟨sd, (nd : Nat), sdp, sneg, str⟩ i hg hi
  have t0 := (cell_putD_ne w g ⟨sd, (nd : Nat), sdp, sneg, str⟩ ⟨12, 0, none⟩ hne2).trans ht.row
  have t1 := (cell_putD_ne w g ⟨sd, (nd : Nat), sdp, sneg, str⟩ (gp.add (k * 2)) (by rw [add_block]; exact hne)).trans (ht.dl k hk2)
  have t2 := (cell_putD_ne w g ⟨sd, (nd : Nat), sdp, sneg, str⟩ ((gp.add (k * 2)).add 1) (by rw [add_block, add_block]; exact hne)).trans (ht.cut k hk2)
  have HP := Lib.hid (fun n => plt_walk ((putD w g ⟨sd, (nd : Nat), sdp, sneg, str⟩).drewN n) g nd sd (cutT k) (by omega) (by omega) (fun i hi => fd i (by omega)))
  obtain ⟨W, hW⟩ : ∃ W, W = putD w g ⟨sd, (nd : Nat), sdp, sneg, str⟩ := ⟨_, rfl⟩
  obtain ⟨S, hS⟩ : ∃ S : ByteArray, S = ⟨(cutT k).toArray⟩ := ⟨_, rfl⟩
  rw [← hW] at f0 f2 t0 t1 t2 HP ⊢
  rw [← hS] at t2 HP
  rw [← hD] at t1
  rw [← hb] at HP
  simp only [← hW] at fz
  replace hW := Lib.hid hW
  replace hb := Lib.hid hb
  replace hdl := Lib.hid hdl
  replace hE := Lib.hid hE
  replace hP := Lib.hid hP
  replace hPz := Lib.hid hPz
  replace hD := Lib.hid hD
  replace hL1 := Lib.hid hL1
  replace hL2 := Lib.hid hL2
  replace hdig := Lib.hid hdig
  replace hlead := Lib.hid hlead
  dsimp only at f0 f2
  clear hS fd hcl
  have hk61 : ((k : Nat) : Int) < 61 := by omega
  have hk61' : k < 61 := by omega
  have t3 : W.cell? ⟨(gp.add (k * 2)).block, (gp.add (k * 2)).off + 1, none⟩ = some (.string S) := t2
  clear t2
  have ks := fun w => arr_slice w g nd (by omega)
  go_enter Tryz.func145, Tryz.ntmps145
  go_wp2_with fail
  go_quiet ((go_at_call 166; exact Calls.quiet_of (HP.out _)))
  go_upto_if 30 with fail
  go_cut [4] from 12 to 32 (fun s4 wx => s4 = .int .i64 (dl : Nat) ∧ wx = W.drewN nq)
  case first =>
    cases b
    · have hdd := hdl.out
      rw [if_neg (by decide)] at hdd
      subst hdd
      go_wp2_with fail
      go_meet
      case rel => exact ⟨rfl, rfl⟩
    · have hdd := hdl.out
      rw [if_pos rfl] at hdd
      have hdd2 : ((D : Nat) : Int) - 1 = ((dl : Nat) : Int) := by omega
      replace hdd := Lib.hid hdd
      go_wp2_with fail
      go_meet
      case rel => exact ⟨by first | rfl | rw [hdd2], rfl⟩
  case rest =>
    obtain ⟨rfl, rfl⟩ := hcut
    clear HP t0 t1 t3 ks
    go_wp2_with fail
    clear fz f0 f2
    rw [hW.out]
    clear hW
    go_loopg [5, 6, 7, 8, 9] nd (fun gk s5 s6 s7 s8 s9 wx => ∃ (m n : Nat) (d' : Nat → Nat), gk + m = nd ∧ s5 = .int .i64 ((gk : Nat) - 1 : Int) ∧ s6 = .int .i64 ((E - m : Nat) : Int) ∧ s7 = .int .u64 (n : Nat) ∧ wx = (putD w g ⟨d', (nd : Nat), sdp, sneg, str⟩).drewN nq ∧ Hid (LInv P E sd d' (sv sd (nd - m) m) m n))
    case atStart =>
      refine ⟨0, 0, sd, rfl, rfl, by rw [hE.out]; rfl, rfl, rfl, Lib.hid ⟨by simp [sv, pv], by omega, fun i h1 h2 => by omega, fun _ _ => rfl⟩⟩
    case round =>
      obtain ⟨m, n, d', hgk, rfl, rfl, rfl, rfl, hR⟩ := hrel
      have f0 := cell_putD_nd w g ⟨d', (nd : Nat), sdp, sneg, str⟩ hg
      have f2 := cell_putD_dp w g ⟨d', (nd : Nat), sdp, sneg, str⟩ hg
      have fz := fun i => frozen_putD w g ⟨d', (nd : Nat), sdp, sneg, str⟩ i hg
      have fd := Lib.hid (fun i hi => cell_putD_dig w g ⟨d', (nd : Nat), sdp, sneg, str⟩ i hg hi)
      obtain ⟨W, hW⟩ : ∃ W, W = putD w g ⟨d', (nd : Nat), sdp, sneg, str⟩ := ⟨_, rfl⟩
      rw [← hW] at f0 f2
      simp only [← hW] at fz fd
      rw [← hW]
      replace hW := Lib.hid hW
      dsimp only at f0 f2 fd
      cases gk with
      | succ r =>
        have e1 : (((r + 1 : Nat) : Int) - 1) = ((r : Nat) : Int) := by omega
        have hr8 : r < 800 := by have := hE.out; omega
        obtain ⟨B, hB⟩ : ∃ B, B = sd r := ⟨_, rfl⟩
        have f3 := fd.out r hr8
        rw [hR.out.rest r (by have := hE.out; omega), ← hB] at f3
        have hB1 : 48 ≤ B ∧ B ≤ 57 := by rw [hB]; exact hdig.out r (by omega)
        obtain ⟨hB1, hB2⟩ := hB1
        have hst := hR.out.step (c := B - 48) (by omega) (by have := hE.out; omega)
        obtain ⟨C, hC⟩ : ∃ C, C = (B - 48) * P := ⟨_, rfl⟩
        have hC9 : C ≤ 9 * P := by rw [hC]; exact Nat.mul_le_mul_right _ (by omega)
        rw [← hC] at hst
        obtain ⟨v, hv⟩ : ∃ v, v = E - (m + 1) := ⟨_, rfl⟩
        have hv2 : ((E - m : Nat) : Int) = ((v + 1 : Nat) : Int) := by have := hE.out; omega
        have hv8 : v < 800 := by have := hE.out; omega
        rw [← hv] at hst
        rw [hv2]
        have f4 := fd.out v hv8
        have hCz : (((B : Nat) : Int) - 48) * 2 ^ k = ((C : Nat) : Int) := by
          rw [hPz.out, hC, Int.natCast_mul, Int.natCast_sub hB1]; rfl
        replace hst := Lib.hid hst
        replace hC := Lib.hid hC
        replace hv := Lib.hid hv
        replace hB := Lib.hid hB
        have hlt := hR.out.lt
        go_wp2_with fail
        go_roundg r
        case measure => omega
        case rel =>
          refine ⟨m + 1, (n + C) / 10, up d' v ((n + C) % 10 + 48), by omega, rfl, by rw [hv.out], by rw [show ((n : Int) + (C : Int)) / 10 = (((n + C) / 10 : Nat) : Int) by omega], ?_, Lib.hid ?_⟩
          · rw [hW.out, set_putD_dig w g _ v ((n + C) % 10 + 48) _ hv8 (by omega)]
          · have hX : sv sd (nd - (m + 1)) (m + 1) = (B - 48) * 10 ^ m + sv sd (nd - m) m := by
              rw [sv_cons, show nd - (m + 1) = r by omega, show r + 1 = nd - m by omega]
              unfold dgt
              rw [hB.out]
            rw [hX]
            exact hst.out
      | zero =>
        have hm : nd = m := by omega
        subst hm
        have hX : sv sd (nd - nd) nd = pv (dgt sd) nd := by
          rw [Nat.sub_self]
          exact pv_congr nd (fun i _ => by rw [Nat.zero_add])
        have hR' := hR.out
        rw [hX] at hR'
        obtain ⟨V, hV⟩ : ∃ V, V = pv (dgt sd) nd := ⟨_, rfl⟩
        rw [← hV] at hR' hL1 hL2
        have hR2 := Lib.hid hR'
        clear hR hR' hX f0 f2 fz fd
        replace hV := Lib.hid hV
        go_wp2_with fail
        rw [hW.out]
        clear hW
        go_loopg [6, 7, 10, 11] (E - nd) (fun gk s6 s7 s10 s11 wx => ∃ (m n : Nat) (d' : Nat → Nat), gk = E - m ∧ m ≤ E ∧ s6 = .int .i64 ((E - m : Nat) : Int) ∧ s7 = .int .u64 (n : Nat) ∧ wx = (putD w g ⟨d', (nd : Nat), sdp, sneg, str⟩).drewN nq ∧ Hid (LInv P E sd d' V m n))
        case atStart => exact ⟨nd, n, d', rfl, by have := hE.out; omega, rfl, rfl, rfl, hR2⟩
        case round =>
          clear hR2
          obtain ⟨m2, n, d', hgk, hm2, rfl, rfl, rfl, hR⟩ := hrel
          have f0 := cell_putD_nd w g ⟨d', (nd : Nat), sdp, sneg, str⟩ hg
          have f2 := cell_putD_dp w g ⟨d', (nd : Nat), sdp, sneg, str⟩ hg
          have fz := fun i => frozen_putD w g ⟨d', (nd : Nat), sdp, sneg, str⟩ i hg
          have fd := Lib.hid (fun i hi => cell_putD_dig w g ⟨d', (nd : Nat), sdp, sneg, str⟩ i hg hi)
          obtain ⟨W, hW⟩ : ∃ W, W = putD w g ⟨d', (nd : Nat), sdp, sneg, str⟩ := ⟨_, rfl⟩
          rw [← hW] at f0 f2
          simp only [← hW] at fz fd
          rw [← hW]
          replace hW := Lib.hid hW
          dsimp only at f0 f2 fd
          by_cases c : 0 < n
          · have hroom2 := hR.out.room c hL1.out
            have hst := hR.out.step (c := 0) (by omega) hroom2
            rw [Nat.zero_mul, Nat.zero_mul, Nat.zero_add, Nat.add_zero] at hst
            obtain ⟨v, hv⟩ : ∃ v, v = E - (m2 + 1) := ⟨_, rfl⟩
            have hv2 : ((E - m2 : Nat) : Int) = ((v + 1 : Nat) : Int) := by omega
            have hv8 : v < 800 := by have := hE.out; omega
            rw [← hv] at hst
            rw [hv2]
            have f4 := fd.out v hv8
            replace hst := Lib.hid hst
            replace hv := Lib.hid hv
            have hlt := hR.out.lt
            go_wp2_with fail
            go_roundg (E - (m2 + 1))
            case measure => omega
            case rel =>
              refine ⟨m2 + 1, n / 10, up d' v (n % 10 + 48), rfl, hroom2, by rw [hv.out], by rw [show (n : Int) / 10 = ((n / 10 : Nat) : Int) by omega], ?_, hst⟩
              rw [hW.out, set_putD_dig w g _ v (n % 10 + 48) _ hv8 (by omega)]
          · have hn0 : n = 0 := by omega
            subst hn0
            have hR' := hR.out
            rw [hV.out] at hR'
            obtain ⟨hmE, hT⟩ := hR.out.stop hm2 hL2.out
            subst hmE
            have hE2 : ((nd : Nat) : Int) + ((dl : Nat) : Int) = ((m2 : Nat) : Int) := by have := hE.out; omega
            have hm8 : m2 ≤ 800 := by have := hE.out; omega
            have hfin : ∀ w', (∃ N, w' = (putD (w.drewN nq) g (Dec.trim ⟨d', ((m2 : Nat) : Int), sdp + (dl : Nat), sneg, str⟩)).drewN N) → ∃ (N dl : Nat) (d' : Nat → Nat), w' = (putD w g (Dec.trim ⟨d', ((nd + dl : Nat) : Int), sdp + (dl : Nat), sneg, str⟩)).drewN N ∧ LInv (2 ^ k) (nd + dl) sd d' (pv (dgt sd) nd) (nd + dl) 0 ∧ 10 ^ (nd + dl) ≤ 10 * (pv (dgt sd) nd * 2 ^ k) ∧ dl ≤ dlT k ∧ dl ≤ 60 := by
              rintro w' ⟨N, rfl⟩
              refine ⟨nq + N, dl, d', ?_, ?_, ?_, by rw [← hD.out]; exact hdlD, hL3⟩
              · rw [← hE.out, ← drewN_putD, World.drewN_drewN]
              · rw [← hE.out, ← hP.out]; exact hR'
              · have := hL2.out; rw [hV.out, hE.out, hP.out] at this; exact this
            replace hfin := Lib.hid hfin
            replace hT := Lib.hid hT
            have f9 : W.cell? ⟨g, 800, none⟩ = some (.int .i64 ((nd : Nat) : Int)) := f0
            clear hR hR' hgk
            by_cases c8 : m2 < 800
            · go_wp2_with fail
              rw [hW.out, set_putD_nd, set_putD_dp, drewN_putD]
              refine (trim_any (w.drewN nq) g ⟨d', ((m2 : Nat) : Int), sdp + (dl : Nat), sneg, str⟩ m2 rfl hm8 hg).mono ?_
              rintro e w' ⟨rfl, hw'⟩
              replace hw' := Lib.hid hw'
              go_wp2
              go_end0
              exact ⟨by rfl, hfin.out _ hw'.out⟩
            · have hm9 : m2 = 800 := by omega
              clear c8
              subst hm9
              go_wp2_with fail
              rw [hW.out, set_putD_nd, set_putD_nd, set_putD_dp, drewN_putD]
              refine (trim_any (w.drewN nq) g ⟨d', ((800 : Nat) : Int), sdp + (dl : Nat), sneg, str⟩ 800 rfl hm8 hg).mono ?_
              rintro e w' ⟨rfl, hw'⟩
              replace hw' := Lib.hid hw'
              go_wp2
              go_end0
              exact ⟨by rfl, hfin.out _ hw'.out⟩
end Go.Proofs.YtapinbbflfkglaaGreatDoor
namespace Go.Proofs.YtapinbbflfkglaaGreatDoor
open Go.RowKit
set_option maxRecDepth 100000
structure Okd (s : Dec) (n : Nat) : Prop where
  nd : s.nd = (n : Nat)
  pos : 1 ≤ n
  le : n ≤ 800
  dig : ∀ i, i < n → 48 ≤ s.d i ∧ s.d i ≤ 57
  lead : s.d 0 ≠ 48
theorem Good.ok {s : Dec} {n : Nat} (h : Good s n) : Okd s n := ⟨h.nd, h.pos, h.le, h.dig, h.lead⟩
theorem pv_hi (s : Dec) (n : Nat) (h : Okd s n) : pv (dgt s.d) n < 10 ^ n := by
  have e := ext_pv s.d n 0
  rw [Nat.add_zero, Nat.pow_zero, Nat.mul_one] at e
  rw [← e]
  exact pv_lt _ (fun i => by unfold ext; split; (have := h.dig i (by assumption); omega); omega) n
theorem pv_lo (s : Dec) (n : Nat) (h : Okd s n) : 10 ^ n ≤ 10 * pv (dgt s.d) n := by
  obtain ⟨m, rfl⟩ : ∃ m, n = m + 1 := ⟨n - 1, by have := h.pos; omega⟩
  rw [pv_cons, Nat.pow_succ]
  have h1 : 1 ≤ dgt s.d 0 := by unfold dgt; have := h.dig 0 (by omega); have := h.lead; omega
  have := Nat.mul_le_mul_right (10 ^ m) h1
  omega
theorem Okd.hi {s : Dec} {n A B : Nat} (h : Okd s n) (hs : s.is n A B) (hB : 0 < B) (p q : Nat) (hd : (p : Int) - q = s.dp) : A * 10 ^ q < B * 10 ^ p := by
  have e := hs p (q + n) (by omega)
  have h1 := pv_hi s n h
  rw [Nat.pow_add, ← Nat.mul_assoc] at e
  apply Nat.lt_of_mul_lt_mul_right (a := 10 ^ n)
  rw [← e]
  have hp : 0 < 10 ^ p * B := Nat.mul_pos (Nat.pow_pos (by omega)) hB
  have := Nat.mul_lt_mul_of_pos_right h1 hp
  calc pv (dgt s.d) n * 10 ^ p * B = pv (dgt s.d) n * (10 ^ p * B) := Nat.mul_assoc _ _ _
    _ < 10 ^ n * (10 ^ p * B) := this
    _ = B * 10 ^ p * 10 ^ n := by simp only [Nat.mul_comm, Nat.mul_left_comm]
theorem Okd.lo {s : Dec} {n A B : Nat} (h : Okd s n) (hs : s.is n A B) (p q : Nat) (hd : (p : Int) - q = s.dp) : B * 10 ^ p ≤ 10 * (A * 10 ^ q) := by
  have e := hs p (q + n) (by omega)
  have h1 := pv_lo s n h
  rw [Nat.pow_add, ← Nat.mul_assoc] at e
  apply Nat.le_of_mul_le_mul_right _ (show 0 < 10 ^ n from Nat.pow_pos (by omega))
  rw [Nat.mul_assoc 10, ← e]
  calc B * 10 ^ p * 10 ^ n = 10 ^ n * (10 ^ p * B) := by simp only [Nat.mul_comm, Nat.mul_left_comm]
    _ ≤ 10 * pv (dgt s.d) n * (10 ^ p * B) := Nat.mul_le_mul_right _ h1
    _ = 10 * (pv (dgt s.d) n * 10 ^ p * B) := by simp only [Nat.mul_assoc]
theorem Okd.apos {s : Dec} {n A B : Nat} (h : Okd s n) (hs : s.is n A B) (hB : 0 < B) : 0 < A := by
  have h1 := h.lo hs s.dp.toNat (-s.dp).toNat (by omega)
  have h2 : 0 < B * 10 ^ s.dp.toNat := Nat.mul_pos hB (Nat.pow_pos (by omega))
  apply Nat.pos_of_ne_zero
  rintro rfl
  simp only [Nat.zero_mul, Nat.mul_zero] at h1
  omega
theorem pow2_10 {t x : Nat} (h : 2 ^ t < 10 ^ x) : t < 10 * ((x + 2) / 3) := by
  apply Classical.byContradiction
  intro c
  have h1 : (10 : Nat) ^ x ≤ 10 ^ (3 * ((x + 2) / 3)) := Nat.pow_le_pow_right (n := 10) (by omega) (by omega)
  have h2 : (10 : Nat) ^ (3 * ((x + 2) / 3)) ≤ 2 ^ (10 * ((x + 2) / 3)) := by
    rw [Nat.pow_mul, Nat.pow_mul]
    exact Nat.pow_le_pow_left (by decide) _
  have h3 : (2 : Nat) ^ (10 * ((x + 2) / 3)) ≤ 2 ^ t := Nat.pow_le_pow_right (n := 2) (by omega) (by omega)
  omega
def kR (p : Nat) : Nat := if 9 ≤ p then 27 else [1, 3, 6, 9, 13, 16, 19, 23, 26].getD p 0
def qR (p : Nat) : Nat := if 9 ≤ p then 8 else [0, 0, 1, 2, 3, 4, 5, 6, 7].getD p 0
theorem kR_small : ∀ p, p < 9 → (1 ≤ kR p ∧ kR p ≤ 27 ∧ (1 ≤ p → 2 ^ kR p ≤ 10 ^ p) ∧ 10 ^ qR p ≤ 2 ^ kR p ∧ dlT (kR p) ≤ p + 1 ∧ (1 ≤ p → dlT (kR p) ≤ p)) := by decide
theorem kR_ok (p : Nat) : 1 ≤ kR p ∧ kR p ≤ 27 ∧ (1 ≤ p → 2 ^ kR p ≤ 10 ^ p) ∧ 10 ^ qR p ≤ 2 ^ kR p ∧ dlT (kR p) ≤ p + 1 ∧ (1 ≤ p → dlT (kR p) ≤ p) := by
  by_cases c : p < 9
  · exact kR_small p c
  · unfold kR qR
    rw [if_pos (by omega), if_pos (by omega)]
    have h9 : (10 : Nat) ^ 9 ≤ 10 ^ p := Nat.pow_le_pow_right (n := 10) (by omega) (by omega)
    refine ⟨by omega, by omega, fun _ => Nat.le_trans (by decide) h9, by decide, ?_, fun _ => ?_⟩
    · show 9 ≤ _; omega
    · show 9 ≤ _; omega
def roomOk (p : Nat) : Bool := (List.range 311).all fun p0 => decide (p0 < p) || decide (64 + p + 10 * ((p0 - p + 3) / 3) + kR p ≤ 800 + qR p + p0)
theorem room_all : (List.range 311).all (fun p => p == 0 || roomOk p) = true := by decide +kernel
theorem room_right (p p0 t n n0 : Nat) (h1 : 1 ≤ p) (h2 : p ≤ p0) (h3 : p0 ≤ 310) (h4 : n0 ≤ 64) (ht : t < 10 * ((p0 - p + 1 + 2) / 3)) (hn : (n : Int) - p ≤ n0 - p0 + t) : n + kR p ≤ 800 + qR p := by
  have h := List.all_eq_true.1 room_all p (List.mem_range.2 (by omega))
  rw [Bool.or_eq_true, beq_iff_eq] at h
  rcases h with h | h
  · omega
  · unfold roomOk at h
    have h := List.all_eq_true.1 h p0 (List.mem_range.2 (by omega))
    rw [Bool.or_eq_true, decide_eq_true_iff, decide_eq_true_iff] at h
    omega
structure RPh (s0 s : Dec) (n0 n A B t p0 p : Nat) : Prop where
  good : Okd s n
  is : s.is n A (B * 2 ^ t)
  dp : s.dp = (p : Nat)
  le : p ≤ p0
  len : (n : Int) - p ≤ n0 - p0 + t
  neg : s.neg = s0.neg
  tr : s.tr = s0.tr
theorem RPh.bound {s0 s : Dec} {n0 n A B t p0 p : Nat} (h : RPh s0 s n0 n A B t p0 p) (g0 : Okd s0 n0) (i0 : s0.is n0 A B) (d0 : s0.dp = (p0 : Nat)) (hB : 0 < B) : t < 10 * ((p0 - p + 1 + 2) / 3) := by
  apply pow2_10
  have h1 := g0.hi i0 hB p0 0 (by omega)
  have h2 := h.good.lo h.is p 0 (by have := h.dp; omega)
  rw [Nat.pow_zero, Nat.mul_one] at h1 h2
  apply Nat.lt_of_mul_lt_mul_right (a := B * 10 ^ p)
  have e : 10 ^ (p0 - p + 1) * (B * 10 ^ p) = 10 * (B * 10 ^ p0) := by
    obtain ⟨d, rfl⟩ : ∃ d, p0 = d + p := ⟨p0 - p, by have := h.le; omega⟩
    rw [Nat.add_sub_cancel, Nat.pow_add, Nat.pow_add, Nat.pow_one]
    generalize (10 : Nat) ^ d = x; generalize (10 : Nat) ^ p = y
    grind
  rw [e]
  calc 2 ^ t * (B * 10 ^ p) = B * 2 ^ t * 10 ^ p := by rw [← Nat.mul_assoc, Nat.mul_comm (2 ^ t)]
    _ ≤ 10 * A := h2
    _ < _ := by omega
structure Moved (s s' : Dec) (n n' a b : Nat) : Prop where
  good : Good s' n'
  neg : s'.neg = s.neg
  tr : s'.tr = s.tr
  is : ∀ A B, s.is n A B → s'.is n' (A * 2 ^ a) (B * 2 ^ b)
  len : (n' : Int) - s'.dp ≤ n - s.dp + b
  up : s'.dp ≤ s.dp + a
  down : s.dp ≤ s'.dp + 1000 * b
theorem RPh.step {s0 s s' : Dec} {n0 n n' A B t p0 p : Nat} (h : RPh s0 s n0 n A B t p0 p) (hB : 0 < B) (hp : 1 ≤ p) (m : Moved s s' n n' 0 (kR p)) : ∃ p', RPh s0 s' n0 n' A B (t + kR p) p0 p' := by
  obtain ⟨_, _, k3, _⟩ := kR_ok p
  have hi : s'.is n' A (B * 2 ^ t * 2 ^ kR p) := by have := m.is _ _ h.is; rwa [Nat.pow_zero, Nat.mul_one] at this
  have hB2 : 0 < B * 2 ^ t := Nat.mul_pos hB (Nat.two_pow_pos _)
  have hB3 : 0 < B * 2 ^ t * 2 ^ kR p := Nat.mul_pos hB2 (Nat.two_pow_pos _)
  have hge : 0 ≤ s'.dp := by
    apply Classical.byContradiction
    intro c
    obtain ⟨q, hq⟩ : ∃ q : Nat, s'.dp = -((q + 1 : Nat) : Int) := ⟨(-s'.dp).toNat - 1, by omega⟩
    have h1 := m.good.ok.hi hi hB3 0 (q + 1) (by omega)
    have h2 := h.good.lo h.is p 0 (by have := h.dp; omega)
    rw [Nat.pow_zero, Nat.mul_one] at h1 h2
    have h3 : B * 2 ^ t * 2 ^ kR p ≤ B * 2 ^ t * 10 ^ p := Nat.mul_le_mul_left _ (k3 hp)
    have h4 : A * 10 ≤ A * 10 ^ (q + 1) := Nat.mul_le_mul_left _ (by rw [Nat.pow_succ]; have := Nat.pow_pos (n := q) (show 0 < 10 by omega); omega)
    omega
  obtain ⟨p', hp'⟩ : ∃ p' : Nat, s'.dp = (p' : Nat) := ⟨s'.dp.toNat, by omega⟩
  have hle := m.up
  have hdp := h.dp
  have hl := h.len
  have hml := m.len
  have hle0 := h.le
  refine ⟨p', ⟨m.good.ok, by rw [Nat.pow_add, ← Nat.mul_assoc]; exact hi, hp', by omega, by omega, by rw [m.neg, h.neg], by rw [m.tr, h.tr]⟩⟩
structure LPh (s1 s : Dec) (n1 n A B t q : Nat) : Prop where
  good : Okd s n
  is : s.is n (A * 2 ^ t) B
  dp : s.dp = -((q : Nat) : Int)
  len : (n : Int) + q ≤ n1 - s1.dp
  neg : s.neg = s1.neg
  tr : s.tr = s1.tr
theorem LPh.pow {s1 s : Dec} {n1 n A B t q q1 : Nat} (h : LPh s1 s n1 n A B t q) (g1 : Okd s1 n1) (i1 : s1.is n1 A B) (d1 : s1.dp = -((q1 : Nat) : Int)) (hB : 0 < B) : 2 ^ t < 10 ^ (q1 + 1) := by
  have h1 := g1.lo i1 0 q1 (by omega)
  have h2 := h.good.hi h.is hB 0 q (by have := h.dp; omega)
  have hA := g1.apos i1 hB
  rw [Nat.pow_zero, Nat.mul_one] at h1 h2
  have h3 : A * 2 ^ t * 1 ≤ A * 2 ^ t * 10 ^ q := Nat.mul_le_mul_left _ (Nat.pow_pos (by omega))
  apply Nat.lt_of_mul_lt_mul_left (a := A)
  have e : A * 10 ^ (q1 + 1) = 10 * (A * 10 ^ q1) := by rw [Nat.pow_succ]; simp only [Nat.mul_comm, Nat.mul_left_comm]
  rw [e]
  omega
theorem LPh.bound {s1 s : Dec} {n1 n A B t q q1 : Nat} (h : LPh s1 s n1 n A B t q) (g1 : Okd s1 n1) (i1 : s1.is n1 A B) (d1 : s1.dp = -((q1 : Nat) : Int)) (hB : 0 < B) : t < 10 * ((q1 + 1 + 2) / 3) :=
  pow2_10 (h.pow g1 i1 d1 hB)
theorem LPh.step {s1 s s' : Dec} {n1 n n' A B t q : Nat} (h : LPh s1 s n1 n A B t q) (hB : 0 < B) (hq : 1 ≤ q ∨ 2 * (A * 2 ^ t) < B) (m : Moved s s' n n' (kR q) 0) : ∃ q', LPh s1 s' n1 n' A B (t + kR q) q' := by
  obtain ⟨_, _, k3, _⟩ := kR_ok q
  have hi : s'.is n' (A * 2 ^ t * 2 ^ kR q) B := by have := m.is _ _ h.is; rwa [Nat.pow_zero, Nat.mul_one] at this
  have hge : s'.dp ≤ 0 := by
    apply Classical.byContradiction
    intro c
    obtain ⟨p, hp⟩ : ∃ p : Nat, s'.dp = ((p + 1 : Nat) : Int) := ⟨s'.dp.toNat - 1, by omega⟩
    have h1 := m.good.ok.lo hi (p + 1) 0 (by omega)
    have h2 := h.good.hi h.is hB 0 q (by have := h.dp; omega)
    rw [Nat.pow_zero, Nat.mul_one] at h1 h2
    have h4 : B * 10 ≤ B * 10 ^ (p + 1) := Nat.mul_le_mul_left _ (by rw [Nat.pow_succ]; have := Nat.pow_pos (n := p) (show 0 < 10 by omega); omega)
    have h5 : A * 2 ^ t * 2 ^ kR q < B := by
      by_cases c0 : 1 ≤ q
      · exact Nat.lt_of_le_of_lt (Nat.mul_le_mul_left _ (k3 c0)) h2
      · have hq0 : q = 0 := by omega
        subst hq0
        rcases hq with hq | hq
        · omega
        · show A * 2 ^ t * 2 ^ 1 < B; omega
    omega
  obtain ⟨q', hq'⟩ : ∃ q' : Nat, s'.dp = -((q' : Nat) : Int) := ⟨(-s'.dp).toNat, by omega⟩
  have hdp := h.dp
  have hl := h.len
  have hml := m.len
  refine ⟨q', ⟨m.good.ok, by rw [Nat.pow_add, ← Nat.mul_assoc]; exact hi, hq', by omega, by rw [m.neg, h.neg], by rw [m.tr, h.tr]⟩⟩
theorem Okd.half {s : Dec} {n A B : Nat} (h : Okd s n) (hs : s.is n A B) (hB : 0 < B) (hd : s.dp = 0) : (s.d 0 < 53 → 2 * A < B) ∧ (53 ≤ s.d 0 → B ≤ 2 * A) := by
  have e := hs 0 n (by omega)
  rw [Nat.pow_zero, Nat.mul_one] at e
  obtain ⟨m, rfl⟩ : ∃ m, n = m + 1 := ⟨n - 1, by have := h.pos; omega⟩
  have hd0 := h.dig 0 (by omega)
  have hlt : pv (fun j => dgt s.d (j + 1)) m < 10 ^ m := by
    have e2 : pv (fun j => dgt s.d (j + 1)) m = pv (fun j => if j < m then dgt s.d (j + 1) else 0) m := pv_congr m (fun i hi => by rw [if_pos hi])
    rw [e2]
    refine pv_lt _ (fun i => ?_) m
    split
    · have := h.dig (i + 1) (by omega); unfold dgt; omega
    · omega
  rw [pv_cons, Nat.pow_succ] at e
  obtain ⟨T, hT⟩ : ∃ T, T = 10 ^ m := ⟨_, rfl⟩
  obtain ⟨R, hR⟩ : ∃ R, R = pv (fun j => dgt s.d (j + 1)) m := ⟨_, rfl⟩
  rw [← hT, ← hR] at e
  rw [← hT, ← hR] at hlt
  have hTp : 0 < T := by omega
  have hx : dgt s.d 0 = s.d 0 - 48 := rfl
  rw [hx] at e
  constructor
  · intro c
    have h1 : (s.d 0 - 48) * T ≤ 4 * T := Nat.mul_le_mul_right _ (by omega)
    have h2 : (s.d 0 - 48) * T + R < 5 * T := by omega
    have h3 := Nat.mul_lt_mul_of_pos_right h2 hB
    rw [e] at h3
    apply Nat.lt_of_mul_lt_mul_right (a := 5 * T)
    calc 2 * A * (5 * T) = A * (T * 10) := by
          rw [show T * 10 = 2 * (5 * T) by omega, Nat.mul_comm 2 A, Nat.mul_assoc]
      _ < 5 * T * B := h3
      _ = B * (5 * T) := Nat.mul_comm _ _
  · intro c
    have h1 : 5 * T ≤ (s.d 0 - 48) * T := Nat.mul_le_mul_right _ (by omega)
    have h2 : 5 * T ≤ (s.d 0 - 48) * T + R := by omega
    have h3 := Nat.mul_le_mul_right B h2
    rw [e] at h3
    apply Nat.le_of_mul_le_mul_right _ (show 0 < 5 * T by omega)
    calc B * (5 * T) = 5 * T * B := Nat.mul_comm _ _
      _ ≤ A * (T * 10) := h3
      _ = 2 * A * (5 * T) := by rw [show T * 10 = 2 * (5 * T) by omega, Nat.mul_comm 2 A, Nat.mul_assoc]
def Mid (s0 s1 : Dec) (n0 n1 A B t : Nat) : Prop :=
  (t = 0 ∧ s1 = s0 ∧ n1 = n0 ∧ s0.dp ≤ 0) ∨ ∃ p0 : Nat, s0.dp = (p0 : Nat) ∧ 1 ≤ p0 ∧ p0 ≤ 310 ∧ RPh s0 s1 n0 n1 A B t p0 0
structure Scaled (s0 s2 : Dec) (n2 A B t u : Nat) : Prop where
  good : Okd s2 n2
  is : s2.is n2 (A * 2 ^ u) (B * 2 ^ t)
  dp : s2.dp = 0
  lo : B * 2 ^ t ≤ 2 * (A * 2 ^ u)
  hi : A * 2 ^ u < B * 2 ^ t
  neg : s2.neg = s0.neg
  tr : s2.tr = s0.tr
  room : (t : Int) - u ≤ 1024 → n2 ≤ 784
  small : (t : Int) - u ≤ -1 → n2 ≤ 394
  bt : t ≤ 1100
  bu : u ≤ 1110
def room2 (p0 : Nat) : Bool := decide (307 ≤ p0) || decide (67 + 10 * ((p0 + 2) / 3) ≤ 784 + p0)
theorem room2_all : (List.range 311).all room2 = true := by decide +kernel
theorem scaled_of {s0 s1 s2 : Dec} {n0 n1 n2 A B t u : Nat} (g0 : Okd s0 n0) (i0 : s0.is n0 A B) (hB : 0 < B) (hn0 : n0 ≤ 64) (hlo : -330 ≤ s0.dp) (hm : Mid s0 s1 n0 n1 A B t) (hl : LPh s1 s2 n1 n2 A (B * 2 ^ t) u 0) (h53 : 53 ≤ s2.d 0) : Scaled s0 s2 n2 A B t u := by
  have hBt : 0 < B * 2 ^ t := Nat.mul_pos hB (Nat.two_pow_pos t)
  have hdp : s2.dp = 0 := by rw [hl.dp]; rfl
  have h1 := (hl.good.half hl.is hBt hdp).2 h53
  have h2 := hl.good.hi hl.is hBt 0 0 (by omega)
  rw [Nat.pow_zero, Nat.mul_one, Nat.mul_one] at h2
  have hlen := hl.len
  rcases hm with ⟨rfl, rfl, rfl, hd⟩ | ⟨p0, hp0, hp1, hp2, hr⟩
  · obtain ⟨q1, hq1⟩ : ∃ q1 : Nat, s1.dp = -((q1 : Nat) : Int) := ⟨(-s1.dp).toNat, by omega⟩
    have i1 : s1.is n1 A (B * 2 ^ 0) := by rw [Nat.pow_zero, Nat.mul_one]; exact i0
    have hb := hl.bound g0 i1 hq1 hBt
    exact ⟨hl.good, hl.is, hdp, h1, h2, hl.neg, hl.tr, fun _ => by omega, fun _ => by omega, by omega, by omega⟩
  · have hb := hr.bound g0 i0 hp0 hB
    have hd1 : s1.dp = -((0 : Nat) : Int) := by rw [hr.dp]; rfl
    have hpw := hl.pow hr.good hr.is hd1 hBt
    have hu : u ≤ 3 := by
      apply Classical.byContradiction
      intro c
      have : 2 ^ 4 ≤ 2 ^ u := Nat.pow_le_pow_right (n := 2) (by omega) (by omega)
      omega
    have a1 := g0.lo i0 p0 0 (by omega)
    have a2 := g0.hi i0 hB p0 0 (by omega)
    rw [Nat.pow_zero, Nat.mul_one] at a1 a2
    have hAB : B ≤ A := by
      have : B * 10 ^ 1 ≤ B * 10 ^ p0 := Nat.mul_le_mul_left _ (Nat.pow_le_pow_right (n := 10) (by omega) hp1)
      omega
    have hut : u < t := by
      apply Classical.byContradiction
      intro c
      have b1 : B * 2 ^ t ≤ A * 2 ^ u := Nat.mul_le_mul hAB (Nat.pow_le_pow_right (n := 2) (by omega) (by omega))
      omega
    obtain ⟨x, hx⟩ : ∃ x, t = x + 1 + u := ⟨t - 1 - u, by omega⟩
    have hx2 : 2 ^ x < 10 ^ p0 := by
      apply Nat.lt_of_mul_lt_mul_left (a := B)
      refine Nat.lt_of_le_of_lt ?_ a2
      apply Nat.le_of_mul_le_mul_right _ (show 0 < 2 * 2 ^ u from Nat.mul_pos (by omega) (Nat.two_pow_pos u))
      calc B * 2 ^ x * (2 * 2 ^ u) = B * 2 ^ t := by
            rw [hx, Nat.pow_add, Nat.pow_succ]; simp only [Nat.mul_assoc]
        _ ≤ 2 * (A * 2 ^ u) := h1
        _ = A * (2 * 2 ^ u) := by simp only [Nat.mul_left_comm]
    have hx3 := pow2_10 hx2
    have hrl := hr.len
    have hrd := hr.dp
    have ht := List.all_eq_true.1 room2_all p0 (List.mem_range.2 (by omega))
    unfold room2 at ht
    rw [Bool.or_eq_true, decide_eq_true_iff, decide_eq_true_iff] at ht
    refine ⟨hl.good, hl.is, hdp, h1, h2, by rw [hl.neg, hr.neg], by rw [hl.tr, hr.tr], fun _ => ?_, fun _ => by omega, by omega, by omega⟩
    rcases ht with ht | ht <;> omega
end Go.Proofs.YtapinbbflfkglaaGreatDoor
namespace Go.Proofs.YtapinbbflfkglaaGreatDoor
open Go.RowKit
set_option maxRecDepth 100000
attribute [local go_sem] setCell_drewN
theorem right_ok (w : World) (g : Nat) (s : Dec) (n k q : Nat) (h : Okd s n) (hk1 : 1 ≤ k) (hk2 : k ≤ 60) (hq : 10 ^ q ≤ 2 ^ k) (hroom : n + k ≤ 800 + q) (hg : g < w.heap.size) (hdp : -1000000 ≤ s.dp ∧ s.dp ≤ 1000000) :
    Calls Tryz.prog 146 #[.pointer (some ⟨g, 0, none⟩), .int .u64 (k : Nat)] (putD w g s) fun e w' => e = .returned (.tuple #[]) ∧ ∃ (N n' : Nat) (s' : Dec), w' = (putD w g s').drewN N ∧ Moved s s' n n' 0 k := by
  refine (right_any w g s n k h.nd h.pos hk1 hk2 q hq h.le hroom hg hdp h.dig h.lead).mono ?_
  rintro e w' ⟨rfl, N, v, r, d', rfl, hR, h1, h2, h3, h4, h5⟩
  obtain ⟨a, b, c, d, e⟩ := hR.value (Nat.two_pow_pos k) h1 h2 h.nd
  have hl := trimN_le d' v
  have hle := h.le
  refine ⟨rfl, N, _, _, rfl, ⟨a, b, c, fun A B hs => ?_, by rw [d]; omega, by rw [d]; omega, by rw [d]; omega⟩⟩
  rw [Nat.pow_zero, Nat.mul_one]; exact e A B hs
theorem dlT_le : ∀ k, k < 61 → dlT k ≤ k := by decide
theorem left_ok (w : World) (g : Nat) (gp : Addr) (s : Dec) (n k : Nat) (ht : CutTab w gp) (hne : gp.block ≠ g) (hne2 : 12 ≠ g) (h : Okd s n) (hk1 : 1 ≤ k) (hk2 : k ≤ 60) (hroom : n + dlT k ≤ 800) (hg : g < w.heap.size) (hdp : -1000000 ≤ s.dp ∧ s.dp ≤ 1000000) :
    Calls Tryz.prog 145 #[.pointer (some ⟨g, 0, none⟩), .int .u64 (k : Nat)] (putD w g s) fun e w' => e = .returned (.tuple #[]) ∧ ∃ (N n' : Nat) (s' : Dec), w' = (putD w g s').drewN N ∧ Moved s s' n n' k 0 := by
  refine (left_any w g gp s n k ht hne hne2 h.nd h.pos hk1 hk2 hroom hg hdp h.dig h.lead).mono ?_
  rintro e w' ⟨rfl, N, dl, d', rfl, hR, h1, h2, h3⟩
  obtain ⟨a, b, c, d, e⟩ := hR.value h1 h.pos (by omega)
  have hl := trimN_le d' (n + dl)
  have hk := dlT_le k (by omega)
  refine ⟨rfl, N, _, _, rfl, ⟨a, b, c, fun A B hs => ?_, by rw [d]; omega, by rw [d]; omega, by rw [d]; omega⟩⟩
  rw [Nat.pow_zero, Nat.mul_one]; exact e A B hs
theorem Moved.trans {s s' s'' : Dec} {n n' n'' b c : Nat} (h1 : Moved s s' n n' 0 b) (h2 : Moved s' s'' n' n'' 0 c) : Moved s s'' n n'' 0 (b + c) := by
  have a1 := h1.len
  have a2 := h2.len
  have a3 := h1.up
  have a4 := h2.up
  have a5 := h1.down
  have a6 := h2.down
  refine ⟨h2.good, by rw [h2.neg, h1.neg], by rw [h2.tr, h1.tr], fun A B hs => ?_, by omega, by omega, by omega⟩
  have := h2.is _ _ (h1.is _ _ hs)
  rw [Nat.pow_zero, Nat.mul_one, Nat.mul_one, Nat.mul_assoc, ← Nat.pow_add] at this
  rw [Nat.pow_zero, Nat.mul_one]
  exact this
set_option maxHeartbeats 1000000 in
theorem shift_right (w : World) (g : Nat) (s : Dec) (n k q : Nat) (h : Okd s n) (hk1 : 1 ≤ k) (hk2 : k ≤ 60) (hq : 10 ^ q ≤ 2 ^ k) (hroom : n + k ≤ 800 + q) (hg : g < w.heap.size) (hdp : -1000000 ≤ s.dp ∧ s.dp ≤ 1000000) :
    Calls Tryz.prog 103 #[.pointer (some ⟨g, 0, none⟩), .int .i64 (-((k : Nat) : Int))] (putD w g s) fun e w' => e = .returned (.tuple #[]) ∧ ∃ (N n' : Nat) (s' : Dec), w' = (putD w g s').drewN N ∧ Moved s s' n n' 0 k := by
  have HR := Lib.hid (right_ok w g s n k q h hk1 hk2 hq hroom hg hdp)
  have f0 := cell_putD_nd w g s hg
  rw [h.nd] at f0
  have hn1 := h.pos
  have hn8 := h.le
  clear hq hroom hdp
  obtain ⟨W, hW⟩ : ∃ W, W = putD w g s := ⟨_, rfl⟩
  rw [← hW] at f0 HR ⊢
  clear hW
  have c0 : (((n : Nat) : Int) == 0) = false := by rw [beq_eq_false_iff_ne]; omega
  have c1 : (0 : Int) ≤ ((k : Nat) : Int) := by omega
  go_enter Tryz.func103, Tryz.ntmps103
  go_wp2_with fail
  go_loopg [1] 1 (fun gk s1 wx => gk = 1 ∧ s1 = .int .i64 (-((k : Nat) : Int)) ∧ wx = W)
  case atStart => exact ⟨rfl, rfl, rfl⟩
  case round =>
    obtain ⟨rfl, rfl, rfl⟩ := hrel
    go_wp2_with fail
    refine HR.out.mono ?_
    rintro e w' ⟨rfl, hx⟩
    replace hx := Lib.hid hx
    go_wp2
    go_end0
    exact ⟨by rfl, hx.out⟩
set_option maxHeartbeats 1000000 in
theorem shift_right2 (w : World) (g : Nat) (s : Dec) (n k : Nat) (h : Okd s n) (hk1 : 61 ≤ k) (hk2 : k ≤ 120) (hroom : n + k ≤ 800) (hg : g < w.heap.size) (hdp : -900000 ≤ s.dp ∧ s.dp ≤ 900000) :
    Calls Tryz.prog 103 #[.pointer (some ⟨g, 0, none⟩), .int .i64 (-((k : Nat) : Int))] (putD w g s) fun e w' => e = .returned (.tuple #[]) ∧ ∃ (N n' : Nat) (s' : Dec), w' = (putD w g s').drewN N ∧ Moved s s' n n' 0 k := by
  have H1 := Lib.hid (right_ok w g s n 60 0 h (by omega) (by omega) (by decide) (by omega) hg (by omega))
  have H2 := Lib.hid (fun (N n' : Nat) (s' : Dec) (m : Moved s s' n n' 0 60) => right_ok (w.drewN N) g s' n' (k - 60) 0 m.good.ok (by omega) (by omega) (Nat.pow_pos (n := k - 60) (show 0 < 2 by omega)) (by have := m.len; have := m.up; omega) hg (by have := m.up; have := m.down; omega))
  have HF := Lib.hid (fun (N n' N' n'' : Nat) (s' s'' : Dec) (m : Moved s s' n n' 0 60) (m' : Moved s' s'' n' n'' 0 (k - 60)) => (⟨N + N', n'', s'', by rw [drewN_putD, drewN_putD, World.drewN_drewN], by have := m.trans m'; rwa [show 60 + (k - 60) = k by omega] at this⟩ : ∃ (M n' : Nat) (s1 : Dec), ((putD (w.drewN N) g s'').drewN N') = (putD w g s1).drewN M ∧ Moved s s1 n n' 0 k))
  have f0 := cell_putD_nd w g s hg
  rw [h.nd] at f0
  have hn1 := h.pos
  have hn8 := h.le
  clear hroom hdp
  obtain ⟨W, hW⟩ : ∃ W, W = putD w g s := ⟨_, rfl⟩
  rw [← hW] at f0 H1 ⊢
  clear hW
  have c0 : (((n : Nat) : Int) == 0) = false := by rw [beq_eq_false_iff_ne]; omega
  have c1 : (0 : Int) ≤ ((k : Nat) : Int) := by omega
  have c2 : decide (0 < k) = true := by simp; omega
  go_enter Tryz.func103, Tryz.ntmps103
  go_wp2_with fail
  go_loopg [1] 1 (fun gk s1 wx => (gk = 1 ∧ s1 = .int .i64 (-((k : Nat) : Int)) ∧ wx = W) ∨ (gk = 0 ∧ s1 = .int .i64 (-((k - 60 : Nat) : Int)) ∧ ∃ (N n' : Nat) (s' : Dec), wx = (putD w g s').drewN N ∧ Hid (Moved s s' n n' 0 60)))
  case atStart => exact .inl ⟨rfl, rfl, rfl⟩
  case round =>
    rcases hrel with ⟨rfl, rfl, rfl⟩ | ⟨rfl, rfl, N, n', s', rfl, hm⟩
    · go_wp2_with fail
      refine H1.out.mono ?_
      rintro e w' ⟨rfl, N, n', s', rfl, hx⟩
      replace hx := Lib.hid hx
      go_wp2_with fail
      go_roundg 0
      case measure => omega
      case rel => exact .inr ⟨rfl, by rw [show -((k : Nat) : Int) + 60 = -((k - 60 : Nat) : Int) by omega], N, n', s', rfl, hx⟩
    · have k60 : ((k - 60 : Nat) : Int) ≤ 60 := by omega
      have k61 : (1 : Int) ≤ ((k - 60 : Nat) : Int) := by omega
      have H3 := Lib.hid (H2.out N n' s' hm.out)
      rw [← drewN_putD] at H3
      obtain ⟨K, hK⟩ : ∃ K, K = k - 60 := ⟨_, rfl⟩
      obtain ⟨W2, hW2⟩ : ∃ W2, W2 = (putD w g s').drewN N := ⟨_, rfl⟩
      rw [← hK] at k60 k61 H3 ⊢
      rw [← hW2] at H3 ⊢
      replace hK := Lib.hid hK
      clear hW2
      go_wp2_with fail
      refine H3.out.mono ?_
      rintro e w' ⟨rfl, N', n'', s'', rfl, hx⟩
      replace hx := Lib.hid hx
      go_wp2
      go_end0
      exact ⟨by rfl, HF.out N n' N' n'' s' s'' hm.out (by rw [← hK.out]; exact hx.out)⟩
set_option maxHeartbeats 1000000 in
theorem shift_left (w : World) (g : Nat) (gp : Addr) (s : Dec) (n k : Nat) (ht : CutTab w gp) (hne : gp.block ≠ g) (hne2 : 12 ≠ g) (h : Okd s n) (hk1 : 1 ≤ k) (hk2 : k ≤ 60) (hroom : n + dlT k ≤ 800) (hg : g < w.heap.size) (hdp : -1000000 ≤ s.dp ∧ s.dp ≤ 1000000) :
    Calls Tryz.prog 103 #[.pointer (some ⟨g, 0, none⟩), .int .i64 ((k : Nat) : Int)] (putD w g s) fun e w' => e = .returned (.tuple #[]) ∧ ∃ (N n' : Nat) (s' : Dec), w' = (putD w g s').drewN N ∧ Moved s s' n n' k 0 := by
  have HR := Lib.hid (left_ok w g gp s n k ht hne hne2 h hk1 hk2 hroom hg hdp)
  have f0 := cell_putD_nd w g s hg
  rw [h.nd] at f0
  have hn1 := h.pos
  have hn8 := h.le
  clear ht hne hne2 hroom hdp
  obtain ⟨W, hW⟩ : ∃ W, W = putD w g s := ⟨_, rfl⟩
  rw [← hW] at f0 HR ⊢
  clear hW
  have c0 : (((n : Nat) : Int) == 0) = false := by rw [beq_eq_false_iff_ne]; omega
  have c1 : ((k : Nat) : Int) ≤ 60 := by omega
  go_enter Tryz.func103, Tryz.ntmps103
  go_wp2_with fail
  go_loopg [1] 1 (fun gk s1 wx => gk = 1 ∧ s1 = .int .i64 ((k : Nat) : Int) ∧ wx = W)
  case atStart => exact ⟨rfl, rfl, rfl⟩
  case round =>
    obtain ⟨rfl, rfl, rfl⟩ := hrel
    go_wp2_with fail
    refine HR.out.mono ?_
    rintro e w' ⟨rfl, hx⟩
    replace hx := Lib.hid hx
    go_wp2
    go_end0
    exact ⟨by rfl, hx.out⟩
end Go.Proofs.YtapinbbflfkglaaGreatDoor
namespace Go.Proofs.YtapinbbflfkglaaGreatDoor
open Go.RowKit
set_option maxRecDepth 100000
attribute [local go_sem] setCell_drewN
def ruB (d : Nat → Nat) (n p : Nat) : Bool :=
  if n ≤ p then false else if d p = 53 ∧ p + 1 = n then decide (0 < p) && ((d (p - 1) - 48) % 2 != 0) else decide (53 ≤ d p)
def b2n (b : Bool) : Nat := if b then 1 else 0
set_option maxHeartbeats 1000000 in
theorem su_neg (w : World) (g : Nat) (s : Dec) (p : Int) (hp : p < 0) (hg : g < w.heap.size) :
    Calls Tryz.prog 147 #[.pointer (some ⟨g, 0, none⟩), .int .i64 p] (putD w g s) fun e w' => e = .returned (.bool false) ∧ ∃ N, w' = (putD w g s).drewN N := by
  have f0 := cell_putD_nd w g s hg
  obtain ⟨W, hW⟩ : ∃ W, W = putD w g s := ⟨_, rfl⟩
  rw [← hW] at f0 ⊢
  clear hW
  go_enter Tryz.func147, Tryz.ntmps147
  go_wp2_with fail
  go_ret
  exact ⟨rfl, 0, rfl⟩
set_option maxHeartbeats 1000000 in
theorem su_walk (w : World) (g : Nat) (s : Dec) (n p : Nat) (h : Okd s n) (htr : s.tr = false) (hp : p ≤ 20) (hg : g < w.heap.size) :
    Calls Tryz.prog 147 #[.pointer (some ⟨g, 0, none⟩), .int .i64 ((p : Nat) : Int)] (putD w g s) fun e w' => e = .returned (.bool (ruB s.d n p)) ∧ ∃ N, w' = (putD w g s).drewN N := by
  have f0 := cell_putD_nd w g s hg
  rw [h.nd] at f0
  have f3 := cell_putD_tr w g s hg
  rw [htr] at f3
  have fd := Lib.hid (fun i hi => cell_putD_dig w g s i hg hi)
  have hn8 := h.le
  have hdig := Lib.hid h.dig
  obtain ⟨R, hR⟩ : ∃ R, R = ruB s.d n p := ⟨_, rfl⟩
  obtain ⟨W, hW⟩ : ∃ W, W = putD w g s := ⟨_, rfl⟩
  rw [← hW] at f0 f3 fd
  rw [← hW, ← hR]
  clear hW h
  unfold ruB at hR
  by_cases c : n ≤ p
  · rw [if_pos c] at hR
    subst hR
    go_enter Tryz.func147, Tryz.ntmps147
    go_wp2_with fail
    go_ret
    exact ⟨rfl, 0, rfl⟩
  · rw [if_neg c] at hR
    have f4 := fd.out p (by omega)
    have hB := hdig.out p (by omega)
    obtain ⟨B, hBe⟩ : ∃ B, B = s.d p := ⟨_, rfl⟩
    rw [← hBe] at f4 hR hB
    replace hBe := Lib.hid hBe
    obtain ⟨hB1, hB2⟩ := hB
    have hp8 : p < 800 := by omega
    by_cases c5 : B = 53
    · subst c5
      by_cases c6 : p + 1 = n
      · rw [if_pos ⟨rfl, c6⟩] at hR
        subst c6
        by_cases c0 : p = 0
        · subst c0
          have hR2 : R = false := by rw [hR]; rfl
          subst hR2
          clear hR
          go_enter Tryz.func147, Tryz.ntmps147
          go_wp2_with fail
          go_ret
          exact ⟨rfl, 0, rfl⟩
        · obtain ⟨k, rfl⟩ : ∃ k, p = k + 1 := ⟨p - 1, by omega⟩
          rw [Nat.add_sub_cancel, show decide (0 < k + 1) = true by simp, Bool.true_and] at hR
          have f5 := fd.out k (by omega)
          obtain ⟨hC1, hC2⟩ := hdig.out k (by omega)
          obtain ⟨C, hC⟩ : ∃ C, C = s.d k := ⟨_, rfl⟩
          rw [← hC] at f5 hR hC1 hC2
          have e1 : (((C : Nat) : Int) - 48) = ((C - 48 : Nat) : Int) := by omega
          have e2 : ((((C - 48 : Nat) : Int) % 2) != 0) = R := by
            rw [hR, Bool.eq_iff_iff, bne_iff_ne, bne_iff_ne]
            omega
          replace hR := Lib.hid hR
          clear hBe hC c0
          have hk8 : k < 800 := by omega
          go_enter Tryz.func147, Tryz.ntmps147
          go_wp2_with fail
          go_ret
          exact ⟨rfl, 0, rfl⟩
      · rw [if_neg (by omega)] at hR
        have hR2 : R = true := by rw [hR]; rfl
        subst hR2
        clear hR
        have c7 : (((p : Nat) : Int) + 1 == ((n : Nat) : Int)) = false := by rw [beq_eq_false_iff_ne]; omega
        go_enter Tryz.func147, Tryz.ntmps147
        go_wp2_with fail
        go_ret
        exact ⟨rfl, 0, rfl⟩
    · rw [if_neg (by omega)] at hR
      have c7 : (((B : Nat) : Int) == 53) = false := by rw [beq_eq_false_iff_ne]; omega
      have c8 : decide ((53 : Int) ≤ ((B : Nat) : Int)) = R := by rw [hR, decide_eq_decide]; omega
      replace hR := Lib.hid hR
      go_enter Tryz.func147, Tryz.ntmps147
      go_wp2_with fail
      go_ret
      exact ⟨rfl, 0, rfl⟩
set_option maxHeartbeats 1000000 in
theorem ri_neg (w : World) (g : Nat) (s : Dec) (hp : s.dp < 0) (hg : g < w.heap.size) :
    Calls Tryz.prog 162 #[.pointer (some ⟨g, 0, none⟩)] (putD w g s) fun e w' => e = .returned (.int .u64 0) ∧ ∃ N, w' = (putD w g s).drewN N := by
  have f0 := cell_putD_nd w g s hg
  have f2 := cell_putD_dp w g s hg
  have HS := Lib.hid (su_neg w g s s.dp hp hg)
  obtain ⟨W, hW⟩ : ∃ W, W = putD w g s := ⟨_, rfl⟩
  rw [← hW] at f0 f2 HS ⊢
  clear hW
  obtain ⟨D, hD⟩ : ∃ D, D = s.dp := ⟨_, rfl⟩
  obtain ⟨n, hn⟩ : ∃ n, n = s.nd := ⟨_, rfl⟩
  rw [← hD] at f2 HS hp
  rw [← hn] at f0
  clear hD hn
  go_enter Tryz.func162, Tryz.ntmps162
  go_wp2_with fail
  go_loopg [3, 4] 1 (fun gk s3 s4 wx => gk = 1 ∧ s3 = .int .i64 0 ∧ s4 = .int .u64 0 ∧ wx = W)
  case atStart => exact ⟨rfl, rfl, rfl, rfl⟩
  case round =>
    obtain ⟨rfl, rfl, rfl, rfl⟩ := hrel
    go_wp2_with fail
    go_loopg [3, 4] 1 (fun gk s3 s4 wx => gk = 1 ∧ s3 = .int .i64 0 ∧ s4 = .int .u64 0 ∧ wx = wr)
    case atStart => exact ⟨rfl, rfl, rfl, rfl⟩
    case round =>
      obtain ⟨rfl, rfl, rfl, rfl⟩ := hrel
      go_wp2_with fail
      refine HS.out.mono ?_
      rintro e w' ⟨rfl, hx⟩
      replace hx := Lib.hid hx
      go_wp2_with fail
      go_ret
      exact ⟨rfl, hx.out⟩
set_option maxHeartbeats 1000000 in
theorem ri_walk (w : World) (g : Nat) (s : Dec) (n p : Nat) (h : Okd s n) (htr : s.tr = false) (hdp : s.dp = (p : Nat)) (hp : p ≤ 17) (hg : g < w.heap.size) :
    Calls Tryz.prog 162 #[.pointer (some ⟨g, 0, none⟩)] (putD w g s) fun e w' => e = .returned (.int .u64 ((pv (ext s.d n) p + b2n (ruB s.d n p) : Nat) : Int)) ∧ ∃ N, w' = (putD w g s).drewN N := by
  have f0 := cell_putD_nd w g s hg
  rw [h.nd] at f0
  have f2 := cell_putD_dp w g s hg
  rw [hdp] at f2
  have fd := Lib.hid (fun i hi => cell_putD_dig w g s i hg hi)
  have hn8 := h.le
  have hdig := Lib.hid h.dig
  have hx9 := Lib.hid (fun i => (show ext s.d n i ≤ 9 by unfold ext; split; (have := h.dig i (by assumption); omega); omega))
  have HS := Lib.hid (su_walk w g s n p h htr (by omega) hg)
  obtain ⟨R, hR⟩ : ∃ R, R = ruB s.d n p := ⟨_, rfl⟩
  obtain ⟨W, hW⟩ : ∃ W, W = putD w g s := ⟨_, rfl⟩
  rw [← hW] at f0 f2 fd
  rw [← hW, ← hR] at HS ⊢
  clear hW h htr hdp
  replace hR := Lib.hid hR
  have hM := Lib.hid (fun i (hi : i ≤ 17) => (show pv (ext s.d n) i < 10 ^ 17 from Nat.lt_of_lt_of_le (pv_lt _ hx9.out i) (Nat.pow_le_pow_right (n := 10) (by omega) hi)))
  go_enter Tryz.func162, Tryz.ntmps162
  go_wp2_with fail
  go_loopg [3, 4] p (fun gk s3 s4 wx => ∃ i m : Nat, s3 = .int .i64 (i : Nat) ∧ s4 = .int .u64 (m : Nat) ∧ wx = W ∧ gk + i = p ∧ Hid (m = pv (ext s.d n) i))
  case atStart => exact ⟨0, 0, rfl, rfl, rfl, rfl, Lib.hid rfl⟩
  case round =>
    obtain ⟨i, m, rfl, rfl, rfl, hi, hm⟩ := hrel
    by_cases c : i < p ∧ i < n
    · obtain ⟨c1, c2⟩ := c
      have f4 := fd.out i (by omega)
      obtain ⟨B1, B2⟩ := hdig.out i c2
      obtain ⟨B, hB⟩ : ∃ B, B = s.d i := ⟨_, rfl⟩
      rw [← hB] at f4 B1 B2
      have hi8 : i < 800 := by omega
      have hb := hM.out (i + 1) (by omega)
      have he : pv (ext s.d n) (i + 1) = 10 * m + (B - 48) := by
        show 10 * pv _ i + ext s.d n i = _
        rw [← hm.out, hB]
        unfold ext
        rw [if_pos c2]
      rw [he] at hb
      have hb2 : 10 * m + (B - 48) < 100000000000000000 := hb
      have e1 : (((B : Nat) : Int) - 48) = ((B - 48 : Nat) : Int) := by omega
      replace he := Lib.hid he
      replace hB := Lib.hid hB
      clear hb
      go_wp2_with fail
      go_roundg (gk - 1)
      case measure => omega
      case rel => exact ⟨i + 1, m * 10 + (B - 48), by rw [Int.natCast_add]; rfl, by rw [Int.natCast_add, Int.natCast_mul]; rfl, rfl, by omega, Lib.hid (by rw [he.out]; omega)⟩
    · have hcase : (i < p ∧ n ≤ i) ∨ i = p := by omega
      have h9 : Hid (n ≤ i ∨ i = p) := Lib.hid (by omega)
      have hip : gk = p - i := by omega
      clear c
      rcases hcase with ⟨c1, c2⟩ | c1
      all_goals
        have c3 : i ≤ p := by omega
        go_wp2_with fail
        go_loopg [3, 4] (p - i) (fun gk s3 s4 wx => ∃ i m : Nat, s3 = .int .i64 (i : Nat) ∧ s4 = .int .u64 (m : Nat) ∧ wx = wr ∧ gk + i = p ∧ Hid (m = pv (ext s.d n) i) ∧ Hid (n ≤ i ∨ i = p))
        case atStart => exact ⟨i, m, rfl, rfl, rfl, by omega, hm, h9⟩
        case round =>
          clear hm h9 hi hip
          obtain ⟨i, m, rfl, rfl, rfl, hi, hm, h9⟩ := hrel
          by_cases c : i < p
          · have hb := hM.out (i + 1) (by omega)
            have he : pv (ext s.d n) (i + 1) = 10 * m := by
              show 10 * pv _ i + ext s.d n i = _
              rw [← hm.out]
              unfold ext
              rw [if_neg (by have := h9.out; omega)]
              omega
            rw [he] at hb
            have hb2 : 10 * m < 100000000000000000 := hb
            replace he := Lib.hid he
            have h10 : Hid (n ≤ i + 1 ∨ i + 1 = p) := Lib.hid (by have := h9.out; omega)
            clear hb
            go_wp2_with fail
            go_roundg (gk - 1)
            case measure => omega
            case rel => exact ⟨i + 1, m * 10, by rw [Int.natCast_add]; rfl, by rw [Int.natCast_mul]; rfl, rfl, by omega, Lib.hid (by rw [he.out]; omega), h10⟩
          · have e : i = p := by omega
            subst e
            have hb := hM.out i (by omega)
            rw [← hm.out] at hb
            have hb2 : m < 100000000000000000 := hb
            replace hm := Lib.hid hm.out.symm
            clear hb h9 hi
            go_wp2_with fail
            refine HS.out.mono ?_
            rintro e w' ⟨rfl, hx⟩
            replace hx := Lib.hid hx
            cases R
            · go_wp2_with fail
              go_ret
              refine ⟨?_, hx.out⟩
              rw [hm.out]; rfl
            · go_wp2_with fail
              go_ret
              refine ⟨?_, hx.out⟩
              rw [hm.out]; rfl
end Go.Proofs.YtapinbbflfkglaaGreatDoor
namespace Go.Proofs.YtapinbbflfkglaaGreatDoor
open Go.RowKit
open Go.Proofs.YtapinbbflfkglaaGreatDoor.Fp (mant plc vl mid IsNear rhe near_of_rhe)
open PFloatsParses (rhe_ratio rhe_ge rhe_le)
set_option maxRecDepth 100000
set_option linter.unusedSimpArgs false
theorem pv_app (f : Nat → Nat) (a : Nat) : ∀ b, pv f (a + b) = pv f a * 10 ^ b + pv (fun j => f (a + j)) b
  | 0 => by simp [pv]
  | b + 1 => by
    show 10 * pv f (a + b) + f (a + b) = _ + (10 * pv (fun j => f (a + j)) b + f (a + b))
    rw [pv_app f a b, Nat.pow_succ, Nat.mul_add, ← Nat.add_assoc, Nat.mul_comm 10 (pv f a * 10 ^ b), Nat.mul_assoc]
theorem pv_last (f : Nat → Nat) (n : Nat) (h : f n ≠ 0) : 0 < pv f (n + 1) := by show 0 < 10 * pv f n + f n; omega
theorem rhe_int (q b : Nat) (hb : 0 < b) : rhe (q * b) b = q := by
  unfold rhe
  rw [Nat.mul_div_cancel _ hb, Nat.mul_mod_left]
  dsimp only
  rw [if_pos (by omega)]
theorem rhe_small {a b : Nat} (h : 2 * a < b) : rhe a b = 0 := by
  have h1 : a / b = 0 := Nat.div_eq_of_lt (by omega)
  have h2 : a % b = a := Nat.mod_eq_of_lt (by omega)
  unfold rhe
  rw [h1, h2]
  dsimp only
  rw [if_pos h]
theorem ru_rhe {s : Dec} {n A B : Nat} (h : Good s n) (hs : s.is n A B) (hB : 0 < B) (p : Nat) (hp : s.dp = (p : Nat)) : pv (ext s.d n) p + b2n (ruB s.d n p) = rhe A B := by
  unfold ruB
  by_cases c : n ≤ p
  · rw [if_pos c]
    obtain ⟨j, rfl⟩ : ∃ j, p = n + j := ⟨p - n, by omega⟩
    have e := hs j 0 (by omega)
    rw [Nat.pow_zero, Nat.mul_one] at e
    rw [ext_pv, ← e, rhe_int _ _ hB]
    rfl
  · rw [if_neg c]
    obtain ⟨j, rfl⟩ : ∃ j, n = p + (j + 1) := ⟨n - p - 1, by omega⟩
    have e := hs 0 (j + 1) (by omega)
    rw [Nat.pow_zero, Nat.mul_one] at e
    have hpv : pv (ext s.d (p + (j + 1))) p = pv (dgt s.d) p := pv_congr p (fun i hi => by unfold ext dgt; rw [if_pos (by omega)])
    rw [hpv, ← rhe_ratio (Nat.pow_pos (n := j + 1) (show 0 < 10 by omega)) hB e, pv_app, pv_cons]
    have hd := h.dig p (by omega)
    have hlast := h.last
    have hTlt : pv (fun i => dgt s.d (p + (i + 1))) j < 10 ^ j := by
      have e2 : pv (fun i => dgt s.d (p + (i + 1))) j = pv (fun i => if i < j then dgt s.d (p + (i + 1)) else 0) j := pv_congr j (fun i hi => by rw [if_pos hi])
      rw [e2]
      refine pv_lt _ (fun i => ?_) j
      split
      · have := h.dig (p + (i + 1)) (by omega); unfold dgt; omega
      · omega
    have hTpos : 0 < j → 0 < pv (fun i => dgt s.d (p + (i + 1))) j := by
      intro hj
      obtain ⟨k, rfl⟩ : ∃ k, j = k + 1 := ⟨j - 1, by omega⟩
      refine pv_last _ k ?_
      have e3 : p + (k + 1 + 1) - 1 = p + (k + 1) := by omega
      rw [e3] at hlast
      have := h.dig (p + (k + 1)) (by omega)
      unfold dgt
      omega
    have hTz : j = 0 → pv (fun i => dgt s.d (p + (i + 1))) j = 0 := by rintro rfl; rfl
    have hH : ∀ q, p = q + 1 → pv (dgt s.d) p % 2 = (s.d (p - 1) - 48) % 2 := by
      rintro q rfl
      show (10 * pv (dgt s.d) q + dgt s.d q) % 2 = _
      unfold dgt
      rw [Nat.add_sub_cancel]
      omega
    have hH0 : p = 0 → pv (dgt s.d) p = 0 := by rintro rfl; rfl
    obtain ⟨T, hT⟩ : ∃ T, T = pv (fun i => dgt s.d (p + (i + 1))) j := ⟨_, rfl⟩
    obtain ⟨H, hHe⟩ : ∃ H, H = pv (dgt s.d) p := ⟨_, rfl⟩
    obtain ⟨X, hX⟩ : ∃ X, X = 10 ^ j := ⟨_, rfl⟩
    rw [← hT] at hTlt hTpos hTz
    rw [← hX] at hTlt
    rw [← hT, ← hHe, ← hX, show dgt s.d (p + 0) = s.d p - 48 from rfl, Nat.pow_succ, ← hX]
    rw [← hHe] at hH hH0
    have hX1 : 0 < X := by omega
    have hdx : (s.d p - 48) * X ≤ 9 * X := Nat.mul_le_mul_right _ (by omega)
    have hdiv : (H * (X * 10) + ((s.d p - 48) * X + T)) / (X * 10) = H := by
      rw [Nat.add_comm, Nat.add_mul_div_right _ _ (by omega), Nat.div_eq_of_lt (by omega), Nat.zero_add]
    have hmod : (H * (X * 10) + ((s.d p - 48) * X + T)) % (X * 10) = (s.d p - 48) * X + T := by
      rw [Nat.add_comm, Nat.add_mul_mod_self_right, Nat.mod_eq_of_lt (by omega)]
    unfold rhe
    rw [hdiv, hmod]
    dsimp only
    by_cases c5 : s.d p = 53
    · rw [c5]
      by_cases cj : j = 0
      · have hT0 := hTz cj
        have hX0 : X = 1 := by rw [hX, cj, Nat.pow_zero]
        rw [if_pos ⟨rfl, by omega⟩, if_neg (by omega), if_neg (by omega)]
        congr 1
        cases p with
        | zero =>
          rw [hH0 rfl]
          rfl
        | succ q =>
          rw [hH q rfl]
          unfold b2n
          have e4 : decide (0 < q + 1) = true := by simp
          rw [e4, Bool.true_and]
          by_cases c7 : (s.d (q + 1 - 1) - 48) % 2 = 0
          · rw [c7]; rfl
          · have c8 : (s.d (q + 1 - 1) - 48) % 2 = 1 := by omega
            rw [c8]; rfl
      · have hT0 := hTpos (by omega)
        rw [if_neg (by omega), if_neg (by omega), if_pos (by omega)]
        rfl
    · rw [if_neg (by omega)]
      unfold b2n
      by_cases c6 : 53 ≤ s.d p
      · rw [if_pos (by simpa using c6)]
        have h6 : 6 * X ≤ (s.d p - 48) * X := Nat.mul_le_mul_right _ (by omega)
        rw [if_neg (by omega), if_pos (by omega)]
      · rw [if_neg (by simpa using c6)]
        have h6 : (s.d p - 48) * X ≤ 4 * X := Nat.mul_le_mul_right _ (by omega)
        rw [if_pos (by omega), Nat.add_zero]
def TooBig (N D : Nat) : Prop := mid 9218868437227405311 * D ≤ N
theorem tooBig_near {N D k : Nat} (h : IsNear N D k) (hk : 9218868437227405312 ≤ k) : TooBig N D := by
  have hm : mid 9218868437227405311 ≤ mid (k - 1) := by
    rcases Nat.lt_or_ge 9218868437227405311 (k - 1) with g | g
    · exact Nat.le_of_lt (Fp.mid_lt g)
    · rw [show k - 1 = 9218868437227405311 by omega]; exact Nat.le_refl _
  have hm2 := Nat.mul_le_mul_right D hm
  unfold TooBig
  rcases h.1 with g | g | g <;> omega
def ToldN (g : Bool) (N D : Nat) (f : Nat) (err : Value) : Prop :=
  (∃ r, f = sgN g + r ∧ r < 9218868437227405312 ∧ IsNear N D r ∧ err = .nilIface) ∨ (f = sgN g + 9218868437227405312 ∧ err = .iface 86 (.int .i64 1) ∧ TooBig N D)
set_option exponentiation.threshold 3000 in
theorem size_near {A B a b t m : Nat} (hB : 0 < B) (hA : A * 2 ^ a < B * 2 ^ b) (hm : m = rhe (A * 2 ^ a * 2 ^ 53) (B * 2 ^ b)) (ht : t + a = 1021 + b) (hlow : t = 0 ∨ B * 2 ^ b ≤ 2 * (A * 2 ^ a)) :
    IsNear (A * 2 ^ 1075) B (t * 4503599627370496 + m) ∧ m ≤ 9007199254740992 ∧ (B * 2 ^ b ≤ 2 * (A * 2 ^ a) → 4503599627370496 ≤ m) := by
  have hBb : 0 < B * 2 ^ b := Nat.mul_pos hB (Nat.two_pow_pos _)
  have hle : m ≤ 9007199254740992 := by
    have h1 := rhe_le (A * 2 ^ a * 2 ^ 53) (B * 2 ^ b)
    have h2 : A * 2 ^ a * 2 ^ 53 / (B * 2 ^ b) < 9007199254740992 := by
      rw [Nat.div_lt_iff_lt_mul hBb, Nat.mul_comm 9007199254740992]
      exact Nat.mul_lt_mul_of_pos_right hA (by decide)
    omega
  have hge : B * 2 ^ b ≤ 2 * (A * 2 ^ a) → 4503599627370496 ≤ m := by
    intro h
    have h1 := rhe_ge (A * 2 ^ a * 2 ^ 53) (B * 2 ^ b)
    have h2 : 4503599627370496 ≤ A * 2 ^ a * 2 ^ 53 / (B * 2 ^ b) := by
      rw [Nat.le_div_iff_mul_le hBb]
      have h3 := Nat.mul_le_mul_left 4503599627370496 h
      have e : (2 : Nat) ^ 53 = 9007199254740992 := by decide
      rw [e]
      omega
    omega
  refine ⟨near_of_rhe hB ?_ hle ?_, hle, hge⟩
  · rw [hm]
    apply rhe_ratio hBb (Nat.mul_pos hB (Nat.two_pow_pos _))
    have e : (2 : Nat) ^ a * 2 ^ 53 * 2 ^ (t + 1) = 2 ^ 1075 * 2 ^ b := by
      rw [← Nat.pow_add, ← Nat.pow_add, ← Nat.pow_add]; congr 1; omega
    calc A * 2 ^ a * 2 ^ 53 * (B * 2 ^ (t + 1)) = A * B * (2 ^ a * 2 ^ 53 * 2 ^ (t + 1)) := by
          generalize (2 : Nat) ^ a = x; generalize (2 : Nat) ^ 53 = y; generalize (2 : Nat) ^ (t + 1) = z; simp only [Nat.mul_assoc, Nat.mul_comm, Nat.mul_left_comm]
      _ = A * B * (2 ^ 1075 * 2 ^ b) := by rw [e]
      _ = _ := by generalize (2 : Nat) ^ 1075 = x; generalize (2 : Nat) ^ b = y; simp only [Nat.mul_assoc, Nat.mul_comm, Nat.mul_left_comm]
  · rcases hlow with h | h
    · exact .inl h
    · right
      apply Nat.le_of_mul_le_mul_right _ (Nat.two_pow_pos a)
      have e : (2 : Nat) ^ 54 * 2 ^ t * 2 ^ a = 2 ^ 1075 * 2 ^ b := by
        rw [← Nat.pow_add, ← Nat.pow_add, ← Nat.pow_add]; congr 1; omega
      calc 18014398509481983 * (B * 2 ^ t) * 2 ^ a ≤ 2 ^ 54 * (B * 2 ^ t) * 2 ^ a := Nat.mul_le_mul_right _ (Nat.mul_le_mul_right _ (by decide))
        _ = B * (2 ^ 54 * 2 ^ t * 2 ^ a) := by generalize (2 : Nat) ^ 54 = x; generalize (2 : Nat) ^ t = y; generalize (2 : Nat) ^ a = z; simp only [Nat.mul_assoc, Nat.mul_comm, Nat.mul_left_comm]
        _ = 2 ^ 1075 * (B * 2 ^ b) := by rw [e]; generalize (2 : Nat) ^ 1075 = x; generalize (2 : Nat) ^ b = y; simp only [Nat.mul_comm, Nat.mul_left_comm]
        _ ≤ 2 ^ 1075 * (2 * (A * 2 ^ a)) := Nat.mul_le_mul_left _ h
        _ = 2 * (A * 2 ^ 1075) * 2 ^ a := by generalize (2 : Nat) ^ 1075 = x; generalize (2 : Nat) ^ a = y; simp only [Nat.mul_assoc, Nat.mul_comm, Nat.mul_left_comm]
end Go.Proofs.YtapinbbflfkglaaGreatDoor
namespace Go.Proofs.YtapinbbflfkglaaGreatDoor
open Go.RowKit
open Go.Proofs.YtapinbbflfkglaaGreatDoor.Fp (IsNear rhe)
set_option maxRecDepth 100000
theorem i64_and2047 (n : Int) (h1 : 0 ≤ n) (h2 : n < 2048) : bits .and .i64 n 2047 = n := by
  have h127 : (BitVec.ofInt 64 2047).toNat = 2 ^ 11 - 1 := by decide
  have key : (BitVec.ofInt 64 n &&& BitVec.ofInt 64 2047).toNat = (n % ((2 ^ 64 : Nat) : Int)).toNat % 2 ^ 11 := by
    rw [BitVec.toNat_and, BitVec.toNat_ofInt, h127, Nat.and_two_pow_sub_one_eq_mod]
  show IntKind.i64.wrap ((BitVec.ofInt 64 n &&& BitVec.ofInt 64 2047).toNat : Nat) = n
  rw [key, IntKind.wrap_i64]
  omega
theorem fb_bits (Z Y : Nat) (hZ : Z < 18446744073709551616) (hY : Y < 2048) :
    bits .and .u64 ((Z : Nat) : Int) 4503599627370495 = ((Z % 4503599627370496 : Nat) : Int) ∧ bits .or .u64 ((Z % 4503599627370496 : Nat) : Int) ((Y * 4503599627370496 : Nat) : Int) = ((Z % 4503599627370496 + Y * 4503599627370496 : Nat) : Int) ∧
    bits .or .u64 ((Z % 4503599627370496 + Y * 4503599627370496 : Nat) : Int) 9223372036854775808 = ((9223372036854775808 + (Z % 4503599627370496 + Y * 4503599627370496) : Nat) : Int) := by
  have hl : Z % 4503599627370496 < 4503599627370496 := Nat.mod_lt _ (by decide)
  refine ⟨?_, ?_, ?_⟩
  · have := u64_and_nat Z 4503599627370495 hZ (by decide)
    simp only [Int.cast_ofNat_Int] at this
    rw [this, show (4503599627370495 : Nat) = 2 ^ 52 - 1 by decide, Nat.and_two_pow_sub_one_eq_mod]
  · obtain ⟨l, hle⟩ : ∃ l, l = Z % 4503599627370496 := ⟨_, rfl⟩
    rw [← hle] at hl ⊢
    rw [u64_or_nat _ _ (by omega) (by omega)]
    have := or_place 0 l Y (.inl rfl) hl hY
    simp only [Nat.mul_zero, Nat.zero_add] at this
    rw [this, Nat.add_comm]
  · obtain ⟨l, hle⟩ : ∃ l, l = Z % 4503599627370496 + Y * 4503599627370496 := ⟨_, rfl⟩
    have hl2 : l < 9223372036854775808 := by omega
    rw [← hle]
    have := u64_or_nat l 9223372036854775808 (by omega) (by decide)
    simp only [Int.cast_ofNat_Int] at this
    rw [this]
    have e := or_hi 1 l 63 (by omega)
    rw [Nat.mul_one] at e
    rw [Nat.or_comm, show (9223372036854775808 : Nat) = 2 ^ 63 by decide, e]
theorem ri_any (w : World) (g : Nat) (s : Dec) (n A B : Nat) (h : Good s n) (htr : s.tr = false) (hs : s.is n A B) (hB : 0 < B) (hA : A < B * 2 ^ 53) (hg : g < w.heap.size) :
    Calls Tryz.prog 162 #[.pointer (some ⟨g, 0, none⟩)] (putD w g s) fun e w' => e = .returned (.int .u64 ((rhe A B : Nat) : Int)) ∧ ∃ N, w' = (putD w g s).drewN N := by
  by_cases c : s.dp < 0
  · obtain ⟨q, hq⟩ : ∃ q : Nat, s.dp = -((q + 1 : Nat) : Int) := ⟨(-s.dp).toNat - 1, by omega⟩
    have h1 := h.ok.hi hs hB 0 (q + 1) (by omega)
    have h2 : A * 10 ≤ A * 10 ^ (q + 1) := Nat.mul_le_mul_left _ (by rw [Nat.pow_succ]; have := Nat.pow_pos (n := q) (show 0 < 10 by omega); omega)
    rw [Nat.pow_zero, Nat.mul_one] at h1
    have h0 : rhe A B = 0 := rhe_small (by omega)
    rw [h0]
    exact ri_neg w g s c hg
  · obtain ⟨p, hp⟩ : ∃ p : Nat, s.dp = (p : Nat) := ⟨s.dp.toNat, by omega⟩
    have h1 := h.ok.lo hs p 0 (by omega)
    rw [Nat.pow_zero, Nat.mul_one] at h1
    have hp17 : p ≤ 17 := by
      apply Classical.byContradiction
      intro c2
      have h2 : 10 ^ 18 ≤ 10 ^ p := Nat.pow_le_pow_right (n := 10) (by omega) (by omega)
      have h3 : B * 10 ^ 18 ≤ B * 10 ^ p := Nat.mul_le_mul_left _ h2
      omega
    rw [← ru_rhe h hs hB p hp]
    exact ri_walk w g s n p h.ok htr hp hp17 hg
structure St3 (s s3 : Dec) (n3 A B t u nn : Nat) : Prop where
  ok : Okd s3 n3
  is : s3.is n3 (A * 2 ^ u) (B * 2 ^ (t + nn))
  d1 : s3.dp ≤ 0
  d2 : -200000 ≤ s3.dp
  neg : s3.neg = s.neg
  tr : s3.tr = s.tr
  room : (t : Int) - u ≤ 1024 → n3 ≤ 784
theorem Scaled.st3 {s s2 : Dec} {n2 A B t u : Nat} (h : Scaled s s2 n2 A B t u) : St3 s s2 n2 A B t u 0 :=
  ⟨h.good, h.is, by rw [h.dp]; omega, by rw [h.dp]; omega, h.neg, h.tr, h.room⟩
theorem Scaled.st3_moved {s s2 s3 : Dec} {n2 n3 A B t u nn : Nat} (h : Scaled s s2 n2 A B t u) (m : Moved s2 s3 n2 n3 0 nn) (hn : nn ≤ 120) (hs : (t : Int) - u ≤ -1) : St3 s s3 n3 A B t u nn := by
  have h1 := m.is _ _ h.is
  rw [Nat.pow_zero, Nat.mul_one, Nat.mul_assoc, ← Nat.pow_add] at h1
  have h2 := m.up
  have h3 := m.down
  have h4 := m.len
  have h5 := h.dp
  have h6 := h.small hs
  exact ⟨m.good.ok, h1, by omega, by omega, by rw [m.neg, h.neg], by rw [m.tr, h.tr], fun _ => by omega⟩
theorem fin_ans {A B t u nn m : Nat} {X : Int} (hB : 0 < B) (lo : B * 2 ^ t ≤ 2 * (A * 2 ^ u)) (hi : A * 2 ^ u < B * 2 ^ t) (hX : X = (t : Int) - u - 1 + nn) (hc : (nn = 0 ∧ -1022 ≤ X) ∨ X = -1022) (hm : m = rhe (A * 2 ^ u * 2 ^ 53) (B * 2 ^ (t + nn))) :
    ∃ k : Nat, (k : Int) = X + 1022 ∧ m ≤ 9007199254740992 ∧ IsNear (A * 2 ^ 1075) B (k * 4503599627370496 + m) ∧ (k = 0 ∨ 4503599627370496 ≤ m) := by
  have hA : A * 2 ^ u < B * 2 ^ (t + nn) := by
    have : B * 2 ^ t * 1 ≤ B * 2 ^ t * 2 ^ nn := Nat.mul_le_mul_left _ (Nat.two_pow_pos nn)
    rw [Nat.pow_add, ← Nat.mul_assoc]
    omega
  obtain ⟨k, hk⟩ : ∃ k : Nat, (k : Int) = X + 1022 := ⟨(X + 1022).toNat, by omega⟩
  have hlow : k = 0 ∨ B * 2 ^ (t + nn) ≤ 2 * (A * 2 ^ u) := by
    rcases hc with ⟨c, _⟩ | c
    · right; rw [c, Nat.add_zero]; exact lo
    · left; omega
  obtain ⟨a1, a2, a3⟩ := size_near hB hA hm (t := k) (by omega) hlow
  refine ⟨k, hk, a2, a1, ?_⟩
  rcases hlow with h | h
  · exact .inl h
  · exact .inr (a3 h)
end Go.Proofs.YtapinbbflfkglaaGreatDoor
namespace Go.Proofs.YtapinbbflfkglaaGreatDoor
def toLabel (J : Nat → Act → World → Prop) (Q : Exit → Act → World → Prop) : Exit → Act → World → Prop
  | .goto l, a, w => J l a w
  | e, a, w => Q e a w
section
variable {P : Program} {Q : Exit → Act → World → Prop} {a : Act} {w : World} {J : Nat → Act → World → Prop}
@[go_sem] theorem toLabel_normal : toLabel J Q .normal a w = Q .normal a w := rfl
@[go_sem] theorem toLabel_exit (id : Nat) : toLabel J Q (.exit id) a w = Q (.exit id) a w := rfl
@[go_sem] theorem toLabel_ret : toLabel J Q .ret a w = Q .ret a w := rfl
theorem wp_scope_forward {c : Code} (R : Nat → Code) (hf : ∀ l, l < 2 → findLabel c l = some (R l))
    (first : c.wp P (toLabel (fun l a w => l < 2 ∧ (R l).wp P (Exit.noGoto Q) a w) Q) a w) : (Code.scope c).wp P Q a w := by
  intro b k cs
  obtain ⟨e, a₁, w₁, hq, harr⟩ := first b (.inScope c :: k) cs
  cases e with
  | normal => exact ⟨.normal, a₁, w₁, hq, .head step_scope (Steps.trans harr (.one step_inScope))⟩
  | exit id => exact ⟨.exit id, a₁, w₁, hq, fun k' hk => .head step_scope (harr k' (by simp [exitTo, hk]))⟩
  | goto l =>
    obtain ⟨hl, hr⟩ := hq
    have hg : gotoIn l (.inScope c :: k) = some (.code (R l) :: .inScope c :: k) := by simp [gotoIn, hf l hl]
    obtain ⟨e₂, a₂, w₂, hq₂, harr₂⟩ := hr b (.inScope c :: k) cs
    have h1 := harr _ hg
    cases e₂ with
    | normal => exact ⟨.normal, a₂, w₂, hq₂, .head step_scope (Steps.trans h1 (Steps.trans harr₂ (.one step_inScope)))⟩
    | exit id => exact ⟨.exit id, a₂, w₂, hq₂, fun k' hk => .head step_scope (Steps.trans h1 (harr₂ k' (by simp [exitTo, hk])))⟩
    | goto l' => exact hq₂.elim
    | ret => exact ⟨_, a₂, w₂, hq₂, .of_steps (.head step_scope h1) harr₂⟩
    | panic ch => exact ⟨_, a₂, w₂, hq₂, .of_steps (.head step_scope h1) harr₂⟩
    | outgrown => exact ⟨_, a₂, w₂, hq₂, .of_steps (.head step_scope h1) harr₂⟩
  | ret => exact ⟨_, a₁, w₁, hq, .of_steps (.one step_scope) harr⟩
  | panic ch => exact ⟨_, a₁, w₁, hq, .of_steps (.one step_scope) harr⟩
  | outgrown => exact ⟨_, a₁, w₁, hq, .of_steps (.one step_scope) harr⟩
def toLabels (J0 J1 : Act → World → Prop) (Q : Exit → Act → World → Prop) : Exit → Act → World → Prop
  | .goto 0, a, w => J0 a w
  | .goto 1, a, w => J1 a w
  | .goto _, _, _ => False
  | e, a, w => Q e a w
@[go_sem] theorem toLabels_normal {J0 J1 : Act → World → Prop} : toLabels J0 J1 Q .normal a w = Q .normal a w := rfl
@[go_sem] theorem toLabels_exit {J0 J1 : Act → World → Prop} (id : Nat) : toLabels J0 J1 Q (.exit id) a w = Q (.exit id) a w := rfl
@[go_sem] theorem toLabels_ret {J0 J1 : Act → World → Prop} : toLabels J0 J1 Q .ret a w = Q .ret a w := rfl
@[go_sem] theorem toLabels_0 {J0 J1 : Act → World → Prop} : toLabels J0 J1 Q (.goto 0) a w = J0 a w := rfl
@[go_sem] theorem toLabels_1 {J0 J1 : Act → World → Prop} : toLabels J0 J1 Q (.goto 1) a w = J1 a w := rfl
theorem Code.wp_mono' {c : Code} {Q R : Exit → Act → World → Prop} (h : c.wp P Q a w) (i : ∀ e a w, Q e a w → R e a w) : c.wp P R a w := by
  intro b k cs
  obtain ⟨e, a₁, w₁, hq, harr⟩ := h b k cs
  exact ⟨e, a₁, w₁, i _ _ _ hq, harr⟩
theorem wp_scope_two {c r0 r1 : Code} (h0 : findLabel c 0 = some r0) (h1 : findLabel c 1 = some r1)
    (first : ∀ J0 J1 : Act → World → Prop, (∀ a w, r0.wp P (Exit.noGoto Q) a w → J0 a w) → (∀ a w, r1.wp P (Exit.noGoto Q) a w → J1 a w) → c.wp P (toLabels J0 J1 Q) a w) : (Code.scope c).wp P Q a w := by
  refine wp_scope_forward (fun l => if l = 0 then r0 else r1) (fun l hl => ?_) (Code.wp_mono' (first (fun a w => r0.wp P (Exit.noGoto Q) a w) (fun a w => r1.wp P (Exit.noGoto Q) a w) (fun _ _ h => h) (fun _ _ h => h)) ?_)
  · rcases (show l = 0 ∨ l = 1 by omega) with rfl | rfl
    · rw [if_pos rfl]; exact h0
    · rw [if_neg (by decide)]; exact h1
  · intro e a w h
    cases e with
    | goto l =>
      match l, h with
      | 0, h => exact ⟨by decide, h⟩
      | 1, h => exact ⟨by decide, h⟩
      | l + 2, h => exact h.elim
    | normal => exact h
    | exit id => exact h
    | ret => exact h
    | panic ch => exact h
    | outgrown => exact h
end
end Go.Proofs.YtapinbbflfkglaaGreatDoor
namespace Go.Proofs.YtapinbbflfkglaaGreatDoor
open Go.RowKit
set_option maxRecDepth 100000
attribute [local go_sem] setCell_drewN
structure SlowTab (w : World) (gp ga : Addr) : Prop where
  cut : CutTab w gp
  row : w.cell? ⟨9, 0, none⟩ = some (.slice (some ga) 9 9)
  pow : ∀ p, p < 9 → w.cell? (ga.add p) = some (.int .i64 (kR p : Nat))
  i0 : w.cell? ⟨6, 0, none⟩ = some (.int .u64 52)
  i1 : w.cell? ⟨6, 1, none⟩ = some (.int .u64 11)
  i2 : w.cell? ⟨6, 2, none⟩ = some (.int .i64 (-1023))
set_option maxHeartbeats 1000000 in
theorem fb_big (w : World) (g : Nat) (gp ga : Addr) (s : Dec) (n : Nat) (T : SlowTab w gp ga) (hne : 6 ≠ g) (h : Okd s n) (hbig : 310 < s.dp) (hg : g < w.heap.size) :
    Calls Tryz.prog 125 #[.pointer (some ⟨g, 0, none⟩), .pointer (some ⟨6, 0, none⟩)] (putD w g s) fun e w' => e = .returned (.tuple #[.int .u64 ((sgN s.neg + 9218868437227405312 : Nat) : Int), .bool true]) ∧ ∃ N, w' = (putD w g s).drewN N := by
  have f0 := cell_putD_nd w g s hg
  rw [h.nd] at f0
  have f2 := cell_putD_dp w g s hg
  have f3 := cell_putD_neg w g s hg
  have t0 := (cell_putD_ne w g s ⟨6, 0, none⟩ hne).trans T.i0
  have t1 := (cell_putD_ne w g s ⟨6, 1, none⟩ hne).trans T.i1
  have t2 := (cell_putD_ne w g s ⟨6, 2, none⟩ hne).trans T.i2
  have hn1 := h.pos
  obtain ⟨W, hW⟩ : ∃ W, W = putD w g s := ⟨_, rfl⟩
  rw [← hW] at f0 f2 f3 t0 t1 t2 ⊢
  clear hW h T
  obtain ⟨D, hD⟩ : ∃ D, D = s.dp := ⟨_, rfl⟩
  obtain ⟨b, hb⟩ : ∃ b, b = s.neg := ⟨_, rfl⟩
  rw [← hD] at f2 hbig
  rw [← hb] at f3 ⊢
  clear hD hb
  go_enter Tryz.func125, Tryz.ntmps125
  go_wp2_with fail
  refine wp_scope_two (by rfl) (by rfl) ?_
  intro J0 J1 hJ0 hJ1
  go_wp2_with fail
  go_step3
  go_wp2_with fail
  refine hJ1 _ _ ?_
  clear hJ0 hJ1
  go_wp2_with fail
  go_quiet (fail)
  go_wp2_with fail
  go_step3
  have c1 : bits .and .u64 0 4503599627370495 = 0 := by decide
  have c2 : bits .and .i64 2047 2047 = 2047 := by decide
  have c3 : bits .or .u64 0 9218868437227405312 = 9218868437227405312 := by decide
  have c4 : bits .or .u64 9218868437227405312 9223372036854775808 = 18442240474082181120 := by decide
  go_wp2_with fail
  go_quiet (fail)
  cases b
  · go_wp2_with fail
    rw [Exit.noGoto_ret]
    go_ret2
    exact ⟨rfl, _, rfl⟩
  · go_wp2_with fail
    go_quiet (fail)
    go_wp2_with fail
    rw [Exit.noGoto_ret]
    go_ret2
    exact ⟨rfl, _, by rw [World.drewN_drewN]⟩
end Go.Proofs.YtapinbbflfkglaaGreatDoor
