import Derived.Test.YtapinbbflfkglaaGreatDoorVRt
import Derived.Test.YtapinbbflfkglaaGreatDoorVRj
import Derived.Test.YtapinbbflfkglaaGreatDoorVRu
import Derived.Test.YtapinbbflfkglaaGreatDoorVRq
import Derived.Deep.Strs
namespace Go.Proofs.YtapinbbflfkglaaGreatDoor
open Go.RowKit Go.Lib Go.Sort
open Go.Proofs.YtapinbbflfkglaaGreatDoor.Fp (IsNear mid)
open Go.Proofs.YtapinbbflfkglaaGreatDoor.PFloatsParses (near_mono)
open PFloatsParses (nN nD nD_pos)
set_option maxRecDepth 100000
attribute [local go_sem] setCell_drewN
set_option exponentiation.threshold 3000 in
theorem mid_topN : mid 9218868437227405311 = 18014398509481983 * 2 ^ 2045 := by
  unfold Fp.mid Fp.mant Fp.plc
  rw [if_neg (by decide)]
set_option exponentiation.threshold 3000 in
theorem big_pow : 18014398509481983 * 2 ^ 2045 ≤ 10 ^ 310 * 2 ^ 1075 := by decide +kernel
set_option exponentiation.threshold 3000 in
theorem big_of {A B : Nat} (h : B * 10 ^ 310 ≤ A) : TooBig (A * 2 ^ 1075) B := by
  unfold TooBig
  rw [mid_topN]
  calc 18014398509481983 * 2 ^ 2045 * B ≤ 10 ^ 310 * 2 ^ 1075 * B := Nat.mul_le_mul_right _ big_pow
    _ = B * 10 ^ 310 * 2 ^ 1075 := by generalize (10 : Nat) ^ 310 = x; generalize (2 : Nat) ^ 1075 = y; rw [Nat.mul_comm _ B, Nat.mul_assoc]
    _ ≤ A * 2 ^ 1075 := Nat.mul_le_mul_right _ h
set_option exponentiation.threshold 3000 in
theorem fb_all (w : World) (g : Nat) (gp ga : Addr) (s : Dec) (n0 A B : Nat) (T : SlowTab w gp ga) (hne : gp.block ≠ g) (hna : ga.block ≠ g) (h6 : 6 ≠ g) (h9 : 9 ≠ g) (h12 : 12 ≠ g) (h : Okd s n0) (hs : s.is n0 A B) (hB : 0 < B) (hn0 : n0 ≤ 64) (htr : s.tr = false) (hlo : -330 ≤ s.dp) (hg : g < w.heap.size) :
    Calls Tryz.prog 125 #[.pointer (some ⟨g, 0, none⟩), .pointer (some ⟨6, 0, none⟩)] (putD w g s) fun e w' => (∃ r ovf, e = .returned (.tuple #[.int .u64 ((sgN s.neg + r : Nat) : Int), .bool ovf]) ∧ FbAns (A * 2 ^ 1075) B r ovf) ∧ ∃ N s', w' = (putD w g s').drewN N := by
  by_cases c : s.dp ≤ 310
  · exact fb_any w g gp ga s n0 A B T hne hna h6 h9 h12 h hs hB hn0 htr hlo c hg
  · refine (fb_big w g gp ga s n0 T h6 h (by omega) hg).mono ?_
    rintro e w' ⟨rfl, N, rfl⟩
    refine ⟨⟨_, _, rfl, .inr ⟨rfl, rfl, big_of ?_⟩⟩, N, s, rfl⟩
    obtain ⟨p, hp⟩ : ∃ p : Nat, s.dp = ((311 + p : Nat) : Int) := ⟨(s.dp - 311).toNat, by omega⟩
    have h1 := h.lo hs (311 + p) 0 (by omega)
    rw [Nat.pow_zero, Nat.mul_one] at h1
    have h2 : B * 10 ^ 310 * 10 ≤ B * 10 ^ (311 + p) := by
      rw [Nat.mul_assoc, ← Nat.pow_succ]
      exact Nat.mul_le_mul_left _ (Nat.pow_le_pow_right (n := 10) (by omega) (by omega))
    omega
def decZ : Dec := ⟨fun _ => 0, 0, 0, false, false⟩
theorem fresh_dec (w : World) : putD { w with heap := w.heap.push (.cells decZ.cells 122) } w.heap.size decZ = { w with heap := w.heap.push (.cells decZ.cells 122) } := by
  unfold putD
  congr 1
  apply Array.ext_getElem?
  intro i
  rw [Array.getElem?_setIfInBounds]
  by_cases e : w.heap.size = i
  · subst e
    simp
  · rw [if_neg e]
theorem zero122 : Tryz.zeroCells122 = decZ.cells := by kernel_rfl
theorem alloc_dec (w : World) : putD (w.alloc (Obj.cells Tryz.zeroCells122 122)) w.heap.size decZ = w.alloc (Obj.cells Tryz.zeroCells122 122) := by
  rw [zero122]
  exact fresh_dec w
theorem below_putD {B b M : Nat} {w w1 : World} (h : Below B w w1) (hb : B ≤ b) (s : Dec) : Below B w ((putD w1 b s).drewN M) := by
  refine h.trans ⟨rfl, rfl, rfl, ?_, fun k hk => ?_⟩
  · show w1.heap.size ≤ (w1.heap.setIfInBounds b (.cells s.cells 122)).size
    simp
  · show (w1.heap.setIfInBounds b (.cells s.cells 122))[k]? = w1.heap[k]?
    rw [Array.getElem?_setIfInBounds, if_neg (by omega)]
theorem toldN_of_fin {g : Bool} {N D r : Nat} (h : FbAns N D r false) : ToldN g N D (sgN g + r) .nilIface := by
  rcases h with ⟨_, h1, h2⟩ | ⟨h, _⟩
  · exact .inl ⟨r, rfl, h1, h2, rfl⟩
  · cases h
theorem toldN_of_ovf {g : Bool} {N D r : Nat} (h : FbAns N D r true) : ToldN g N D (sgN g + r) (.iface 86 (.int .i64 1)) := by
  rcases h with ⟨h, _⟩ | ⟨_, h1, h2⟩
  · cases h
  · exact .inr ⟨by rw [h1], rfl, h2⟩
set_option maxHeartbeats 2000000 in
theorem atof_slow (l : List UInt8) (w : World) (gp ga : Addr) (m : Nat) (x : Int) (g : Bool) (N D : Nat) (hs : NotSpecial (.string ⟨l.toArray⟩)) (hr : ReadsAs (.string ⟨l.toArray⟩) m x g true l.length) (hm : m ≠ 0) (hm64 : m < 10000000000000000000) (hx : x ≤ 310) (hx2 : -345 ≤ x)
    (hT : ∀ w', Below w.heap.size w w' → Tabs w' ∧ SlowTab w' gp ga) (hgp : gp.block < w.heap.size) (hga : ga.block < w.heap.size) (h12 : 12 < w.heap.size)
    (hfast : psR m x = psR (m + 1) x → ToldN g N D (sgN g + psR m x) (psErrR m x))
    (hslow : ∀ w1 b, Below w.heap.size w w1 → b < w1.heap.size → w.heap.size ≤ b → Calls Tryz.prog 124 #[.pointer (some ⟨b, 0, none⟩), .string ⟨l.toArray⟩] (putD w1 b decZ) fun e w' => e = .returned (.bool true) ∧ ∃ s M, w' = putD (w1.drewN M) b s ∧
      Calls Tryz.prog 125 #[.pointer (some ⟨b, 0, none⟩), .pointer (some ⟨6, 0, none⟩)] (putD (w1.drewN M) b s) fun e w' => (∃ r ovf, e = .returned (.tuple #[.int .u64 ((sgN g + r : Nat) : Int), .bool ovf]) ∧ FbAns N D r ovf) ∧ ∃ M s', w' = (putD w1 b s').drewN M) :
    Calls Tryz.prog 88 #[.string ⟨l.toArray⟩] w fun e w' => (∃ f err, e = .returned (.tuple #[.float .f64 f, .int .i64 (l.length : Nat), err]) ∧ ToldN g N D f err) ∧ Below w.heap.size w w' := by
  have k := ext127
  have hxs : (⟨l.toArray⟩ : ByteArray).extract 0 l.length = ⟨l.toArray⟩ := bs_drop l 0 l.length rfl
  have T0 := (hT w (Below.refl _ _)).1
  have tOpt := T0.opt
  have hm2 : (((m : Nat) : Int) == 0) = false := by simp; omega
  have hP := p64_any m x g w (by omega) (by omega) hx2 hx T0
  have hP2 := Lib.hid (fun w1 (hb : Below w.heap.size w w1) => p64_any (m + 1) x g w1 (by omega) (by omega) hx2 hx (hT w1 hb).1)
  have ht1 := told_ps (g := g) (d := m) (p := x) (by omega) (by omega) hx2 hx
  have ht2 := told_ps (g := g) (d := m + 1) (p := x) (by omega) (by omega) hx2 hx
  have hR0 : psR m x ≤ 9218868437227405312 := by rcases ht1 with ⟨r, a, b, _⟩ | ⟨a, _⟩ <;> omega
  have hR1 : psR (m + 1) x ≤ 9218868437227405312 := by rcases ht2 with ⟨r, a, b, _⟩ | ⟨a, _⟩ <;> omega
  obtain ⟨R, hR⟩ : ∃ R, R = psR m x := ⟨_, rfl⟩
  obtain ⟨R1, hR1e⟩ : ∃ R, R = psR (m + 1) x := ⟨_, rfl⟩
  obtain ⟨E, hE⟩ : ∃ R, R = psErrR m x := ⟨_, rfl⟩
  obtain ⟨E1, hE1⟩ : ∃ R, R = psErrR (m + 1) x := ⟨_, rfl⟩
  rw [← hR, ← hE] at hP hfast
  rw [← hR1e] at hfast
  rw [← hR1e, ← hE1] at hP2
  rw [← hR] at hR0
  rw [← hR1e] at hR1
  clear ht1 ht2 T0 hR hR1e hE hE1
  have hord : FloatKind.f64.format.order (sgN g + R) (sgN g + R1) = some (compare (Fp.sv (sgN g + R)) (Fp.sv (sgN g + R1))) := by
    apply Fp.order_eq
    · unfold Fp.inf Fp.half sgN; cases g <;> simp <;> omega
    · unfold Fp.inf Fp.half sgN; cases g <;> simp <;> omega
  have hcmp : ∃ c, compare (Fp.sv (sgN g + R)) (Fp.sv (sgN g + R1)) = c ∧ (c = .eq → R = R1) := by
    refine ⟨_, rfl, fun h => ?_⟩
    rw [Int.compare_eq_eq] at h
    unfold Fp.sv Fp.half sgN at h
    cases g <;> simp at h <;> omega
  obtain ⟨c, hc1, hc2⟩ := hcmp
  rw [hc1] at hord
  have hfast2 := Lib.hid (fun h => hfast (hc2 h))
  replace hslow := Lib.hid hslow
  replace hT := Lib.hid hT
  replace hP := Lib.hid hP
  clear hc1 hc2 hfast
  go_enter Tryz.func88, Tryz.ntmps88
  go_wp2_with fail
  refine (hs _).mono ?_
  rintro e w' ⟨rfl, rfl⟩
  go_wp2_with fail
  refine (hr _).mono ?_
  rintro e w' ⟨rfl, rfl⟩
  cases g
  all_goals
    go_wp2_with fail
    refine (bool2_any _ _).mono ?_
    rintro e w' ⟨rfl, rfl⟩
    go_wp2_with fail
    refine hP.out.mono ?_
    rintro e w1 ⟨rfl, hb1⟩
    have hP3 := Lib.hid (hP2.out w1 hb1)
    replace hb1 := Lib.hid hb1
    clear hP hP2
    go_wp2_with fail
    refine hP3.out.mono ?_
    rintro e w2 ⟨rfl, hb2⟩
    have hb3 := Lib.hid (hb1.out.trans (hb2.mono hb1.out.size))
    have hb4 := Lib.hid ((hb3.out).alloc hb3.out.size (Obj.cells Tryz.zeroCells122 122))
    have HS := hslow.out (w2.alloc (Obj.cells Tryz.zeroCells122 122)) w2.heap.size hb4.out (by rw [World.alloc]; simp) hb3.out.size
    rw [alloc_dec] at HS
    replace HS := Lib.hid HS
    clear hb2 hP3
    cases c
    case eq =>
      go_wp2_with fail
      go_ret3
      exact ⟨⟨_, _, rfl, hfast2.out (by first | trivial | rfl)⟩, hb3.out⟩
    all_goals
      go_wp2_with fail
      refine HS.out.mono ?_
      rintro e w' ⟨rfl, s, M, rfl, hfb⟩
      replace hfb := Lib.hid hfb
      go_wp2_with fail
      refine hfb.out.mono ?_
      rintro e w' ⟨⟨r, ovf, rfl, hans⟩, M', s', rfl⟩
      have hb5 := Lib.hid (below_putD hb4.out hb3.out.size (M := M') s')
      cases ovf
      · have hA : Hid (∀ g, ToldN g N D (sgN g + r) .nilIface) := Lib.hid (fun g => toldN_of_fin hans)
        clear hans
        go_wp2_with fail
        go_ret3
        exact ⟨⟨_, _, rfl, hA.out _⟩, hb5.out⟩
      · have hA : Hid (∀ g, ToldN g N D (sgN g + r) (.iface 86 (.int .i64 1))) := Lib.hid (fun g => toldN_of_ovf hans)
        clear hans
        go_wp2_with fail
        go_ret3
        exact ⟨⟨_, _, rfl, hA.out _⟩, hb5.out⟩
end Go.Proofs.YtapinbbflfkglaaGreatDoor
namespace Go.Proofs.YtapinbbflfkglaaGreatDoor
open Go.RowKit Go.Lib Go.Sort
open Go.Proofs.YtapinbbflfkglaaGreatDoor.Fp (IsNear mid)
open PFloatsParses (nN nD nD_pos)
set_option maxRecDepth 100000
theorem mid0 : mid 0 = 1 := by decide
theorem nN_move (w z : Nat) (x : Int) : nN (w * 10 ^ z) x * nD (x + (z : Nat)) = nN w (x + (z : Nat)) * nD x := by
  unfold nN nD
  have e : (10 : Nat) ^ z * 10 ^ x.toNat * 10 ^ (-(x + (z : Int))).toNat = 10 ^ (x + (z : Int)).toNat * 10 ^ (-x).toNat := by
    rw [← Nat.pow_add, ← Nat.pow_add, ← Nat.pow_add]; congr 1; omega
  generalize (2 : Nat) ^ 1075 = T
  generalize (10 : Nat) ^ (-(x + (z : Int))).toNat = a at *
  generalize (10 : Nat) ^ (x + (z : Int)).toNat = c at *
  generalize (10 : Nat) ^ (-x).toNat = f at *
  generalize (10 : Nat) ^ x.toNat = h at *
  generalize (10 : Nat) ^ z = k at *
  calc w * k * h * T * a = w * T * (k * h * a) := by grind
    _ = w * T * (c * f) := by rw [e]
    _ = _ := by grind
theorem nN_le {a b : Nat} (x : Int) (h : a ≤ b) : nN a x ≤ nN b x := Nat.mul_le_mul_right _ (Nat.mul_le_mul_right _ h)
theorem near_between {N1 N N2 D r : Nat} (h1 : IsNear N1 D r) (h2 : IsNear N2 D r) (a : N1 ≤ N) (b : N ≤ N2) : IsNear N D r := by
  obtain ⟨p, _⟩ := h1
  obtain ⟨_, q⟩ := h2
  refine ⟨?_, ?_⟩
  · rcases p with p | p | ⟨p, e⟩
    · exact .inl p
    · exact .inr (.inl (by omega))
    · by_cases c : mid (r - 1) * D = N
      · exact .inr (.inr ⟨c, e⟩)
      · exact .inr (.inl (by omega))
  · rcases q with q | ⟨q, e⟩
    · exact .inl (by omega)
    · by_cases c : N = mid r * D
      · exact .inr ⟨c, e⟩
      · exact .inl (by omega)
theorem tooBig_ratio {N D N' D' : Nat} (hD : 0 < D) (h : TooBig N D) (e : N * D' ≤ N' * D) : TooBig N' D' := by
  unfold TooBig at *
  apply Nat.le_of_mul_le_mul_right _ hD
  refine Nat.le_trans ?_ e
  rw [Nat.mul_right_comm]
  exact Nat.mul_le_mul_right _ h
theorem told_N {g : Bool} {m : Nat} {x : Int} {f : Nat} {err : Value} {N D : Nat} (h : Told g m x f err) (hD : 0 < D) (e : nN m x * D = N * nD x) : ToldN g N D f err := by
  rcases h with ⟨r, a, b, c, d⟩ | ⟨a, b, k, c, d⟩
  · exact .inl ⟨r, a, b, near_ratio (nD_pos x) hD e c, d⟩
  · exact .inr ⟨a, b, tooBig_ratio (nD_pos x) (tooBig_near d c) (Nat.le_of_eq e)⟩
theorem told_fast {g : Bool} {m j D : Nat} {x : Int} (h1 : 1 ≤ m) (h2 : m < 10000000000000000000) (p1 : -345 ≤ x + (j : Nat)) (p2 : x + (j : Nat) ≤ 310) (hlo : m * 10 ^ j ≤ D) (hhi : D ≤ (m + 1) * 10 ^ j) (he : psR m (x + (j : Nat)) = psR (m + 1) (x + (j : Nat))) :
    ToldN g (nN D x) (nD x) (sgN g + psR m (x + (j : Nat))) (psErrR m (x + (j : Nat))) := by
  have t1 := told_ps (g := g) h1 (show m < 18446744073709551616 by omega) p1 p2
  have t2 := told_ps (g := g) (d := m + 1) (by omega) (by omega) p1 p2
  obtain ⟨p, hp⟩ : ∃ p, p = x + ((j : Nat) : Int) := ⟨_, rfl⟩
  have e1 := nN_move m j x
  have e2 := nN_move (m + 1) j x
  rw [← hp] at t1 t2 he e1 e2 ⊢
  have l1 := Nat.mul_le_mul_right (nD p) (nN_le x hlo)
  have l2 := Nat.mul_le_mul_right (nD p) (nN_le x hhi)
  rw [e1] at l1
  rw [e2] at l2
  have hpp := nD_pos p
  have hxp := nD_pos x
  rcases t1 with ⟨r, a, b, c, d⟩ | ⟨a, b, k, c, d⟩
  · have hr2 : IsNear (nN (m + 1) p) (nD p) r := by
      rcases t2 with ⟨r', a', _, c', _⟩ | ⟨a', _⟩
      · have : r' = r := by omega
        rwa [this] at c'
      · omega
    refine .inl ⟨r, a, b, ?_, d⟩
    have n1 := near_up hxp c
    have n2 := near_up hxp hr2
    have n3 := near_between n1 n2 l1 l2
    rw [Nat.mul_comm (nD p)] at n3
    exact near_scale hpp n3
  · refine .inr ⟨a, b, tooBig_ratio hpp (tooBig_near d c) l1⟩
set_option exponentiation.threshold 2000 in
theorem pow324 : 2 ^ 1075 < 10 ^ 324 := by decide +kernel
set_option maxHeartbeats 1000000 in
theorem atof_small (s : Value) (m : Nat) (x : Int) (g t : Bool) (n : Nat) (w : World) (hs : NotSpecial s) (hr : ReadsAs s m x g t n) (hm : m ≠ 0) (hx : x < -345) (tOpt : w.cell? ⟨3, 0, none⟩ = some (.bool true)) :
    Calls Tryz.prog 88 #[s] w fun e' w' => e' = .returned (.tuple #[.float .f64 (if g then 9223372036854775808 else 0), .int .i64 n, .nilIface]) ∧ w = w' := by
  have k := ext127
  have hm2 : (((m : Nat) : Int) == 0) = false := by simp; omega
  go_enter Tryz.func88, Tryz.ntmps88
  go_wp2_with fail
  refine (hs _).mono ?_
  rintro e w' ⟨rfl, rfl⟩
  go_wp2_with fail
  refine (hr _).mono ?_
  rintro e w' ⟨rfl, rfl⟩
  cases g
  all_goals
    go_wp2_with fail
    refine (bool2_any _ _).mono ?_
    rintro e w' ⟨rfl, rfl⟩
    go_wp2_with fail
    go_ret3
    exact ⟨rfl, rfl⟩
theorem sgN_if (g : Bool) : (if g then 9223372036854775808 else 0) = sgN g + 0 := by cases g <;> rfl
theorem sgN_inf (g : Bool) : (if g then 18442240474082181120 else 9218868437227405312) = sgN g + 9218868437227405312 := by cases g <;> rfl
structure AllTab (w : World) (g10 gp ga : Addr) : Prop where
  tabs : Tabs w
  row10 : w.cell? ⟨10, 0, none⟩ = some (.slice (some g10) 23 23)
  pow10 : ∀ k, k < 23 → w.cell? (g10.add k) = some (.float .f64 (pw k))
  slow : SlowTab w gp ga
set_option exponentiation.threshold 3000 in
theorem atof_any (l : List UInt8) (w : World) (g10 gp ga : Addr) {g : Bool} {I F X : List UInt8} {xx : Int} (P : Parts l g I F X xx)
    (hset : ∀ (A : Acc) (kk : Nat) (h0 : 0 < l.length) (w1 : World) (b : Nat), b < w1.heap.size → l[0] ≠ 43 → scanF (l.drop (if l[0] = 45 then 1 else 0)) acc0 = (A, l.drop kk) → kk ≤ l.length → A.saw = true → Tail l kk xx →
      Calls Tryz.prog 124 #[.pointer (some ⟨b, 0, none⟩), .string ⟨l.toArray⟩] (putD w1 b decZ) fun e w' => e = .returned (.bool true) ∧ ∃ N s, w' = (putD w1 b s).drewN N ∧ s.neg = (l[0] == 45) ∧ s.tr = false ∧ s.nd = (A.nd : Nat) ∧ s.dp = dpF A + xx ∧ (∀ i, i < A.nd → 48 ≤ s.d i ∧ s.d i ≤ 57) ∧ (0 < A.nd → s.d 0 ≠ 48) ∧ ScI A (pv (dgt s.d) A.nd) ∧ pv (dgt s.d) A.nd = amtD I F)
    (hT : ∀ w', Below w.heap.size w w' → AllTab w' g10 gp ga) (hgp : gp.block < w.heap.size) (hga : ga.block < w.heap.size) (h12 : 12 < w.heap.size) :
    Calls Tryz.prog 88 #[.string ⟨l.toArray⟩] w fun e w' => (∃ f err, e = .returned (.tuple #[.float .f64 f, .int .i64 (l.length : Nat), err]) ∧ ToldN g (nN (amtD I F) (amtX F xx)) (nD (amtX F xx)) f err) ∧ Below w.heap.size w w' := by
  obtain ⟨A, a1, a2, a3, a4, a5, a6, a7, h0, kk, a8, a9, a10, a11, a12⟩ := P.reads
  have T0 := hT w (Below.refl _ _)
  obtain ⟨D, hD⟩ : ∃ D, D = amtD I F := ⟨_, rfl⟩
  obtain ⟨x, hx⟩ : ∃ x, x = amtX F xx := ⟨_, rfl⟩
  rw [← hD] at a2 ⊢
  rw [← hx]
  have hxe : x = xx - (F.length : Nat) := hx
  obtain ⟨j, hj⟩ : ∃ j, j = A.nd - A.ndm := ⟨_, rfl⟩
  have s1 := a2.hi
  have s2 := a2.lo
  have s3 := a2.ndm
  have s4 := a2.mant
  have s5 := a2.trunc
  rw [← hj] at s4 s5
  have hP10 : 0 < 10 ^ j := Nat.pow_pos (by omega)
  have hm19 : A.mant < 10000000000000000000 := by
    rw [s4, Nat.div_lt_iff_lt_mul hP10]
    refine Nat.lt_of_lt_of_le s1 ?_
    have e : (10 : Nat) ^ A.nd ≤ 10 ^ (19 + j) := Nat.pow_le_pow_right (n := 10) (by omega) (by omega)
    rw [Nat.pow_add] at e
    exact e
  have hdm := Nat.div_add_mod D (10 ^ j)
  have hml := Nat.mod_lt D hP10
  rw [← s4, Nat.mul_comm] at hdm
  by_cases cm : A.mant = 0
  · have hD0 : D = 0 := by
      apply Classical.byContradiction
      intro c
      by_cases cn : A.nd = 0
      · rw [cn, Nat.pow_zero] at s1; omega
      · have h2 := s2 (by omega)
        have h3 : (10 : Nat) ^ (j + 1) ≤ 10 ^ A.nd := Nat.pow_le_pow_right (n := 10) (by omega) (by omega)
        rw [Nat.pow_succ] at h3
        rw [cm, Nat.zero_mul, Nat.zero_add] at hdm
        omega
    rw [cm, if_pos rfl] at a7
    refine (atof_zero _ 0 g A.trunc l.length w a6 a7 T0.tabs.opt).mono ?_
    rintro e w' ⟨rfl, rfl⟩
    refine ⟨⟨_, _, rfl, .inl ⟨0, sgN_if g, by decide, ⟨.inl rfl, .inl ?_⟩, rfl⟩⟩, Below.refl _ _⟩
    rw [hD0, mid0, Nat.one_mul]
    unfold nN
    rw [Nat.zero_mul, Nat.zero_mul]
    exact nD_pos x
  · rw [if_neg cm] at a7
    have hp : dpF A + xx - A.ndm = x + (j : Nat) := by omega
    rw [hp] at a7
    have hge : A.mant * 10 ^ j ≤ D := by omega
    have hD1 : 10 ^ j ≤ D := Nat.le_trans (Nat.le_mul_of_pos_left _ (Nat.pos_of_ne_zero cm)) hge
    by_cases c1 : 310 < x + (j : Nat)
    · refine (atof_big _ A.mant _ g A.trunc l.length w a6 a7 cm c1 T0.tabs.opt).mono ?_
      rintro e w' ⟨rfl, rfl⟩
      refine ⟨⟨_, _, rfl, .inr ⟨sgN_inf g, rfl, ?_⟩⟩, Below.refl _ _⟩
      refine big_of (A := D * 10 ^ x.toNat) (B := 10 ^ (-x).toNat) ?_
      calc 10 ^ (-x).toNat * 10 ^ 310 = 10 ^ ((-x).toNat + 310) := by rw [Nat.pow_add]
        _ ≤ 10 ^ (j + x.toNat) := Nat.pow_le_pow_right (n := 10) (by omega) (by omega)
        _ = 10 ^ j * 10 ^ x.toNat := Nat.pow_add _ _ _
        _ ≤ D * 10 ^ x.toNat := Nat.mul_le_mul_right _ hD1
    · by_cases c2 : x + (j : Nat) < -345
      · refine (atof_small _ A.mant _ g A.trunc l.length w a6 a7 cm c2 T0.tabs.opt).mono ?_
        rintro e w' ⟨rfl, rfl⟩
        refine ⟨⟨_, _, rfl, .inl ⟨0, sgN_if g, by decide, ⟨.inl rfl, .inl ?_⟩, rfl⟩⟩, Below.refl _ _⟩
        rw [mid0, Nat.one_mul]
        unfold nN nD
        have hDlt : D < 10 ^ (19 + j) := Nat.lt_of_lt_of_le s1 (Nat.pow_le_pow_right (n := 10) (by omega) (by omega))
        calc D * 10 ^ x.toNat * 2 ^ 1075 ≤ 10 ^ (19 + j) * 10 ^ x.toNat * 10 ^ 324 := Nat.mul_le_mul (Nat.mul_le_mul_right _ (Nat.le_of_lt hDlt)) (Nat.le_of_lt pow324)
          _ = 10 ^ (19 + j + x.toNat + 324) := by rw [← Nat.pow_add, ← Nat.pow_add]
          _ < 10 ^ (-x).toNat := Nat.pow_lt_pow_right (by omega) (by omega)
      · cases ht : A.trunc
        · rw [ht] at a7 s5
          have hr0 : D % 10 ^ j = 0 := by
            have : ¬ (D % 10 ^ j ≠ 0) := by
              intro h
              have h2 : (D % 10 ^ j != 0) = true := by simpa using h
              rw [← s5] at h2
              cases h2
            omega
          rw [hr0, Nat.add_zero] at hdm
          refine (atof_mid _ A.mant _ g l.length w g10 a6 a7 cm (by omega) (by omega) (by omega) T0.tabs T0.slow.i0 T0.row10 T0.pow10).mono ?_
          rintro e w' ⟨⟨f, err, rfl, h⟩, hb⟩
          refine ⟨⟨f, err, rfl, told_N h (nD_pos x) ?_⟩, hb⟩
          rw [← hdm]
          exact (nN_move A.mant j x).symm
        · rw [ht] at a7 s5
          have hr0 : D % 10 ^ j ≠ 0 := by
            have h2 : (D % 10 ^ j != 0) = true := s5.symm
            simpa using h2
          have hj1 : 1 ≤ j := by
            apply Nat.pos_of_ne_zero
            intro h
            rw [h, Nat.pow_zero, Nat.mod_one] at hr0
            exact hr0 rfl
          have hndm : A.ndm = 19 := by omega
          have hhi : D ≤ (A.mant + 1) * 10 ^ j := by rw [Nat.add_mul, Nat.one_mul]; omega
          refine atof_slow l w gp ga A.mant _ g (nN D x) (nD x) a6 a7 cm hm19 (by omega) (by omega) (fun w' hb => ⟨(hT w' hb).tabs, (hT w' hb).slow⟩) hgp hga h12
            (fun he => told_fast (Nat.pos_of_ne_zero cm) hm19 (by omega) (by omega) hge hhi he) ?_
          intro w1 b hb1 hb2 hb3
          refine (hset A kk h0 w1 b hb2 a8 a10 a11 a5 a12).mono ?_
          rintro e w' ⟨rfl, M, s, rfl, q1, q2, q3, q4, q5, q6, q7, q8⟩
          have hs : Okd s A.nd := ⟨q3, by omega, by omega, q5, q6 (by omega)⟩
          have T1 := (hT w1 hb1).slow
          have T2 : SlowTab (w1.drewN M) gp ga := ⟨⟨T1.cut.row, T1.cut.dl, T1.cut.cut⟩, T1.row, T1.pow, T1.i0, T1.i1, T1.i2⟩
          have his : s.is A.nd (D * 10 ^ x.toNat) (10 ^ (-x).toNat) := by
            unfold Dec.is
            rw [q8, ← hD, q4, show dpF A + xx - ((A.nd : Nat) : Int) = x by omega]
            refine IsV.of_one x.toNat (-x).toNat (by omega) ?_
            rfl
          refine ⟨rfl, s, M, rfl, ?_⟩
          have hfb := fb_all (w1.drewN M) b gp ga s A.nd _ _ T2 (by omega) (by omega) (by omega) (by omega) (by omega) hs his (Nat.pow_pos (by omega)) a1 q2 (by rw [q4]; omega) hb2
          rw [q1, a9] at hfb
          refine hfb.mono ?_
          rintro e w' ⟨h1, M2, s', rfl⟩
          exact ⟨h1, M + M2, s', by rw [← drewN_putD, World.drewN_drewN]⟩
end Go.Proofs.YtapinbbflfkglaaGreatDoor
namespace Go.Proofs.YtapinbbflfkglaaGreatDoor
open Go.RowKit Go.Lib Go.Sort Go.ChangeShapes Go.Deep
set_option maxRecDepth 100000
theorem g12 : ∃ t e f0 f1, Tryz.prog.globalNamed "internal/strconv.leftcheats" = some 12 ∧ (Tryz.prog.globals[12]?).map (·.type) = some t ∧ Tryz.prog.underlying t = some (.slice e) ∧ Tryz.prog.underlying e = some (.struct #[f0, f1]) ∧
    f0.type = 3 ∧ f0.offset = 0 ∧ f1.type = 9 ∧ f1.offset = 1 ∧ Tryz.prog.cellsOf e = 2 ∧ Tryz.prog.cellsOf 3 = 1 ∧ Tryz.prog.cellsOf 9 = 1 ∧ Tryz.prog.underlying 3 = some (.int .i64) ∧ Tryz.prog.underlying 9 = some .string :=
  ⟨_, _, _, _, by kernel_rfl, rfl, rfl, rfl, rfl, rfl, rfl, rfl, rfl, rfl, rfl, rfl, rfl⟩
theorem g9 : ∃ t e, Tryz.prog.globalNamed "internal/strconv.powtab" = some 9 ∧ (Tryz.prog.globals[9]?).map (·.type) = some t ∧ Tryz.prog.underlying t = some (.slice e) ∧ e = 3 ∧ Tryz.prog.cellsOf 3 = 1 ∧ Tryz.prog.underlying 3 = some (.int .i64) :=
  ⟨_, _, by kernel_rfl, rfl, rfl, rfl, rfl, rfl⟩
theorem g6b : ∃ t f0 f1 f2, Tryz.prog.globalNamed "internal/strconv.float64info" = some 6 ∧ (Tryz.prog.globals[6]?).map (·.type) = some t ∧ Tryz.prog.underlying t = some (.struct #[f0, f1, f2]) ∧
    f0.type = 44 ∧ f0.offset = 0 ∧ f1.type = 44 ∧ f1.offset = 1 ∧ f2.type = 3 ∧ f2.offset = 2 ∧ Tryz.prog.cellsOf t = 3 ∧ Tryz.prog.cellsOf 44 = 1 ∧ Tryz.prog.cellsOf 3 = 1 ∧ Tryz.prog.underlying 44 = some (.int .u64) ∧ Tryz.prog.underlying 3 = some (.int .i64) :=
  ⟨_, _, _, _, by kernel_rfl, rfl, rfl, rfl, rfl, rfl, rfl, rfl, rfl, rfl, rfl, rfl, rfl, rfl⟩
theorem cheat_at : (List.range 61).all (fun k => Go.Pinned.cheatRows[k]? == some (dlT k, cutT k)) = true := by decide +kernel
theorem cheat_len : Go.Pinned.cheatRows.length = 61 := by decide +kernel
theorem add_add0 (a : Addr) (n : Nat) : (a.add n).add 0 = a.add n := by simp [Addr.add]
theorem cut_of_laid {W : World} {laid : List (String × DataW Unit)} (h : laidMet Tryz.prog laid W) (h12 : ("internal/strconv.leftcheats", Go.Pinned.leftcheats) ∈ laid) :
    ∃ gp : Addr, CutTab W gp := by
  obtain ⟨ps, hv, _⟩ := h
  obtain ⟨g, t, cs, fuel, p, a1, a2, a3, a4⟩ := laidVars_mem hv _ _ h12
  obtain ⟨t', e, f0, f1, c1, c2, c3, c4, c5, c6, c7, c8, c9, c10, c11, c12, c13⟩ := g12
  obtain rfl := Option.some.inj (c1.symm.trans a1)
  obtain rfl := Option.some.inj (c2.symm.trans a2)
  unfold Go.Pinned.leftcheats at a4
  rcases DataW.trod_slice c3 a4 with ⟨_, hx⟩ | ⟨a', len, cap', elems, rest, n, _, hcs', hx, _, hl, _, hlen2, hel, hsp, _⟩
  · have h0 := congrArg (fun x => x.1) hx
    simp only at h0
    cases h0
  · simp only [Prod.mk.injEq, DataW.slice.injEq] at hx
    have hrest : rest.length = 0 := by have := congrArg List.length hx.1.2; simpa using this.symm
    have hcap := (hsp rfl).1
    have hlen61 : len = 61 := by
      have := congrArg List.length hx.1.1
      rw [List.length_map, List.length_map, cheat_len] at this
      omega
    have hcap61 : cap' = 61 := by omega
    have key : ∀ k, k ≤ 60 → W.cell? (a'.add (k * 2)) = some (.int .i64 (dlT k : Nat)) ∧ W.cell? ((a'.add (k * 2)).add 1) = some (.string ⟨(cutT k).toArray⟩) := by
      intro k hk
      have hE := hel k (by omega)
      rw [c9] at hE
      have hr := List.all_eq_true.1 cheat_at k (List.mem_range.2 (by omega))
      rw [beq_iff_eq] at hr
      have hd : (elems.map (·.1))[k]? = some (.agg [.lit (.int .i64 (dlT k : Nat)), .lit (.string (cutT k))]) := by
        rw [← hx.1.1, List.getElem?_map, hr]; rfl
      rw [List.getElem?_map] at hd
      cases hy : elems[k]? with
      | none => simp [hy] at hd
      | some y =>
        rw [hy] at hE hd
        simp only [Option.map_some, Option.some.injEq] at hd
        simp only [Option.bind_eq_some_iff] at hE
        obtain ⟨cs1, hc1, hy1⟩ := hE
        obtain ⟨y0, y1, n', hyx, _, hy0, hy2⟩ := trod_struct2 c4 hy1
        rw [c5, c6, c10, List.drop_zero] at hy0
        rw [c7, c8, c11] at hy2
        have hcc : ∃ u v, cs1 = [u, v] ∧ W.cell? (a'.add (k * 2)) = some u ∧ W.cell? ((a'.add (k * 2)).add 1) = some v := by
          unfold World.cells? at hc1
          split at hc1
          · simp only [List.range_succ, List.range_zero, List.nil_append, List.cons_append, List.mapM_cons, List.mapM_nil, add_add0] at hc1
            cases hcc : W.cell? (a'.add (k * 2)) with
            | none => simp [hcc] at hc1
            | some u =>
              cases hcv : W.cell? ((a'.add (k * 2)).add 1) with
              | none => simp [hcc, hcv] at hc1
              | some v => simp [hcc, hcv] at hc1; exact ⟨u, v, hc1.symm, rfl, rfl⟩
          · cases hc1
        obtain ⟨u, v, rfl, hu, hv'⟩ := hcc
        obtain ⟨z, hz1, hz2, _⟩ := DataW.trod_int (k := .i64) c12 hy0
        obtain ⟨s, hs1, hs2, _⟩ := DataW.trod_string c13 hy2
        rw [hyx] at hd
        simp only [DataW.agg.injEq, List.cons.injEq, and_true] at hd
        rw [hz2, hs2] at hd
        simp only [DataW.lit.injEq, Lit.int.injEq, Lit.string.injEq, true_and] at hd
        obtain ⟨hd1, hd2⟩ := hd
        simp only [List.take_succ_cons, List.take_zero, List.drop_succ_cons, List.drop_zero, List.cons.injEq, and_true] at hz1 hs1
        refine ⟨by rw [hu, hz1, hd1], ?_⟩
        rw [hv', hs1]
        congr 2
        apply ByteArray.ext
        show s.data = (cutT k).toArray
        rw [← hd2]
    refine ⟨a', ?_, fun k hk => (key k hk).1, fun k hk => (key k hk).2⟩
    rw [World.var?_cell c1 a3 0, ← Array.getElem?_toList, hcs', hlen61, hcap61]; rfl
def powL : List (DataW Unit) := [.lit (.int .i64 1), .lit (.int .i64 3), .lit (.int .i64 6), .lit (.int .i64 9), .lit (.int .i64 13), .lit (.int .i64 16), .lit (.int .i64 19), .lit (.int .i64 23), .lit (.int .i64 26)]
theorem powL_at : ∀ p, p < 9 → powL[p]? = some (.lit (.int .i64 ((kR p : Nat) : Int))) := by
  intro p hp
  rcases (show p = 0 ∨ p = 1 ∨ p = 2 ∨ p = 3 ∨ p = 4 ∨ p = 5 ∨ p = 6 ∨ p = 7 ∨ p = 8 by omega) with rfl | rfl | rfl | rfl | rfl | rfl | rfl | rfl | rfl <;> rfl
theorem pow_of_laid {W : World} {laid : List (String × DataW Unit)} (h : laidMet Tryz.prog laid W) (h9 : ("internal/strconv.powtab", .slice powL []) ∈ laid) :
    ∃ ga : Addr, W.cell? ⟨9, 0, none⟩ = some (.slice (some ga) 9 9) ∧ ∀ p, p < 9 → W.cell? (ga.add p) = some (.int .i64 (kR p : Nat)) := by
  obtain ⟨ps, hv, _⟩ := h
  obtain ⟨g, t, cs, fuel, p, a1, a2, a3, a4⟩ := laidVars_mem hv _ _ h9
  obtain ⟨t', e, c1, c2, c3, rfl, c5, c6⟩ := g9
  obtain rfl := Option.some.inj (c1.symm.trans a1)
  obtain rfl := Option.some.inj (c2.symm.trans a2)
  have hrow := open_row c3 c5 a4
  have hsl := DataW.trod_slice c3 a4
  obtain ⟨a, cap, hcs, hle, hel⟩ := hrow
  have hlen : powL.length = 9 := rfl
  rcases hsl with ⟨_, hx⟩ | ⟨a', len, cap', elems, rest, n, _, hcs', hx, _, hl, _, hlen2, _, hsp, _⟩
  · have h0 := congrArg (fun x => x.1) hx
    simp only at h0
    cases h0
  · rw [hcs] at hcs'
    simp only [List.cons.injEq, Value.slice.injEq, and_true] at hcs'
    obtain ⟨_, hl2, rfl⟩ := hcs'
    simp only [Prod.mk.injEq, DataW.slice.injEq] at hx
    have hrest : rest.length = 0 := by have := congrArg List.length hx.1.2; simpa using this.symm
    have hcap := (hsp rfl).1
    have hlen9 : len = 9 := by rw [← hl2]; exact hlen
    have hcap9 : cap = 9 := by omega
    refine ⟨a, ?_, fun k hk => ?_⟩
    · rw [World.var?_cell c1 a3 0, ← Array.getElem?_toList, hcs, hlen, hcap9]; rfl
    · obtain ⟨v, m, q, hcell, htr⟩ := hel k _ (powL_at k hk)
      rw [hcell]
      obtain ⟨z, hz1, hz2, _⟩ := DataW.trod_int (k := .i64) c6 htr
      simp only [List.cons.injEq, and_true] at hz1
      simp only [Prod.mk.injEq, DataW.lit.injEq, Lit.int.injEq, true_and] at hz2
      rw [hz1, hz2.1]
theorem info_of_laid {W : World} {laid : List (String × DataW Unit)} (h : laidMet Tryz.prog laid W) (h6 : ("internal/strconv.float64info", .agg [.lit (.int .u64 52), .lit (.int .u64 11), .lit (.int .i64 (-1023))]) ∈ laid) :
    W.cell? ⟨6, 0, none⟩ = some (.int .u64 52) ∧ W.cell? ⟨6, 1, none⟩ = some (.int .u64 11) ∧ W.cell? ⟨6, 2, none⟩ = some (.int .i64 (-1023)) := by
  obtain ⟨ps, hv, _⟩ := h
  obtain ⟨g, t, cs, fuel, p, a1, a2, a3, a4⟩ := laidVars_mem hv _ _ h6
  obtain ⟨t', f0, f1, f2, c1, c2, c3, o1, o2, o3, o4, o5, o6, o7, o8, o9, o10, o11⟩ := g6b
  obtain rfl := Option.some.inj (c1.symm.trans a1)
  obtain rfl := Option.some.inj (c2.symm.trans a2)
  obtain ⟨y0, y1, y2, n, hx, hl, h0, h1, h2⟩ := trod_struct3 c3 a4
  rw [o1, o2, o8, List.drop_zero] at h0
  rw [o3, o4, o8] at h1
  rw [o5, o6, o9] at h2
  rw [o7] at hl
  obtain ⟨z0, q0, r0, _⟩ := DataW.trod_int (k := .u64) o10 h0
  obtain ⟨z1, q1, r1, _⟩ := DataW.trod_int (k := .u64) o10 h1
  obtain ⟨z2, q2, r2, _⟩ := DataW.trod_int (k := .i64) o11 h2
  simp only [Prod.mk.injEq, DataW.agg.injEq, List.cons.injEq, and_true] at hx
  obtain ⟨⟨e0, e1, e2⟩, _⟩ := hx
  rw [r0] at e0
  rw [r1] at e1
  rw [r2] at e2
  simp only [DataW.lit.injEq, Lit.int.injEq, true_and] at e0 e1 e2
  have cell := fun i => World.var?_cell c1 a3 i
  obtain ⟨x0, x1, x2, hcs⟩ : ∃ x0 x1 x2, cs.toList = [x0, x1, x2] := by
    match cs.toList, hl with
    | [x0, x1, x2], _ => exact ⟨x0, x1, x2, rfl⟩
  rw [hcs] at q0 q1 q2
  simp only [List.take_succ_cons, List.take_zero, List.drop_succ_cons, List.drop_zero, List.cons.injEq, and_true] at q0 q1 q2
  refine ⟨?_, ?_, ?_⟩
  · rw [cell 0, ← Array.getElem?_toList, hcs]; show some x0 = _; rw [q0, e0]
  · rw [cell 1, ← Array.getElem?_toList, hcs]; show some x1 = _; rw [q1, e1]
  · rw [cell 2, ← Array.getElem?_toList, hcs]; show some x2 = _; rw [q2, e2]
theorem cell_block {W : World} {a : Addr} {v : Value} (h : W.cell? a = some v) : a.block < W.heap.size := by
  apply Classical.byContradiction
  intro c
  unfold World.cell? at h
  rw [Array.getElem?_eq_none (by omega)] at h
  cases h
theorem slow_of_laid {W : World} {laid : List (String × DataW Unit)} (h : laidMet Tryz.prog laid W) (h12 : ("internal/strconv.leftcheats", Go.Pinned.leftcheats) ∈ laid) (h9 : ("internal/strconv.powtab", .slice powL []) ∈ laid)
    (h6 : ("internal/strconv.float64info", .agg [.lit (.int .u64 52), .lit (.int .u64 11), .lit (.int .i64 (-1023))]) ∈ laid) :
    ∃ gp ga, SlowTab W gp ga ∧ gp.block < W.heap.size ∧ ga.block < W.heap.size ∧ 12 < W.heap.size := by
  obtain ⟨gp, ht⟩ := cut_of_laid h h12
  obtain ⟨ga, p1, p2⟩ := pow_of_laid h h9
  obtain ⟨i0, i1, i2⟩ := info_of_laid h h6
  refine ⟨gp, ga, ⟨ht, p1, p2, i0, i1, i2⟩, ?_, ?_, cell_block ht.row⟩
  · have := cell_block (ht.dl 0 (by omega)); rwa [add_block] at this
  · have := cell_block (p2 0 (by omega)); rwa [add_block] at this
theorem SlowTab.below {W w : World} {gp ga : Addr} (h : SlowTab W gp ga) (hp : gp.block < W.heap.size) (ha : ga.block < W.heap.size) (h12 : 12 < W.heap.size) (hB : Below W.heap.size W w) : SlowTab w gp ga := by
  have c : ∀ (a : Addr), a.block < W.heap.size → ∀ v, W.cell? a = some v → w.cell? a = some v := fun a ha v hv => by
    rw [← hv]
    unfold World.cell?
    rw [hB.block a.block ha]
  refine ⟨⟨c _ h12 _ h.cut.row, fun k hk => c _ (by rw [add_block]; exact hp) _ (h.cut.dl k hk), fun k hk => c _ (by rw [add_block, add_block]; exact hp) _ (h.cut.cut k hk)⟩, c _ (show 9 < _ by omega) _ h.row, fun p hq => c _ (by rw [add_block]; exact ha) _ (h.pow p hq), c _ (show 6 < _ by omega) _ h.i0, c _ (show 6 < _ by omega) _ h.i1, c _ (show 6 < _ by omega) _ h.i2⟩
end Go.Proofs.YtapinbbflfkglaaGreatDoor
namespace Go.Proofs.YtapinbbflfkglaaGreatDoor
open Go.RowKit Go.Lib Go.Sort
open Go.Proofs.YtapinbbflfkglaaGreatDoor.Fp (IsNear mid)
open PFloatsParses (nN nD nD_pos)
set_option maxRecDepth 100000
set_option maxHeartbeats 1000000 in
theorem parseFloatN (l : List UInt8) (w : World) (g : Bool) (N D : Nat) (ev : Value) (hl : l.length ≤ 64) (hv : ∀ w', Below w.heap.size w w' → w'.cell? ⟨2, 0, none⟩ = some ev) (hev : ev = .nilIface ∨ ∃ te pe, ev = .iface te pe)
    (hA : Calls Tryz.prog 88 #[.string ⟨l.toArray⟩] w fun e' w' => (∃ f err, e' = .returned (.tuple #[.float .f64 f, .int .i64 (l.length : Nat), err]) ∧ ToldN g N D f err) ∧ Below w.heap.size w w') :
    Calls Tryz.prog 34 #[.string ⟨l.toArray⟩, .int .i64 64] w fun e' w' => ((∃ r, e' = .returned (.tuple #[.float .f64 (sgN g + r), .nilIface]) ∧ r < 9218868437227405312 ∧ IsNear N D r) ∨ ∃ q M, e' = .returned (.tuple #[.float .f64 q, .iface 87 (.pointer (some ⟨M, 0, none⟩))]) ∧ TooBig N D) ∧ Below w.heap.size w w' := by
  have HA := Lib.hid hA
  clear hA
  have H69 : Hid (Calls Tryz.prog 69 #[.string ⟨l.toArray⟩, .int .i64 64] w fun e' w' => (∃ f err, e' = .returned (.tuple #[.float .f64 f, .int .i64 (l.length : Nat), err]) ∧ ToldN g N D f err) ∧ Below w.heap.size w w') := Lib.hid (by
    go_enter Tryz.func69, Tryz.ntmps69
    go_wp2_with fail
    refine HA.out.mono ?_
    rintro e w' ⟨⟨f, err, rfl, hq⟩, hb⟩
    have HQ := Lib.hid hq
    have HB := Lib.hid hb
    clear hq hb HA
    go_wp2_with fail
    go_ret3
    exact ⟨⟨_, _, rfl, HQ.out⟩, HB.out⟩)
  clear HA
  have H52 : Hid (Calls Tryz.prog 52 #[.string ⟨l.toArray⟩, .int .i64 64] w fun e' w' => (∃ f err, e' = .returned (.tuple #[.float .f64 f, err]) ∧ ToldN g N D f err) ∧ Below w.heap.size w w') := Lib.hid (by
    go_enter Tryz.func52, Tryz.ntmps52
    go_wp2_with fail
    refine H69.out.mono ?_
    rintro e w' ⟨⟨f, err, rfl, hq⟩, hb⟩
    have HQ := Lib.hid hq
    have HB := Lib.hid hb
    clear hq hb H69
    go_wp2_with fail
    go_ret2
    exact ⟨⟨_, _, rfl, HQ.out⟩, HB.out⟩)
  clear H69
  have HT := Lib.hid (fun w' (h : Below w.heap.size w w') => Tryz.strconv_toError_range ⟨#[80, 97, 114, 115, 101, 70, 108, 111, 97, 116]⟩ ⟨l.toArray⟩ 0 64 ev w' (by simp [ByteArray.size]; omega) (hv w' h) hev)
  clear hv hev
  go_enter Tryz.func34, Tryz.ntmps34
  go_wp2_with fail
  refine H52.out.mono ?_
  rintro e w' ⟨⟨f, err, rfl, hq⟩, hb⟩
  have HB := Lib.hid hb
  clear hb H52
  rcases hq with ⟨r, rfl, h1, h2, rfl⟩ | ⟨rfl, rfl, h1⟩
  · have HQ := Lib.hid (And.intro h1 h2)
    clear h1 h2 HT
    go_wp2_with fail
    go_ret2
    exact ⟨.inl ⟨r, rfl, HQ.out⟩, HB.out⟩
  · have HQ := Lib.hid h1
    clear h1
    go_wp2_with fail
    refine (HT.out _ HB.out).mono ?_
    rintro e w1 ⟨N', rfl, hN, hc, hb⟩
    have HB2 := Lib.hid (HB.out.trans (hb.mono HB.out.size))
    clear hc hN hb
    go_wp2_with fail
    refine bodyPost_ret (v := .tuple #[.float .f64 (sgN g + 9218868437227405312), .iface 87 (.pointer (some ⟨N', 0, none⟩))]) (by simp [results, Tryz.results34, go_sem]) rfl ⟨.inr ⟨_, N', rfl, HQ.out⟩, HB2.out⟩
def ParseAns (g : Bool) (N D : Nat) (e : Ending) : Prop :=
  (∃ r, e = .returned (.tuple #[.int .u64 ((sgN g + r : Nat) : Int), .int .i64 0]) ∧ r < 9218868437227405312 ∧ IsNear N D r) ∨ (e = .returned (.tuple #[.int .u64 0, .int .i64 21]) ∧ TooBig N D)
set_option maxHeartbeats 1000000 in
theorem parse_form (l : List UInt8) (w : World) (g : Bool) (N D : Nat) (hl : l.length ≤ 64) (hf : formL l = true)
    (hp : ∀ w1, Below w.heap.size w w1 → Calls Tryz.prog 34 #[.string ⟨l.toArray⟩, .int .i64 64] w1 fun e' w' => ((∃ r, e' = .returned (.tuple #[.float .f64 (sgN g + r), .nilIface]) ∧ r < 9218868437227405312 ∧ IsNear N D r) ∨ ∃ q M, e' = .returned (.tuple #[.float .f64 q, .iface 87 (.pointer (some ⟨M, 0, none⟩))]) ∧ TooBig N D) ∧ Below w1.heap.size w1 w') :
    Calls Tryz.prog 19 #[.string ⟨l.toArray⟩] w fun e' w' => ParseAns g N D e' ∧ Below w.heap.size w w' := by
  have HF := Lib.hid (form_any l)
  have HP := Lib.hid hp
  have kx := ext35
  have hl2 : l.length ≤ 140737488351232 := by omega
  clear hp
  go_enter Tryz.func19, Tryz.ntmps19
  go_wp2_with fail
  refine (HF.out _ hl2).mono ?_
  rintro e w1 ⟨rfl, hb⟩
  go_wp2_with fail
  refine (HP.out _ hb).mono ?_
  rintro e w2 ⟨ha, hb2⟩
  have hb3 := Lib.hid (hb.trans (hb2.mono hb.size))
  clear hb hb2 HP HF
  rcases ha with ⟨r, rfl, h1, h2⟩ | ⟨q, M, rfl, h1⟩
  · have HQ := Lib.hid (And.intro h1 h2)
    clear h1 h2
    go_wp2_with fail
    go_ret2
    exact ⟨.inl ⟨r, rfl, HQ.out⟩, hb3.out⟩
  · have HQ := Lib.hid h1
    clear h1
    go_wp2_with fail
    go_ret2
    exact ⟨.inr ⟨rfl, HQ.out⟩, hb3.out⟩
theorem parse_any (l : List UInt8) (W w : World) (g10 gp ga : Addr) (ev : Value) {g : Bool} {I F X : List UInt8} {xx : Int} (P : Parts l g I F X xx) (hf : formL l = true) (hB : Below W.heap.size W w)
    (hT : ∀ w', Below W.heap.size W w' → AllTab w' g10 gp ga) (hgp : gp.block < W.heap.size) (hga : ga.block < W.heap.size) (h12 : 12 < W.heap.size)
    (hv : ∀ w', Below W.heap.size W w' → w'.cell? ⟨2, 0, none⟩ = some ev) (hev : ev = .nilIface ∨ ∃ te pe, ev = .iface te pe) :
    Calls Tryz.prog 19 #[.string ⟨l.toArray⟩] w fun e w' => ParseAns g (nN (amtD I F) (amtX F xx)) (nD (amtX F xx)) e ∧ Below W.heap.size W w' := by
  refine (parse_form l w g _ _ P.len hf fun w1 h1 => ?_).mono (fun e w' h => ⟨h.1, hB.trans (h.2.mono hB.size)⟩)
  have hB1 : Below W.heap.size W w1 := hB.trans (h1.mono hB.size)
  have hup : ∀ w', Below w1.heap.size w1 w' → Below W.heap.size W w' := fun w' h => hB1.trans (h.mono hB1.size)
  have hsz := hB1.size
  refine parseFloatN l w1 g _ _ ev P.len (fun w' h => hv w' (hup w' h)) hev ?_
  refine atof_any l w1 g10 gp ga P ?_ (fun w' h => hT w' (hup w' h)) (by omega) (by omega) (by omega)
  intro A kk h0 w2 b hb h43 hA hkk hsaw htail
  refine (set_any l w2 b P.len P.plain h0 h43 hb hA hkk hsaw htail).mono ?_
  rintro e w' ⟨rfl, M, s, rfl, q1, q2, q3, q4, q5, q6, q7, q8⟩
  refine ⟨rfl, M, s, rfl, q1, q2, q3, q4, q5, q6, q7, ?_⟩
  rw [q8]
  have hl := P.eq
  have hdrop : l.drop (if l[0] = 45 then 1 else 0) = I ++ (dotF F ++ X) := by
    obtain ⟨_, _, _, _, _, _, _, _, h0', kk', a8, a9, _⟩ := P.reads
    have : (if l[0] = 45 then 1 else 0) = (sgB g).length := by
      cases g
      · rw [if_neg (by simpa using a9)]; rfl
      · rw [if_pos (by simpa using a9)]; rfl
    rw [this]
    have e : ∀ l', l' = sgB g ++ (I ++ (dotF F ++ X)) → l'.drop (sgB g).length = I ++ (dotF F ++ X) := by rintro _ rfl; simp
    exact e l hl
  rw [hdrop]
  exact scanN_form P.i P.f P.x.ends
end Go.Proofs.YtapinbbflfkglaaGreatDoor
