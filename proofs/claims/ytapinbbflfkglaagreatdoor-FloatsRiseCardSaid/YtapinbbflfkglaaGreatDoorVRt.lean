import Derived.Test.YtapinbbflfkglaaGreatDoorVRq
import Derived.Deep.CutBlock
import Derived.Deep.CutRange
namespace Go.Proofs.YtapinbbflfkglaaGreatDoor
open Go.RowKit
open Go.Proofs.YtapinbbflfkglaaGreatDoor.Fp (IsNear)
set_option maxRecDepth 100000
attribute [local go_sem] setCell_drewN
def FbAns (N D : Nat) (r : Nat) (ovf : Bool) : Prop := (ovf = false ∧ r < 9218868437227405312 ∧ IsNear N D r) ∨ (ovf = true ∧ r = 9218868437227405312 ∧ TooBig N D)
set_option maxHeartbeats 4000000 in
theorem fb_any (w : World) (g : Nat) (gp ga : Addr) (s : Dec) (n0 A B : Nat) (T : SlowTab w gp ga) (hne : gp.block ≠ g) (hna : ga.block ≠ g) (h6 : 6 ≠ g) (h9 : 9 ≠ g) (h12 : 12 ≠ g) (h : Okd s n0) (hs : s.is n0 A B) (hB : 0 < B) (hn0 : n0 ≤ 64) (htr : s.tr = false) (hlo : -330 ≤ s.dp) (hhi : s.dp ≤ 310) (hg : g < w.heap.size) :
    Calls Tryz.prog 125 #[.pointer (some ⟨g, 0, none⟩), .pointer (some ⟨6, 0, none⟩)] (putD w g s) fun e w' => (∃ r ovf, e = .returned (.tuple #[.int .u64 ((sgN s.neg + r : Nat) : Int), .bool ovf]) ∧ FbAns (A * 2 ^ 1075) B r ovf) ∧ ∃ N s', w' = (putD w g s').drewN N := by
  have f0 := cell_putD_nd w g s hg
  rw [h.nd] at f0
  have f2 := cell_putD_dp w g s hg
  have hn1 := h.pos
  have hS := Lib.hid (fun (s1 s2 : Dec) (n1 n2 t u : Nat) (hm : Mid s s1 n0 n1 A B t) (hl : LPh s1 s2 n1 n2 A (B * 2 ^ t) u 0) (h53 : 53 ≤ s2.d 0) => scaled_of h hs hB hn0 hlo hm hl h53)
  obtain ⟨D, hD⟩ : ∃ D, D = s.dp := ⟨_, rfl⟩
  obtain ⟨W, hW⟩ : ∃ W, W = putD w g s := ⟨_, rfl⟩
  rw [← hW] at f0 f2 ⊢
  rw [← hD] at f2 hlo hhi
  replace hW := Lib.hid hW
  replace hD := Lib.hid hD
  have c00 : (((n0 : Nat) : Int) == 0) = false := by rw [beq_eq_false_iff_ne]; omega
  have c01 : decide (310 < D) = false := by simp; omega
  have c02 : decide (D < -330) = false := by simp; omega
  go_enter Tryz.func125, Tryz.ntmps125
  go_wp2_with fail
  refine wp_scope_two (by rfl) (by rfl) ?_
  intro J0 J1 hJ0 hJ1
  replace hJ0 := Lib.hid hJ0
  replace hJ1 := Lib.hid hJ1
  go_upto_block 0 with fail
  go_cut [6, 8] (fun s6 s8 wx => ∃ (t n1 N : Nat) (s1 : Dec), s6 = .int .i64 (t : Nat) ∧ wx = (putD w g s1).drewN N ∧ Hid (Mid s s1 n0 n1 A B t))
  case first =>
    as_aux_lemma =>
    have hT := Lib.hid T
    clear T
    by_cases c0 : 0 < D
    · obtain ⟨p0, rfl⟩ : ∃ p0 : Nat, D = ((p0 : Nat) : Int) := ⟨D.toNat, by omega⟩
      have hsd : s.dp = ((p0 : Nat) : Int) := hD.out.symm
      have hR0 : RPh s s n0 n0 A B 0 p0 p0 := ⟨h, by rw [Nat.pow_zero, Nat.mul_one]; exact hs, hsd, Nat.le_refl _, by omega, rfl, rfl⟩
      have hBd := Lib.hid (fun (sx : Dec) (n t p : Nat) (hR : RPh s sx n0 n A B t p0 p) => hR.bound h hs hsd hB)
      replace hR0 := Lib.hid hR0
      replace h := Lib.hid h
      replace hs := Lib.hid hs
      replace hsd := Lib.hid hsd
      go_wp2_with fail
      go_loopg [6, 8] 2000 (fun gk s6 s8 wx => ∃ (t n p N : Nat) (sx : Dec), s6 = .int .i64 (t : Nat) ∧ wx = (putD w g sx).drewN N ∧ gk + t = 2000 ∧ Hid (RPh s sx n0 n A B t p0 p))
      case atStart => exact ⟨0, n0, p0, 0, s, rfl, hW.out, rfl, hR0⟩
      case round =>
        obtain ⟨t, n, p, N, sx, rfl, rfl, hgk, hR⟩ := hrel
        clear f0 f2 hW
        have f0 := cell_putD_nd w g sx hg
        rw [hR.out.good.nd] at f0
        have f2 := cell_putD_dp w g sx hg
        rw [hR.out.dp] at f2
        have t9 := (cell_putD_ne w g sx ⟨9, 0, none⟩ h9).trans hT.out.row
        have tp := Lib.hid (fun i hi => (cell_putD_ne w g sx (ga.add i) (by rw [add_block]; exact hna)).trans (hT.out.pow i hi))
        have hpp := hR.out.le
        have hbt := hBd.out sx n t p hR.out
        by_cases c1 : p = 0
        · subst c1
          have hM : Hid (Mid s sx n0 n A B t) := Lib.hid (.inr ⟨p0, hsd.out, by omega, by omega, hR.out⟩)
          obtain ⟨W2, hW2⟩ : ∃ W2, W2 = putD w g sx := ⟨_, rfl⟩
          rw [← hW2] at f0 f2 t9 ⊢
          replace hW2 := Lib.hid hW2
          clear tp
          go_wp2_with fail
          go_meet
          case rel => exact ⟨t, n, N, sx, rfl, by rw [hW2.out], hM⟩
        · obtain ⟨k1, k2, k3, k4, k5, k6⟩ := kR_ok p
          have hSh := fun M => shift_right (w.drewN M) g sx n (kR p) (qR p) hR.out.good k1 (by omega) k4 (room_right p p0 t n n0 (by omega) hpp (by omega) hn0 hbt (by have := hR.out.len; exact this)) hg (by rw [hR.out.dp]; omega)
          simp only [← drewN_putD] at hSh
          have hst := Lib.hid (fun (n' : Nat) (s' : Dec) (m : Moved sx s' n n' 0 (kR p)) => hR.out.step hB (by omega) m)
          have hKs : Hid (9 ≤ p → kR p = 27) := Lib.hid (fun h => by unfold kR; rw [if_pos h])
          obtain ⟨K, hK⟩ : ∃ K, K = kR p := ⟨_, rfl⟩
          rw [← hK] at hSh hst k1 k2 hKs
          replace hSh := Lib.hid hSh
          clear hBd k3 k4 k5 k6
          by_cases c9 : 9 ≤ p
          · have hK27 := hKs.out c9
            subst hK27
            obtain ⟨W2, hW2⟩ : ∃ W2, W2 = putD w g sx := ⟨_, rfl⟩
            rw [← hW2] at f0 f2 t9 hSh ⊢
            clear tp hW2 hK
            go_wp2_with fail
            go_quiet (fail)
            go_wp2_with fail
            refine (hSh.out _).mono ?_
            rintro e w' ⟨rfl, N', n', s', rfl, hm⟩
            obtain ⟨p', hp'⟩ := hst.out n' s' hm
            have hp2 := Lib.hid hp'
            clear hp' hm hst hR
            go_wp2_with fail
            go_roundg (gk - 27)
            case measure => omega
            case rel => exact ⟨t + 27, n', p', N + nq + N', s', by rw [Int.natCast_add]; rfl, rfl, by omega, hp2⟩
          · have f9 := tp.out p (by omega)
            rw [← hK] at f9
            obtain ⟨W2, hW2⟩ : ∃ W2, W2 = putD w g sx := ⟨_, rfl⟩
            rw [← hW2] at f0 f2 t9 f9 hSh ⊢
            have hp9 : p < 9 := by omega
            clear tp hW2 hK hKs
            go_wp2_with fail
            go_quiet (fail)
            go_wp2_with fail
            go_quiet (fail)
            go_wp2_with fail
            refine (hSh.out _).mono ?_
            rintro e w' ⟨rfl, N', n', s', rfl, hm⟩
            obtain ⟨p', hp'⟩ := hst.out n' s' hm
            have hp2 := Lib.hid hp'
            clear hp' hm hst hR
            go_wp2_with fail
            go_roundg (gk - K)
            case measure => omega
            case rel => exact ⟨t + K, n', p', _, s', by rw [Int.natCast_add], rfl, by omega, hp2⟩
    · have hM : Hid (Mid s s n0 n0 A B 0) := Lib.hid (.inl ⟨rfl, rfl, rfl, by rw [← hD.out]; omega⟩)
      go_wp2_with fail
      go_loopg [6, 8] 1 (fun gk s6 s8 wx => gk = 1 ∧ s6 = .int .i64 0 ∧ wx = W)
      case atStart => exact ⟨rfl, rfl, rfl⟩
      case round =>
        obtain ⟨rfl, rfl, rfl⟩ := hrel
        go_wp2_with fail
        go_meet
        case rel => exact ⟨0, n0, 0, s, rfl, hW.out, hM⟩
  case rest =>
    as_aux_lemma =>
    obtain ⟨t, n1, N1, s1, rfl, rfl, hM⟩ := hcut
    have hT := Lib.hid T
    have hs1 : Okd s1 n1 ∧ s1.is n1 A (B * 2 ^ t) ∧ s1.dp ≤ 0 ∧ -330 ≤ s1.dp ∧ t ≤ 1100 ∧ (n1 : Int) - s1.dp ≤ 794 := by
      rcases hM.out with ⟨rfl, rfl, rfl, hd⟩ | ⟨p0, a1, a2, a3, hr⟩
      · exact ⟨h, by rw [Nat.pow_zero, Nat.mul_one]; exact hs, hd, by rw [← hD.out]; exact hlo, by omega, by rw [← hD.out]; omega⟩
      · have hb := hr.bound h hs a1 hB
        have hd := hr.dp
        have hl := hr.len
        exact ⟨hr.good, hr.is, by omega, by omega, by omega, by omega⟩
    obtain ⟨b1, b2, b3, b4, b5, b6⟩ := hs1
    have hBt : 0 < B * 2 ^ t := Nat.mul_pos hB (Nat.two_pow_pos t)
    obtain ⟨q1, hq1⟩ : ∃ q1 : Nat, s1.dp = -((q1 : Nat) : Int) := ⟨(-s1.dp).toNat, by omega⟩
    have hL0 : LPh s1 s1 n1 n1 A (B * 2 ^ t) 0 q1 := ⟨b1, by rw [Nat.pow_zero, Nat.mul_one]; exact b2, hq1, by omega, rfl, rfl⟩
    have hBd := Lib.hid (fun (sx : Dec) (n u q : Nat) (hL : LPh s1 sx n1 n A (B * 2 ^ t) u q) => hL.bound b1 b2 hq1 hBt)
    replace hL0 := Lib.hid hL0
    have hq1' : q1 ≤ 330 := by omega
    have hn18 : n1 + q1 ≤ 794 := by omega
    have hlen1 := Lib.hid (fun (sx : Dec) (n u q : Nat) (hL : LPh s1 sx n1 n A (B * 2 ^ t) u q) => (show n + q ≤ 794 by have := hL.len; omega))
    replace hq1 := Lib.hid hq1
    replace b1 := Lib.hid b1
    replace b2 := Lib.hid b2
    have hSc := Lib.hid (fun (s2 : Dec) (n2 u : Nat) (hl : LPh s1 s2 n1 n2 A (B * 2 ^ t) u 0) (h53 : 53 ≤ s2.d 0) => hS.out s1 s2 n1 n2 t u hM.out hl h53)
    clear T hS hM b3 b4 b6 f0 f2 h hs hW
    go_upto_block 2 with fail
    go_cut [6, 9] (fun s6 s9 wx => ∃ (u n2 N : Nat) (s2 : Dec), s6 = .int .i64 ((t : Nat) - (u : Nat) : Int) ∧ wx = (putD w g s2).drewN N ∧ Hid (Scaled s s2 n2 A B t u))
    case first =>
      as_aux_lemma =>
      go_wp2_with fail
      go_loopg [6, 9] 2000 (fun gk s6 s9 wx => ∃ (u n q N : Nat) (sx : Dec), s6 = .int .i64 ((t : Nat) - (u : Nat) : Int) ∧ wx = (putD w g sx).drewN N ∧ gk + u = 2000 ∧ Hid (LPh s1 sx n1 n A (B * 2 ^ t) u q))
      case atStart => exact ⟨0, n1, q1, N1, s1, by rw [Int.natCast_zero, Int.sub_zero], rfl, rfl, hL0⟩
      case round =>
        obtain ⟨u, n, q, N, sx, rfl, rfl, hgk, hL⟩ := hrel
        have f0 := cell_putD_nd w g sx hg
        rw [hL.out.good.nd] at f0
        have f2 := cell_putD_dp w g sx hg
        rw [hL.out.dp] at f2
        have f4 := cell_putD_dig w g sx 0 hg (by decide)
        have t9 := (cell_putD_ne w g sx ⟨9, 0, none⟩ h9).trans hT.out.row
        have tp := Lib.hid (fun i hi => (cell_putD_ne w g sx (ga.add i) (by rw [add_block]; exact hna)).trans (hT.out.pow i hi))
        have hbt := hBd.out sx n u q hL.out
        have hnq := hlen1.out sx n u q hL.out
        have hd0 := hL.out.good.dig 0 (by have := hL.out.good.pos; omega)
        obtain ⟨hd1, hd2⟩ := hd0
        by_cases c1 : q = 0 ∧ 53 ≤ sx.d 0
        · obtain ⟨rfl, c53⟩ := c1
          have hM : Hid (Scaled s sx n A B t u) := Lib.hid (hSc.out sx n u hL.out c53)
          obtain ⟨E, hE⟩ : ∃ E, E = sx.d 0 := ⟨_, rfl⟩
          obtain ⟨W2, hW2⟩ : ∃ W2, W2 = putD w g sx := ⟨_, rfl⟩
          rw [← hE] at f4 c53 hd1 hd2
          rw [← hW2] at f0 f2 f4 t9 ⊢
          replace hW2 := Lib.hid hW2
          clear tp hE
          go_wp2_with fail
          go_meet
          case rel => exact ⟨u, n, N, sx, rfl, by rw [hW2.out], hM⟩
        · have hqq : 1 ≤ q ∨ 2 * (A * 2 ^ u) < B * 2 ^ t := by
            by_cases cq : q = 0
            · right
              subst cq
              exact (hL.out.good.half hL.out.is hBt hL.out.dp).1 (by omega)
            · left; omega
          obtain ⟨k1, k2, _, _, k5, _⟩ := kR_ok q
          have hSh := fun M => shift_left (w.drewN M) g gp sx n (kR q) ⟨hT.out.cut.row, hT.out.cut.dl, hT.out.cut.cut⟩ hne h12 hL.out.good k1 (by omega) (by omega) hg (by rw [hL.out.dp]; omega)
          simp only [← drewN_putD] at hSh
          have hst := Lib.hid (fun (n' : Nat) (s' : Dec) (m : Moved sx s' n n' (kR q) 0) => hL.out.step hBt hqq m)
          have hKs : Hid (9 ≤ q → kR q = 27) := Lib.hid (fun h => by unfold kR; rw [if_pos h])
          obtain ⟨K, hK⟩ : ∃ K, K = kR q := ⟨_, rfl⟩
          rw [← hK] at hSh hst k1 k2 hKs
          replace hSh := Lib.hid hSh
          clear hBd k5 hSc hlen1
          by_cases c9 : 9 ≤ q
          · have hK27 := hKs.out c9
            subst hK27
            obtain ⟨W2, hW2⟩ : ∃ W2, W2 = putD w g sx := ⟨_, rfl⟩
            rw [← hW2] at f0 f2 f4 t9 hSh ⊢
            clear tp hW2 hK hqq
            go_wp2_with fail
            go_quiet (fail)
            go_wp2_with fail
            refine (hSh.out _).mono ?_
            rintro e w' ⟨rfl, N', n', s', rfl, hm⟩
            obtain ⟨q', hq'⟩ := hst.out n' s' hm
            have hq2 := Lib.hid hq'
            clear hq' hm hst hL
            go_wp2_with fail
            go_roundg (gk - 27)
            case measure => omega
            case rel => exact ⟨u + 27, n', q', _, s', by rw [Int.natCast_add, ← Int.sub_sub]; rfl, rfl, by omega, hq2⟩
          · have f9 := tp.out q (by omega)
            rw [← hK] at f9
            obtain ⟨W2, hW2⟩ : ∃ W2, W2 = putD w g sx := ⟨_, rfl⟩
            have hp9 : q < 9 := by omega
            obtain ⟨E, hE⟩ : ∃ E, E = sx.d 0 := ⟨_, rfl⟩
            rw [← hE] at f4 c1 hd1 hd2
            rw [← hW2] at f0 f2 f4 t9 f9 hSh ⊢
            clear tp hW2 hK hqq hKs hE
            by_cases cq : q = 0
            · have c53 : E < 53 := by omega
              have c2 : decide (0 < q) = false := by simp; omega
              have c3 : (-((q : Nat) : Int) == 0) = true := by rw [beq_iff_eq]; omega
              have c4 : decide (-((q : Nat) : Int) < 0) = false := by simp; omega
              replace cq := Lib.hid cq
              go_wp2_with fail
              go_quiet (fail)
              go_wp2_with fail
              go_quiet (fail)
              go_wp2_with fail
              refine (hSh.out _).mono ?_
              rintro e w' ⟨rfl, N', n', s', rfl, hm⟩
              obtain ⟨q', hq'⟩ := hst.out n' s' hm
              have hq2 := Lib.hid hq'
              clear hq' hm hst hL
              go_wp2_with fail
              go_roundg (gk - K)
              case measure => omega
              case rel => exact ⟨u + K, n', q', _, s', by rw [Int.natCast_add, ← Int.sub_sub], rfl, by omega, hq2⟩
            · go_wp2_with fail
              go_quiet (fail)
              go_wp2_with fail
              go_quiet (fail)
              go_wp2_with fail
              refine (hSh.out _).mono ?_
              rintro e w' ⟨rfl, N', n', s', rfl, hm⟩
              obtain ⟨q', hq'⟩ := hst.out n' s' hm
              have hq2 := Lib.hid hq'
              clear hq' hm hst hL
              go_wp2_with fail
              go_roundg (gk - K)
              case measure => omega
              case rel => exact ⟨u + K, n', q', _, s', by rw [Int.natCast_add, ← Int.sub_sub], rfl, by omega, hq2⟩
    case rest =>
      as_aux_lemma =>
      obtain ⟨u, n2, N2, s2, rfl, rfl, hSd⟩ := hcut
      have z1 := hSd.out.bt
      have z2 := hSd.out.bu
      have hA0 : ∃ e : Int, e = (t : Nat) - (u : Nat) - 1 := ⟨_, rfl⟩
      obtain ⟨e, he⟩ := hA0
      have e1 : -1111 ≤ e := by omega
      have e2 : e ≤ 1099 := by omega
      have hn8 := hSd.out.good.le
      have g6 : ∀ sx : Dec, (putD w g sx).cell? ⟨6, 0, none⟩ = some (.int .u64 52) ∧ (putD w g sx).cell? ⟨6, 1, none⟩ = some (.int .u64 11) ∧ (putD w g sx).cell? ⟨6, 2, none⟩ = some (.int .i64 (-1023)) :=
        fun sx => ⟨(cell_putD_ne w g sx ⟨6, 0, none⟩ h6).trans hT.out.i0, (cell_putD_ne w g sx ⟨6, 1, none⟩ h6).trans hT.out.i1, (cell_putD_ne w g sx ⟨6, 2, none⟩ h6).trans hT.out.i2⟩
      replace g6 := Lib.hid g6
      obtain ⟨t0, t1, t2⟩ := g6.out s2
      obtain ⟨W2, hW2⟩ : ∃ W2, W2 = putD w g s2 := ⟨_, rfl⟩
      rw [← hW2] at t0 t1 t2
      rw [← hW2]
      replace hW2 := Lib.hid hW2
      replace he := Lib.hid he
      have he2 : ((t : Nat) : Int) - ((u : Nat) : Int) - 1 = e := he.out.symm
      clear hSc hBd hlen1 hL0
      go_upto_if 111 with fail
      go_cut [6, 10] (fun s6 s10 wx => ∃ (X : Int) (nn n3 N : Nat) (s3 : Dec), s6 = .int .i64 X ∧ wx = (putD w g s3).drewN N ∧ Hid (X = (t : Int) - u - 1 + nn) ∧ Hid ((nn = 0 ∧ -1022 ≤ X) ∨ X = -1022) ∧ Hid (St3 s s3 n3 A B t u nn))
      case first =>
        as_aux_lemma =>
        by_cases c : e < -1022
        · obtain ⟨nn, hnn⟩ : ∃ nn : Nat, ((nn : Nat) : Int) = -1022 - e := ⟨(-1022 - e).toNat, by omega⟩
          have hsm : (t : Int) - u ≤ -1 := by have := he.out; omega
          have h394 := hSd.out.small hsm
          have hSh : ∀ M, Calls Tryz.prog 103 #[.pointer (some ⟨g, 0, none⟩), .int .i64 (-((nn : Nat) : Int))] ((putD w g s2).drewN M) fun e w' => e = .returned (.tuple #[]) ∧ ∃ (N n' : Nat) (s' : Dec), w' = (putD (w.drewN M) g s').drewN N ∧ Moved s2 s' n2 n' 0 nn := by
            intro M
            rw [drewN_putD]
            by_cases c60 : nn ≤ 60
            · exact shift_right (w.drewN M) g s2 n2 nn 0 hSd.out.good (by omega) c60 (Nat.pow_pos (n := nn) (show 0 < 2 by omega)) (by omega) hg (by rw [hSd.out.dp]; omega)
            · exact shift_right2 (w.drewN M) g s2 n2 nn hSd.out.good (by omega) (by omega) (by omega) hg (by rw [hSd.out.dp]; omega)
          have hSt := Lib.hid (fun (n3 : Nat) (s3 : Dec) (m : Moved s2 s3 n2 n3 0 nn) => hSd.out.st3_moved m (by omega) hsm)
          rw [← hW2.out] at hSh
          replace hSh := Lib.hid hSh
          have hnn2 : (-1022 : Int) - e = ((nn : Nat) : Int) := hnn.symm
          have hnn3 : e + ((nn : Nat) : Int) = -1022 := by omega
          have hX : Hid ((-1022 : Int) = (t : Int) - u - 1 + nn) := Lib.hid (by have := he.out; omega)
          replace hnn := Lib.hid hnn
          go_wp2_with fail
          refine (hSh.out _).mono ?_
          rintro e w' ⟨rfl, N', n', s', rfl, hm⟩
          have hS3 := Lib.hid (hSt.out n' s' hm)
          clear hm hSt hSh
          go_wp2_with fail
          go_meet
          case rel => exact ⟨-1022, nn, n', _, s', rfl, by rw [← drewN_putD, World.drewN_drewN], hX, Lib.hid (.inr rfl), hS3⟩
        · have hX : Hid (e = (t : Int) - u - 1 + ((0 : Nat) : Int)) := Lib.hid (by have := he.out; omega)
          have hS3 := Lib.hid hSd.out.st3
          go_wp2_with fail
          go_meet
          case rel => exact ⟨e, 0, n2, _, s2, rfl, by rw [hW2.out], hX, Lib.hid (.inl ⟨rfl, by omega⟩), hS3⟩
      case rest =>
        as_aux_lemma =>
        clear hW2 t0 t1 t2 h9 hna
        obtain ⟨X, nn, n3, N3, s3, rfl, rfl, hX, hXc, h3⟩ := hcut
        obtain ⟨m, hm⟩ : ∃ m, m = Fp.rhe (A * 2 ^ u * 2 ^ 53) (B * 2 ^ (t + nn)) := ⟨_, rfl⟩
        obtain ⟨k, hk, hm53, hnear, hk52⟩ := fin_ans hB hSd.out.lo hSd.out.hi hX.out hXc.out hm
        have hneg := h3.out.neg
        have hx1 : -1022 ≤ X := by omega
        have hx2 : X ≤ 1200 := by have := hX.out; have := hXc.out; have := he.out; omega
        obtain ⟨t0, t1, t2⟩ := g6.out s3
        have f3 := cell_putD_neg w g s3 hg
        rw [hneg] at f3
        replace hnear := Lib.hid hnear
        by_cases cb : 1024 ≤ X
        · have hbig : Hid (TooBig (A * 2 ^ 1075) B) := Lib.hid (tooBig_near hnear.out (by omega))
          obtain ⟨b, hb⟩ : ∃ b, b = s.neg := ⟨_, rfl⟩
          obtain ⟨W3, hW3⟩ : ∃ W3, W3 = putD w g s3 := ⟨_, rfl⟩
          rw [← hb] at f3
          rw [← hW3] at t0 t1 t2 f3 ⊢
          replace hb := Lib.hid hb
          replace hW3 := Lib.hid hW3
          clear hk hk52 hneg g6 hSd h3 hX hXc he he2
          go_wp2_with fail
          go_quiet (fail)
          go_wp2_with fail
          go_step3
          go_wp2_with fail
          refine hJ1.out _ _ ?_
          clear hJ0 hJ1
          have d1 : bits .and .u64 0 4503599627370495 = 0 := by decide
          have d2 : bits .and .i64 2047 2047 = 2047 := by decide
          have d3 : bits .or .u64 0 9218868437227405312 = 9218868437227405312 := by decide
          have d4 : bits .or .u64 9218868437227405312 9223372036854775808 = 18442240474082181120 := by decide
          go_wp2_with fail
          go_quiet (fail)
          go_wp2_with fail
          go_step3
          go_wp2_with fail
          go_quiet (fail)
          cases b
          · go_wp2_with fail
            rw [Exit.noGoto_ret]
            go_ret2
            exact ⟨⟨9218868437227405312, true, by rw [← hb.out]; rfl, .inr ⟨rfl, rfl, hbig.out⟩⟩, _, s3, by first | (rw [hW3.out]; done) | rw [hW3.out, World.drewN_drewN]⟩
          · go_wp2_with fail
            go_quiet (fail)
            go_wp2_with fail
            rw [Exit.noGoto_ret]
            go_ret2
            exact ⟨⟨9218868437227405312, true, by rw [← hb.out]; rfl, .inr ⟨rfl, rfl, hbig.out⟩⟩, _, s3, by first | (rw [hW3.out]; done) | rw [hW3.out, World.drewN_drewN]⟩
        · have hroom := h3.out.room (by have := hX.out; omega)
          have hA3 : A * 2 ^ u < B * 2 ^ (t + nn) := by
            have : B * 2 ^ t * 1 ≤ B * 2 ^ t * 2 ^ nn := Nat.mul_le_mul_left _ (Nat.two_pow_pos nn)
            have hhi := hSd.out.hi
            rw [Nat.pow_add, ← Nat.mul_assoc]
            omega
          have hBn : 0 < B * 2 ^ (t + nn) := Nat.mul_pos hB (Nat.two_pow_pos _)
          have hSh := fun M => shift_left (w.drewN M) g gp s3 n3 53 ⟨hT.out.cut.row, hT.out.cut.dl, hT.out.cut.cut⟩ hne h12 h3.out.ok (by omega) (by omega) (by show n3 + 16 ≤ 800; omega) hg (by have := h3.out.d1; have := h3.out.d2; omega)
          simp only [← drewN_putD] at hSh
          have hRi := Lib.hid (fun (M n4 : Nat) (s4 : Dec) (mv : Moved s3 s4 n3 n4 53 0) => ri_any (w.drewN M) g s4 n4 (A * 2 ^ u * 2 ^ 53) (B * 2 ^ (t + nn)) mv.good (by rw [mv.tr, h3.out.tr]; exact htr) (by have := mv.is _ _ h3.out.is; rwa [Nat.pow_zero, Nat.mul_one] at this) hBn (Nat.mul_lt_mul_of_pos_right hA3 (by decide)) hg)
          rw [← hm] at hRi
          have hng := Lib.hid (fun (n4 : Nat) (s4 : Dec) (mv : Moved s3 s4 n3 n4 53 0) => (show s4.neg = s.neg by rw [mv.neg, hneg]))
          obtain ⟨b, hb⟩ : ∃ b, b = s.neg := ⟨_, rfl⟩
          obtain ⟨W3, hW3⟩ : ∃ W3, W3 = putD w g s3 := ⟨_, rfl⟩
          rw [← hb] at f3
          rw [← hW3] at t0 t1 t2 f3 hSh ⊢
          replace hb := Lib.hid hb
          replace hW3 := Lib.hid hW3
          replace hSh := Lib.hid hSh
          replace hm := Lib.hid hm
          clear hroom hA3 hBn hneg hSd h3 hX hXc he he2
          go_wp2_with fail
          go_quiet (fail)
          go_wp2_with fail
          refine (hSh.out _).mono ?_
          rintro e w' ⟨rfl, N4, n4, s4, rfl, mv⟩
          have hR4 := Lib.hid (fun M => hRi.out M n4 s4 mv)
          have hn4 := Lib.hid (hng.out n4 s4 mv)
          clear mv hRi hng hSh t0 t1 t2 f3 hW3
          obtain ⟨t0, t1, t2⟩ := g6.out s4
          have f3 := cell_putD_neg w g s4 hg
          rw [hn4.out, ← hb.out] at f3
          simp only [← drewN_putD] at hR4
          obtain ⟨W4, hW4⟩ : ∃ W4, W4 = putD w g s4 := ⟨_, rfl⟩
          rw [← hW4] at t0 t1 t2 f3 hR4 ⊢
          replace hW4 := Lib.hid hW4
          clear g6
          go_wp2_with fail
          refine (hR4.out _).mono ?_
          rintro e w' ⟨rfl, N5, rfl⟩
          clear hR4
          by_cases c53 : m = 9007199254740992
          · have hm2 := hm
            clear hm hk52
            subst c53
            have d0 : bits .and .u64 4503599627370496 4503599627370496 = 4503599627370496 := by decide
            by_cases c23 : X = 1023
            · subst c23
              have hbig : Hid (TooBig (A * 2 ^ 1075) B) := Lib.hid (tooBig_near hnear.out (by omega))
              clear hk
              go_wp2_with fail
              go_quiet (fail)
              go_wp2_with fail
              go_step3
              go_wp2_with fail
              refine hJ1.out _ _ ?_
              clear hJ0 hJ1
              have d1 : bits .and .u64 0 4503599627370495 = 0 := by decide
              have d2 : bits .and .i64 2047 2047 = 2047 := by decide
              have d3 : bits .or .u64 0 9218868437227405312 = 9218868437227405312 := by decide
              have d4 : bits .or .u64 9218868437227405312 9223372036854775808 = 18442240474082181120 := by decide
              go_wp2_with fail
              go_quiet (fail)
              go_wp2_with fail
              go_step3
              go_wp2_with fail
              go_quiet (fail)
              cases b
              · go_wp2_with fail
                rw [Exit.noGoto_ret]
                go_ret2
                exact ⟨⟨9218868437227405312, true, by rw [← hb.out]; rfl, .inr ⟨rfl, rfl, hbig.out⟩⟩, _, s4, by first | (rw [hW4.out]; done) | rw [hW4.out, World.drewN_drewN]⟩
              · go_wp2_with fail
                go_quiet (fail)
                go_wp2_with fail
                rw [Exit.noGoto_ret]
                go_ret2
                exact ⟨⟨9218868437227405312, true, by rw [← hb.out]; rfl, .inr ⟨rfl, rfl, hbig.out⟩⟩, _, s4, by first | (rw [hW4.out]; done) | rw [hW4.out, World.drewN_drewN]⟩
            · obtain ⟨Y, hY⟩ : ∃ Y : Nat, ((Y : Nat) : Int) = X + 1 + 1023 := ⟨(X + 1 + 1023).toNat, by omega⟩
              obtain ⟨K, hK⟩ : ∃ K, K = Y * 4503599627370496 := ⟨_, rfl⟩
              have hY1 : Y < 2048 := by omega
              have hfin : Hid (K < 9218868437227405312 ∧ IsNear (A * 2 ^ 1075) B K) := Lib.hid ⟨by omega, by
                have := hnear.out
                rwa [show k * 4503599627370496 + 9007199254740992 = K by omega] at this⟩
              have d1 : bits .and .u64 4503599627370496 4503599627370495 = 0 := by decide
              have d2 := i64_and2047 ((Y : Nat) : Int) (by omega) (by omega)
              obtain ⟨_, d3, d4⟩ := fb_bits 0 Y (by omega) hY1
              rw [Nat.zero_mod, Nat.zero_add, ← hK] at d3 d4
              replace d3 : bits .or .u64 0 ((K : Nat) : Int) = ((K : Nat) : Int) := d3
              have dv : ((Y : Nat) : Int) * 4503599627370496 = ((K : Nat) : Int) := by rw [hK, Int.natCast_mul]; rfl
              have dY : X + 1 + 1023 = ((Y : Nat) : Int) := hY.symm
              have hK1 : K < 9223372036854775808 := by omega
              replace hK := Lib.hid hK
              clear hk hY
              go_wp2_with fail
              go_quiet (fail)
              go_wp2_with fail
              go_step3
              go_wp2_with fail
              refine hJ0.out _ _ ?_
              clear hJ0 hJ1
              go_wp2_with fail
              go_quiet (fail)
              cases b
              · go_wp2_with fail
                rw [Exit.noGoto_ret]
                go_ret2
                exact ⟨⟨K, false, by rw [← hb.out]; simp [sgN], .inl ⟨rfl, hfin.out⟩⟩, _, s4, by first | (rw [hW4.out]; done) | rw [hW4.out, World.drewN_drewN]⟩
              · go_wp2_with fail
                go_quiet (fail)
                go_wp2_with fail
                rw [Exit.noGoto_ret]
                go_ret2
                exact ⟨⟨K, false, by rw [← hb.out]; simp [sgN], .inl ⟨rfl, hfin.out⟩⟩, _, s4, by first | (rw [hW4.out]; done) | rw [hW4.out, World.drewN_drewN]⟩
          · have c54 : (((m : Nat) : Int) == 9007199254740992) = false := by rw [beq_eq_false_iff_ne]; omega
            have a0 := and_b52 0 m (by omega)
            rw [Nat.mul_zero, Nat.zero_add] at a0
            have d0 : bits .and .u64 ((m : Nat) : Int) 4503599627370496 = ((if m < 4503599627370496 then 0 else 4503599627370496 : Nat) : Int) := by
              have := u64_and_nat m 4503599627370496 (by omega) (by omega)
              simp only [Int.cast_ofNat_Int] at this
              rw [this, a0]
            clear a0
            by_cases c52 : m < 4503599627370496
            · rw [if_pos c52] at d0
              have hk0 : k = 0 := by omega
              obtain ⟨K, hK⟩ : ∃ K, K = m := ⟨_, rfl⟩
              have hfin : Hid (K < 9218868437227405312 ∧ IsNear (A * 2 ^ 1075) B K) := Lib.hid ⟨by omega, by
                have := hnear.out
                rwa [show k * 4503599627370496 + m = K by omega] at this⟩
              obtain ⟨d1, d3, d4⟩ := fb_bits m 0 (by omega) (by omega)
              rw [Nat.mod_eq_of_lt c52, Nat.zero_mul, Nat.add_zero] at d3 d4
              replace d3 : bits .or .u64 ((m : Nat) : Int) 0 = ((m : Nat) : Int) := d3
              rw [Nat.mod_eq_of_lt c52] at d1
              rw [← hK] at d0 d1 d3 d4 c52 c54 ⊢
              have d2 : bits .and .i64 0 2047 = 0 := by decide
              clear hk hk52 hk0 hm hm53 hnear c53
              replace hK := Lib.hid hK
              go_wp2_with fail
              go_step3
              go_wp2_with fail
              refine hJ0.out _ _ ?_
              clear hJ0 hJ1
              go_wp2_with fail
              go_quiet (fail)
              cases b
              · go_wp2_with fail
                rw [Exit.noGoto_ret]
                go_ret2
                exact ⟨⟨K, false, by rw [← hb.out]; simp [sgN], .inl ⟨rfl, hfin.out⟩⟩, _, s4, by first | (rw [hW4.out]; done) | rw [hW4.out, World.drewN_drewN]⟩
              · go_wp2_with fail
                go_quiet (fail)
                go_wp2_with fail
                rw [Exit.noGoto_ret]
                go_ret2
                exact ⟨⟨K, false, by rw [← hb.out]; simp [sgN], .inl ⟨rfl, hfin.out⟩⟩, _, s4, by first | (rw [hW4.out]; done) | rw [hW4.out, World.drewN_drewN]⟩
            · rw [if_neg c52] at d0
              obtain ⟨Y, hY⟩ : ∃ Y : Nat, ((Y : Nat) : Int) = X + 1023 := ⟨(X + 1023).toNat, by omega⟩
              obtain ⟨V, hV⟩ : ∃ V, V = Y * 4503599627370496 := ⟨_, rfl⟩
              obtain ⟨L, hL⟩ : ∃ L, L = m % 4503599627370496 := ⟨_, rfl⟩
              obtain ⟨K, hK⟩ : ∃ K, K = L + V := ⟨_, rfl⟩
              have hY1 : Y < 2048 := by omega
              have hfin : Hid (K < 9218868437227405312 ∧ IsNear (A * 2 ^ 1075) B K) := Lib.hid ⟨by omega, by
                have := hnear.out
                rwa [show k * 4503599627370496 + m = K by omega] at this⟩
              have d2 := i64_and2047 ((Y : Nat) : Int) (by omega) (by omega)
              obtain ⟨d1, d3, d4⟩ := fb_bits m Y (by omega) hY1
              rw [← hL, ← hV, ← hK] at d3 d4
              rw [← hL] at d1
              have dv : ((Y : Nat) : Int) * 4503599627370496 = ((V : Nat) : Int) := by rw [hV, Int.natCast_mul]; rfl
              have dY : X + 1023 = ((Y : Nat) : Int) := hY.symm
              have hV1 : V < 9223372036854775808 := by omega
              replace hK := Lib.hid hK
              replace hV := Lib.hid hV
              replace hL := Lib.hid hL
              replace hm := Lib.hid hm.out
              clear hk hk52 hnear hY c53
              go_wp2_with fail
              go_step3
              go_wp2_with fail
              refine hJ0.out _ _ ?_
              clear hJ0 hJ1
              go_wp2_with fail
              go_quiet (fail)
              cases b
              · go_wp2_with fail
                rw [Exit.noGoto_ret]
                go_ret2
                exact ⟨⟨K, false, by rw [← hb.out]; simp [sgN], .inl ⟨rfl, hfin.out⟩⟩, _, s4, by first | (rw [hW4.out]; done) | rw [hW4.out, World.drewN_drewN]⟩
              · go_wp2_with fail
                go_quiet (fail)
                go_wp2_with fail
                rw [Exit.noGoto_ret]
                go_ret2
                exact ⟨⟨K, false, by rw [← hb.out]; simp [sgN], .inl ⟨rfl, hfin.out⟩⟩, _, s4, by first | (rw [hW4.out]; done) | rw [hW4.out, World.drewN_drewN]⟩
end Go.Proofs.YtapinbbflfkglaaGreatDoor
