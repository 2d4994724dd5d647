import Derived.Test.YtapinbbflfkglaaGreatDoorVFb5
import Derived.PlainAid
import Derived.Deep.CutBlock
namespace Go.Proofs.YtapinbbflfkglaaGreatDoor
open Go.RowKit
open Go.PlainAid (bt get_bt bt_nonneg bt_le bt_end)
set_option maxRecDepth 100000
structure Acc where
  mant : Nat
  nd : Nat
  ndm : Nat
  dp : Int
  dot : Bool
  saw : Bool
  trunc : Bool
def Acc.put (a : Acc) (c : UInt8) : Acc :=
  if c = 48 ∧ a.nd = 0 then { a with dp := a.dp - 1, saw := true }
  else if a.ndm < 19 then { a with mant := a.mant * 10 + (c.toNat - 48), nd := a.nd + 1, ndm := a.ndm + 1, saw := true }
  else { a with nd := a.nd + 1, saw := true, trunc := a.trunc || c != 48 }
def scanF : List UInt8 → Acc → Acc × List UInt8
  | [], a => (a, [])
  | c :: cs, a =>
    if c = 46 then (if a.dot then (a, c :: cs) else scanF cs { a with dot := true, dp := a.nd })
    else if digB c then scanF cs (a.put c) else (a, c :: cs)
def plainB (c : UInt8) : Bool := c != 95 && c != 120 && c != 88
theorem bt_eq {l : List UInt8} {k : Nat} (hk : k < l.length) (n : Nat) (hn : n < 256) : (bt ⟨l.toArray⟩ k == (n : Int)) = (l[k] == UInt8.ofNat n) := by
  rw [bt_bs l k hk]
  by_cases h : l[k] = UInt8.ofNat n
  · rw [h]; simp [UInt8.toNat_ofNat_of_lt' (by simpa using hn)]
  · rw [byte_ne hn h]; simp [h]
theorem lower_x {c : UInt8} (h : plainB c = true) : (bits .or .u8 (c.toNat : Int) 32 == 120) = false := by
  have h2 : ∀ n, n < 256 → plainB (UInt8.ofNat n) = true → (bits .or .u8 (((UInt8.ofNat n).toNat : Nat) : Int) 32 == 120) = false := by decide +kernel
  have := h2 c.toNat c.toNat_lt
  rw [UInt8.ofNat_toNat] at this
  exact this h
def acc0 : Acc := { mant := 0, nd := 0, ndm := 0, dp := 0, dot := false, saw := false, trunc := false }
structure OkA (a : Acc) (k : Nat) : Prop where
  m : a.mant < 10 ^ a.ndm
  n : a.ndm ≤ 19
  d : a.nd ≤ k
  e : a.ndm ≤ a.nd
  lo : -(k : Int) ≤ a.dp
  hi : a.dp ≤ k
theorem scan_end {l : List UInt8} {k : Nat} (h : l.length ≤ k) (a : Acc) : scanF (l.drop k) a = (a, l.drop k) := by
  rw [List.drop_eq_nil_of_le h]; rfl
theorem scan_at {l : List UInt8} {k : Nat} (h : k < l.length) (a : Acc) : scanF (l.drop k) a =
    if l[k] = 46 then (if a.dot then (a, l.drop k) else scanF (l.drop (k + 1)) { a with dot := true, dp := a.nd })
    else if digB l[k] then scanF (l.drop (k + 1)) (a.put l[k]) else (a, l.drop k) := by
  rw [List.drop_eq_getElem_cons h]; rfl
theorem OkA.dot {a : Acc} {k : Nat} (h : OkA a k) : OkA { a with dot := true, dp := a.nd } (k + 1) :=
  ⟨h.m, h.n, by have := h.d; show a.nd ≤ k + 1; omega, h.e, by show -((k + 1 : Nat) : Int) ≤ (a.nd : Int); omega, by have := h.d; show (a.nd : Int) ≤ ((k + 1 : Nat) : Int); omega⟩
theorem OkA.put {a : Acc} {k : Nat} (h : OkA a k) {c : UInt8} (hc : digB c = true) : OkA (a.put c) (k + 1) := by
  obtain ⟨c1, c2⟩ := dig_iff.1 hc
  obtain ⟨m, n, d, e, lo, hi⟩ := h
  unfold Acc.put
  split
  · exact ⟨m, n, by show a.nd ≤ k + 1; omega, e, by show -((k + 1 : Nat) : Int) ≤ a.dp - 1; omega, by show a.dp - 1 ≤ ((k + 1 : Nat) : Int); omega⟩
  · split
    · refine ⟨?_, by show a.ndm + 1 ≤ 19; omega, by show a.nd + 1 ≤ k + 1; omega, by show a.ndm + 1 ≤ a.nd + 1; omega, by show -((k + 1 : Nat) : Int) ≤ a.dp; omega, by show a.dp ≤ ((k + 1 : Nat) : Int); omega⟩
      show a.mant * 10 + (c.toNat - 48) < 10 ^ (a.ndm + 1)
      rw [Nat.pow_succ]; omega
    · exact ⟨m, n, by show a.nd + 1 ≤ k + 1; omega, by show a.ndm ≤ a.nd + 1; omega, by show -((k + 1 : Nat) : Int) ≤ a.dp; omega, by show a.dp ≤ ((k + 1 : Nat) : Int); omega⟩
theorem OkA.m18 {a : Acc} {k : Nat} (h : OkA a k) (hn : a.ndm < 19) : (a.mant : Int) ≤ 999999999999999999 := by
  have := h.m
  have h2 : 10 ^ a.ndm ≤ 10 ^ 18 := Nat.pow_le_pow_right (by omega) (by omega)
  have h3 : (10 : Nat) ^ 18 = 1000000000000000000 := by decide
  omega
def eF : List UInt8 → Nat → Nat
  | [], e => e
  | c :: cs, e => eF cs (if e < 10000 then e * 10 + (c.toNat - 48) else e)
def dpF (a : Acc) : Int := if a.dot then a.dp else a.nd
inductive Tail (l : List UInt8) (k : Nat) : Int → Prop
  | none : k = l.length → Tail l k 0
  | exp (q : Nat) (neg : Bool) (hk : k < l.length) (he : l[k] = 101 ∨ l[k] = 69) (hq : k + 1 ≤ q) (hs : ∀ h : k + 1 < l.length, (q = k + 1 ∧ neg = false) ∨ (q = k + 2 ∧ l[k + 1] = 43 ∧ neg = false) ∨ (q = k + 2 ∧ l[k + 1] = 45 ∧ neg = true)) (hq2 : q < l.length) (hd : ∀ j (h : j < l.length), q ≤ j → digB l[j] = true) : Tail l k (if neg then -(eF (l.drop q) 0 : Nat) else (eF (l.drop q) 0 : Nat))
theorem dpF_bd {a : Acc} {k : Nat} (h : OkA a k) : -(k : Int) ≤ dpF a ∧ dpF a ≤ k := by
  have := h.lo; have := h.hi; have := h.d
  unfold dpF; split <;> omega
theorem eF_le : ∀ (ds : List UInt8) (e : Nat), e ≤ 99999 → (∀ c ∈ ds, digB c = true) → eF ds e ≤ 99999
  | [], e, h, _ => h
  | c :: cs, e, h, hd => by
    have := (dig_iff.1 (hd c (by simp))).2
    refine eF_le cs _ ?_ (fun c hc => hd c (by simp [hc]))
    split <;> omega
theorem lower_e {c : UInt8} (h : c = 101 ∨ c = 69) : (bits .or .u8 (c.toNat : Int) 32 == 101) = true := by
  rcases h with rfl | rfl <;> decide
set_option maxHeartbeats 8000000 in
theorem readFloat_any (l : List UInt8) (w : World) (hl : l.length ≤ 64) (hpl : ∀ c ∈ l, plainB c = true) (h0 : 0 < l.length) (h1 : l[0] ≠ 43) {A : Acc} {kk : Nat} {xx : Int}
    (hA : scanF (l.drop (if l[0] = 45 then 1 else 0)) acc0 = (A, l.drop kk)) (hkk : kk ≤ l.length) (hsaw : A.saw = true) (htail : Tail l kk xx) :
    Calls Tryz.prog 118 #[.string ⟨l.toArray⟩] w fun e w' => e = .returned (.tuple #[.int .u64 (A.mant : Nat), .int .i64 (if A.mant = 0 then 0 else dpF A + xx - A.ndm), .bool (l[0] == 45), .bool A.trunc, .bool false, .int .i64 (l.length : Nat), .bool true]) ∧ w = w' := by
  obtain ⟨g, hg⟩ : ∃ g : Bool, g = (l[0] == 45) := ⟨_, rfl⟩
  have HG := Lib.hid hg
  have k1 := get_bt ⟨l.toArray⟩
  have t1 : (bt ⟨l.toArray⟩ 0 == 43) = false := by rw [show (43 : Int) = ((43 : Nat) : Int) from rfl, bt_eq h0 43 (by decide)]; simpa using h1
  have t2 : (bt ⟨l.toArray⟩ 0 == 45) = g := by rw [hg, show (45 : Int) = ((45 : Nat) : Int) from rfl, bt_eq h0 45 (by decide)]; rfl
  have hx : ∀ k, k < l.length → (bits .or .u8 (bt ⟨l.toArray⟩ k) 32 == 120) = false := fun k hk => by rw [bt_bs l k hk]; exact lower_x (hpl _ (List.getElem_mem hk))
  have HX := Lib.hid hx
  have hne : decide (l = []) = false := by cases l with | nil => simp at h0 | cons => rfl
  have hu : ∀ k, k < l.length → (bt ⟨l.toArray⟩ k == 95) = false := fun k hk => by
    rw [show (95 : Int) = ((95 : Nat) : Int) from rfl, bt_eq hk 95 (by decide)]
    have := hpl _ (List.getElem_mem hk)
    unfold plainB at this
    simp only [Bool.and_eq_true, bne_iff_ne] at this
    simpa using this.1.1
  have HU := Lib.hid hu
  clear hx hg h1 hpl hu
  have hgl : (l[0] == 45) = g := HG.out.symm
  rw [hgl]
  obtain ⟨i0, hi⟩ : ∃ i0 : Nat, i0 = if g then 1 else 0 := ⟨_, rfl⟩
  have HI := Lib.hid hi
  have hi1 : i0 ≤ 1 := by rw [hi]; split <;> omega
  clear hi
  go_enter Tryz.func118, Tryz.ntmps118
  go_wp2
  go_step3
  go_upto_block 0 with (fail)
  go_cut [4, 7] (fun s4 s7 wc => wc = w ∧ s4 = .bool g ∧ s7 = .int .i64 i0)
  case first =>
    as_aux_lemma =>
      cases g
      all_goals
        go_wp2_with fail
        go_meet
        exact ⟨rfl, rfl, by rw [HI.out]; rfl⟩
  case rest =>
    as_aux_lemma =>
      obtain ⟨rfl, rfl, rfl⟩ := hcut
      clear t1 t2
      go_upto_region 12 with (fail)
      go_cut [54] (fun s54 wx => wx = wc ∧ s54 = .bool false)
      case first =>
        as_aux_lemma =>
          by_cases c1 : i0 + 2 < l.length
          · by_cases c2 : (bt ⟨l.toArray⟩ i0 == 48) = true
            · have hy := HX.out (i0 + 1) (by omega)
              go_wp2_with (go_at_call 132; refine (Tryz.internal_strconv_lower _ _).mono ?_; rintro e w' ⟨rfl, rfl⟩)
              go_meet
              exact ⟨rfl, rfl⟩
            · replace c2 : (bt ⟨l.toArray⟩ i0 == 48) = false := by simpa using c2
              go_wp2_with fail
              go_meet
              exact ⟨rfl, rfl⟩
          · go_wp2_with fail
            go_meet
            exact ⟨rfl, rfl⟩
      case rest =>
        as_aux_lemma =>
          obtain ⟨rfl, rfl⟩ := hcut
          obtain ⟨R, hR⟩ : ∃ R, R = scanF (l.drop i0) acc0 := ⟨_, rfl⟩
          have HR := Lib.hid hR
          have HRA := Lib.hid (show R = (A, l.drop kk) by
            rw [hR, ← hA, HI.out, HG.out]
            by_cases h : l[0] = 45 <;> simp [h])
          clear hR
          go_wp2_with fail
          go_step3
          go_upto_block 1 with (fail)
          go_cut [2, 5, 7, 9, 13, 14, 15, 16, 17, 18] (fun s2 s5 s7 s9 s13 s14 s15 s16 s17 s18 wx => wx = wc ∧ ∃ (k : Nat) (a : Acc) (c : Value), s2 = .int .u64 (a.mant : Nat) ∧ s5 = .bool a.trunc ∧ s7 = .int .i64 k ∧ s9 = .bool false ∧ s13 = .bool a.dot ∧ s14 = .bool a.saw ∧ s15 = .int .i64 (a.nd : Nat) ∧ s16 = .int .i64 (a.ndm : Nat) ∧ s17 = .int .i64 a.dp ∧ s18 = c ∧ k ≤ l.length ∧ Hid (R = (a, l.drop k)) ∧ OkA a k)
          case first =>
            as_aux_lemma =>
              go_wp2_with fail
              go_loop [2, 5, 7, 9, 13, 14, 15, 16, 17, 18] (fun s2 s5 s7 s9 s13 s14 s15 s16 s17 s18 => ∃ (k : Nat) (a : Acc) (c : Value), s2 = .int .u64 (a.mant : Nat) ∧ s5 = .bool a.trunc ∧ s7 = .int .i64 k ∧ s9 = .bool false ∧ s13 = .bool a.dot ∧ s14 = .bool a.saw ∧ s15 = .int .i64 (a.nd : Nat) ∧ s16 = .int .i64 (a.ndm : Nat) ∧ s17 = .int .i64 a.dp ∧ s18 = c ∧ k ≤ l.length ∧ Hid (R = scanF (l.drop k) a) ∧ OkA a k) (fun _ _ s7 _ _ _ _ _ _ _ => l.length - (intOf s7).toNat)
              case atStart => exact ⟨i0, acc0, _, rfl, rfl, rfl, rfl, rfl, rfl, rfl, rfl, rfl, rfl, by omega, HR, ⟨by decide, by decide, Nat.zero_le _, Nat.le_refl _, by simp [acc0], by simp [acc0]⟩⟩
              case round =>
                obtain ⟨k, a, c, rfl, rfl, rfl, rfl, rfl, rfl, rfl, rfl, rfl, rfl, hk, HK, ok⟩ := hrel
                as_aux_lemma =>
                  have ho1 := ok.d
                  have ho2 := ok.e
                  have ho3 := ok.lo
                  have ho4 := ok.hi
                  have ho5 := ok.n
                  by_cases hlt : k < l.length
                  · have hkd : decide ((k : Int) < (l.length : Nat)) = true := by simp; omega
                    have u1 := HU.out k hlt
                    have hb1 := bt_nonneg ⟨l.toArray⟩ k
                    have hb2 := bt_le ⟨l.toArray⟩ k
                    have hbb := Lib.hid (bt_bs l k hlt)
                    have HS := Lib.hid (HK.out.trans (scan_at hlt a))
                    by_cases c1 : l[k] = 46
                    · have u2 : (bt ⟨l.toArray⟩ k == 46) = true := by rw [hbb.out, c1]; rfl
                      cases hd : a.dot with
                      | true =>
                        have HQ := Lib.hid (show R = (a, l.drop k) by rw [HS.out, if_pos c1, hd]; rfl)
                        go_wp2
                        go_meet
                        exact ⟨rfl, k, a, _, rfl, rfl, rfl, rfl, by rw [hd], rfl, rfl, rfl, rfl, rfl, hk, HQ, ok⟩
                      | false =>
                        have HQ := Lib.hid (show R = scanF (l.drop (k + 1)) { a with dot := true, dp := a.nd } by rw [HS.out, if_pos c1, hd]; rfl)
                        go_wp2
                        go_round
                        case rel => exact ⟨k + 1, { a with dot := true, dp := a.nd }, _, rfl, rfl, by go_num, rfl, rfl, rfl, rfl, rfl, rfl, rfl, by omega, HQ, ok.dot⟩
                        case measure => simp [intOf]; omega
                    · have u2 : (bt ⟨l.toArray⟩ k == 46) = false := by rw [hbb.out]; exact byte_ne (by decide) c1
                      by_cases c2 : digB l[k] = true
                      · have HQ := Lib.hid (show R = scanF (l.drop (k + 1)) (a.put l[k]) by rw [HS.out, if_neg c1, if_pos c2])
                        have okp := ok.put c2
                        obtain ⟨d1, d2⟩ := dig_iff.1 c2
                        have e1 : 48 ≤ bt ⟨l.toArray⟩ k := by rw [hbb.out]; omega
                        have e2 : bt ⟨l.toArray⟩ k ≤ 57 := by rw [hbb.out]; omega
                        have u3 : decide (48 ≤ bt ⟨l.toArray⟩ k) = true := by simp [e1]
                        have u4 : decide (bt ⟨l.toArray⟩ k ≤ 57) = true := by simp [e2]
                        by_cases c3 : l[k] = 48 ∧ a.nd = 0
                        · have HP := Lib.hid (show a.put l[k] = { a with dp := a.dp - 1, saw := true } by unfold Acc.put; rw [if_pos c3])
                          have u5 : (bt ⟨l.toArray⟩ k == 48) = true := by rw [hbb.out, c3.1]; rfl
                          have u6 : (((a.nd : Nat) : Int) == 0) = true := by simp [c3.2]
                          rw [HP.out] at HQ okp
                          clear c3 c1 c2 e1 e2
                          go_wp2
                          go_round
                          case rel => exact ⟨k + 1, { a with dp := a.dp - 1, saw := true }, _, rfl, rfl, by go_num, rfl, rfl, rfl, rfl, rfl, rfl, rfl, by omega, HQ, okp⟩
                          case measure => simp [intOf]; omega
                        · by_cases c4 : a.ndm < 19
                          · have HP := Lib.hid (show a.put l[k] = { a with mant := a.mant * 10 + (l[k].toNat - 48), nd := a.nd + 1, ndm := a.ndm + 1, saw := true } by unfold Acc.put; rw [if_neg c3, if_pos c4])
                            rw [HP.out] at HQ okp
                            have hm := ok.m18 c4
                            have u7 : decide ((a.ndm : Int) < 19) = true := by simp; omega
                            have hfin : ((a.mant : Int) * 10 + (bt ⟨l.toArray⟩ k - 48)) = ((a.mant * 10 + (l[k].toNat - 48) : Nat) : Int) := by rw [hbb.out]; omega
                            have HFIN := Lib.hid hfin
                            have u5 : (bt ⟨l.toArray⟩ k == 48) = false ∨ ((bt ⟨l.toArray⟩ k == 48) = true ∧ (((a.nd : Nat) : Int) == 0) = false) := by
                              by_cases h : l[k] = 48
                              · right; exact ⟨by rw [hbb.out, h]; rfl, by have : a.nd ≠ 0 := fun h2 => c3 ⟨h, h2⟩; simp; omega⟩
                              · left; rw [hbb.out]; exact byte_ne (by decide) h
                            clear c3 c1 c2 hfin
                            rcases u5 with u5 | ⟨u5, u6⟩
                            all_goals
                              go_wp2
                              go_round
                              case rel => exact ⟨k + 1, { a with mant := a.mant * 10 + (l[k].toNat - 48), nd := a.nd + 1, ndm := a.ndm + 1, saw := true }, _, by rw [← HFIN.out], rfl, by go_num, rfl, rfl, rfl, by go_num, by go_num, rfl, rfl, by omega, HQ, okp⟩
                              case measure => simp [intOf]; omega
                          · have HP := Lib.hid (show a.put l[k] = { a with nd := a.nd + 1, saw := true, trunc := a.trunc || l[k] != 48 } by unfold Acc.put; rw [if_neg c3, if_neg c4])
                            rw [HP.out] at HQ okp
                            have u7 : decide ((a.ndm : Int) < 19) = false := by simp; omega
                            have u6 : (((a.nd : Nat) : Int) == 0) = false := by simp; omega
                            by_cases h : l[k] = 48
                            · have u5 : (bt ⟨l.toArray⟩ k == 48) = true := by rw [hbb.out, h]; rfl
                              have HT := Lib.hid (show (a.trunc || l[k] != 48) = a.trunc by rw [h]; simp)
                              rw [HT.out] at HQ okp
                              clear c3 c1 c2 e1 e2
                              go_wp2
                              go_round
                              case rel => exact ⟨k + 1, { a with nd := a.nd + 1, saw := true, trunc := a.trunc }, _, rfl, rfl, by go_num, rfl, rfl, rfl, by go_num, rfl, rfl, rfl, by omega, HQ, okp⟩
                              case measure => simp [intOf]; omega
                            · have u5 : (bt ⟨l.toArray⟩ k == 48) = false := by rw [hbb.out]; exact byte_ne (by decide) h
                              have HT := Lib.hid (show (a.trunc || l[k] != 48) = true by simp [h])
                              rw [HT.out] at HQ okp
                              clear c3 c1 c2 e1 e2
                              go_wp2
                              go_round
                              case rel => exact ⟨k + 1, { a with nd := a.nd + 1, saw := true, trunc := true }, _, rfl, rfl, by go_num, rfl, rfl, rfl, by go_num, rfl, rfl, rfl, by omega, HQ, okp⟩
                              case measure => simp [intOf]; omega
                      · have HQ := Lib.hid (show R = (a, l.drop k) by rw [HS.out, if_neg c1, if_neg c2])
                        have u3 : decide (48 ≤ bt ⟨l.toArray⟩ k) = false ∨ (decide (48 ≤ bt ⟨l.toArray⟩ k) = true ∧ decide (bt ⟨l.toArray⟩ k ≤ 57) = false) := by
                          by_cases h : 48 ≤ bt ⟨l.toArray⟩ k
                          · right
                            refine ⟨by simp [h], ?_⟩
                            rw [decide_eq_false_iff_not]
                            intro h2
                            rw [hbb.out] at h h2
                            exact c2 (dig_iff.2 ⟨by omega, by omega⟩)
                          · left; simp; omega
                        clear c1 c2
                        rcases u3 with u3 | ⟨u3, u4⟩
                        all_goals
                          go_wp2
                          go_meet
                          exact ⟨rfl, k, a, _, rfl, rfl, rfl, rfl, rfl, rfl, rfl, rfl, rfl, rfl, hk, HQ, ok⟩
                  · have hkd : decide ((k : Int) < (l.length : Nat)) = false := by simp; omega
                    have HQ := Lib.hid (HK.out.trans (scan_end (by omega) a))
                    go_wp2
                    go_meet
                    exact ⟨rfl, k, a, _, rfl, rfl, rfl, rfl, rfl, rfl, rfl, rfl, rfl, rfl, hk, HQ, ok⟩
          case rest =>
            as_aux_lemma =>
              obtain ⟨rfl, k, a, c, rfl, rfl, rfl, rfl, rfl, rfl, rfl, rfl, rfl, rfl, hk, HK, ok⟩ := hcut
              have hAk : a = A ∧ k = kk := by
                have h := HK.out.symm.trans HRA.out
                have h2 := congrArg (fun p => p.2.length) h
                simp only [List.length_drop] at h2
                exact ⟨congrArg Prod.fst h, by omega⟩
              obtain ⟨rfl, rfl⟩ := hAk
              clear HR HK HRA hi1 HI HG hkk
              have hd1 := (dpF_bd ok).1
              have hd2 := (dpF_bd ok).2
              have ho2 := ok.e
              have ho5 := ok.n
              obtain ⟨mant, nd, ndm, dp, dot, saw, trunc⟩ := a
              obtain ⟨D, hD⟩ : ∃ D : Int, D = if dot then dp else nd := ⟨_, rfl⟩
              have hDD : dpF { mant, nd, ndm, dp, dot, saw, trunc } = D := by rw [hD]; rfl
              rw [hDD] at hd1 hd2
              have HDD := Lib.hid hDD
              dsimp only at *
              subst hsaw
              have hDP := Lib.hid hD
              clear hD hDD ok
              go_upto_if 142 with (fail)
              go_cut [17] (fun s17 wx => wx = wc ∧ s17 = .int .i64 D)
              case first =>
                as_aux_lemma =>
                  cases dot
                  all_goals
                    go_wp2_with fail
                    go_meet
                    exact ⟨rfl, by rw [hDP.out]; rfl⟩
              case rest =>
                as_aux_lemma =>
                  obtain ⟨rfl, rfl⟩ := hcut
                  clear hDP
                  obtain ⟨b, hb⟩ : ∃ b : Bool, b = decide (k < l.length) := ⟨_, rfl⟩
                  have HB := Lib.hid hb
                  clear hb
                  have HT := Lib.hid htail
                  clear htail
                  go_upto_region 57 with (fail)
                  go_cut [161] (fun s161 wx => wx = wc ∧ s161 = .bool b)
                  case first =>
                    as_aux_lemma =>
                      by_cases hlt : k < l.length
                      · have HQ := Lib.hid (show b = true by rw [HB.out]; simp [hlt])
                        have hkd : decide ((k : Int) < (l.length : Nat)) = true := by simp; omega
                        have hy : (bits .or .u8 (bt ⟨l.toArray⟩ k) 32 == 101) = true := by
                          rw [bt_bs l k hlt]
                          cases HT.out with
                          | none h => omega
                          | exp q neg hk he hq hs hq2 hd => exact lower_e he
                        go_wp2_with (go_at_call 132; refine (Tryz.internal_strconv_lower _ _).mono ?_; rintro e w' ⟨rfl, rfl⟩)
                        go_meet
                        exact ⟨rfl, by rw [HQ.out]⟩
                      · have HQ := Lib.hid (show b = false by rw [HB.out]; simp [hlt])
                        have hkd : decide ((k : Int) < (l.length : Nat)) = false := by simp; omega
                        go_wp2_with fail
                        go_meet
                        exact ⟨rfl, by rw [HQ.out]⟩
                  case rest =>
                    as_aux_lemma =>
                      obtain ⟨rfl, rfl⟩ := hcut
                      go_upto_if 161 with (fail)
                      go_cut [7, 9, 17, 19, 20] (fun s7 s9 s17 s19 s20 wx => wx = wc ∧ s7 = .int .i64 (l.length : Nat) ∧ s9 = .bool false ∧ s17 = .int .i64 (D + xx) ∧ -99999 ≤ xx ∧ xx ≤ 99999)
                      case first =>
                        as_aux_lemma =>
                          cases HT.out with
                          | none h =>
                            have HQ := Lib.hid (show b = false by rw [HB.out]; simp; omega)
                            cases b with
                            | true => cases HQ.out
                            | false =>
                            subst h
                            go_wp2_with fail
                            go_meet
                            exact ⟨rfl, rfl, rfl, by simp, by omega, by omega⟩
                          | exp q neg hk he hq hs hq2 hd =>
                            have HQ := Lib.hid (show b = true by rw [HB.out]; simp; omega)
                            cases b with
                            | false => cases HQ.out
                            | true =>
                            have hk1 : k + 1 < l.length := by omega
                            have hss := Lib.hid (hs hk1)
                            have hdd := Lib.hid hd
                            have heb := Lib.hid he
                            clear hs hd he HQ HB
                            obtain ⟨sg, hsg⟩ : ∃ sg : Int, sg = if neg then -1 else 1 := ⟨_, rfl⟩
                            have HSG := Lib.hid hsg
                            clear hsg
                            go_upto_block 4 with (fail)
                            go_cut [7, 19] (fun s7 s19 wx => wx = wc ∧ s7 = .int .i64 (q : Nat) ∧ s19 = .int .i64 sg)
                            case first =>
                              as_aux_lemma =>
                                rcases hss.out with ⟨rfl, rfl⟩ | ⟨rfl, c, rfl⟩ | ⟨rfl, c, rfl⟩
                                · have dd := dig_iff.1 (hdd.out (k + 1) hk1 (Nat.le_refl _))
                                  have u1 : (bt ⟨l.toArray⟩ (k + 1) == 43) = false := by rw [bt_bs l _ hk1, beq_eq_false_iff_ne]; omega
                                  have u2 : (bt ⟨l.toArray⟩ (k + 1) == 45) = false := by rw [bt_bs l _ hk1, beq_eq_false_iff_ne]; omega
                                  clear dd
                                  go_wp2_with fail
                                  go_meet
                                  exact ⟨rfl, by go_num, by rw [HSG.out]; rfl⟩
                                · have u1 : (bt ⟨l.toArray⟩ (k + 1) == 43) = true := by rw [bt_bs l _ hk1, c]; rfl
                                  clear c
                                  go_wp2_with fail
                                  go_meet
                                  exact ⟨rfl, by go_num, by rw [HSG.out]; rfl⟩
                                · have u1 : (bt ⟨l.toArray⟩ (k + 1) == 43) = false := by rw [bt_bs l _ hk1, c]; rfl
                                  have u2 : (bt ⟨l.toArray⟩ (k + 1) == 45) = true := by rw [bt_bs l _ hk1, c]; rfl
                                  clear c
                                  go_wp2_with fail
                                  go_meet
                                  exact ⟨rfl, by go_num, by rw [HSG.out]; rfl⟩
                            case rest =>
                              as_aux_lemma =>
                                obtain ⟨rfl, rfl, rfl⟩ := hcut
                                have dq := dig_iff.1 (hdd.out q hq2 (Nat.le_refl _))
                                have v1 : 48 ≤ bt ⟨l.toArray⟩ q := by rw [bt_bs l _ hq2]; omega
                                have v2 : bt ⟨l.toArray⟩ q ≤ 57 := by rw [bt_bs l _ hq2]; omega
                                have v3 : decide (bt ⟨l.toArray⟩ q < 48) = false := by rw [decide_eq_false_iff_not]; omega
                                have v4 : decide (57 < bt ⟨l.toArray⟩ q) = false := by rw [decide_eq_false_iff_not]; omega
                                have v5 : decide (l.length ≤ q) = false := by rw [decide_eq_false_iff_not]; omega
                                clear dq
                                obtain ⟨E, hE⟩ : ∃ E, E = eF (l.drop q) 0 := ⟨_, rfl⟩
                                have hEb : E ≤ 99999 := by
                                  rw [hE]
                                  refine eF_le _ _ (by omega) ?_
                                  intro c hc
                                  obtain ⟨j, hj, rfl⟩ := List.getElem_of_mem hc
                                  rw [List.getElem_drop]
                                  rw [List.length_drop] at hj
                                  exact hdd.out _ (by omega) (by omega)
                                have HE := Lib.hid hE
                                clear hE
                                go_wp2_with fail
                                go_loop [7, 9, 20] (fun s7 s9 s20 => ∃ (j e : Nat), s7 = .int .i64 (j : Nat) ∧ s9 = .bool false ∧ s20 = .int .i64 (e : Nat) ∧ q ≤ j ∧ j ≤ l.length ∧ e ≤ 99999 ∧ Hid (E = eF (l.drop j) e)) (fun s7 _ _ => l.length - (intOf s7).toNat)
                                case atStart => exact ⟨q, 0, rfl, rfl, rfl, Nat.le_refl _, by omega, by omega, HE⟩
                                case round =>
                                  obtain ⟨j, e, rfl, rfl, rfl, hj1, hj2, he, HJ⟩ := hrel
                                  by_cases hlt : j < l.length
                                  · have dj := dig_iff.1 (hdd.out j hlt hj1)
                                    have hbj := Lib.hid (bt_bs l j hlt)
                                    have w1 : 48 ≤ bt ⟨l.toArray⟩ j := by rw [hbj.out]; omega
                                    have w2 : bt ⟨l.toArray⟩ j ≤ 57 := by rw [hbj.out]; omega
                                    have w3 : (bt ⟨l.toArray⟩ j == 95) = false := by rw [beq_eq_false_iff_ne]; omega
                                    have HK := Lib.hid (show E = eF (l.drop (j + 1)) (if e < 10000 then e * 10 + (l[j].toNat - 48) else e) by rw [HJ.out, List.drop_eq_getElem_cons hlt]; rfl)
                                    by_cases he2 : e < 10000
                                    · have HK2 := Lib.hid (show E = eF (l.drop (j + 1)) (e * 10 + (l[j].toNat - 48)) by rw [HK.out, if_pos he2])
                                      have hfin := Lib.hid (show (e : Int) * 10 + bt ⟨l.toArray⟩ j - 48 = ((e * 10 + (l[j].toNat - 48) : Nat) : Int) by rw [hbj.out]; omega)
                                      have hfb : e * 10 + (l[j].toNat - 48) ≤ 99999 := by omega
                                      clear dj
                                      go_wp2
                                      go_round
                                      case rel => exact ⟨j + 1, e * 10 + (l[j].toNat - 48), by go_num, rfl, by rw [← hfin.out], by omega, by omega, hfb, HK2⟩
                                      case measure => simp [intOf]; omega
                                    · have HK2 := Lib.hid (show E = eF (l.drop (j + 1)) e by rw [HK.out, if_neg he2])
                                      clear dj
                                      go_wp2
                                      go_round
                                      case rel => exact ⟨j + 1, e, by go_num, rfl, rfl, by omega, by omega, he, HK2⟩
                                      case measure => simp [intOf]; omega
                                  · have hj : j = l.length := by omega
                                    have HK2 := Lib.hid (show E = e by rw [HJ.out, List.drop_eq_nil_of_le (by omega)]; rfl)
                                    subst hj
                                    cases neg with
                                    | false =>
                                      obtain rfl : sg = 1 := HSG.out
                                      go_wp2
                                      go_meet
                                      have hxx : (if false = true then -((eF (l.drop q) 0 : Nat) : Int) else ((eF (l.drop q) 0 : Nat) : Int)) = (e : Int) := by rw [if_neg (by decide), ← HE.out, HK2.out]
                                      exact ⟨rfl, rfl, rfl, by first | (rw [hxx]; done) | (rw [hxx]; congr 1; omega), by rw [hxx]; omega, by rw [hxx]; omega⟩
                                    | true =>
                                      obtain rfl : sg = -1 := HSG.out
                                      go_wp2
                                      go_meet
                                      have hxx : (if true = true then -((eF (l.drop q) 0 : Nat) : Int) else ((eF (l.drop q) 0 : Nat) : Int)) = -(e : Int) := by rw [if_pos rfl, ← HE.out, HK2.out]
                                      exact ⟨rfl, rfl, rfl, by first | (rw [hxx]; done) | (rw [hxx]; congr 1; omega), by rw [hxx]; omega, by rw [hxx]; omega⟩
                      case rest =>
                        as_aux_lemma =>
                          obtain ⟨rfl, rfl, rfl, rfl, hx1, hx2⟩ := hcut
                          by_cases hm : mant = 0
                          · have hm2 : (((mant : Nat) : Int) != 0) = false := by simp [hm]
                            go_wp2_with fail
                            rw [Exit.noGoto_ret]
                            refine bodyPost_ret (v := .tuple #[.int .u64 (mant : Nat), .int .i64 0, .bool g, .bool trunc, .bool false, .int .i64 (l.length : Nat), .bool true]) (by simp [results, Tryz.results118, go_sem]) rfl ⟨?_, rfl⟩
                            rw [if_pos hm]
                          · have hm2 : (((mant : Nat) : Int) != 0) = true := by simp [hm]
                            go_wp2_with fail
                            rw [Exit.noGoto_ret]
                            refine bodyPost_ret (v := .tuple #[.int .u64 (mant : Nat), .int .i64 (D + xx - ndm), .bool g, .bool trunc, .bool false, .int .i64 (l.length : Nat), .bool true]) (by simp [results, Tryz.results118, go_sem]) rfl ⟨?_, rfl⟩
                            rw [if_neg hm, HDD.out]
end Go.Proofs.YtapinbbflfkglaaGreatDoor
