import Derived.Test.YtapinbbflfkglaaGreatDoorVFb11
namespace Go.Proofs.YtapinbbflfkglaaGreatDoor
open Go.RowKit Go.Lib Go.Sort
set_option maxRecDepth 100000
def mantT (l : List UInt8) : List UInt8 := Lib.trimSuffix (Lib.trimRightB (Lib.cut l [101]).1 48) [46]
def mant0 (l : List UInt8) : List UInt8 := if mantT l = [] ∨ mantT l = [45] then mantT l ++ [48] else mantT l
theorem cut_len (l s : List UInt8) : (Lib.cut l s).1.length ≤ l.length := by
  unfold Lib.cut
  split
  · first | (simp; done) | (simp; omega)
  · exact Nat.le_refl _
theorem trimRightB_len (l : List UInt8) (c : UInt8) : (Lib.trimRightB l c).length ≤ l.length := by
  unfold Lib.trimRightB
  rw [List.length_reverse]
  exact Nat.le_trans (List.dropWhile_suffix _).length_le (by simp)
theorem trimSuffix_len (l s : List UInt8) : (Lib.trimSuffix l s).length ≤ l.length := by
  unfold Lib.trimSuffix
  split
  · first | (simp; done) | (simp; omega)
  · exact Nat.le_refl _
theorem itoa_len {n : Int} (h : -1000 ≤ n ∧ n ≤ 1000) : (Lib.itoa n).length ≤ 24 := by
  unfold Lib.itoa
  split
  · rw [List.length_cons, Lib.decDigits_length]
    have : n.natAbs = 0 ∨ 1 ≤ n.natAbs := by omega
    rcases this with c | c
    · rw [c, Lib.nDigits_small (by omega)]; omega
    · have := nDigits_le c (k := 4) (by omega); omega
  · rw [Lib.decDigits_length]
    have : n.toNat = 0 ∨ 1 ≤ n.toNat := by omega
    rcases this with c | c
    · rw [c, Lib.nDigits_small (by omega)]; omega
    · have := nDigits_le c (k := 4) (by omega); omega
theorem below_grw (B : Nat) (w : World) (q : Nat) (os : Array Obj) (hB : B ≤ w.heap.size) : Below B w (grow (w.drewN q) os) :=
  ⟨rfl, rfl, rfl, by first | (simp [grow]; done) | (simp [grow]; omega), fun i hi => by
    show ((w.drewN q).heap ++ os)[i]? = _
    rw [Array.getElem?_append_left (by show i < w.heap.size; omega)]
    rfl⟩
theorem ba_append (x y : List UInt8) : (⟨x.toArray⟩ ++ ⟨y.toArray⟩ : ByteArray) = ⟨(x ++ y).toArray⟩ := by
  apply ByteArray.ext
  simp [ByteArray.data_append]
set_option maxHeartbeats 1000000 in
theorem text_any (W w : World) (b : Int) (hb : U64 b) (hk : kindZ b < 3) (l : List UInt8) (n : Int) (hf : FtoaIs W b.toNat l) (hB : Below W.heap.size W w) (hl : l.length ≤ 24) (hn : Lib.atoi (Lib.cut l [101]).2.1 = some n) (hnb : -1000 ≤ n ∧ n ≤ 1000)
    (hT : ∀ w', Below W.heap.size W w' → Tabs w' ∧ ∃ m, w'.cell? ⟨4, 0, none⟩ = some (.int .i64 m)) (hle : (Lib.cut l [101]).2.1.length ≤ 18) :
    Calls Tryz.prog 21 #[.int .u64 b] w fun e w' =>
      e = .returned (.tuple #[.string ⟨(mant0 l ++ [101] ++ Lib.itoa n).toArray⟩, .int .i64 0]) ∧ Below W.heap.size W w' := by
  have HK := Lib.hid (fun w => kind_any b w hb)
  have HF := Lib.hid (fun w hB => fformat_any W w b.toNat l hf hB)
  have hx := ext_frombits
  obtain ⟨A, hA⟩ : ∃ A, A = (Lib.cut l [101]).1 := ⟨_, rfl⟩
  obtain ⟨X, hX⟩ : ∃ X, X = (Lib.cut l [101]).2.1 := ⟨_, rfl⟩
  obtain ⟨fl, hfl⟩ : ∃ fl, fl = (Lib.cut l [101]).2.2 := ⟨_, rfl⟩
  obtain ⟨A1, hA1⟩ : ∃ A1, A1 = Lib.trimRightB A 48 := ⟨_, rfl⟩
  obtain ⟨A2, hA2⟩ : ∃ A2, A2 = Lib.trimSuffix A1 [46] := ⟨_, rfl⟩
  have hAl : A.length ≤ 24 := by rw [hA]; exact Nat.le_trans (cut_len l _) hl
  have hA1l : A1.length ≤ 24 := by rw [hA1]; exact Nat.le_trans (trimRightB_len A _) hAl
  have hA2l : A2.length ≤ 24 := by rw [hA2]; exact Nat.le_trans (trimSuffix_len A1 _) hA1l
  have HC : Hid (∀ w m, w.cell? ⟨4, 0, none⟩ = some (.int .i64 m) → Calls Tryz.prog 38 #[.string ⟨l.toArray⟩, .string ⟨#[101]⟩] w fun e w' => e = .returned (.tuple #[.string ⟨A.toArray⟩, .string ⟨X.toArray⟩, .bool fl]) ∧ ∃ n, w' = w.drewN n) := Lib.hid (fun w m hm => by
    rw [hA, hX, hfl]
    exact Tryz.strings_Cut ⟨l.toArray⟩ ⟨#[101]⟩ m w (by show l.toArray.size < _; simp; omega) hm)
  have HTR : Hid (∀ w, Calls Tryz.prog 40 #[.string ⟨A.toArray⟩, .string ⟨#[48]⟩] w fun e w' => e = .returned (.string ⟨A1.toArray⟩) ∧ w' = w) := Lib.hid (fun w => by
    rw [hA1]; exact Tryz.strings_TrimRight_one ⟨A.toArray⟩ 48 (by decide) w (by show A.toArray.size ≤ _; simp; omega))
  have HTS : Hid (∀ w, Calls Tryz.prog 39 #[.string ⟨A1.toArray⟩, .string ⟨#[46]⟩] w fun e w' => e = .returned (.string ⟨A2.toArray⟩) ∧ w' = w) := Lib.hid (fun w => by
    rw [hA2]; exact Tryz.strings_TrimSuffix ⟨A1.toArray⟩ ⟨#[46]⟩ w (by show A1.toArray.size ≤ _; simp; omega))
  have HAT : Hid (∀ w, Calls Tryz.prog 41 #[.string ⟨X.toArray⟩] w fun e w' => e = .returned (.tuple #[.int .i64 n, .nilIface]) ∧ ∃ t, w' = Lib.bytesWorld w 5 t) := Lib.hid (fun w => by
    rw [hX]; exact Tryz.strconv_Atoi ⟨(Lib.cut l [101]).2.1.toArray⟩ n (by show Array.size _ ≤ _; simpa using hle) hn w)
  have HIT : Hid (∀ w, Tabs w → Calls Tryz.prog 42 #[.int .i64 n] w fun e w' => e = .returned (.string ⟨(Lib.itoa n).toArray⟩) ∧ ∃ k os, w' = grow (w.drewN k) os) := Lib.hid (fun w h => Tryz.strconv_Itoa n (by omega) (by omega) w h.tab)
  have HA : Hid (A2 = mantT l) := Lib.hid (by rw [hA2, hA1, hA]; rfl)
  obtain ⟨Z, hZ⟩ : ∃ Z, Z = Lib.itoa n := ⟨_, rfl⟩
  have hZl : Z.length ≤ 24 := by rw [hZ]; exact itoa_len hnb
  rw [← hZ] at HIT ⊢
  clear hA hX hfl hA1 hA2 hn hnb hle hZ
  have HB := Lib.hid hB
  have HT := Lib.hid hT
  have hc1 : decide ((3 : Int) ≤ kindZ b) = false := by simp only [decide_eq_false_iff_not]; omega
  obtain ⟨K, hK⟩ : ∃ K, K = kindZ b := ⟨_, rfl⟩
  rw [← hK] at hc1 HK
  clear hf hB hT hK hk
  go_enter Tryz.func21, Tryz.ntmps21
  go_wp2_with (fail)
  refine (HK.out _).mono ?_
  rintro e' w1 ⟨rfl, rfl⟩
  go_wp2_with (fail)
  refine (HF.out _ HB.out).mono ?_
  rintro e' w2 ⟨rfl, hB2⟩
  have HB2 := Lib.hid hB2
  clear hB2
  go_wp2_with (fail)
  obtain ⟨mm, hmm⟩ := (HT.out w2 HB2.out).2
  refine (HC.out w2 mm hmm).mono ?_
  rintro e' w3 ⟨rfl, k3, hw3⟩
  have HB3 : Hid (Below W.heap.size W w3) := Lib.hid (by rw [hw3]; exact below_drewN HB2.out _)
  clear hw3 hmm HB2 HC
  go_wp2_with (fail)
  refine (HTR.out _).mono ?_
  rintro e' w4 ⟨rfl, rfl⟩
  go_wp2_with (fail)
  refine (HTS.out _).mono ?_
  rintro e' w5 ⟨rfl, rfl⟩
  clear HTR HTS
  by_cases c1 : A2 = []
  · subst c1
    have HA3 : Hid ([48] = mant0 l) := Lib.hid (by unfold mant0; rw [← HA.out, if_pos (.inl rfl)]; rfl)
    clear HA
    go_wp2_with (fail)
    refine (HAT.out _).mono ?_
    rintro e' w6 ⟨rfl, t6, hw6⟩
    have HB6 : Hid (Below W.heap.size W w6) := Lib.hid (by rw [hw6]; exact HB3.out.trans ((Lib.bytesWorld_below _ _ _).mono HB3.out.size))
    clear hw6 HB3 HAT
    go_wp2_with (fail)
    refine (HIT.out _ (HT.out _ HB6.out).1).mono ?_
    rintro e' w7 ⟨rfl, k7, os7, hw7⟩
    have HB7 : Hid (Below W.heap.size W w7) := Lib.hid (by rw [hw7]; exact HB6.out.trans ((below_grw _ _ _ _ (Nat.le_refl _)).mono HB6.out.size))
    clear hw7 HB6 HIT
    go_wp2_with (fail)
    go_ret2
    rw [← HA3.out]
    exact ⟨by simp [ba_append], HB7.out⟩
  · by_cases c2 : A2 = [45]
    · subst c2
      have HA3 : Hid ([45, 48] = mant0 l) := Lib.hid (by unfold mant0; rw [← HA.out, if_pos (.inr rfl)]; rfl)
      clear HA c1
      go_wp2_with (fail)
      refine (HAT.out _).mono ?_
      rintro e' w6 ⟨rfl, t6, hw6⟩
      have HB6 : Hid (Below W.heap.size W w6) := Lib.hid (by rw [hw6]; exact HB3.out.trans ((Lib.bytesWorld_below _ _ _).mono HB3.out.size))
      clear hw6 HB3 HAT
      go_wp2_with (fail)
      refine (HIT.out _ (HT.out _ HB6.out).1).mono ?_
      rintro e' w7 ⟨rfl, k7, os7, hw7⟩
      have HB7 : Hid (Below W.heap.size W w7) := Lib.hid (by rw [hw7]; exact HB6.out.trans ((below_grw _ _ _ _ (Nat.le_refl _)).mono HB6.out.size))
      clear hw7 HB6 HIT
      go_wp2_with (fail)
      go_ret2
      rw [← HA3.out]
      exact ⟨by simp [ba_append], HB7.out⟩
    · have HA3 : Hid (A2 = mant0 l) := Lib.hid (by unfold mant0; rw [← HA.out, if_neg (by rintro (h | h); exact c1 h; exact c2 h)])
      have hE1 : A2.isEmpty = false := by cases A2 with | nil => exact absurd rfl c1 | cons a t => rfl
      have hE2 : (A2 == [45]) = false := by simpa using c2
      clear HA c1 c2
      go_wp2_with (fail)
      refine (HAT.out _).mono ?_
      rintro e' w6 ⟨rfl, t6, hw6⟩
      have HB6 : Hid (Below W.heap.size W w6) := Lib.hid (by rw [hw6]; exact HB3.out.trans ((Lib.bytesWorld_below _ _ _).mono HB3.out.size))
      clear hw6 HB3 HAT
      go_wp2_with (fail)
      refine (HIT.out _ (HT.out _ HB6.out).1).mono ?_
      rintro e' w7 ⟨rfl, k7, os7, hw7⟩
      have HB7 : Hid (Below W.heap.size W w7) := Lib.hid (by rw [hw7]; exact HB6.out.trans ((below_grw _ _ _ _ (Nat.le_refl _)).mono HB6.out.size))
      clear hw7 HB6 HIT
      go_wp2_with (fail)
      go_ret2
      rw [← HA3.out]
      exact ⟨by simp [ba_append], HB7.out⟩
end Go.Proofs.YtapinbbflfkglaaGreatDoor
