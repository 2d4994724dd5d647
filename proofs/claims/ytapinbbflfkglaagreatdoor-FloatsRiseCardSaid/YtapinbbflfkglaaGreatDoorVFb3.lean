import Derived.Test.YtapinbbflfkglaaGreatDoorVSh
import Derived.Test.YtapinbbflfkglaaGreatDoorVFb2
import Derived.Shelf.Strings.SlTrimAscii
import Derived.Below
import Derived.Deep.DeepCutAuto
namespace Go.Proofs.YtapinbbflfkglaaGreatDoor
open Go.RowKit
set_option maxRecDepth 100000
def digB (c : UInt8) : Bool := 48 ≤ c && c ≤ 57
def runL (l : List UInt8) : Nat := (l.takeWhile digB).length
theorem trim_digs (l : List UInt8) : (Lib.trimLeftS l [48, 49, 50, 51, 52, 53, 54, 55, 56, 57]).length + runL l = l.length := by
  unfold Lib.trimLeftS runL
  have e : (fun c : UInt8 => [48, 49, 50, 51, 52, 53, 54, 55, 56, 57].contains c) = digB := by
    funext c
    have h : ∀ n, n < 256 → [48, 49, 50, 51, 52, 53, 54, 55, 56, 57].contains (UInt8.ofNat n) = digB (UInt8.ofNat n) := by decide +kernel
    have := h c.toNat c.toNat_lt
    rwa [UInt8.ofNat_toNat] at this
  rw [e]
  have := List.takeWhile_append_dropWhile (p := digB) (l := l)
  have h2 := congrArg List.length this
  rw [List.length_append] at h2
  omega
theorem run_le (l : List UInt8) : runL l ≤ l.length := by have := trim_digs l; omega
theorem ret_of {a b : Value} (h : a = b) : Ending.returned a = .returned b := by rw [h]
abbrev bs (l : List UInt8) : ByteArray := ⟨l.toArray⟩
theorem bs_drop (l : List UInt8) (n m : Nat) (h : m = l.length) : (bs l).extract n m = bs (l.drop n) := by
  subst h
  apply ByteArray.ext
  simp [ByteArray.data_extract]
  exact List.take_of_length_le (by simp)
set_option maxHeartbeats 400000 in
theorem run_any (l : List UInt8) (w : World) (hl : l.length ≤ 9223372036854775807) :
    Calls Tryz.prog 50 #[.string ⟨l.toArray⟩] w fun e w' => e = .returned (.int .i64 (runL l)) ∧ Below w.heap.size w w' := by
  have tl := fun w => Any.strings_TrimLeft_laid Tryz.lays161 (by kernel_rfl) ⟨l.toArray⟩ ⟨#[48, 49, 50, 51, 52, 53, 54, 55, 56, 57]⟩ w (by decide) (ascii_of_all (by decide))
  have TL := Lib.hid tl
  clear tl
  have h0 : (Lib.trimLeftS l [48, 49, 50, 51, 52, 53, 54, 55, 56, 57]).length ≤ l.length := by have := trim_digs l; omega
  go_enter Tryz.func50, Tryz.ntmps50
  go_wp2_with (go_at_call 67; refine (TL.out _).mono ?_; rintro e w' ⟨rfl, hb⟩)
  go_ret
  exact ⟨ret_of (by rw [show (l.length : Int) - (Lib.trimLeftS l [48, 49, 50, 51, 52, 53, 54, 55, 56, 57]).length = runL l from by have := trim_digs l; omega]; rfl), hb⟩
def headE : List UInt8 → Bool
  | [] => false
  | x :: _ => x == 101 || x == 69
def headS : List UInt8 → Bool
  | [] => false
  | x :: _ => x == 43 || x == 45
def expo (z : List UInt8) : Bool := runL z != 0 && (z.drop (runL z)).isEmpty
def formE (c : List UInt8) : Bool :=
  if headE c then (if headS c.tail then expo c.tail.tail else expo c.tail) else c.isEmpty
def formB (b : List UInt8) : Bool :=
  if Lib.hasPrefix b [46] then (if runL (Lib.trimPrefix b [46]) = 0 then false else formE ((Lib.trimPrefix b [46]).drop (runL (Lib.trimPrefix b [46])))) else formE b
def formN (a : List UInt8) : Bool :=
  if runL a = 0 ∨ (1 < runL a ∧ a.head? = some 48) then false else formB (a.drop (runL a))
def formL (l : List UInt8) : Bool :=
  if l = [] ∨ 64 < l.length then false else formN (Lib.trimPrefix l [45])
theorem slice_from (l : List UInt8) (n : Nat) (h : n ≤ l.length) {c : List UInt8} (hc : l.drop n = c) (w : World) :
    (Instr.slice 9 (.string ⟨l.toArray⟩) (some (.int .i64 n)) none none).run Tryz.prog w = .ok (.string ⟨c.toArray⟩) w := by
  rw [run_slice_string_from_if w 9 _ _ _ Tryz.underlying9]
  have hs : (bs l).size = l.length := by simp [ByteArray.size]
  rw [if_pos ⟨by omega, by rw [hs]; omega⟩, Int.toNat_natCast, bs_drop l n _ hs, hc]
theorem bs_head (x : UInt8) (l : List UInt8) : ∀ h, (⟨(x :: l).toArray⟩ : ByteArray)[0]'h = x := fun _ => rfl
theorem slice_one (l : List UInt8) (h : 1 ≤ l.length) (w : World) :
    (Instr.slice 9 (.string ⟨l.toArray⟩) (some (.int .i64 1)) none none).run Tryz.prog w = .ok (.string ⟨l.tail.toArray⟩) w :=
  slice_from l 1 h (by cases l <;> rfl) w
theorem byte_ne {x : UInt8} {n : Nat} (hn : n < 256) (h : x ≠ UInt8.ofNat n) : ((x.toNat : Int) == n) = false := by
  rw [beq_eq_false_iff_ne]
  intro h2
  apply h
  rw [← UInt8.toNat_inj, UInt8.toNat_ofNat_of_lt' (by simpa using hn)]
  omega
set_option maxHeartbeats 1000000 in
theorem form_any (l : List UInt8) (w : World) (hl : l.length ≤ 140737488351232) :
    Calls Tryz.prog 33 #[.string ⟨l.toArray⟩] w fun e w' => e = .returned (.bool (formL l)) ∧ Below w.heap.size w w' := by
  unfold formL
  by_cases h0 : l = []
  · subst h0
    rw [if_pos (.inl rfl)]
    go_enter Tryz.func33, Tryz.ntmps33
    go_wp2
    go_ret
    exact ⟨rfl, Below.refl _ _⟩
  have h0b : l.isEmpty = false := by simpa using h0
  by_cases h1 : 64 < l.length
  · rw [if_pos (.inr h1)]
    replace h1 : decide ((64 : Int) < l.length) = true := by simp; omega
    clear h0
    go_enter Tryz.func33, Tryz.ntmps33
    go_wp2
    go_ret
    exact ⟨rfl, Below.refl _ _⟩
  rw [if_neg (fun h => h.elim h0 h1)]
  replace h1 : decide ((64 : Int) < l.length) = false := by simp; omega
  have ha : (Lib.trimPrefix l [45]).length ≤ 140737488351232 := by
    unfold Lib.trimPrefix; split
    · rw [List.length_drop]; omega
    · exact hl
  clear h0
  obtain ⟨r, hr⟩ : ∃ r, r = formN (Lib.trimPrefix l [45]) := ⟨_, rfl⟩
  rw [← hr]
  have HR := Lib.hid hr
  clear hr
  go_enter Tryz.func33, Tryz.ntmps33
  go_wp2_with fail
  refine (Tryz.strings_TrimPrefix _ _ _).mono ?_
  rintro e w' ⟨rfl, rfl⟩
  generalize Lib.trimPrefix l [45] = a at *
  go_wp2_with fail
  refine (run_any _ _ (by omega)).mono ?_
  rintro e w1 ⟨rfl, hb1⟩
  have hrl := run_le a
  clear h0b h1 hl
  obtain ⟨t, ht⟩ : ∃ t : Bool, t = decide (runL a = 0 ∨ (1 < runL a ∧ a.head? = some 48)) := ⟨_, rfl⟩
  have HT := Lib.hid ht
  clear ht
  go_upto_region 5 with (fail)
  go_cut [29] (fun s29 wc => wc = w1 ∧ s29 = .bool t)
  case first =>
    by_cases c1 : runL a = 0
    · have c1b : (((runL a : Nat) : Int) == 0) = true := by simp [c1]
      have HQ := Lib.hid (show t = true by rw [HT.out]; simp [c1])
      clear c1
      go_wp2_with fail
      go_meet
      exact ⟨rfl, by rw [HQ.out]⟩
    have c1b : (((runL a : Nat) : Int) == 0) = false := by simp [c1]
    obtain ⟨x, a', rfl⟩ : ∃ x a', a = x :: a' := by
      cases a with
      | nil => simp [runL] at c1
      | cons x a' => exact ⟨x, a', rfl⟩
    have k2 := bs_head x a'
    by_cases c2 : 1 < runL (x :: a')
    · have c3b : decide ((1 : Int) < (runL (x :: a') : Nat)) = true := by simp; omega
      by_cases c4 : x = 48
      · have HQ := Lib.hid (show t = true by rw [HT.out, c4]; exact decide_eq_true (.inr ⟨by rw [← c4]; exact c2, rfl⟩))
        subst c4
        clear c1 c2
        go_wp2_with fail
        go_meet
        exact ⟨rfl, by rw [HQ.out]⟩
      · have HQ := Lib.hid (show t = false by rw [HT.out]; simp [c1, c4])
        have t1 : ((x.toNat : Int) == 48) = false := byte_ne (by decide) c4
        clear c1 c2 c4
        go_wp2_with fail
        go_meet
        exact ⟨rfl, by rw [HQ.out]⟩
    · have c3b : decide ((1 : Int) < (runL (x :: a') : Nat)) = false := by simp; omega
      have HQ := Lib.hid (show t = false by rw [HT.out]; simp [c1, c2])
      clear c1 c2
      go_wp2_with fail
      go_meet
      exact ⟨rfl, by rw [HQ.out]⟩
  case rest =>
    obtain ⟨rfl, rfl⟩ := hcut
    cases t with
    | true =>
      have hq : r = false := by
        rw [HR.out]; unfold formN
        rw [if_pos (of_decide_eq_true HT.out.symm)]
      have HQ := Lib.hid hq
      clear hq
      go_wp2
      go_ret
      exact ⟨ret_of (by rw [HQ.out]; rfl), hb1⟩
    | false =>
      have hq : r = formB (a.drop (runL a)) := by
        rw [HR.out]; unfold formN
        rw [if_neg (of_decide_eq_false HT.out.symm)]
      have HQ := Lib.hid hq
      clear hq HR HT
      have hbl : (a.drop (runL a)).length ≤ 140737488351232 := by rw [List.length_drop]; omega
      have k1 := fun w => slice_from a (runL a) hrl rfl w
      generalize a.drop (runL a) = b at *
      go_wp2_with fail
      refine (Tryz.strings_CutPrefix _ _ _).mono ?_
      rintro e w2 ⟨rfl, rfl⟩
      clear k1 hrl ha
      have htl : (Lib.trimPrefix b [46]).length ≤ 140737488351232 := by
        unfold Lib.trimPrefix; split
        · rw [List.length_drop]; omega
        · exact hbl
      have hT := Lib.hid (show Lib.hasPrefix b [46] = true → r = if runL (Lib.trimPrefix b [46]) = 0 then false else formE ((Lib.trimPrefix b [46]).drop (runL (Lib.trimPrefix b [46]))) from fun hp => by rw [HQ.out]; unfold formB; rw [if_pos hp])
      have hF := Lib.hid (show Lib.hasPrefix b [46] = false → r = formE b from fun hp => by rw [HQ.out]; unfold formB; rw [if_neg (by rw [hp]; simp)])
      clear HQ
      generalize Lib.trimPrefix b [46] = f at *
      generalize Lib.hasPrefix b [46] = p at *
      go_upto_if 38 with (fail)
      go_cut [0, 4, 5, 6] (fun s0 s4 s5 s6 wc => ∃ c : List UInt8, s0 = .string ⟨c.toArray⟩ ∧ Hid (r = formE c) ∧ c.length ≤ 140737488351232 ∧ Below w'.heap.size w' wc)
      case first =>
        cases p with
        | true =>
          have HB := Lib.hid (hT.out rfl)
          clear hT hF
          have hfl := run_le f
          go_wp2_with fail
          refine (run_any _ _ (by omega)).mono ?_
          rintro e w3 ⟨rfl, hb3⟩
          have hbf : Below w'.heap.size w' w3 := hb1.trans (hb3.mono hb1.size)
          clear hb3 hb1
          by_cases d1 : runL f = 0
          · have HQ := Lib.hid (show r = false by rw [HB.out, if_pos d1])
            have d1b : (((runL f : Nat) : Int) == 0) = true := by simp [d1]
            clear d1
            go_wp2
            go_ret
            exact ⟨ret_of (by rw [HQ.out]; rfl), hbf⟩
          · have HQ := Lib.hid (show r = formE (f.drop (runL f)) by rw [HB.out, if_neg d1])
            clear HB
            have d1b : (((runL f : Nat) : Int) == 0) = false := by simp [d1]
            clear d1
            have hcl : (f.drop (runL f)).length ≤ 140737488351232 := by rw [List.length_drop]; omega
            have k1 := fun w => slice_from f (runL f) hfl rfl w
            generalize f.drop (runL f) = c at *
            go_wp2_with fail
            go_meet
            exact ⟨c, rfl, HQ, hcl, hbf⟩
        | false =>
          have HB := Lib.hid (hF.out rfl)
          clear hT hF
          go_wp2_with fail
          go_meet
          exact ⟨b, rfl, HB, hbl, hb1⟩
      case rest =>
        obtain ⟨c, rfl, HC, hcl, hbf⟩ := hcut
        obtain ⟨e, he⟩ : ∃ e, e = headE c := ⟨_, rfl⟩
        have HE := Lib.hid he
        clear he hbl htl hb1
        go_upto_region 14 with (fail)
        go_cut [57] (fun s57 wx => wx = wc ∧ s57 = .bool e)
        case first =>
          cases c with
          | nil =>
            go_wp2_with fail
            go_meet
            exact ⟨rfl, by rw [HE.out]; rfl⟩
          | cons x y =>
            have k2 := bs_head x y
            by_cases e1 : x = 101
            · subst e1
              go_wp2_with fail
              go_meet
              exact ⟨rfl, by rw [HE.out]; rfl⟩
            by_cases e2 : x = 69
            · subst e2
              go_wp2_with fail
              go_meet
              exact ⟨rfl, by rw [HE.out]; rfl⟩
            have t1 : ((x.toNat : Int) == 101) = false := byte_ne (by decide) e1
            have t2 : ((x.toNat : Int) == 69) = false := byte_ne (by decide) e2
            have HQ := Lib.hid (show e = false by rw [HE.out]; simp [headE, e1, e2])
            clear e1 e2
            go_wp2_with fail
            go_meet
            exact ⟨rfl, by rw [HQ.out]⟩
        case rest =>
          obtain ⟨rfl, rfl⟩ := hcut
          cases e with
          | false =>
            have HQ := Lib.hid (show r = c.isEmpty by rw [HC.out]; unfold formE; rw [← HE.out]; rfl)
            clear HC
            go_wp2_with fail
            go_ret
            exact ⟨ret_of (by rw [HQ.out]; rfl), hbf⟩
          | true =>
            have HD := Lib.hid (show r = (if headS c.tail then expo c.tail.tail else expo c.tail) by rw [HC.out]; unfold formE; rw [← HE.out]; rfl)
            have hc1 : 1 ≤ c.length := by
              have := HE.out
              cases c with
              | nil => simp [headE] at this
              | cons x y => simp
            have k1 := slice_one c hc1
            have hyl : c.tail.length ≤ 140737488351232 := by rw [List.length_tail]; omega
            clear HC HE
            generalize c.tail = y at *
            obtain ⟨e, he⟩ : ∃ e, e = headS y := ⟨_, rfl⟩
            have HE := Lib.hid he
            clear he
            go_upto_region 16 with (fail)
            clear k1
            go_cut [71] (fun s71 wx => wx = wc ∧ s71 = .bool e)
            case first =>
              cases y with
              | nil =>
                go_wp2_with fail
                go_meet
                exact ⟨rfl, by rw [HE.out]; rfl⟩
              | cons x y =>
                have k2 := bs_head x y
                by_cases e1 : x = 43
                · subst e1
                  go_wp2_with fail
                  go_meet
                  exact ⟨rfl, by rw [HE.out]; rfl⟩
                by_cases e2 : x = 45
                · subst e2
                  go_wp2_with fail
                  go_meet
                  exact ⟨rfl, by rw [HE.out]; rfl⟩
                have t1 : ((x.toNat : Int) == 43) = false := byte_ne (by decide) e1
                have t2 : ((x.toNat : Int) == 45) = false := byte_ne (by decide) e2
                have HQ := Lib.hid (show e = false by rw [HE.out]; simp [headS, e1, e2])
                clear e1 e2
                go_wp2_with fail
                go_meet
                exact ⟨rfl, by rw [HQ.out]⟩
            case rest =>
              obtain ⟨rfl, rfl⟩ := hcut
              obtain ⟨z, hz⟩ : ∃ z, z = if e then y.tail else y := ⟨_, rfl⟩
              have HZ := Lib.hid hz
              clear hz
              have hzr := Lib.hid (show r = expo z by rw [HD.out, HZ.out, ← HE.out]; cases e <;> rfl)
              have hzl : z.length ≤ 140737488351232 := by rw [HZ.out]; split <;> (try rw [List.length_tail]) <;> omega
              go_upto_if 71 with (fail)
              go_cut [0] (fun s0 wx => wx = wc ∧ s0 = .string ⟨z.toArray⟩)
              case first =>
                cases e with
                | false =>
                  go_wp2_with fail
                  go_meet
                  exact ⟨rfl, by rw [HZ.out]; rfl⟩
                | true =>
                  have hc1 : 1 ≤ y.length := by
                    have := HE.out
                    cases y with
                    | nil => simp [headS] at this
                    | cons x y => simp
                  have k1 := slice_one y hc1
                  go_wp2_with fail
                  go_meet
                  exact ⟨rfl, by rw [HZ.out]; rfl⟩
              case rest =>
                obtain ⟨rfl, rfl⟩ := hcut
                go_wp2_with fail
                refine (run_any _ _ (by omega)).mono ?_
                rintro e w4 ⟨rfl, hb4⟩
                have hbz := hbf.trans (hb4.mono hbf.size)
                clear hbf hb4
                have hrz := run_le z
                by_cases d1 : runL z = 0
                · have HQ := Lib.hid (show r = false by rw [hzr.out]; unfold expo; rw [d1]; rfl)
                  have d1b : (((runL z : Nat) : Int) == 0) = true := by simp [d1]
                  clear d1
                  go_wp2_with fail
                  go_ret
                  exact ⟨ret_of (by rw [HQ.out]; rfl), hbz⟩
                · have HQ := Lib.hid (show r = (z.drop (runL z)).isEmpty by rw [hzr.out]; unfold expo; simp [d1])
                  have d1b : (((runL z : Nat) : Int) == 0) = false := by simp [d1]
                  have k1 := fun w => slice_from z (runL z) hrz rfl w
                  generalize z.drop (runL z) = v at *
                  clear d1
                  go_wp2_with fail
                  go_ret
                  exact ⟨ret_of (by rw [HQ.out]; rfl), hbz⟩
end Go.Proofs.YtapinbbflfkglaaGreatDoor
