import Derived.Test.YtapinbbflfkglaaGreatDoorVFb4
import Derived.PlainAid
namespace Go.Proofs.YtapinbbflfkglaaGreatDoor
open Go.RowKit
open Go.PlainAid (bt get_bt bt_nonneg bt_le bt_end)
set_option maxRecDepth 100000
theorem bt_bs (l : List UInt8) (k : Nat) (hk : k < l.length) : bt ⟨l.toArray⟩ k = (l[k].toNat : Int) := by
  unfold bt
  rw [dif_pos (show k < (bs l).size by simpa [ByteArray.size] using hk)]
  rfl
theorem dig_iff {c : UInt8} : digB c = true ↔ 48 ≤ c.toNat ∧ c.toNat ≤ 57 := by
  unfold digB
  rw [Bool.and_eq_true, decide_eq_true_iff, decide_eq_true_iff, UInt8.le_iff_toNat_le, UInt8.le_iff_toNat_le]; rfl
set_option maxHeartbeats 1000000 in
theorem cpl_dig (c : UInt8) (t : List UInt8) (w : World) (hc : digB c = true) (ht : t.length ≤ 64) :
    Calls Tryz.prog 158 #[.string ⟨(c :: t).toArray⟩, .string ⟨#[105, 110, 102, 105, 110, 105, 116, 121]⟩] w fun e w' => e = .returned (.int .i64 0) ∧ w = w' := by
  obtain ⟨c1, c2⟩ := dig_iff.1 hc
  have k1 := get_bt ⟨(c :: t).toArray⟩
  have hb := bt_bs (c :: t) 0 (by simp)
  have v1 : 48 ≤ bt ⟨(c :: t).toArray⟩ 0 := by rw [hb]; show (48 : Int) ≤ (c.toNat : Int); omega
  have v2 : bt ⟨(c :: t).toArray⟩ 0 ≤ 57 := by rw [hb]; show (c.toNat : Int) ≤ 57; omega
  clear hb c1 c2 hc
  have hn : min (8 : Int) ((t.length : Nat) + 1 : Int) ≥ 1 := by omega
  have k2 : ∀ h, (⟨#[105, 110, 102, 105, 110, 105, 116, 121]⟩ : ByteArray)[0]'h = 105 := fun _ => rfl
  have k3 : (bt ⟨(c :: t).toArray⟩ 0 != ((105 : UInt8).toNat : Int)) = true := by rw [bne_iff_ne]; show bt ⟨(c :: t).toArray⟩ 0 ≠ 105; omega
  go_enter Tryz.func158, Tryz.ntmps158
  go_wp2
  refine wp_loop_rounds 1 ?_
  rw [rounds_succ]
  go_wp2
  go_ret
  exact ⟨rfl, rfl⟩
set_option maxHeartbeats 1000000 in
theorem special_dig (l : List UInt8) (w : World) (h0 : 0 < l.length) (hd : digB l[0] = true) :
    Calls Tryz.prog 117 #[.string ⟨l.toArray⟩] w fun e w' => e = .returned (.tuple #[.float .f64 0, .int .i64 0, .bool false]) ∧ w = w' := by
  obtain ⟨c1, c2⟩ := dig_iff.1 hd
  have k1 := get_bt ⟨l.toArray⟩
  have hb := bt_bs l 0 h0
  have v1 : 48 ≤ bt ⟨l.toArray⟩ 0 := by rw [hb]; omega
  have v2 : bt ⟨l.toArray⟩ 0 ≤ 57 := by rw [hb]; omega
  have hne : decide (l = []) = false := by cases l with | nil => simp at h0 | cons => rfl
  clear hb c1 c2 hd
  go_enter Tryz.func117, Tryz.ntmps117
  go_wp2
  go_ret3
  exact ⟨rfl, rfl⟩
set_option maxHeartbeats 1000000 in
theorem special_neg (c : UInt8) (t : List UInt8) (w : World) (hc : digB c = true) (ht : t.length ≤ 64) :
    Calls Tryz.prog 117 #[.string ⟨(45 :: c :: t).toArray⟩] w fun e w' => e = .returned (.tuple #[.float .f64 0, .int .i64 0, .bool false]) ∧ w = w' := by
  have k1 := bs_head 45 (c :: t)
  have k3 := slice_one (45 :: c :: t) (by simp)
  rw [List.tail_cons] at k3
  go_enter Tryz.func117, Tryz.ntmps117
  go_wp2_with fail
  refine (cpl_dig c t _ hc ht).mono ?_
  rintro e w' ⟨rfl, rfl⟩
  go_wp2_with fail
  go_ret3
  exact ⟨rfl, rfl⟩
theorem ext127 (n : Int) (w : World) : (callFunc 127 #[.int .u64 n]).run Tryz.prog w = .ok (.value (.float .f64 n.toNat)) w := by
  rw [run_callFunc_extern Tryz.func127 (by kernel_rfl) (by kernel_rfl) (by kernel_rfl) (e := Extern.MathFloatBits.float64frombits) (by kernel_rfl)]; rfl
def NotSpecial (s : Value) : Prop := ∀ w, Calls Tryz.prog 117 #[s] w fun e w' => e = .returned (.tuple #[.float .f64 0, .int .i64 0, .bool false]) ∧ w = w'
def ReadsAs (s : Value) (m : Nat) (x : Int) (g t : Bool) (n : Nat) : Prop := ∀ w, Calls Tryz.prog 118 #[s] w fun e w' => e = .returned (.tuple #[.int .u64 m, .int .i64 x, .bool g, .bool t, .bool false, .int .i64 n, .bool true]) ∧ w = w'
set_option maxHeartbeats 1000000 in
theorem atof_zero (s : Value) (x : Int) (g t : Bool) (n : Nat) (w : World) (hs : NotSpecial s) (hr : ReadsAs s 0 x g t n) (tOpt : w.cell? ⟨3, 0, none⟩ = some (.bool true)) :
    Calls Tryz.prog 88 #[s] w fun e' w' => e' = .returned (.tuple #[.float .f64 (if g then 9223372036854775808 else 0), .int .i64 n, .nilIface]) ∧ w = w' := by
  have k := ext127
  go_enter Tryz.func88, Tryz.ntmps88
  go_wp2_with fail
  refine (hs _).mono ?_
  rintro e w' ⟨rfl, rfl⟩
  go_wp2_with fail
  refine (hr _).mono ?_
  rintro e w' ⟨rfl, rfl⟩
  cases g
  all_goals
    go_wp2_with fail
    refine (bool2_any _ _).mono ?_
    rintro e w' ⟨rfl, rfl⟩
    go_wp2_with fail
    go_ret3
    exact ⟨rfl, rfl⟩
set_option maxHeartbeats 1000000 in
theorem atof_big (s : Value) (m : Nat) (x : Int) (g t : Bool) (n : Nat) (w : World) (hs : NotSpecial s) (hr : ReadsAs s m x g t n) (hm : m ≠ 0) (hx : 310 < x) (tOpt : w.cell? ⟨3, 0, none⟩ = some (.bool true)) :
    Calls Tryz.prog 88 #[s] w fun e' w' => e' = .returned (.tuple #[.float .f64 (if g then 18442240474082181120 else 9218868437227405312), .int .i64 n, .iface 86 (.int .i64 1)]) ∧ w = w' := by
  have k := ext127
  have hm2 : (((m : Nat) : Int) == 0) = false := by simp; omega
  go_enter Tryz.func88, Tryz.ntmps88
  go_wp2_with fail
  refine (hs _).mono ?_
  rintro e w' ⟨rfl, rfl⟩
  go_wp2_with fail
  refine (hr _).mono ?_
  rintro e w' ⟨rfl, rfl⟩
  cases g
  all_goals
    go_wp2_with fail
    refine (bool2_any _ _).mono ?_
    rintro e w' ⟨rfl, rfl⟩
    go_wp2_with fail
    go_ret3
    exact ⟨rfl, rfl⟩
set_option maxHeartbeats 1000000 in
theorem atof_exact (s : Value) (m : Nat) (x : Int) (g : Bool) (n q : Nat) (w : World) (hs : NotSpecial s) (hr : ReadsAs s m x g false n) (hm : m ≠ 0) (hx : x ≤ 310) (hx2 : -345 ≤ x) (tOpt : w.cell? ⟨3, 0, none⟩ = some (.bool true))
   (he : Calls Tryz.prog 128 #[.int .u64 (m : Nat), .int .i64 x, .bool g] w fun e' w' => e' = .returned (.tuple #[.float .f64 q, .bool true]) ∧ w = w') :
    Calls Tryz.prog 88 #[s] w fun e' w' => e' = .returned (.tuple #[.float .f64 q, .int .i64 n, .nilIface]) ∧ w = w' := by
  have k := ext127
  have hm2 : (((m : Nat) : Int) == 0) = false := by simp; omega
  have HE := Lib.hid he
  clear he
  go_enter Tryz.func88, Tryz.ntmps88
  go_wp2_with fail
  refine (hs _).mono ?_
  rintro e w' ⟨rfl, rfl⟩
  go_wp2_with fail
  refine (hr _).mono ?_
  rintro e w' ⟨rfl, rfl⟩
  cases g
  all_goals
    go_wp2_with fail
    refine (bool2_any _ _).mono ?_
    rintro e w' ⟨rfl, rfl⟩
    go_wp2_with fail
    refine HE.out.mono ?_
    rintro e w' ⟨rfl, rfl⟩
    go_wp2_with fail
    go_ret3
    exact ⟨rfl, rfl⟩
set_option maxHeartbeats 1000000 in
theorem exact_neg (m : Nat) (e : Int) (k : Nat) (w : World) (q pw : Nat) (g : Addr) (hm : m < 4503599627370496) (he : e = -(k : Int)) (hk1 : 1 ≤ k) (hk2 : k ≤ 22)
    (t1 : w.cell? ⟨6, 0, none⟩ = some (.int .u64 52)) (t2 : w.cell? ⟨10, 0, none⟩ = some (.slice (some g) 23 23)) (t3 : w.cell? (g.add k) = some (.float .f64 pw))
    (hq : floatBits .quo .f64 (floatOfInt .f64 (m : Nat)) pw = some q) :
    Calls Tryz.prog 128 #[.int .u64 (m : Nat), .int .i64 e, .bool false] w fun e' w' => e' = .returned (.tuple #[.float .f64 q, .bool true]) ∧ w = w' := by
  have hmd : ((m : Nat) : Int) / 4503599627370496 = 0 := by omega
  subst he
  have kq := fun w => run_float_arith (P := Tryz.prog) w .quo 46 .f64 _ _ q hq
  clear hq
  go_enter Tryz.func128, Tryz.ntmps128
  go_wp2
  go_ret2
  exact ⟨rfl, rfl⟩
set_option maxHeartbeats 1000000 in
theorem prefix64 (s : Value) (w : World) (q : Nat) (n : Int) (err : Value)
    (hA : Calls Tryz.prog 88 #[s] w fun e' w' => e' = .returned (.tuple #[.float .f64 q, .int .i64 n, err]) ∧ w = w') :
    Calls Tryz.prog 69 #[s, .int .i64 64] w fun e' w' => e' = .returned (.tuple #[.float .f64 q, .int .i64 n, err]) ∧ w = w' := by
  have HA := Lib.hid hA
  clear hA
  go_enter Tryz.func69, Tryz.ntmps69
  go_wp2_with fail
  refine HA.out.mono ?_
  rintro e w' ⟨rfl, rfl⟩
  go_wp2_with fail
  go_ret3
  exact ⟨rfl, rfl⟩
set_option maxHeartbeats 1000000 in
theorem parseFloatI (l : List UInt8) (w : World) (q : Nat) (err : Value)
    (hA : Calls Tryz.prog 88 #[.string ⟨l.toArray⟩] w fun e' w' => e' = .returned (.tuple #[.float .f64 q, .int .i64 (l.length : Nat), err]) ∧ w = w') :
    Calls Tryz.prog 52 #[.string ⟨l.toArray⟩, .int .i64 64] w fun e' w' => e' = .returned (.tuple #[.float .f64 q, err]) ∧ w = w' := by
  have HA := Lib.hid (prefix64 _ _ _ _ _ hA)
  clear hA
  go_enter Tryz.func52, Tryz.ntmps52
  go_wp2_with fail
  refine HA.out.mono ?_
  rintro e w' ⟨rfl, rfl⟩
  go_wp2_with fail
  go_ret2
  exact ⟨rfl, rfl⟩
set_option maxHeartbeats 1000000 in
theorem parseFloatS (l : List UInt8) (w : World) (q : Nat)
    (hA : Calls Tryz.prog 88 #[.string ⟨l.toArray⟩] w fun e' w' => e' = .returned (.tuple #[.float .f64 q, .int .i64 (l.length : Nat), .nilIface]) ∧ w = w') :
    Calls Tryz.prog 34 #[.string ⟨l.toArray⟩, .int .i64 64] w fun e' w' => e' = .returned (.tuple #[.float .f64 q, .nilIface]) ∧ w = w' := by
  have HA := Lib.hid (parseFloatI _ _ _ _ hA)
  clear hA
  go_enter Tryz.func34, Tryz.ntmps34
  go_wp2_with fail
  refine HA.out.mono ?_
  rintro e w' ⟨rfl, rfl⟩
  go_wp2_with fail
  go_ret2
  exact ⟨rfl, rfl⟩
set_option maxHeartbeats 1000000 in
theorem parseFloatR (l : List UInt8) (w : World) (q : Nat) (ev : Value) (hl : l.length ≤ 64) (hv : w.cell? ⟨2, 0, none⟩ = some ev) (hev : ev = .nilIface ∨ ∃ te pe, ev = .iface te pe)
    (hA : Calls Tryz.prog 88 #[.string ⟨l.toArray⟩] w fun e' w' => e' = .returned (.tuple #[.float .f64 q, .int .i64 (l.length : Nat), .iface 86 (.int .i64 1)]) ∧ w = w') :
    Calls Tryz.prog 34 #[.string ⟨l.toArray⟩, .int .i64 64] w fun e' w' => ∃ N, e' = .returned (.tuple #[.float .f64 q, .iface 87 (.pointer (some ⟨N, 0, none⟩))]) ∧ Below w.heap.size w w' := by
  have HA := Lib.hid (parseFloatI _ _ _ _ hA)
  have HT := Lib.hid (Tryz.strconv_toError_range ⟨#[80, 97, 114, 115, 101, 70, 108, 111, 97, 116]⟩ ⟨l.toArray⟩ 0 64 ev w (by simp [ByteArray.size]; omega) hv hev)
  clear hA hv hev
  go_enter Tryz.func34, Tryz.ntmps34
  go_wp2_with fail
  refine HA.out.mono ?_
  rintro e w' ⟨rfl, rfl⟩
  go_wp2_with fail
  refine HT.out.mono ?_
  rintro e w1 ⟨N, rfl, hN, hc, hb⟩
  clear hc
  go_wp2_with fail
  refine bodyPost_ret (v := .tuple #[.float .f64 q, .iface 87 (.pointer (some ⟨N, 0, none⟩))]) (by simp [results, Tryz.results34, go_sem]) rfl ⟨N, rfl, hb⟩
theorem ext35 (n : Nat) (w : World) : (callFunc 35 #[.float .f64 n]).run Tryz.prog w = .ok (.value (.int .u64 n)) w := ext_tobits n w
set_option maxHeartbeats 1000000 in
theorem parse_none (l : List UInt8) (w : World) (hl : l.length ≤ 140737488351232) (hf : formL l = false) :
    Calls Tryz.prog 19 #[.string ⟨l.toArray⟩] w fun e' w' => e' = .returned (.tuple #[.int .u64 0, .int .i64 20]) ∧ Below w.heap.size w w' := by
  have HF := Lib.hid (form_any l)
  go_enter Tryz.func19, Tryz.ntmps19
  go_wp2_with fail
  refine (HF.out _ hl).mono ?_
  rintro e w1 ⟨rfl, hb⟩
  go_wp2_with fail
  go_ret2
  exact ⟨rfl, hb⟩
set_option maxHeartbeats 1000000 in
theorem parse_ok (l : List UInt8) (w : World) (q : Nat) (hl : l.length ≤ 140737488351232) (hf : formL l = true)
   (hp : ∀ w1, Below w.heap.size w w1 → Calls Tryz.prog 34 #[.string ⟨l.toArray⟩, .int .i64 64] w1 fun e' w' => e' = .returned (.tuple #[.float .f64 q, .nilIface]) ∧ Below w1.heap.size w1 w') :
    Calls Tryz.prog 19 #[.string ⟨l.toArray⟩] w fun e' w' => e' = .returned (.tuple #[.int .u64 (q : Nat), .int .i64 0]) ∧ Below w.heap.size w w' := by
  have HF := Lib.hid (form_any l)
  have HP := Lib.hid hp
  have kx := ext35
  clear hp
  go_enter Tryz.func19, Tryz.ntmps19
  go_wp2_with fail
  refine (HF.out _ hl).mono ?_
  rintro e w1 ⟨rfl, hb⟩
  go_wp2_with fail
  refine (HP.out _ hb).mono ?_
  rintro e w2 ⟨rfl, hb2⟩
  have hb3 := hb.trans (hb2.mono hb.size)
  clear hb hb2
  go_wp2_with fail
  go_ret2
  exact ⟨rfl, hb3⟩
set_option maxHeartbeats 1000000 in
theorem parse_big (l : List UInt8) (w : World) (q : Nat) (hl : l.length ≤ 140737488351232) (hf : formL l = true)
   (hp : ∀ w1, Below w.heap.size w w1 → Calls Tryz.prog 34 #[.string ⟨l.toArray⟩, .int .i64 64] w1 fun e' w' => ∃ N, e' = .returned (.tuple #[.float .f64 q, .iface 87 (.pointer (some ⟨N, 0, none⟩))]) ∧ Below w1.heap.size w1 w') :
    Calls Tryz.prog 19 #[.string ⟨l.toArray⟩] w fun e' w' => e' = .returned (.tuple #[.int .u64 0, .int .i64 21]) ∧ Below w.heap.size w w' := by
  have HF := Lib.hid (form_any l)
  have HP := Lib.hid hp
  clear hp
  go_enter Tryz.func19, Tryz.ntmps19
  go_wp2_with fail
  refine (HF.out _ hl).mono ?_
  rintro e w1 ⟨rfl, hb⟩
  go_wp2_with fail
  refine (HP.out _ hb).mono ?_
  rintro e w2 ⟨N, rfl, hb2⟩
  have hb3 := hb.trans (hb2.mono hb.size)
  clear hb hb2
  go_wp2_with fail
  go_ret2
  exact ⟨rfl, hb3⟩
end Go.Proofs.YtapinbbflfkglaaGreatDoor
