import Derived.Test.YtapinbbflfkglaaGreatDoorVFb1
namespace Go.Proofs.YtapinbbflfkglaaGreatDoor
open Go.RowKit
set_option maxRecDepth 100000
theorem ext_frombits (n : Int) (w : World) : (callFunc 32 #[.int .u64 n]).run Tryz.prog w = .ok (.value (.float .f64 n.toNat)) w := by
  rw [run_callFunc_extern Tryz.func32 (by kernel_rfl) (by kernel_rfl) (by kernel_rfl) (e := Extern.MathFloatBits.float64frombits) (by kernel_rfl)]; rfl
theorem ext_tobits (n : Nat) (w : World) : (callFunc 35 #[.float .f64 n]).run Tryz.prog w = .ok (.value (.int .u64 n)) w := by
  rw [run_callFunc_extern Tryz.func35 (by kernel_rfl) (by kernel_rfl) (by kernel_rfl) (e := Extern.MathFloatBits.float64bits) (by kernel_rfl)]; rfl
def nanZ (b : Int) : Bool := decide (9218868437227405312 < szZ b)
def cmpR (a b : Int) : Array Value := if nanZ a = true ∨ nanZ b = true then #[.int .i64 0, .bool false] else #[.int .i64 (sgnZ (svZ a) (svZ b)), .bool true]
theorem sv_svZ {b : Int} (h : U64 b) : Fp.sv b.toNat = svZ b := by
  obtain ⟨h0, h1⟩ := h
  obtain ⟨n, rfl⟩ := Int.eq_ofNat_of_zero_le h0
  unfold Fp.sv svZ szZ Fp.half
  simp only [Int.toNat_natCast, beq_iff_eq]
  split <;> split <;> omega
theorem order_nan {a b : Int} (ha : U64 a) (hb : U64 b) (h : nanZ a = true ∨ nanZ b = true) : FloatKind.f64.format.order a.toNat b.toNat = none := by
  apply Fp.order_nan
  unfold nanZ szZ at h
  unfold Fp.inf Fp.half
  obtain ⟨h0, h1⟩ := ha
  obtain ⟨h2, h3⟩ := hb
  rw [decide_eq_true_iff, decide_eq_true_iff] at h
  omega
theorem order_cmp {a b : Int} (ha : U64 a) (hb : U64 b) (hn : nanZ a = false) (hm : nanZ b = false) : FloatKind.f64.format.order a.toNat b.toNat = some (compare (svZ a) (svZ b)) := by
  rw [← sv_svZ ha, ← sv_svZ hb]
  unfold nanZ szZ at hn hm
  obtain ⟨h0, h1⟩ := ha
  obtain ⟨h2, h3⟩ := hb
  rw [decide_eq_false_iff_not] at hn hm
  apply Fp.order_eq
  · unfold Fp.inf Fp.half; omega
  · unfold Fp.inf Fp.half; omega
set_option maxHeartbeats 400000 in
theorem cmp_any (a b : Int) (w : World) (ha : U64 a) (hb : U64 b) :
    Calls Tryz.prog 17 #[.int .u64 a, .int .u64 b] w fun e w' => e = .returned (.tuple (cmpR a b)) ∧ w = w' := by
  have k := ext_frombits
  unfold cmpR
  by_cases na : nanZ a = true
  · rw [if_pos (.inl na)]
    have o1 := order_nan ha ha (.inl na)
    clear ha hb na
    go_enter Tryz.func17, Tryz.ntmps17
    go_wp2
    go_ret2
    exact ⟨rfl, rfl⟩
  have na' : nanZ a = false := by simpa using na
  have o1 : FloatKind.f64.format.order a.toNat a.toNat = some .eq := by rw [order_cmp ha ha na' na', Int.compare_eq_eq.2 rfl]
  by_cases nb : nanZ b = true
  · rw [if_pos (.inr nb)]
    have o2 := order_nan hb hb (.inl nb)
    clear ha hb na nb na'
    go_enter Tryz.func17, Tryz.ntmps17
    go_wp2
    go_ret2
    exact ⟨rfl, rfl⟩
  have nb' : nanZ b = false := by simpa using nb
  rw [if_neg (fun h => h.elim na nb)]
  have o2 : FloatKind.f64.format.order b.toNat b.toNat = some .eq := by rw [order_cmp hb hb nb' nb', Int.compare_eq_eq.2 rfl]
  have o3 := order_cmp ha hb na' nb'
  unfold sgnZ
  clear ha hb na nb na' nb'
  by_cases c : svZ a < svZ b
  · rw [if_pos c]
    rw [Int.compare_eq_lt.2 c] at o3
    clear c
    go_enter Tryz.func17, Tryz.ntmps17
    go_wp2
    go_ret2
    exact ⟨rfl, rfl⟩
  rw [if_neg c]
  by_cases d : svZ b < svZ a
  · rw [if_pos d]
    rw [Int.compare_eq_gt.2 d] at o3
    clear c d
    go_enter Tryz.func17, Tryz.ntmps17
    go_wp2
    go_ret2
    exact ⟨rfl, rfl⟩
  rw [if_neg d]
  rw [Int.compare_eq_eq.2 (by omega)] at o3
  clear c d
  go_enter Tryz.func17, Tryz.ntmps17
  go_wp2
  go_ret2
  exact ⟨rfl, rfl⟩
end Go.Proofs.YtapinbbflfkglaaGreatDoor
