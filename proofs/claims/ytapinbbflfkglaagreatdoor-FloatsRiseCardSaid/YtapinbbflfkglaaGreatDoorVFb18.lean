import Derived.Test.YtapinbbflfkglaaGreatDoorVFb16
import Derived.Test.YtapinbbflfkglaaGreatDoorVFb17
namespace Go.Proofs.YtapinbbflfkglaaGreatDoor
open Go.RowKit Go.Lib Go.Sort
set_option maxRecDepth 100000
theorem text_inf (w : World) : Calls Tryz.prog 21 #[.int .u64 9218868437227405312] w fun e w' => e = .returned (.tuple #[.string ⟨#[]⟩, .int .i64 22]) ∧ w = w' := by
  have HK := Lib.hid (fun w => kind_any 9218868437227405312 w (by unfold U64; decide))
  rw [show kindZ 9218868437227405312 = 3 by decide] at HK
  go_enter Tryz.func21, Tryz.ntmps21
  go_wp2_with (fail)
  refine (HK.out _).mono ?_
  rintro e' w1 ⟨rfl, rfl⟩
  go_wp2_with (fail)
  go_ret2
  exact ⟨rfl, rfl⟩
theorem of_one (w : World) : Calls Tryz.prog 27 #[.int .i64 1] w fun e w' => e = .returned (.int .u64 4607182418800017408) ∧ w = w' := by
  have k := ext_tobits
  have kf : floatOfInt .f64 1 = 4607182418800017408 := by kernel_rfl
  go_enter Tryz.func27, Tryz.ntmps27
  go_wp2_with (fail)
  go_ret
  exact ⟨rfl, rfl⟩
structure FxT (w : World) (g : Addr) (ev : Value) : Prop where
  tabs : Tabs w
  ml : ∃ m, w.cell? ⟨4, 0, none⟩ = some (.int .i64 m)
  c6 : w.cell? ⟨6, 0, none⟩ = some (.int .u64 52)
  c10 : w.cell? ⟨10, 0, none⟩ = some (.slice (some g) 23 23)
  c1 : w.cell? (g.add 1) = some (.float .f64 4621819117588971520)
  c2 : w.cell? ⟨2, 0, none⟩ = some ev
theorem FxT.below {W w : World} {g : Addr} {ev : Value} (h : FxT W g ev) (hb : Below W.heap.size W w) : FxT w g ev := by
  have hc : ∀ {a : Addr} {v : Value}, W.cell? a = some v → w.cell? a = some v := fun {a v} hv => by
    rw [hb.cell (World.block_lt_of_cell? _ _ hv)]; exact hv
  exact ⟨h.tabs.below hb, h.ml.imp fun m hm => hc hm, hc h.c6, hc h.c10, hc h.c1, hc h.c2⟩
set_option maxHeartbeats 1000000 in
theorem fixed_any (W w : World) (g : Addr) (ev : Value) (hB : Below W.heap.size W w) (hT : FxT W g ev) (hev : ev = .nilIface ∨ ∃ te pe, ev = .iface te pe) :
    Calls Tryz.prog 14 #[] w fun e w' => e = .returned (.bool true) ∧ Below W.heap.size W w' := by
  have P1 := Lib.hid (fun w hB => parse_tenth W w g hB (fun w' h => ⟨(hT.below h).tabs.opt, (hT.below h).c6, (hT.below h).c10, (hT.below h).c1⟩))
  have P2 := Lib.hid (fun w hB => parse_m0 W w hB (fun w' h => (hT.below h).tabs.opt))
  have P3 := Lib.hid (fun w hB => parse_1e400 W w ev hB hev (fun w' h => ⟨(hT.below h).tabs.opt, (hT.below h).c2⟩))
  have P4 := Lib.hid parse_01
  have T1 := Lib.hid (fun w hB => text_tenth W w hB (fun w' h => ⟨(hT.below h).tabs, (hT.below h).ml⟩))
  have T2 := Lib.hid (fun w hB => text_least W w hB (fun w' h => ⟨(hT.below h).tabs, (hT.below h).ml⟩))
  have T3 := Lib.hid text_inf
  have C1 := Lib.hid (fun w => cmp_any 9223372036854775808 0 w (by unfold U64; decide) (by unfold U64; decide))
  rw [show cmpR 9223372036854775808 0 = #[.int .i64 0, .bool true] by kernel_rfl] at C1
  have C2 := Lib.hid (fun w => cmp_any 9218868437227405313 9218868437227405313 w (by unfold U64; decide) (by unfold U64; decide))
  rw [show cmpR 9218868437227405313 9218868437227405313 = #[.int .i64 0, .bool false] by kernel_rfl] at C2
  have C3 := Lib.hid (fun w => key_any 9223372036854775809 w (by unfold U64; decide))
  rw [show keyR 9223372036854775809 = #[.int .u64 9223372036854775807, .int .i64 0] by kernel_rfl] at C3
  have C4 := Lib.hid (fun w => fromKey_any 9223372036854775807 w (by unfold U64; decide))
  rw [show fromR 9223372036854775807 = #[.int .u64 9223372036854775809, .int .i64 0] by kernel_rfl] at C4
  have C5 := Lib.hid of_one
  have C6 := Lib.hid (fun w => kind_any 1 w (by unfold U64; decide))
  rw [show kindZ 1 = 1 by kernel_rfl] at C6
  have HB := Lib.hid hB
  clear hB hT hev
  go_enter Tryz.func14, Tryz.ntmps14
  go_wp2_with (fail)
  refine (P1.out _ HB.out).mono ?_
  rintro e' w1 ⟨rfl, h1⟩
  have H1 := Lib.hid h1
  clear h1
  go_wp2_with (fail)
  refine (P2.out _ H1.out).mono ?_
  rintro e' w2 ⟨rfl, h1⟩
  have H2 := Lib.hid h1
  clear h1
  go_wp2_with (fail)
  refine (P3.out _ H2.out).mono ?_
  rintro e' w3 ⟨rfl, h1⟩
  have H3 := Lib.hid h1
  clear h1
  go_wp2_with (fail)
  refine (P4.out _).mono ?_
  rintro e' w4 ⟨rfl, h1⟩
  have H4 : Hid (Below W.heap.size W w4) := Lib.hid (H3.out.trans (h1.mono H3.out.size))
  clear h1
  go_wp2_with (fail)
  refine (T1.out _ H4.out).mono ?_
  rintro e' w5 ⟨rfl, h1⟩
  have H5 := Lib.hid h1
  clear h1
  go_wp2_with (fail)
  refine (T2.out _ H5.out).mono ?_
  rintro e' w6 ⟨rfl, h1⟩
  have H6 := Lib.hid h1
  clear h1
  go_wp2_with (fail)
  refine (T3.out _).mono ?_
  rintro e' w7 ⟨rfl, rfl⟩
  go_wp2_with (fail)
  refine (C1.out _).mono ?_
  rintro e' w8 ⟨rfl, rfl⟩
  go_wp2_with (fail)
  refine (C2.out _).mono ?_
  rintro e' w9 ⟨rfl, rfl⟩
  go_wp2_with (fail)
  refine (C3.out _).mono ?_
  rintro e' w10 ⟨rfl, rfl⟩
  go_wp2_with (fail)
  refine (C4.out _).mono ?_
  rintro e' w11 ⟨rfl, rfl⟩
  go_wp2_with (fail)
  refine (C5.out _).mono ?_
  rintro e' w12 ⟨rfl, rfl⟩
  go_wp2_with (fail)
  refine (C6.out _).mono ?_
  rintro e' w13 ⟨rfl, rfl⟩
  go_wp2_with (fail)
  go_ret
  exact ⟨rfl, H6.out⟩
end Go.Proofs.YtapinbbflfkglaaGreatDoor
