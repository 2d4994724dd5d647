import Derived.Test.YtapinbbflfkglaaGreatDoorVFb10
import Derived.Laws.IdiomStrings
namespace Go.Proofs.YtapinbbflfkglaaGreatDoor
open Go.RowKit Go.Lib Go.Sort
set_option maxRecDepth 100000
def FtoaIs (W : World) (b : Nat) (l : List UInt8) : Prop :=
  ∀ w g cur, Below W.heap.size W w → W.heap.size ≤ g → w.heap[g]? = some (.cells cur 5 (0, 0)) → cur.size = 24 →
    Calls Tryz.prog 75 #[.slice (some ⟨g, 0, none⟩) 0 24, .float .f64 b, .int .u8 101, .int .i64 16] w fun e w' =>
      e = .returned (.slice (some ⟨g, 0, none⟩) l.length 24) ∧ Below W.heap.size W w' ∧ (∀ j (hj : j < l.length), w'.cell? (Addr.add ⟨g, 0, none⟩ j) = some (.int .u8 (l[j].toNat : Int)))
theorem make24 (w : World) : (Instr.makeSlice 83 (.int .i64 0) (.int .i64 24)).run Tryz.prog w = .ok (.slice (some ⟨w.heap.size, 0, none⟩) 0 24) (w.alloc (.cells (Array.replicate 24 (.int .u8 0)) 5)) := by
  obtain ⟨i, hi, hz, hs, hb⟩ : ∃ i, Tryz.prog.info? 5 = some i ∧ i.zero = some (.int .u8 0) ∧ i.size = 1 ∧ i.bytes = 1 := ⟨_, rfl, rfl, rfl, rfl⟩
  have := run_make (P := Tryz.prog) w 83 5 i (.int .u8 0) Tryz.underlying83 hi hz .i64 .i64 0 24 (by omega) (by omega) (by rw [hb]; omega) (by omega)
  rw [hs] at this
  have e : madeCells (Value.int .u8 0).cells (Int.toNat 24 * 1) = Array.replicate 24 (.int .u8 0) := by first | rfl | kernel_rfl | decide +kernel | (simp [madeCells]; done)
  rw [e] at this
  exact this
theorem ff_any (W w : World) (b : Nat) (l : List UInt8) (hf : FtoaIs W b l) (hB : Below W.heap.size W w) :
    Calls Tryz.prog 54 #[.float .f64 b, .int .u8 101, .int .i64 16, .int .i64 64] w fun e w' =>
      e = .returned (.string ⟨l.toArray⟩) ∧ Below W.heap.size W w' := by
  have hmx : (max 20 24 : Int) = 24 := rfl
  have hmk := make24
  have HF := Lib.hid hf
  have HB := Lib.hid hB
  clear hf hB
  go_enter Tryz.func54, Tryz.ntmps54
  go_wp2_with (fail)
  refine (HF.out _ _ _ (HB.out.alloc HB.out.size _) HB.out.size (heap_alloc_new w _) (by simp)).mono ?_
  rintro e' w1 ⟨rfl, hB1, hc⟩
  have hcv := run_convert_bytes_back w1 83 9 5 ⟨w.heap.size, 0, none⟩ 24 l Tryz.underlying83 Tryz.underlying5 Tryz.underlying9 hc
  have HB1 := Lib.hid hB1
  clear hB1 hc
  go_wp2_with (fail)
  go_ret
  exact ⟨rfl, HB1.out⟩
theorem fformat_any (W w : World) (b : Nat) (l : List UInt8) (hf : FtoaIs W b l) (hB : Below W.heap.size W w) :
    Calls Tryz.prog 37 #[.float .f64 b, .int .u8 101, .int .i64 16, .int .i64 64] w fun e w' =>
      e = .returned (.string ⟨l.toArray⟩) ∧ Below W.heap.size W w' := by
  have HF := Lib.hid (ff_any W w b l hf hB)
  clear hf hB
  go_enter Tryz.func37, Tryz.ntmps37
  go_wp2_with (fail)
  refine HF.out.mono ?_
  rintro e' w1 ⟨rfl, hB1⟩
  have HB1 := Lib.hid hB1
  clear hB1
  go_wp2_with (fail)
  go_ret
  exact ⟨rfl, HB1.out⟩
end Go.Proofs.YtapinbbflfkglaaGreatDoor
