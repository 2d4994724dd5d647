import Derived.Test.YtapinbbflfkglaaGreatDoorVFb14
import Derived.Test.YtapinbbflfkglaaGreatDoorVFb15
namespace Go.Proofs.YtapinbbflfkglaaGreatDoor
open Go.RowKit Go.Lib Go.Sort
set_option maxRecDepth 100000
theorem ftoa_tenth (W : World) (hT : ∀ w', Below W.heap.size W w' → Tabs w') : FtoaIs W 4591870180066957722 [49, 46, 48, 48, 48, 48, 48, 48, 48, 48, 48, 48, 48, 48, 48, 48, 48, 49, 101, 45, 48, 49] := by
  have h := ftoaIs_nz W 4591870180066957722 (by decide) 1019 2702159776422298 (by decide) (by decide) (by decide) (-4) 7205759403792794 (by decide) (by decide) (by decide) hT 11 (by decide +kernel) (by decide) (by decide) (by decide) (by decide) 10000000000000001 (-17) (by decide +kernel) (by decide +kernel) (by decide) (by decide) (by decide) (by decide)
  have e : txt 4591870180066957722 10000000000000001 (-17) = [49, 46, 48, 48, 48, 48, 48, 48, 48, 48, 48, 48, 48, 48, 48, 48, 48, 49, 101, 45, 48, 49] := by decide +kernel
  rw [← e]; exact h
theorem ftoa_least (W : World) (hT : ∀ w', Below W.heap.size W w' → Tabs w') : FtoaIs W 1 [52, 46, 57, 52, 48, 54, 53, 54, 52, 53, 56, 52, 49, 50, 52, 54, 53, 52, 101, 45, 51, 50, 52] := by
  have h := ftoaIs_nz W 1 (by decide) 0 1 (by decide) (by decide) (by decide) (-1022) 1 (by decide) (by decide) (by decide) hT 63 (by decide +kernel) (by decide) (by decide) (by decide) (by decide) 49406564584124654 (-340) (by decide +kernel) (by decide +kernel) (by decide) (by decide) (by decide) (by decide)
  have e : txt 1 49406564584124654 (-340) = [52, 46, 57, 52, 48, 54, 53, 54, 52, 53, 56, 52, 49, 50, 52, 54, 53, 52, 101, 45, 51, 50, 52] := by decide +kernel
  rw [← e]; exact h
theorem text_tenth (W w : World) (hB : Below W.heap.size W w) (hT : ∀ w', Below W.heap.size W w' → Tabs w' ∧ ∃ m, w'.cell? ⟨4, 0, none⟩ = some (.int .i64 m)) :
    Calls Tryz.prog 21 #[.int .u64 4591870180066957722] w fun e w' =>
      e = .returned (.tuple #[.string ⟨#[49, 46, 48, 48, 48, 48, 48, 48, 48, 48, 48, 48, 48, 48, 48, 48, 48, 49, 101, 45, 49]⟩, .int .i64 0]) ∧ Below W.heap.size W w' := by
  refine (text_any W w 4591870180066957722 (by unfold U64; decide) (by decide) _ (-1) (ftoa_tenth W fun w' h => (hT w' h).1) hB (by decide) (by decide +kernel) (by decide) hT (by decide +kernel)).mono ?_
  rintro e w' ⟨rfl, h⟩
  have k : mant0 [49, 46, 48, 48, 48, 48, 48, 48, 48, 48, 48, 48, 48, 48, 48, 48, 48, 49, 101, 45, 48, 49] ++ [101] ++ Lib.itoa (-1) = [49, 46, 48, 48, 48, 48, 48, 48, 48, 48, 48, 48, 48, 48, 48, 48, 48, 49, 101, 45, 49] := by decide +kernel
  rw [k]
  exact ⟨rfl, h⟩
theorem text_least (W w : World) (hB : Below W.heap.size W w) (hT : ∀ w', Below W.heap.size W w' → Tabs w' ∧ ∃ m, w'.cell? ⟨4, 0, none⟩ = some (.int .i64 m)) :
    Calls Tryz.prog 21 #[.int .u64 1] w fun e w' =>
      e = .returned (.tuple #[.string ⟨#[52, 46, 57, 52, 48, 54, 53, 54, 52, 53, 56, 52, 49, 50, 52, 54, 53, 52, 101, 45, 51, 50, 52]⟩, .int .i64 0]) ∧ Below W.heap.size W w' := by
  refine (text_any W w 1 (by unfold U64; decide) (by decide) _ (-324) (ftoa_least W fun w' h => (hT w' h).1) hB (by decide) (by decide +kernel) (by decide) hT (by decide +kernel)).mono ?_
  rintro e w' ⟨rfl, h⟩
  have k : mant0 [52, 46, 57, 52, 48, 54, 53, 54, 52, 53, 56, 52, 49, 50, 52, 54, 53, 52, 101, 45, 51, 50, 52] ++ [101] ++ Lib.itoa (-324) = [52, 46, 57, 52, 48, 54, 53, 54, 52, 53, 56, 52, 49, 50, 52, 54, 53, 52, 101, 45, 51, 50, 52] := by decide +kernel
  rw [k]
  exact ⟨rfl, h⟩
end Go.Proofs.YtapinbbflfkglaaGreatDoor
