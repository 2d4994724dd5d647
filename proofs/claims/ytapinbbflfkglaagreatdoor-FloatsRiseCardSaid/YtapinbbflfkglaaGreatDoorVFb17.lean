import Derived.Test.YtapinbbflfkglaaGreatDoorVFb6
namespace Go.Proofs.YtapinbbflfkglaaGreatDoor
open Go.RowKit
set_option maxRecDepth 100000
theorem parse_01 (w : World) : Calls Tryz.prog 19 #[.string ⟨#[48, 49]⟩] w fun e' w' => e' = .returned (.tuple #[.int .u64 0, .int .i64 20]) ∧ Below w.heap.size w w' :=
  parse_none [48, 49] w (by decide) (by decide)
theorem parse_m0 (W w : World) (hB : Below W.heap.size W w) (hT : ∀ w', Below W.heap.size W w' → w'.cell? ⟨3, 0, none⟩ = some (.bool true)) :
    Calls Tryz.prog 19 #[.string ⟨#[45, 48]⟩] w fun e' w' => e' = .returned (.tuple #[.int .u64 9223372036854775808, .int .i64 0]) ∧ Below W.heap.size W w' := by
  refine (parse_ok [45, 48] w 9223372036854775808 (by decide) (by decide) fun w1 h1 => ?_).mono (fun e w' h => ⟨h.1, hB.trans (h.2.mono hB.size)⟩)
  refine (parseFloatS [45, 48] w1 9223372036854775808 ?_).mono (fun e w' h => ⟨h.1, by rw [← h.2]; exact Below.refl _ _⟩)
  refine atof_zero _ 0 true false 2 w1 (fun w => special_neg 48 [] w (by decide) (by decide)) ?_ (hT w1 (hB.trans (h1.mono hB.size)))
  intro w2
  exact readFloat_any [45, 48] w2 (by decide) (by decide) (by decide) (by decide) (A := (scanF [48] acc0).1) (kk := 2) (xx := 0) rfl (by decide) rfl (.none rfl)
theorem parse_tenth (W w : World) (g : Addr) (hB : Below W.heap.size W w) (hT : ∀ w', Below W.heap.size W w' → w'.cell? ⟨3, 0, none⟩ = some (.bool true) ∧ w'.cell? ⟨6, 0, none⟩ = some (.int .u64 52) ∧ w'.cell? ⟨10, 0, none⟩ = some (.slice (some g) 23 23) ∧ w'.cell? (g.add 1) = some (.float .f64 4621819117588971520)) :
    Calls Tryz.prog 19 #[.string ⟨#[48, 46, 49]⟩] w fun e' w' => e' = .returned (.tuple #[.int .u64 4591870180066957722, .int .i64 0]) ∧ Below W.heap.size W w' := by
  refine (parse_ok [48, 46, 49] w 4591870180066957722 (by decide) (by decide) fun w1 h1 => ?_).mono (fun e w' h => ⟨h.1, hB.trans (h.2.mono hB.size)⟩)
  refine (parseFloatS [48, 46, 49] w1 4591870180066957722 ?_).mono (fun e w' h => ⟨h.1, by rw [← h.2]; exact Below.refl _ _⟩)
  obtain ⟨t1, t2, t3, t4⟩ := hT w1 (hB.trans (h1.mono hB.size))
  refine atof_exact _ 1 (-1) false 3 4591870180066957722 w1 (fun w => special_dig [48, 46, 49] w (by decide) (by decide)) ?_ (by decide) (by decide) (by decide) t1 (exact_neg 1 (-1) 1 w1 4591870180066957722 4621819117588971520 g (by decide) (by decide) (by decide) (by decide) t2 t3 t4 (by decide +kernel))
  intro w2
  exact readFloat_any [48, 46, 49] w2 (by decide) (by decide) (by decide) (by decide) (A := (scanF [48, 46, 49] acc0).1) (kk := 3) (xx := 0) rfl (by decide) rfl (.none rfl)
theorem parse_1e400 (W w : World) (ev : Value) (hB : Below W.heap.size W w) (hev : ev = .nilIface ∨ ∃ te pe, ev = .iface te pe) (hT : ∀ w', Below W.heap.size W w' → w'.cell? ⟨3, 0, none⟩ = some (.bool true) ∧ w'.cell? ⟨2, 0, none⟩ = some ev) :
    Calls Tryz.prog 19 #[.string ⟨#[49, 101, 52, 48, 48]⟩] w fun e' w' => e' = .returned (.tuple #[.int .u64 0, .int .i64 21]) ∧ Below W.heap.size W w' := by
  refine (parse_big [49, 101, 52, 48, 48] w 9218868437227405312 (by decide) (by decide) fun w1 h1 => ?_).mono (fun e w' h => ⟨h.1, hB.trans (h.2.mono hB.size)⟩)
  obtain ⟨t1, t2⟩ := hT w1 (hB.trans (h1.mono hB.size))
  refine parseFloatR [49, 101, 52, 48, 48] w1 9218868437227405312 ev (by decide) t2 hev ?_
  refine atof_big _ 1 400 false false 5 w1 (fun w => special_dig [49, 101, 52, 48, 48] w (by decide) (by decide)) ?_ (by decide) (by decide) t1
  intro w2
  have ht : Tail [49, 101, 52, 48, 48] 1 400 := .exp 2 false (by decide) (.inl rfl) (by decide) (fun _ => .inl ⟨rfl, rfl⟩) (by decide) (by decide)
  exact readFloat_any [49, 101, 52, 48, 48] w2 (by decide) (by decide) (by decide) (by decide) (A := (scanF [49] acc0).1) (kk := 1) (xx := 400) rfl (by decide) rfl ht
end Go.Proofs.YtapinbbflfkglaaGreatDoor
