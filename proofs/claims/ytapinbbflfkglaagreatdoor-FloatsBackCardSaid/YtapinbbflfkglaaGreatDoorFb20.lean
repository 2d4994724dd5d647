/-
  FloatsKinds, the walk.
-/
import Derived.Test.YtapinbbflfkglaaGreatDoorFb18
namespace Go.Proofs.YtapinbbflfkglaaGreatDoor
open Go.RowKit Go.Lib Go.Sort
set_option maxRecDepth 100000
theorem kinds_walk (W : World) (g : Addr) (ev : Value) (x : Int) (hx : U64 x) (hT : FxT W g ev) (hev : ev = .nilIface ∨ ∃ te pe, ev = .iface te pe) :
    Calls Tryz.prog 3 #[.int .u64 x] W fun e w' => e = .returned (.bool true) ∧ Below W.heap.size W w' := by
  have HF := Lib.hid (fixed_any W W g ev (Below.refl _ _) hT hev)
  have HK := Lib.hid (fun w => kind_any x w hx)
  have HR := Lib.hid (fun w => rkind_any x w hx.1)
  obtain ⟨K, hK⟩ : ∃ K, K = kindZ x := ⟨_, rfl⟩
  rw [← hK] at HK HR
  clear hK hT hev
  go_enter Tryz.func3, Tryz.ntmps3
  go_wp2_with (fail)
  refine HF.out.mono ?_
  rintro e' w1 ⟨rfl, h1⟩
  have H1 := Lib.hid h1
  clear h1
  go_wp2_with (fail)
  refine (HK.out _).mono ?_
  rintro e' w2 ⟨rfl, rfl⟩
  go_wp2_with (fail)
  refine (HR.out _).mono ?_
  rintro e' w3 ⟨rfl, rfl⟩
  go_wp2_with (fail)
  go_ret
  exact ⟨rfl, H1.out⟩
end Go.Proofs.YtapinbbflfkglaaGreatDoor
