/-
  What any bytes mean as a number's text, or why they mean none, is as the document says: the law FloatsParses answers true, for every input.
-/
import Derived.Test.YtapinbbflfkglaaGreatDoorCards
import Derived.Test.YtapinbbflfkglaaGreatDoorTie
import Derived.WalkKit
import Derived.ProofKit
import Derived.OpenShut
import Derived.LaidMore
import Derived.Lay
import Derived.SevenTiedAt
import Derived.Below
import Derived.ChangeMaps5
import Derived.Test.YtapinbbflfkglaaGreatDoorVRw
import Derived.Test.YtapinbbflfkglaaGreatDoorVFb21
import Derived.Test.YtapinbbflfkglaaGreatDoorVFb19
namespace Go.Proofs.YtapinbbflfkglaaGreatDoor
open Go.ChangeShapes Go.WideShapes Go.ChangeAt Go.RowKit
open Go.ChangeMaps (open_string shut_string)
theorem own : ownKnob Tryz.prog.godebug = none := by kernel_rfl
theorem u64_of_wf {x : Int} (h : (Lit.int .u64 x).wf = true) : U64 x := by
  simp only [Lit.wf, Bool.and_eq_true, decide_eq_true_eq] at h
  have h1 : IntKind.u64.min = 0 := by kernel_rfl
  have h2 : IntKind.u64.max = 18446744073709551615 := by kernel_rfl
  unfold U64
  omega
theorem fxt_laid (W : World) (hL : laidMet Tryz.prog Rows.floatsParsesRow.laid W) (hS : W.ShapedOpen Tryz.prog) : ∃ g ev, FxT W g ev ∧ (ev = .nilIface ∨ ∃ te pe, ev = .iface te pe) := by
  refine fxt_of_laid hL 13 8 4 6 3 10 ?b0 ?r ?r6 ?hr ?s ?d ?h11 ?h7 ?h3 (Tryz.laysM145.s1_3 W hS) ?h10 ?h6 ?h2
  case h10 => rfl
  case h6 => rfl
  case h2 => rfl
  case hr => rfl
  case h3 => rfl
  case h7 => rfl
  case h11 => rfl
theorem fxp_laid (W : World) (hL : laidMet Tryz.prog Rows.floatsParsesRow.laid W) : ∃ g : Addr, W.cell? ⟨10, 0, none⟩ = some (.slice (some g) 23 23) ∧ ∀ k, k < 23 → W.cell? (g.add k) = some (.float .f64 (pw k)) :=
  c10p_of_laid hL (List.mem_of_getElem? (show Rows.floatsParsesRow.laid[6]? = some ("internal/strconv.float64pow10", .slice (pwL.map fun b => .lit (.float .f64 b)) []) by kernel_rfl))
theorem full_laid (W : World) (hL : laidMet Tryz.prog Rows.floatsParsesRow.laid W) (hS : W.ShapedOpen Tryz.prog) : ∃ g ev gp ga, FullT W g ev gp ga ∧ (ev = .nilIface ∨ ∃ te pe, ev = .iface te pe) := by
  obtain ⟨g, ev, hT, hev⟩ := fxt_laid W hL hS
  obtain ⟨gp, ga, hs, b1, b2, b3⟩ := slow_of_laid hL (List.mem_of_getElem? (show Rows.floatsParsesRow.laid[12]? = some ("internal/strconv.leftcheats", Go.Pinned.leftcheats) by kernel_rfl))
    (List.mem_of_getElem? (show Rows.floatsParsesRow.laid[5]? = some ("internal/strconv.powtab", .slice powL []) by kernel_rfl))
    (List.mem_of_getElem? (show Rows.floatsParsesRow.laid[3]? = some ("internal/strconv.float64info", .agg [.lit (.int .u64 52), .lit (.int .u64 11), .lit (.int .i64 (-1023))]) by kernel_rfl))
  exact ⟨g, ev, gp, ga, ⟨hT, fxp_of hT.c10 (fxp_laid W hL), hs, b1, b2, b3⟩, hev⟩
theorem fact (x0 : ByteArray) (W : World) (hx0 : x0.size ≤ maxLen) (hL : laidMetH Tryz.prog Rows.floatsParsesRow.laid W) (hS : W.ShapedOpen Tryz.prog) :
    Calls Tryz.prog 5 #[.string x0] W fun e w' => e = .returned (.bool true) ∧ Below W.heap.size W w' := by
  rw [MakeChecks.laidMetH_plain _ _ _ (by kernel_rfl)] at hL
  obtain ⟨g, ev, gp, ga, hT, hev⟩ := full_laid W hL hS
  exact parses_walk W g gp ga ev x0 hx0 hT hev
set_option maxRecDepth 100000 in
theorem lifted (os : Os) (started : os.Started) (H : Type) (enc : TypeId × Value → H) :
    ReturnsInHanded {} Tryz.checked os 5 .any (fun w args => (Rows.floatsParsesSpec.pre enc Tryz.prog Tryz.f5 Rows.floatsParsesRow.domain false w args ∧ laidMetH Tryz.prog Rows.floatsParsesRow.laid w) ∧ sizedMet enc Tryz.prog Tryz.f5 (OpenSpec.ofChange Rows.floatsParsesSpec) false w args)
      (Rows.floatsParsesSpec.post enc Tryz.prog Tryz.f5 false true false false) := by
  refine wrap_laid (C := Tryz.checked) (X := fun w _ => laidMetH Tryz.prog Rows.floatsParsesRow.laid w) (fun _ _ _ hh h => h.of_heap hh) own started (by kernel_rfl) Tryz.func5
    (ChangeSpec.witness_shaped (enc := enc) (C := Tryz.checked) (os := os) (X := fun w _ => laidMetH Tryz.prog Rows.floatsParsesRow.laid w) false (World.laidAll Tryz.prog os Rows.floatsParsesRow.laid) #[.string ⟨#[]⟩] 8 (World.laidAll_os _ _ _)
      (World.shaped_of_ZipB (by kernel_rfl) (by kernel_rfl)) (by kernel_rfl) (by kernel_rfl) (by kernel_rfl)
      (by rw [MakeChecks.laidMetH_plain _ _ _ (by kernel_rfl)]; exact laidMet_laidAll _ (by kernel_rfl) (by kernel_rfl))) ?_
  intro W base args ds gs before hval0 hW hc hL hS
  have hval : ∀ (j : Nat) t v, Tryz.f5.params[j]? = some t → args[j]? = some v → Value.okWide Tryz.prog W .any base t v := hval0
  have hW' := hW
  obtain ⟨p, q, hA0, hV, rfl, _, _⟩ := hW
  have hA : DataW.TrodAll enc Tryz.prog W 0 (fun _ => true) true Tryz.f5.params.toList args.toList ds p := hA0
  rw [Tryz.params5] at hA hval
  obtain ⟨v0, d0, rfl, rfl, h0⟩ := trodAll_one hA
  obtain ⟨rfl, rfl⟩ := trodVars_none hV
  obtain ⟨x0, rfl, rfl, rfl, wx0⟩ := open_string Tryz.underlying9 (hval 0 9 v0 rfl rfl) h0
  have hx0 : x0.size ≤ maxLen := wx0
  simp only [List.append_nil] at hW'
  refine (fact x0 W hx0 hL hS).mono fun e W' ⟨he, hg⟩ => ?_
  subst he
  exact ⟨_, rfl, post_none hW' (fun _ _ _ => trodAll_mk1 (shut_bool Tryz.underlying4 _)) (fun _ => trodAll_mk1 (shut_string Tryz.underlying9 wx0)) (fun _ => rfl) (hg.frame _) (ok_one (by kernel_rfl) rfl (okWide_bool_mk Tryz.underlying4 _))⟩
theorem said : Rows.FloatsParsesSaid :=
  OpenClaim.holds_of_wide 5 Tryz.f5 rfl rfl rfl rfl rfl rfl rfl ⟨rfl, rfl, rfl, rfl, rfl⟩ rfl rfl rfl rfl rfl (by kernel_rfl) Tryz.func5 (by kernel_rfl)
    (of_decide_eq_true (by kernel_rfl)) (by unfold Func.isWrapper; first | (rw [if_pos (by decide +kernel)]; kernel_rfl) | (rw [if_neg (by decide +kernel)]; exact ⟨rfl, rfl⟩))
    (fun os started H enc _ => lifted os started H enc)
theorem card_holds : Rows.FloatsParsesCardSaid :=
  Claim7.holds_tied_plain_at .later [] _ _ _ _ said (fun _ h => by cases h) (by kernel_rfl) (fun _ h => by cases h) floatsParses_row_tie rfl ⟨rfl, rfl⟩ (by kernel_rfl) rfl
    (fun f fn hf hfn => by
      obtain rfl : f = 5 := Option.some.inj ((show Tryz.prog.funcNamed "rhizome/rhizomelaw02.FloatsParses" = some 5 by kernel_rfl).symm.trans hf) |>.symm
      obtain rfl : fn = Tryz.f5 := (Option.some.inj (Tryz.func5.symm.trans hfn)).symm
      exact ⟨by kernel_rfl, fun j t ht => by
        rw [Tryz.params5] at ht
        have hm : t ∈ [9] := by simpa using Array.mem_of_getElem? ht
        have hall : ([9].all fun u => !Tryz.prog.wantsStandIn u) = true := by kernel_rfl
        exact (show Tryz.prog.wantsStandIn t = false by simpa using List.all_eq_true.1 hall t hm)⟩)
    (by kernel_rfl)
end Go.Proofs.YtapinbbflfkglaaGreatDoor
