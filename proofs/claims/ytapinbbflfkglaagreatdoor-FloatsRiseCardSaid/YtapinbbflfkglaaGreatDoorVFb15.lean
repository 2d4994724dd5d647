import Derived.Test.YtapinbbflfkglaaGreatDoorVFb10
import Derived.Test.YtapinbbflfkglaaGreatDoorRows
import Derived.Lib.LaidTab
namespace Go.Proofs.YtapinbbflfkglaaGreatDoor
open Go.RowKit Go.Lib Go.Sort
set_option maxRecDepth 100000
theorem laidVars_mem {P : Program} {w : World} : ∀ {laid : List (String × DataW Unit)} {ps : List MemPlace}, DataW.LaidVars P w laid ps → ∀ n d, (n, d) ∈ laid →
    ∃ g t cs fuel p, P.globalNamed n = some g ∧ (P.globals[g]?).map (·.type) = some t ∧ w.var? P n = some cs ∧ DataW.trod (fun _ => ()) P w 0 (fun _ => true) false fuel t cs.toList = some (d, p)
  | [], _, _, _, _, h => by cases h
  | (n0, d0) :: r, ps, h, n, d, hm => by
    obtain ⟨g, t, cs, fuel, p, q, h1, h2, h3, h4, h5, _⟩ := h
    cases hm with
    | head => exact ⟨g, t, cs, fuel, p, h1, h2, h3, h4⟩
    | tail _ hm => exact laidVars_mem h5 n d hm
theorem g11 : ∃ g t e fs, Tryz.prog.globalNamed "internal/strconv.pow10Tab" = some 11 ∧ (Tryz.prog.globals[11]?).map (·.type) = some t ∧ Tryz.prog.underlying t = some (.array 696 e) ∧ Tryz.prog.cellsOf t = 1392 ∧ Tryz.prog.cellsOf e = 2 ∧ Tryz.prog.underlying e = some (.struct fs) ∧ fs.toList.map (fun f => (f.type, f.offset)) = [(22, 0), (22, 1)] ∧ g = 0 :=
  ⟨_, _, _, _, by kernel_rfl, rfl, rfl, rfl, rfl, rfl, rfl, rfl⟩
theorem g7 : ∃ t, Tryz.prog.globalNamed "internal/strconv.uint64pow10" = some 7 ∧ (Tryz.prog.globals[7]?).map (·.type) = some t ∧ Tryz.prog.underlying t = some (.array 20 22) ∧ Tryz.prog.cellsOf t = 20 ∧ Tryz.prog.cellsOf 22 = 1 :=
  ⟨_, by kernel_rfl, rfl, rfl, rfl, rfl⟩
theorem g3 : ∃ t, Tryz.prog.globalNamed "internal/strconv.optimize" = some 3 ∧ (Tryz.prog.globals[3]?).map (·.type) = some t ∧ Tryz.prog.underlying t = some .bool := ⟨_, by kernel_rfl, rfl, rfl⟩
theorem g4 : ∃ t, Tryz.prog.globalNamed "internal/bytealg.MaxLen" = some 4 ∧ (Tryz.prog.globals[4]?).map (·.type) = some t ∧ Tryz.prog.underlying t = some (.int .i64) := ⟨_, by kernel_rfl, rfl, rfl⟩
def rowOk (j : Nat) : Bool := Go.Pinned.pow10Rows[j]? == some (hiOf ((j : Int) - 348), loOf ((j : Int) - 348))
theorem rows_all : (List.range 696).all rowOk = true := by decide +kernel
theorem pow10Rows_at (j : Nat) (h : j < 696) : Go.Pinned.pow10Rows[j]? = some (hiOf ((j : Int) - 348), loOf ((j : Int) - 348)) := by
  have := List.all_eq_true.1 rows_all j (by simpa using h)
  unfold rowOk at this
  exact eq_of_beq this
theorem trod_u64 {w : World} {fuel : Nat} {cs : List Value} {n : Int} {p : List MemPlace} (h : DataW.trod (fun _ => ()) Tryz.prog w 0 (fun _ => true) false fuel 22 cs = some (.lit (.int .u64 n), p)) : cs = [.int .u64 n] := by
  obtain ⟨z, hc, hz, _⟩ := DataW.trod_int (k := .u64) (by rfl : Tryz.prog.underlying 22 = some (.int .u64)) h
  have hz' : n = z ∧ p = [] := by simpa using hz
  rw [hc, hz'.1]
theorem pair_of_trod {w : World} {fuel : Nat} {e : TypeId} {fs : Array Field} {cs : List Value} {a b : Int} {p : List MemPlace} (hu : Tryz.prog.underlying e = some (.struct fs)) (hfs : fs.toList.map (fun f => (f.type, f.offset)) = [(22, 0), (22, 1)]) (hc : Tryz.prog.cellsOf e = 2)
    (h : DataW.trod (fun _ => ()) Tryz.prog w 0 (fun _ => true) false fuel e cs = some (.agg [.lit (.int .u64 a), .lit (.int .u64 b)], p)) : cs = [.int .u64 a, .int .u64 b] := by
  cases fuel with
  | zero => simp [DataW.trod] at h
  | succ fuel =>
    have hlen : fs.toList.length = 2 := by have := congrArg List.length hfs; simpa using this
    obtain ⟨f0, f1, hf⟩ : ∃ f0 f1, fs.toList = [f0, f1] := by
      revert hlen
      generalize fs.toList = l
      intro hlen
      rcases l with _ | ⟨a, _ | ⟨b, _ | ⟨c, r⟩⟩⟩
      · cases hlen
      · cases hlen
      · exact ⟨a, b, rfl⟩
      · simp at hlen
    rw [hf] at hfs
    · simp only [List.map_cons, List.map_nil, List.cons.injEq, Prod.mk.injEq, and_true] at hfs
      obtain ⟨⟨t0, o0⟩, t1, o1⟩ := hfs
      simp only [DataW.trod, hu, hc, hf] at h
      split at h
      · rename_i hl
        obtain ⟨xs, hm, hx⟩ := Option.map_eq_some_iff.1 h
        obtain ⟨b0, hb0, hf0⟩ := mapM_at hm 0 f0 rfl
        obtain ⟨b1, hb1, hf1⟩ := mapM_at hm 1 f1 rfl
        rw [t0, o0, show Tryz.prog.cellsOf 22 = 1 from rfl] at hf0
        rw [t1, o1, show Tryz.prog.cellsOf 22 = 1 from rfl] at hf1
        have hx1 : xs.map (·.1) = [.lit (.int .u64 a), .lit (.int .u64 b)] := by
          have := congrArg Prod.fst hx
          simpa using this
        have e0 : b0.1 = .lit (.int .u64 a) := by
          have := congrArg (·[0]?) hx1
          simpa [hb0] using this
        have e1 : b1.1 = .lit (.int .u64 b) := by
          have := congrArg (·[1]?) hx1
          simpa [hb1] using this
        have k0 := trod_u64 (p := b0.2) (n := a) (by rw [hf0, ← e0])
        have k1 := trod_u64 (p := b1.2) (n := b) (by rw [hf1, ← e1])
        match cs, hl with
        | [x, y], _ =>
          simp at k0 k1
          rw [k0, k1]
      · cases h
theorem tabs_of_laid {W : World} {laid : List (String × DataW Unit)} (h : laidMet Tryz.prog laid W) (h11 : ("internal/strconv.pow10Tab", Go.Pinned.pow10Tab) ∈ laid) (h7 : ("internal/strconv.uint64pow10", tabData .u64 Lib.pow10Tab) ∈ laid) (h3 : ("internal/strconv.optimize", .lit (.bool true)) ∈ laid) : Tabs W := by
  obtain ⟨ps, hv, _⟩ := h
  have tab : Lib.TabIs Tryz.prog W "internal/strconv.uint64pow10" .u64 Lib.pow10Tab := by
    obtain ⟨g, t, cs, fuel, p, a1, a2, a3, a4⟩ := laidVars_mem hv _ _ h7
    obtain ⟨t', b1, b2, b3, b4, b5⟩ := g7
    obtain rfl := Option.some.inj (b1.symm.trans a1)
    obtain rfl := Option.some.inj (b2.symm.trans a2)
    have := cells_of_tab b3 (by rfl) b5 b4 a4
    unfold TabIs
    rw [a3, ← this]
  have hpow : ∀ j : Nat, j < 696 → W.cell? ⟨11, j * 2, none⟩ = some (.int .u64 (hiOf ((j : Int) - 348) : Nat)) ∧ W.cell? ⟨11, j * 2 + 1, none⟩ = some (.int .u64 (loOf ((j : Int) - 348) : Nat)) := by
    obtain ⟨g, t, cs, fuel, p, a1, a2, a3, a4⟩ := laidVars_mem hv _ _ h11
    obtain ⟨_, t', e, fs, b1, b2, b3, b4, b5, b6, b7, _⟩ := g11
    obtain rfl := Option.some.inj (b1.symm.trans a1)
    obtain rfl := Option.some.inj (b2.symm.trans a2)
    intro j hj
    cases fuel with
    | zero => simp [DataW.trod] at a4
    | succ fuel =>
      simp only [DataW.trod, b3, b4, b5] at a4
      split at a4
      · rename_i hl
        obtain ⟨xs, hm, hx⟩ := Option.map_eq_some_iff.1 a4
        obtain ⟨b, hb, hf⟩ := mapM_at hm j j (by simp [hj])
        have hx1 : xs.map (·.1) = Go.Pinned.pow10Rows.map fun x => (.agg [.lit (.int .u64 x.1), .lit (.int .u64 x.2)] : DataW Unit) := by
          have := congrArg Prod.fst hx
          unfold Go.Pinned.pow10Tab at this
          simpa using this
        have e0 : b.1 = .agg [.lit (.int .u64 (hiOf ((j : Int) - 348) : Nat)), .lit (.int .u64 (loOf ((j : Int) - 348) : Nat))] := by
          have := congrArg (·[j]?) hx1
          simp only [List.getElem?_map, hb, pow10Rows_at j hj, Option.map_some, Option.some.injEq] at this
          exact this
        have k := pair_of_trod (p := b.2) b6 b7 b5 (by rw [hf, ← e0])
        have c0 : cs.toList[j * 2]? = some (.int .u64 (hiOf ((j : Int) - 348) : Nat)) := by
          have := congrArg (·[0]?) k
          simpa [List.getElem?_take, List.getElem?_drop] using this
        have c1 : cs.toList[j * 2 + 1]? = some (.int .u64 (loOf ((j : Int) - 348) : Nat)) := by
          have := congrArg (·[1]?) k
          simpa [List.getElem?_take, List.getElem?_drop] using this
        exact ⟨(World.var?_cell b1 a3 _).trans (by simpa using c0), (World.var?_cell b1 a3 _).trans (by simpa using c1)⟩
      · cases a4
  refine ⟨?_, fun j hj => (hpow j hj).1, fun j hj => (hpow j hj).2, ?_, tab⟩
  · obtain ⟨g, t, cs, fuel, p, a1, a2, a3, a4⟩ := laidVars_mem hv _ _ h3
    obtain ⟨t', b1, b2, b3⟩ := g3
    obtain rfl := Option.some.inj (b1.symm.trans a1)
    obtain rfl := Option.some.inj (b2.symm.trans a2)
    have : cs.toList = [.bool true] := by
      obtain ⟨b, hc, hx⟩ := DataW.trod_bool b3 a4
      have hb : true = b := by
        have := congrArg Prod.fst hx
        simpa using this
      rw [hc, ← hb]
    rw [World.var?_cell b1 a3 0, ← Array.getElem?_toList, this]; rfl
  · have := tab.cell g7.choose_spec.1 17 (by rw [pow10Tab_length]; omega)
    rw [this, pow10Tab_at 17 (by omega)]
    rfl
theorem Tabs.below {W w : World} (h : Tabs W) (hb : Below W.heap.size W w) : Tabs w := by
  have hc : ∀ {a : Addr} {v : Value}, W.cell? a = some v → w.cell? a = some v := fun {a v} hv => by
    rw [hb.cell (World.block_lt_of_cell? _ _ hv)]; exact hv
  refine ⟨hc h.opt, fun j hj => hc (h.hi j hj), fun j hj => hc (h.lo j hj), hc h.p17, ?_⟩
  have h7 : 7 < W.heap.size := World.block_lt_of_cell? _ _ h.p17
  have t := h.tab
  unfold TabIs at t ⊢
  rw [← t]
  unfold World.var?
  rw [g7.choose_spec.1]
  simp only [Option.bind_some]
  rw [hb.block 7 h7]
end Go.Proofs.YtapinbbflfkglaaGreatDoor
