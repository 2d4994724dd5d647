import Derived.Test.YtapinbbflfkglaaGreatDoorVFb18
import Derived.LaidMore
namespace Go.Proofs.YtapinbbflfkglaaGreatDoor
open Go.RowKit Go.Lib Go.Sort
set_option maxRecDepth 100000
theorem g6 : ∃ t fs, Tryz.prog.globalNamed "internal/strconv.float64info" = some 6 ∧ (Tryz.prog.globals[6]?).map (·.type) = some t ∧ Tryz.prog.underlying t = some (.struct fs) ∧ fs.toList.map (fun f => (f.type, f.offset)) = [(44, 0), (44, 1), (3, 2)] ∧ Tryz.prog.cellsOf t = 3 :=
  ⟨_, _, by kernel_rfl, rfl, rfl, rfl, rfl⟩
theorem g10 : ∃ t e, Tryz.prog.globalNamed "internal/strconv.float64pow10" = some 10 ∧ (Tryz.prog.globals[10]?).map (·.type) = some t ∧ Tryz.prog.underlying t = some (.slice e) ∧ e = 46 ∧ Tryz.prog.cellsOf 46 = 1 ∧ Tryz.prog.underlying 46 = some (.float .f64) :=
  ⟨_, _, by kernel_rfl, rfl, rfl, rfl, rfl, rfl⟩
theorem g2 : ∃ t i, Tryz.prog.globalNamed "strconv.ErrRange" = some 2 ∧ (Tryz.prog.globals[2]?).map (·.type) = some t ∧ Tryz.prog.underlying t = some (.interface i) :=
  ⟨_, _, by kernel_rfl, rfl, rfl⟩
theorem c10_of_laid {W : World} {laid : List (String × DataW Unit)} {b0 b1 : Nat} {r : List (DataW Unit)} (hr : r.length = 21) (h : laidMet Tryz.prog laid W) (h10 : ("internal/strconv.float64pow10", .slice (.lit (.float .f64 b0) :: .lit (.float .f64 b1) :: r) []) ∈ laid) :
    ∃ g : Addr, W.cell? ⟨10, 0, none⟩ = some (.slice (some g) 23 23) ∧ W.cell? (g.add 1) = some (.float .f64 b1) := by
  obtain ⟨ps, hv, _⟩ := h
  obtain ⟨g, t, cs, fuel, p, a1, a2, a3, a4⟩ := laidVars_mem hv _ _ h10
  obtain ⟨t', e, c1, c2, c3, rfl, c5, c6⟩ := g10
  obtain rfl := Option.some.inj (c1.symm.trans a1)
  obtain rfl := Option.some.inj (c2.symm.trans a2)
  have hrow := open_row c3 c5 a4
  have hsl := DataW.trod_slice c3 a4
  obtain ⟨a, cap, hcs, hle, hel⟩ := hrow
  rcases hsl with ⟨_, hx⟩ | ⟨a', len, cap', elems, rest, n, _, hcs', hx, _, hl, _, hlen, _, hsp, _⟩
  · simp at hx
  · rw [hcs] at hcs'
    simp only [List.cons.injEq, Value.slice.injEq, and_true] at hcs'
    obtain ⟨_, hlen2, rfl⟩ := hcs'
    simp only [Prod.mk.injEq, DataW.slice.injEq] at hx
    have hrest : rest.length = 0 := by have := congrArg List.length hx.1.2; simpa using this.symm
    have hcap := (hsp rfl).1
    have hlen23 : len = 23 := by rw [← hlen2]; simp [hr]
    have hcap23 : cap = 23 := by omega
    have hds : (DataW.lit (.float .f64 b0) :: .lit (.float .f64 b1) :: r : List (DataW Unit)).length = 23 := by simp [hr]
    obtain ⟨v, m, q, hcell, htr⟩ := hel 1 _ rfl
    refine ⟨a, ?_, ?_⟩
    · rw [World.var?_cell c1 a3 0, ← Array.getElem?_toList, hcs, hds, hcap23]; rfl
    · rw [hcell]
      cases m with
      | zero => simp [DataW.trod] at htr
      | succ m =>
        cases v <;> simp [DataW.trod, c6] at htr
        obtain ⟨h1, h2⟩ := htr
        simp_all
theorem c6_of_laid {W : World} {laid : List (String × DataW Unit)} {n : Int} {r : List (DataW Unit)} (h : laidMet Tryz.prog laid W) (h6 : ("internal/strconv.float64info", .agg (.lit (.int .u64 n) :: r)) ∈ laid) : W.cell? ⟨6, 0, none⟩ = some (.int .u64 n) := by
  obtain ⟨ps, hv, _⟩ := h
  obtain ⟨g, t, cs, fuel, p, a1, a2, a3, a4⟩ := laidVars_mem hv _ _ h6
  obtain ⟨t', fs, c1, c2, c3, hfs, c5⟩ := g6
  obtain rfl := Option.some.inj (c1.symm.trans a1)
  obtain rfl := Option.some.inj (c2.symm.trans a2)
  cases fuel with
  | zero => simp [DataW.trod] at a4
  | succ fuel =>
    have h0 : ∃ f0, fs.toList[0]? = some f0 ∧ f0.type = 44 ∧ f0.offset = 0 := by
      revert hfs
      generalize fs.toList = l
      intro hfs
      cases l with
      | nil => cases hfs
      | cons f l =>
        simp only [List.map_cons, List.cons.injEq, Prod.mk.injEq] at hfs
        exact ⟨f, rfl, hfs.1.1, hfs.1.2⟩
    obtain ⟨f0, hf, t0, o0⟩ := h0
    simp only [DataW.trod, c3, c5] at a4
    split at a4
    · obtain ⟨xs, hm, hx⟩ := Option.map_eq_some_iff.1 a4
      obtain ⟨b0, hb0, hf0⟩ := mapM_at hm 0 f0 hf
      rw [t0, o0, show Tryz.prog.cellsOf 44 = 1 from rfl] at hf0
      have hx1 : xs.map (·.1) = .lit (.int .u64 n) :: r := by
        have := congrArg Prod.fst hx
        simpa using this
      have e0 : b0.1 = .lit (.int .u64 n) := by
        have := congrArg (·[0]?) hx1
        simpa [hb0] using this
      obtain ⟨z, hc, hz, _⟩ := DataW.trod_int (k := .u64) (by rfl : Tryz.prog.underlying 44 = some (.int .u64)) hf0
      have hz' : n = z := by
        have := congrArg Prod.fst hz
        rw [e0] at this
        simpa using this
      have c0 : cs.toList[0]? = some (.int .u64 n) := by
        have := congrArg (·[0]?) hc
        rw [hz']
        simpa [List.getElem?_take, List.getElem?_drop] using this
      rw [World.var?_cell c1 a3 0, ← Array.getElem?_toList, c0]
    · cases a4
theorem c2_of_laid {W : World} {laid : List (String × DataW Unit)} {s : String} {d : DataW Unit} (h : laidMet Tryz.prog laid W) (h2 : ("strconv.ErrRange", .iface s d) ∈ laid) : ∃ ev, W.cell? ⟨2, 0, none⟩ = some ev ∧ (ev = .nilIface ∨ ∃ te pe, ev = .iface te pe) := by
  obtain ⟨ps, hv, _⟩ := h
  obtain ⟨g, t, cs, fuel, p, a1, a2, a3, a4⟩ := laidVars_mem hv _ _ h2
  obtain ⟨t', i, c1, c2, c3⟩ := g2
  obtain rfl := Option.some.inj (c1.symm.trans a1)
  obtain rfl := Option.some.inj (c2.symm.trans a2)
  have hcell := World.var?_cell c1 a3 0
  rw [← Array.getElem?_toList] at hcell
  cases fuel with
  | zero => simp [DataW.trod] at a4
  | succ fuel =>
    revert a4 hcell
    generalize cs.toList = l
    intro hcell a4
    rcases l with _ | ⟨x, _ | ⟨y, l⟩⟩
    · simp [DataW.trod, c3] at a4
    · cases x <;> simp [DataW.trod, c3] at a4
      exact ⟨_, hcell, .inr ⟨_, _, rfl⟩⟩
    · simp [DataW.trod, c3] at a4
theorem fxt_of_laid {W : World} {laid : List (String × DataW Unit)} (h : laidMet Tryz.prog laid W) (i11 i7 i3 i10 i6 i2 : Nat) (b0 : Nat) (r r6 : List (DataW Unit)) (hr : r.length = 21) (s : String) (d : DataW Unit)
    (h11 : laid[i11]? = some ("internal/strconv.pow10Tab", Go.Pinned.pow10Tab)) (h7 : laid[i7]? = some ("internal/strconv.uint64pow10", tabData .u64 Lib.pow10Tab)) (h3 : laid[i3]? = some ("internal/strconv.optimize", .lit (.bool true)))
    (h4 : ∃ m, W.cell? ⟨4, 0, none⟩ = some (.int .i64 m)) (h10 : laid[i10]? = some ("internal/strconv.float64pow10", .slice (.lit (.float .f64 b0) :: .lit (.float .f64 4621819117588971520) :: r) []))
    (h6 : laid[i6]? = some ("internal/strconv.float64info", .agg (.lit (.int .u64 52) :: r6))) (h2 : laid[i2]? = some ("strconv.ErrRange", .iface s d)) :
    ∃ g ev, FxT W g ev ∧ (ev = .nilIface ∨ ∃ te pe, ev = .iface te pe) := by
  obtain ⟨g, e1, e2⟩ := c10_of_laid hr h (List.mem_of_getElem? h10)
  obtain ⟨ev, e3, e4⟩ := c2_of_laid h (List.mem_of_getElem? h2)
  exact ⟨g, ev, ⟨tabs_of_laid h (List.mem_of_getElem? h11) (List.mem_of_getElem? h7) (List.mem_of_getElem? h3), h4, c6_of_laid h (List.mem_of_getElem? h6), e1, e2, e3⟩, e4⟩
end Go.Proofs.YtapinbbflfkglaaGreatDoor
