import Derived.Test.YtapinbbflfkglaaGreatDoorVFb8
import Derived.Deep.DeepAppendRoom
import Derived.Deep.CutBlock
import Derived.Deep.CutRange
import Derived.OwnWalk
namespace Go.Proofs.YtapinbbflfkglaaGreatDoor
open Go.RowKit Go.Lib Go.Sort
set_option maxRecDepth 100000
structure Bf (W w : World) (g gd n : Nat) (ds xs : List Value) : Prop where
  own : w.ownsRow W.heap.size 5 1 (.slice (some ⟨g, 0, none⟩) n 24) n xs
  below : Below W.heap.size W w
  digs : ∀ j u, ds[j]? = some u → w.cell? ⟨gd, j, none⟩ = some u
  ne : g ≠ gd
  le : W.heap.size ≤ w.heap.size
theorem Bf.alloc {W w : World} {g gd n : Nat} {ds xs : List Value} (h : Bf W w g gd n ds xs) (o : Obj) : Bf W (w.alloc o) g gd n ds xs :=
  ⟨h.own.alloc o, h.below.alloc h.le o, fun j u hj => by rw [World.cell?_alloc_past _ _ _ (World.block_lt_of_cell? _ _ (h.digs j u hj))]; exact h.digs j u hj, h.ne, by rw [World.size_alloc]; exact Nat.le_succ_of_le h.le⟩
theorem Bf.drewN {W w : World} {g gd n : Nat} {ds xs : List Value} (h : Bf W w g gd n ds xs) (k : Nat) : Bf W (w.drewN k) g gd n ds xs :=
  ⟨h.own, below_drewN h.below k, h.digs, h.ne, h.le⟩
theorem info5 : ∃ i, Tryz.prog.info? 5 = some i ∧ i.size = 1 := ⟨_, rfl, rfl⟩
theorem bf_append {W w : World} {g gd n : Nat} {ds xs : List Value} {ops : Array Oper} {rest : List Oper} {o : Oper} {a : Act} {Q : Exit → Act → World → Prop} (hgd : o.guard = none) (s x : Operand)
    (ho : o.op = .call { callee := .builtin .append, args := #[s, x], argTypes := #[83, 83] }) (hB : Bf W w g gd n ds xs) (hs : a.eval s = .slice (some ⟨g, 0, none⟩) n 24)
    (ad : Addr) (m c : Nat) (news : List Value) (hx : a.eval x = .slice (some ad) m c) (hl : news.length = m) (hnews : ∀ j u, news[j]? = some u → w.cell? (ad.add j) = some u) (h1 : ∀ u ∈ news, u.oneCell' = true)
    (hroom : n + m ≤ 24)
    (h : ∀ w', Bf W w' g gd (n + m) ds (xs ++ news) → wpList Tryz.prog ops Q rest (a.put o.dst (.slice (some ⟨g, 0, none⟩) (n + m) 24)) w') : wpList Tryz.prog ops Q (o :: rest) a w := by
  obtain ⟨i, hi, hsz⟩ := info5
  refine wpList_append_own_spare (P := Tryz.prog) w hgd s x 83 ho W.heap.size 5 i 1 Tryz.underlying83 hi hsz g n 24 xs hs hB.own ad m c news hx (by omega) hnews h1 hroom fun w' h2 h3 => h w' ⟨h2, ?_, ?_, hB.ne, Nat.le_trans hB.le h3.size⟩
  · exact hB.below.grown h3 hB.le (fun k hk => by cases hk; exact (hB.own.lt g rfl).1)
  · intro j u hj
    exact h3.cell (hB.digs j u hj) (by intro h; exact hB.ne (by simpa using h.symm))
def bvI (k : Nat) : Value := .int .u8 (k : Nat)
def sgL (neg : Bool) : List Value := if neg then [bvI 45] else []
def expD (a : Nat) : List Value := if a < 10 then [bvI 48, bvI (48 + a)] else if a < 100 then [bvI (48 + a / 10), bvI (48 + a % 10)] else [bvI (48 + a / 100), bvI (48 + a / 10 % 10), bvI (48 + a % 10)]
def expL (x : Int) : List Value := bvI (if x < 0 then 45 else 43) :: expD x.natAbs
def outE (neg : Bool) (ds : List Value) (nd : Nat) (x : Int) : List Value :=
  sgL neg ++ [if nd = 0 then bvI 48 else ds.getD 0 undef] ++ [bvI 46] ++ (ds.take nd).drop 1 ++ List.replicate (17 - max nd 1) (bvI 48) ++ [bvI 101] ++ expL x
theorem cells_new (w : World) (l : List Value) (t : TypeId) : ∀ j u, l[j]? = some u → (w.alloc (.cells l.toArray t)).cell? ((⟨w.heap.size, 0, none⟩ : Addr).add j) = some u := by
  intro j u hj
  rw [Addr.add_lit, Nat.zero_add]
  rw [World.cell?_alloc_at _ _ _ _ rfl]; simpa using hj
theorem expD1 {a : Nat} (h : a < 10) : [Value.int .u8 48, .int .u8 ((a : Int) + 48)] = expD a := by
  unfold expD bvI
  rw [if_pos h]
  congr 2; congr 1; omega
theorem expD2 {a : Nat} (h : ¬ a < 10) (h2 : a < 100) : [Value.int .u8 ((a : Int) / 10 + 48), .int .u8 ((a : Int) % 10 + 48)] = expD a := by
  unfold expD bvI
  rw [if_neg h, if_pos h2, show ((a : Int) / 10 + 48) = ((48 + a / 10 : Nat) : Int) by omega, show ((a : Int) % 10 + 48) = ((48 + a % 10 : Nat) : Int) by omega]
theorem expD3 {a : Nat} (h : ¬ a < 10) (h2 : ¬ a < 100) : [Value.int .u8 ((a : Int) / 100 + 48), .int .u8 ((a : Int) / 10 % 10 + 48), .int .u8 ((a : Int) % 10 + 48)] = expD a := by
  unfold expD bvI
  rw [if_neg h, if_neg h2, show ((a : Int) / 100 + 48) = ((48 + a / 100 : Nat) : Int) by omega, show ((a : Int) / 10 % 10 + 48) = ((48 + a / 10 % 10 : Nat) : Int) by omega, show ((a : Int) % 10 + 48) = ((48 + a % 10 : Nat) : Int) by omega]
theorem out_eq {x1 x2 x3 x5 T ds : List Value} {neg : Bool} {nd k z s b0 : Nat} {x : Int} (h5 : x5 = x3 ++ List.replicate z (bvI 48) ++ [bvI 101]) (h3 : x3 = x2 ++ (ds.take nd).drop 1) (h2 : x2 = x1 ++ [bvI b0] ++ [bvI 46]) (h1 : x1 = sgL neg)
    (hd : (if nd = 0 then bvI 48 else ds.getD 0 undef) = bvI b0) (hz : z = 17 - k) (hk : k = max nd 1) (hs : s = if x < 0 then 45 else 43) (hT : T = expD x.natAbs) : x5 ++ [bvI s] ++ T = outE neg ds nd x := by
  subst h5 h3 h2 h1 hz hk hs hT
  unfold outE expL
  rw [hd]
  split <;> simp [List.append_assoc]
theorem drop1_cells {W w : World} {g gd n nd : Nat} {ds xs : List Value} (h : Bf W w g gd n ds xs) : ∀ j u, ((ds.take nd).drop 1)[j]? = some u → w.cell? (Addr.add ⟨gd, 1, none⟩ j) = some u := by
  intro j u hj
  rw [List.getElem?_drop, List.getElem?_take] at hj
  split at hj
  · rw [Addr.add_lit]; exact h.digs (1 + j) u hj
  · cases hj
theorem drop1_one {nd : Nat} {ds : List Value} (h : ∀ j, j < nd → ∃ b : Nat, b < 256 ∧ ds.getD j undef = bvI b) : ∀ u ∈ (ds.take nd).drop 1, u.oneCell' = true := by
  intro u hu
  obtain ⟨j, hj, e⟩ := List.getElem_of_mem hu
  rw [List.getElem_drop, List.getElem_take] at e
  simp only [List.length_drop, List.length_take] at hj
  obtain ⟨b, _, h2⟩ := h (1 + j) (by omega)
  rw [List.getD_eq_getElem?_getD, List.getElem?_eq_getElem (by omega), Option.getD_some, e] at h2
  rw [h2]; rfl
set_option maxHeartbeats 8000000 in
theorem fmtE_any (W w : World) (g gd nd L C : Nat) (neg : Bool) (ds : List Value) (dp x : Int) (v2 : Value) (hB : Bf W w g gd 0 ds []) (hnd : nd ≤ 17) (hds : nd ≤ ds.length) (hv2 : nd = 0 ∨ v2 = .slice (some ⟨gd, 0, none⟩) L C) (hL : nd ≤ L) (hLC : L ≤ C)
    (hbyte : ∀ j, j < nd → ∃ b : Nat, b < 256 ∧ ds.getD j undef = bvI b)
    (hx : Hid (x = if nd = 0 then 0 else dp - 1)) (hx1 : -400 ≤ x) (hx2 : x ≤ 400) (hdp1 : -400 ≤ dp) (hdp2 : dp ≤ 400) :
    Calls Tryz.prog 95 #[.slice (some ⟨g, 0, none⟩) 0 24, .bool neg, v2, .int .i64 dp, .int .i64 (nd : Nat), .int .i64 16, .int .u8 101, .bool false] w fun e w' =>
      ∃ n, e = .returned (.slice (some ⟨g, 0, none⟩) n 24) ∧ Bf W w' g gd n ds (outE neg ds nd x) := by
  have HB := Lib.hid hB
  clear hB
  go_enter Tryz.func95, Tryz.ntmps95
  go_upto_if 78 with (fail)
  go_cut [0] (fun v0 wc => ∃ n, n = (sgL neg).length ∧ v0 = .slice (some ⟨g, 0, none⟩) n 24 ∧ Bf W wc g gd n ds (sgL neg))
  case first =>
    as_aux_lemma =>
      cases neg with
      | false =>
        go_wp2_with (fail)
        go_meet
        exact ⟨0, rfl, rfl, HB.out⟩
      | true =>
        go_wp2_with (first | (at_builtin; refine bf_append rfl _ _ rfl (HB.out.alloc _) rfl ⟨_, 0, none⟩ _ _ [bvI 45] rfl rfl ?c1 ?c2 ?c3 ?_; (case c1 => exact cell_one_new _ _ _); (case c2 => exact (by simp [bvI, Value.oneCell'])); (case c3 => omega); intro w1 HB1))
        go_meet
        exact ⟨_, rfl, rfl, HB1⟩
  case rest =>
    as_aux_lemma =>
      clear HB
      obtain ⟨n, hn, rfl, hB⟩ := hcut
      have hn1 : n ≤ 1 := by rw [hn]; cases neg <;> simp [sgL]
      have HB := Lib.hid hB
      clear hB hn
      obtain ⟨x1, hy1⟩ : ∃ y, y = sgL neg := ⟨_, rfl⟩
      rw [← hy1] at HB
      have hY1 := Lib.hid hy1
      clear hy1
      have d0 : ∃ b : Nat, b < 256 ∧ (if nd = 0 then bvI 48 else ds.getD 0 undef) = bvI b := by
        by_cases c : nd = 0
        · exact ⟨48, by omega, by rw [if_pos c]⟩
        · obtain ⟨b, hb, e⟩ := hbyte 0 (by omega)
          exact ⟨b, hb, by rw [if_neg c, e]⟩
      obtain ⟨b0, hb0, hd0⟩ := d0
      go_upto_if 83 with (fail)
      go_cut [19] (fun v19 w2 => w2 = wc ∧ v19 = .int .u8 (b0 : Nat))
      case first =>
        as_aux_lemma =>
          by_cases c : nd = 0
          · as_aux_lemma =>
              subst c
              rw [if_pos rfl] at hd0
              have hb : b0 = 48 := by simp only [bvI] at hd0; injection hd0 with h1 h2; omega
              subst hb
              go_wp2_with (fail)
              go_meet
              exact ⟨rfl, rfl⟩
          · as_aux_lemma =>
              have c1 : decide (((nd : Nat) : Int) = 0) = false := by simp only [decide_eq_false_iff_not]; omega
              have hv := hv2.resolve_left c
              subst hv
              rw [if_neg c] at hd0
              have hcell : wc.cell? ⟨gd, 0, none⟩ = some (.int .u8 (b0 : Nat)) := HB.out.digs 0 _ (by
                have h : 0 < ds.length := by omega
                simp only [List.getD, List.getElem?_eq_getElem h, Option.getD_some] at hd0
                rw [List.getElem?_eq_getElem h, hd0]; rfl)
              have c2 : decide ((0 : Int) < (L : Nat)) = true := by simp only [decide_eq_true_eq]; omega
              go_wp2_with (fail)
              go_meet
              exact ⟨rfl, rfl⟩
      case rest =>
        as_aux_lemma =>
          obtain ⟨rfl, rfl⟩ := hcut
          have hbyt := Lib.hid hbyte
          clear hbyte hb0
          go_upto_if 102 with (first | (at_builtin; refine bf_append rfl _ _ rfl (HB.out.alloc _) rfl ⟨_, 0, none⟩ _ _ [bvI b0] rfl rfl ?c1 ?c2 ?c3 ?_; (case c1 => exact cell_one_new _ _ _); (case c2 => exact (by simp [bvI, Value.oneCell'])); (case c3 => omega); intro w1 HB1) | (at_builtin; refine bf_append rfl _ _ rfl (HB1.alloc _) rfl ⟨_, 0, none⟩ _ _ [bvI 46] rfl rfl ?c1 ?c2 ?c3 ?_; (case c1 => exact cell_one_new _ _ _); (case c2 => exact (by simp [bvI, Value.oneCell'])); (case c3 => omega); intro w2 HB2))
          have HB3 := Lib.hid HB2
          clear HB1 HB2
          rw [show min ((nd : Nat) : Int) 17 = (nd : Nat) by omega]
          obtain ⟨x2, hx2⟩ : ∃ y, y = x1 ++ [bvI b0] ++ [bvI 46] := ⟨_, rfl⟩
          obtain ⟨n2, hn2⟩ : ∃ y, y = n + 1 + 1 := ⟨_, rfl⟩
          rw [← hx2, ← hn2] at HB3
          rw [← hn2]
          have hn2' : n2 ≤ 3 := by omega
          have hX2 := Lib.hid hx2
          clear hn2 hx2
          go_cut [0, 20] (fun v0 v20 wc => ∃ k : Nat, Hid (k = max nd 1) ∧ v20 = .int .i64 (k : Nat) ∧ v0 = .slice (some ⟨g, 0, none⟩) (n2 + (k - 1)) 24 ∧ Bf W wc g gd (n2 + (k - 1)) ds (x2 ++ (ds.take nd).drop 1))
          case first =>
            as_aux_lemma =>
              by_cases c : 1 < nd
              · as_aux_lemma =>
                  have c1 : decide ((1 : Int) < ((nd : Nat) : Int)) = true := by simp only [decide_eq_true_eq]; omega
                  have hv := hv2.resolve_left (by omega)
                  subst hv
                  have c3 : decide (((nd : Nat) : Int) ≤ ((C : Nat) : Int)) = true := by simp only [decide_eq_true_eq]; omega
                  have c4 : decide ((1 : Int) ≤ ((nd : Nat) : Int)) = true := by simp only [decide_eq_true_eq]; omega
                  have hk1 : Hid (nd = max nd 1) := Lib.hid (by omega)
                  go_wp2_with (first | (at_builtin; refine bf_append rfl _ _ rfl (HB3.out) rfl ⟨gd, _, none⟩ _ _ ((ds.take nd).drop 1) rfl ?hl ?c1 ?c2 ?c3 ?_; (case c1 => exact (drop1_cells HB3.out)); (case c2 => exact (drop1_one hbyt.out)); (case c3 => omega); (case hl => simp; omega); intro w3 HB4))
                  go_meet
                  exact ⟨nd, hk1, rfl, rfl, HB4⟩
              · as_aux_lemma =>
                  have c1 : decide ((1 : Int) < ((nd : Nat) : Int)) = false := by simp only [decide_eq_false_iff_not]; omega
                  have hk1 : Hid (1 = max nd 1) := Lib.hid (by omega)
                  have hnil : Hid ((ds.take nd).drop 1 = []) := Lib.hid (List.drop_eq_nil_of_le (by rw [List.length_take]; omega))
                  go_wp2_with (fail)
                  go_meet
                  refine ⟨1, hk1, rfl, rfl, ?_⟩
                  have := hnil.out
                  rw [this, List.append_nil]
                  exact HB3.out
          case rest =>
            as_aux_lemma =>
              obtain ⟨k, hk, rfl, rfl, hB4⟩ := hcut
              have HB5 := Lib.hid hB4
              clear hB4 HB3
              have hk1 : k ≤ 17 := by have := hk.out; omega
              have hk2 : 1 ≤ k := by have := hk.out; omega
              obtain ⟨n3, hn3⟩ : ∃ y, y = n2 + (k - 1) := ⟨_, rfl⟩
              obtain ⟨x3, hx3⟩ : ∃ y, y = x2 ++ (ds.take nd).drop 1 := ⟨_, rfl⟩
              rw [← hx3, ← hn3] at HB5
              rw [← hn3]
              have hn3' : n3 + (17 - k) ≤ 19 := by omega
              have hX3 := Lib.hid hx3
              clear hn3 hx3
              have c1 : (17 : Int) - (k : Nat) = ((17 - k : Nat) : Int) := by omega
              obtain ⟨z, hz⟩ : ∃ z, z = 17 - k := ⟨_, rfl⟩
              rw [← hz] at c1 hn3'
              have hZ := Lib.hid hz
              clear hz
              have hxx := hx
              clear hx
              clear hv2 hL hLC hbyt hds
              go_upto_if 115 with (fail)
              go_loopw [0, 114] (fun v0 v114 wr => ∃ i : Nat, v114 = .int .i64 (i : Nat) ∧ i ≤ z ∧ v0 = .slice (some ⟨g, 0, none⟩) (n3 + i) 24 ∧ Bf W wr g gd (n3 + i) ds (x3 ++ List.replicate i (bvI 48))) (fun _ v114 _ => z - (RowKit.intOf v114).toNat)
              case atStart => exact ⟨0, rfl, Nat.zero_le _, rfl, by rw [List.replicate_zero, List.append_nil]; exact HB5.out⟩
              case round =>
                as_aux_lemma =>
                  obtain ⟨i, rfl, hi, rfl, hB6⟩ := hrel
                  have HB6 := Lib.hid hB6
                  clear hB6 HB5
                  by_cases c : i < z
                  · as_aux_lemma =>
                      have c2 : decide (i < z) = true := by simp only [decide_eq_true_eq]; exact c
                      have c3 : decide (((i : Nat) : Int) < (z : Nat)) = true := by simp only [decide_eq_true_eq]; omega
                      go_wp2_with (first | (at_builtin; refine bf_append rfl _ _ rfl (HB6.out.alloc _) rfl ⟨_, 0, none⟩ _ _ [bvI 48] rfl rfl ?c1 ?c2 ?c3 ?_; (case c1 => exact cell_one_new _ _ _); (case c2 => exact (by simp [bvI, Value.oneCell'])); (case c3 => omega); intro w4 HB7))
                      refine ⟨⟨i + 1, by simp, by omega, rfl, ?_⟩, by simp [RowKit.intOf]; omega⟩
                      rw [List.replicate_succ', ← List.append_assoc]
                      exact HB7
                  · as_aux_lemma =>
                      have hiz : i = z := by omega
                      subst hiz
                      go_upto_if 127 with (first | (at_builtin; refine bf_append rfl _ _ rfl (HB6.out.alloc _) rfl ⟨_, 0, none⟩ _ _ [bvI 101] rfl rfl ?c1 ?c2 ?c3 ?_; (case c1 => exact cell_one_new _ _ _); (case c2 => exact (by simp [bvI, Value.oneCell'])); (case c3 => omega); intro w5 HB7))
                      have HB8 := Lib.hid HB7
                      clear HB7 HB6
                      go_cut [22] (fun v22 wx => wx = w5 ∧ v22 = .int .i64 x)
                      case first =>
                        as_aux_lemma =>
                          by_cases c : nd = 0
                          · as_aux_lemma =>
                              subst c
                              have hx0 : x = 0 := by rw [hxx.out, if_pos rfl]
                              subst hx0
                              go_wp2_with (fail)
                              go_meet
                              exact ⟨rfl, rfl⟩
                          · as_aux_lemma =>
                              have c1 : decide (((nd : Nat) : Int) = 0) = false := by simp only [decide_eq_false_iff_not]; omega
                              have hx0 : x = dp - 1 := by rw [hxx.out, if_neg c]
                              subst hx0
                              go_wp2_with (fail)
                              go_meet
                              exact ⟨rfl, rfl⟩
                      case rest =>
                        as_aux_lemma =>
                          obtain ⟨rfl, rfl⟩ := hcut
                          clear hxx hdp1 hdp2 c1
                          obtain ⟨x5, hx5⟩ : ∃ y, y = x3 ++ List.replicate i (bvI 48) ++ [bvI 101] := ⟨_, rfl⟩
                          obtain ⟨n5, hn5⟩ : ∃ y, y = n3 + i + 1 := ⟨_, rfl⟩
                          rw [← hx5, ← hn5] at HB8
                          rw [← hn5]
                          have hn5' : n5 ≤ 20 := by omega
                          have hX5 := Lib.hid hx5
                          clear hn5 hx5
                          go_upto_if 129 with (fail)
                          go_cut [19, 22] (fun v19 v22 wx => wx = wc ∧ ∃ s : Nat, v19 = .int .u8 (s : Nat) ∧ Hid (s = if x < 0 then 45 else 43) ∧ v22 = .int .i64 (x.natAbs : Nat))
                          case first =>
                            as_aux_lemma =>
                              by_cases c : x < 0
                              · as_aux_lemma =>
                                  have c1 : decide (x < 0) = true := by simp only [decide_eq_true_eq]; exact c
                                  have k1 : Value.int .i64 (-x) = .int .i64 (x.natAbs : Nat) := by congr 1; omega
                                  have k2 : Hid (45 = if x < 0 then 45 else 43) := Lib.hid (by rw [if_pos c])
                                  go_wp2_with (fail)
                                  go_meet
                                  exact ⟨rfl, 45, rfl, k2, by first | rfl | exact k1⟩
                              · as_aux_lemma =>
                                  have c1 : decide (x < 0) = false := by simp only [decide_eq_false_iff_not]; exact c
                                  have k1 : Value.int .i64 x = .int .i64 (x.natAbs : Nat) := by congr 1; omega
                                  have k2 : Hid (43 = if x < 0 then 45 else 43) := Lib.hid (by rw [if_neg c])
                                  go_wp2_with (fail)
                                  go_meet
                                  exact ⟨rfl, 43, rfl, k2, by first | rfl | exact k1⟩
                          case rest =>
                            as_aux_lemma =>
                              obtain ⟨rfl, s, rfl, hs, rfl⟩ := hcut
                              have hs1 : s < 256 := by rw [hs.out]; split <;> omega
                              obtain ⟨a, ha⟩ : ∃ a, a = x.natAbs := ⟨_, rfl⟩
                              rw [← ha]
                              have ha' : a ≤ 400 := by omega
                              have hA := Lib.hid ha
                              clear ha hx2
                              by_cases c : a < 10
                              · as_aux_lemma =>
                                  have c1 : decide ((a : Int) < 10) = true := by simp only [decide_eq_true_eq]; omega
                                  have hT := Lib.hid (expD1 c)
                                  go_wp2_with (first | (at_builtin; refine bf_append rfl _ _ rfl (HB8.out.alloc _) rfl ⟨_, 0, none⟩ _ _ [bvI s] rfl rfl ?c1 ?c2 ?c3 ?_; (case c1 => exact cell_one_new _ _ _); (case c2 => exact (by simp [bvI, Value.oneCell'])); (case c3 => omega); intro w6 HB9) | (at_builtin; refine bf_append rfl _ _ rfl (HB9.alloc _) rfl ⟨_, 0, none⟩ _ _ [.int .u8 48, .int .u8 ((a : Int) + 48)] rfl rfl ?c1 ?c2 ?c3 ?_; (case c1 => exact cells_new _ _ _); (case c2 => exact (by simp [Value.oneCell'])); (case c3 => omega); intro w7 HBa))
                                  go_ret
                                  exact ⟨_, rfl, by rw [← out_eq hX5.out hX3.out hX2.out hY1.out hd0 hZ.out hk.out hs.out (hT.out.trans (by rw [hA.out]))]; exact HBa⟩
                              · as_aux_lemma =>
                                  have c1 : decide ((a : Int) < 10) = false := by simp only [decide_eq_false_iff_not]; omega
                                  by_cases c2 : a < 100
                                  · as_aux_lemma =>
                                      have c3 : decide ((a : Int) < 100) = true := by simp only [decide_eq_true_eq]; omega
                                      have hT := Lib.hid (expD2 c c2)
                                      clear c c2
                                      go_wp2_with (first | (at_builtin; refine bf_append rfl _ _ rfl (HB8.out.alloc _) rfl ⟨_, 0, none⟩ _ _ [bvI s] rfl rfl ?c1 ?c2 ?c3 ?_; (case c1 => exact cell_one_new _ _ _); (case c2 => exact (by simp [bvI, Value.oneCell'])); (case c3 => omega); intro w6 HB9) | (at_builtin; refine bf_append rfl _ _ rfl (HB9.alloc _) rfl ⟨_, 0, none⟩ _ _ [.int .u8 ((a : Int) / 10 + 48), .int .u8 ((a : Int) % 10 + 48)] rfl rfl ?c1 ?c2 ?c3 ?_; (case c1 => exact cells_new _ _ _); (case c2 => exact (by simp [Value.oneCell'])); (case c3 => omega); intro w8 HBa))
                                      go_ret
                                      exact ⟨_, rfl, by rw [← out_eq hX5.out hX3.out hX2.out hY1.out hd0 hZ.out hk.out hs.out (hT.out.trans (by rw [hA.out]))]; exact HBa⟩
                                  · as_aux_lemma =>
                                      have c3 : decide ((a : Int) < 100) = false := by simp only [decide_eq_false_iff_not]; omega
                                      have hT := Lib.hid (expD3 c c2)
                                      clear c c2
                                      go_wp2_with (first | (at_builtin; refine bf_append rfl _ _ rfl (HB8.out.alloc _) rfl ⟨_, 0, none⟩ _ _ [bvI s] rfl rfl ?c1 ?c2 ?c3 ?_; (case c1 => exact cell_one_new _ _ _); (case c2 => exact (by simp [bvI, Value.oneCell'])); (case c3 => omega); intro w6 HB9) | (at_builtin; refine bf_append rfl _ _ rfl (HB9.alloc _) rfl ⟨_, 0, none⟩ _ _ [.int .u8 ((a : Int) / 100 + 48), .int .u8 ((a : Int) / 10 % 10 + 48), .int .u8 ((a : Int) % 10 + 48)] rfl rfl ?c1 ?c2 ?c3 ?_; (case c1 => exact cells_new _ _ _); (case c2 => exact (by simp [Value.oneCell'])); (case c3 => omega); intro w9 HBa))
                                      go_ret
                                      exact ⟨_, rfl, by rw [← out_eq hX5.out hX3.out hX2.out hY1.out hd0 hZ.out hk.out hs.out (hT.out.trans (by rw [hA.out]))]; exact HBa⟩
end Go.Proofs.YtapinbbflfkglaaGreatDoor
