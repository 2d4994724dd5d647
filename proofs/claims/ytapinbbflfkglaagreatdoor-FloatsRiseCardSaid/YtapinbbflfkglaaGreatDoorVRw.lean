import Derived.Test.YtapinbbflfkglaaGreatDoorVRs
import Derived.Test.YtapinbbflfkglaaGreatDoorVRv
namespace Go.Proofs.YtapinbbflfkglaaGreatDoor
open Go.RowKit Go.Lib Go.Sort
open Go.Proofs.YtapinbbflfkglaaGreatDoor.Fp (IsNear mid)
open Go.Proofs.YtapinbbflfkglaaGreatDoorW.PrintWords Go.Proofs.YtapinbbflfkglaaGreatDoorW.PrintLast Go.Proofs.YtapinbbflfkglaaGreatDoorW.PrintMore
open PFloatsParses (nN nD nD_pos xF behindR RefAns parse_ref bs numF_lt readL fin)
set_option maxRecDepth 100000
theorem near_not_big {N D r : Nat} (hD : 0 < D) (h : IsNear N D r) (hr : r < 9218868437227405312) (hb : TooBig N D) : False := by
  unfold TooBig at hb
  have hm : mid r ≤ mid 9218868437227405311 := by
    rcases Nat.lt_or_ge r 9218868437227405311 with c | c
    · exact Nat.le_of_lt (Fp.mid_lt c)
    · rw [show r = 9218868437227405311 by omega]; exact Nat.le_refl _
  have hm2 := Nat.mul_le_mul_right D hm
  rcases h.2 with h | ⟨h, e⟩
  · omega
  · have e1 : mid r = mid 9218868437227405311 := by
      apply Nat.eq_of_mul_eq_mul_right hD
      omega
    rcases Nat.lt_or_ge r 9218868437227405311 with c | c
    · have := Fp.mid_lt c; omega
    · have : r = 9218868437227405311 := by omega
      omega
theorem eF_xF : ∀ (es : List UInt8) (e x : Nat), (e = x ∨ (10000 ≤ e ∧ 10000 ≤ x)) → e ≤ 99999 → x ≤ 100000 → allD es → (eF es e = xF es x ∨ (10000 ≤ eF es e ∧ 10000 ≤ xF es x))
  | [], _, _, h, _, _, _ => h
  | c :: cs, e, x, h, he, hx, hd => by
    obtain ⟨a, b⟩ := dig_iff.1 (hd c (List.mem_cons_self ..))
    have hd' : allD cs := fun y hy => hd y (List.mem_cons_of_mem _ hy)
    show eF cs (if e < 10000 then e * 10 + (c.toNat - 48) else e) = xF cs (min 100000 (10 * x + (c.toNat - 48))) ∨ (10000 ≤ eF cs (if e < 10000 then e * 10 + (c.toNat - 48) else e) ∧ 10000 ≤ xF cs (min 100000 (10 * x + (c.toNat - 48))))
    by_cases c1 : e < 10000
    · rw [if_pos c1]
      refine eF_xF cs _ _ ?_ (by omega) (by omega) hd'
      left
      omega
    · rw [if_neg c1]
      refine eF_xF cs _ _ (.inr ⟨by omega, by omega⟩) he (by omega) hd'
theorem behind_of {X : List UInt8} {y : Int} (h : behindR X y) : ∃ xx, behind X xx ∧ (xx = y ∨ (10000 ≤ xx ∧ 10000 ≤ y) ∨ (xx ≤ -10000 ∧ y ≤ -10000)) := by
  rcases h with ⟨h, h2⟩ | ⟨c, k, es, h1, h2, h3, h4, h5, h6⟩
  · exact ⟨0, .inl ⟨h, rfl⟩, .inl h2.symm⟩
  · refine ⟨_, .inr ⟨c, k, es, h1, h2, h3, h4, h5, rfl⟩, ?_⟩
    have := eF_xF es 0 0 (.inl rfl) (by omega) (by omega) h4
    rw [h6]
    by_cases ck : k = 2
    · rw [if_pos ck, if_pos ck]; omega
    · rw [if_neg ck, if_neg ck]; omega
theorem near_zero {N D : Nat} (h : N < D) : IsNear N D 0 := ⟨.inl rfl, .inl (by rw [mid0, Nat.one_mul]; exact h)⟩
set_option exponentiation.threshold 3000 in
theorem small_amt {D : Nat} {x : Int} (hD : D < 10 ^ 64) (hx : x ≤ -400) : nN D x < nD x := by
  unfold nN nD
  rw [show x.toNat = 0 by omega, Nat.pow_zero, Nat.mul_one]
  calc D * 2 ^ 1075 ≤ 10 ^ 64 * 10 ^ 324 := Nat.mul_le_mul (Nat.le_of_lt hD) (Nat.le_of_lt pow324)
    _ = 10 ^ 388 := by rw [← Nat.pow_add]
    _ < 10 ^ (-x).toNat := Nat.pow_lt_pow_right (by omega) (by omega)
set_option exponentiation.threshold 3000 in
theorem big_amt {D : Nat} {x : Int} (hD : 1 ≤ D) (hx : 400 ≤ x) : TooBig (nN D x) (nD x) := by
  unfold nN nD
  refine big_of (A := D * 10 ^ x.toNat) (B := 10 ^ (-x).toNat) ?_
  rw [show (-x).toNat = 0 by omega, Nat.pow_zero, Nat.one_mul]
  calc (10 : Nat) ^ 310 ≤ 10 ^ x.toNat := Nat.pow_le_pow_right (by omega) (by omega)
    _ = 1 * 10 ^ x.toNat := by rw [Nat.one_mul]
    _ ≤ D * 10 ^ x.toNat := Nat.mul_le_mul_right _ hD
set_option exponentiation.threshold 3000 in
theorem ans_agree {g : Bool} {D : Nat} {x y : Int} {e : Ending} {r : Int × Int} (hD : D < 10 ^ 64) (hxy : x = y ∨ (400 ≤ x ∧ 400 ≤ y) ∨ (x ≤ -400 ∧ y ≤ -400)) (h1 : ParseAns g (nN D x) (nD x) e) (h2 : RefAns g D y r) :
    e = .returned (.tuple #[.int .u64 r.1, .int .i64 r.2]) := by
  have hx := nD_pos x
  have hy := nD_pos y
  have key : ∀ q q', IsNear (nN D x) (nD x) q → IsNear (nN D y) (nD y) q' → q < 9218868437227405312 → q' < 9218868437227405312 → q = q' := by
    intro q q' a b c d
    rcases hxy with h | ⟨h, h'⟩ | ⟨h, h'⟩
    · subst h; exact a.unique hx b
    · rcases Nat.eq_zero_or_pos D with h0 | h0
      · have e : ∀ z, nN D z = 0 := fun z => by unfold nN; rw [h0, Nat.zero_mul, Nat.zero_mul]
        rw [e] at a b
        rw [a.unique hx (near_zero hx), b.unique hy (near_zero hy)]
      · exact (near_not_big hx a c (big_amt h0 h)).elim
    · rw [a.unique hx (near_zero (small_amt hD h)), b.unique hy (near_zero (small_amt hD h'))]
  have key2 : ∀ q, IsNear (nN D x) (nD x) q → q < 9218868437227405312 → TooBig (nN D y) (nD y) → False := by
    intro q a c b
    rcases hxy with h | ⟨h, h'⟩ | ⟨h, h'⟩
    · subst h; exact near_not_big hx a c b
    · rcases Nat.eq_zero_or_pos D with h0 | h0
      · have e : nN D y = 0 := by unfold nN; rw [h0, Nat.zero_mul, Nat.zero_mul]
        rw [e] at b
        exact near_not_big hy (near_zero (show 0 < nD y from hy)) (by decide) b
      · exact near_not_big hx a c (big_amt h0 h)
    · exact near_not_big hy (near_zero (small_amt hD h')) (by decide) b
  have key3 : ∀ q, IsNear (nN D y) (nD y) q → q < 9218868437227405312 → TooBig (nN D x) (nD x) → False := by
    intro q a c b
    rcases hxy with h | ⟨h, h'⟩ | ⟨h, h'⟩
    · subst h; exact near_not_big hx a c b
    · rcases Nat.eq_zero_or_pos D with h0 | h0
      · have e : nN D x = 0 := by unfold nN; rw [h0, Nat.zero_mul, Nat.zero_mul]
        rw [e] at b
        exact near_not_big hx (near_zero (show 0 < nD x from hx)) (by decide) b
      · exact near_not_big hy a c (big_amt h0 h')
    · exact near_not_big hx (near_zero (small_amt hD h)) (by decide) b
  rcases h1 with ⟨q, rfl, a1, a2⟩ | ⟨rfl, a1⟩
  · rcases h2 with ⟨q', rfl, b1, b2⟩ | ⟨rfl, b1⟩
    · rw [key q q' a2 b2 a1 b1]
    · exact (key2 q a2 a1 b1).elim
  · rcases h2 with ⟨q', rfl, b1, b2⟩ | ⟨rfl, b1⟩
    · exact (key3 q' b2 b1 a1).elim
    · rfl
structure FullT (w : World) (g : Addr) (ev : Value) (gp ga : Addr) : Prop where
  fx : FxT w g ev
  pow : ∀ k, k < 23 → w.cell? (g.add k) = some (.float .f64 (pw k))
  slow : SlowTab w gp ga
  bp : gp.block < w.heap.size
  ba : ga.block < w.heap.size
  b12 : 12 < w.heap.size
theorem FullT.all {W w : World} {g gp ga : Addr} {ev : Value} (h : FullT W g ev gp ga) (hB : Below W.heap.size W w) : AllTab w g gp ga := by
  have f := h.fx.below hB
  refine ⟨f.tabs, f.c10, fun k hk => ?_, h.slow.below h.bp h.ba h.b12 hB⟩
  have hc := h.pow k hk
  rw [hB.cell (World.block_lt_of_cell? _ _ hc)]
  exact hc
set_option maxHeartbeats 1000000 in
theorem form_long (l : List UInt8) (w : World) (h1 : 64 < l.length) : Calls Tryz.prog 33 #[.string ⟨l.toArray⟩] w fun e w' => e = .returned (.bool false) ∧ w = w' := by
  have h0b : l.isEmpty = false := by cases l with | nil => simp at h1 | cons => rfl
  have h0c : decide (l = []) = false := by cases l with | nil => simp at h1 | cons => rfl
  replace h1 : decide ((64 : Int) < l.length) = true := by simp; omega
  go_enter Tryz.func33, Tryz.ntmps33
  go_wp2
  go_ret
  exact ⟨rfl, rfl⟩
set_option maxHeartbeats 1000000 in
theorem parse_long (l : List UInt8) (w : World) (h1 : 64 < l.length) :
    Calls Tryz.prog 19 #[.string ⟨l.toArray⟩] w fun e' w' => e' = .returned (.tuple #[.int .u64 0, .int .i64 20]) ∧ w = w' := by
  have HF := Lib.hid (fun w => form_long l w h1)
  clear h1
  go_enter Tryz.func19, Tryz.ntmps19
  go_wp2_with fail
  refine (HF.out _).mono ?_
  rintro e w1 ⟨rfl, rfl⟩
  go_wp2_with fail
  go_ret2
  exact ⟨rfl, rfl⟩
theorem parse_both (l : List UInt8) (W : World) (g gp ga : Addr) (ev : Value) (hT : FullT W g ev gp ga) (hev : ev = .nilIface ∨ ∃ te pe, ev = .iface te pe) :
    ∃ r : Int × Int, (∀ w, Below W.heap.size W w → Calls Tryz.prog 19 #[.string ⟨l.toArray⟩] w fun e w' => e = .returned (.tuple #[.int .u64 r.1, .int .i64 r.2]) ∧ Below W.heap.size W w') ∧
      Ev (fun k => PFloatsParses.rhizomeref02_Parse.f k (bs l)) r := by
  rcases parse_ref l with ⟨hf, hr⟩ | ⟨hf, s, I, F, X, y, h1, h2, h3, h4, h5, h6, _, r, hr, hans⟩
  · refine ⟨(0, 20), fun w hB => ?_, hr⟩
    by_cases c : 64 < l.length
    · exact (parse_long l w c).mono (fun e w' h => ⟨h.1, by rw [← h.2]; exact hB⟩)
    · exact (parse_none l w (by omega) hf).mono (fun e w' h => ⟨h.1, hB.trans (h.2.mono hB.size)⟩)
  · obtain ⟨xx, hx1, hx2⟩ := behind_of h6
    have P : Parts l s I F X xx := ⟨h1, h3, h4, h5, hx1, h2⟩
    refine ⟨r, fun w hB => (parse_any l W w g gp ga ev P hf hB (fun w' h => hT.all h) hT.bp hT.ba hT.b12 (fun w' h => (hT.fx.below h).c2) hev).mono (fun e w' h => ⟨?_, h.2⟩), hr⟩
    have hIF : allD (I ++ F) := by intro c hc; rw [List.mem_append] at hc; rcases hc with h | h; exact h3 c h; exact h5 c h
    have hlen : (I ++ F).length ≤ 64 := by
      have := congrArg List.length h1
      rw [List.length_append, List.length_append, List.length_append] at this
      have hFl : F.length ≤ (dotF F).length := by
        unfold dotF; split
        · next e => rw [e]; simp
        · simp
      rw [List.length_append]
      omega
    have hFl : F.length ≤ 64 := by rw [List.length_append] at hlen; omega
    have hD : numF (I ++ F) 0 < 10 ^ 64 := Nat.lt_of_lt_of_le (numF_lt hIF) (Nat.pow_le_pow_right (n := 10) (by omega) hlen)
    refine ans_agree hD ?_ h.1 hans
    unfold amtX
    omega
theorem bs_of (s : ByteArray) : (⟨s.data.toList.toArray⟩ : ByteArray) = s := by
  apply ByteArray.ext
  simp
theorem parses_walk (W : World) (g gp ga : Addr) (ev : Value) (s : ByteArray) (_hs : s.size ≤ maxLen) (hT : FullT W g ev gp ga) (hev : ev = .nilIface ∨ ∃ te pe, ev = .iface te pe) :
    Calls Tryz.prog 5 #[.string s] W fun e w' => e = .returned (.bool true) ∧ Below W.heap.size W w' := by
  have HF : Hid (∀ w, Below W.heap.size W w → Calls Tryz.prog 14 #[] w fun e w' => e = .returned (.bool true) ∧ Below W.heap.size W w') := Lib.hid (fun w hB => fixed_any W w g ev hB hT.fx hev)
  obtain ⟨⟨r1, r2⟩, H1, K, hK⟩ := parse_both s.data.toList W g gp ga ev hT hev
  have HK := hK K (Nat.le_refl _)
  rw [bs_of] at H1
  have HK2 : PFloatsParses.rhizomeref02_Parse.f K s = some (r1, r2) := by rw [← HK]
  have H2 := Lib.hid (fun w => PFloatsParses.rhizomeref02_Parse.calls K s r1 r2 w HK2)
  dsimp only at H1
  replace H1 := Lib.hid H1
  clear hT hev hK HK HK2
  go_enter Tryz.func5, Tryz.ntmps5
  go_wp2_with (fail)
  refine (H1.out _ (Below.refl _ _)).mono ?_
  rintro e' w1 ⟨rfl, h1⟩
  have HB1 := Lib.hid h1
  clear h1
  go_wp2_with (fail)
  refine (H2.out _).mono ?_
  rintro e' w2 ⟨rfl, h1⟩
  have HB2 : Hid (Below W.heap.size W w2) := Lib.hid (HB1.out.trans (h1.mono HB1.out.size))
  clear h1
  go_wp2_with (fail)
  refine (HF.out _ HB2.out).mono ?_
  rintro e' w1 ⟨rfl, h1⟩
  have HB := Lib.hid h1
  clear h1
  go_wp2_with (fail)
  go_ret
  exact ⟨rfl, HB.out⟩
end Go.Proofs.YtapinbbflfkglaaGreatDoor
