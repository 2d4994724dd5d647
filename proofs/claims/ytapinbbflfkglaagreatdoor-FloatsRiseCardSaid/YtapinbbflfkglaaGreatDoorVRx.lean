import Derived.Test.YtapinbbflfkglaaGreatDoorVRw
import Derived.Test.YtapinbbflfkglaaGreatDoorVFb2
namespace Go.Proofs.YtapinbbflfkglaaGreatDoor.PFloatsParses
open Go.RowKit Go.Proofs.YtapinbbflfkglaaGreatDoorW.PrintWords Go.Proofs.YtapinbbflfkglaaGreatDoorW.PrintLast Go.Proofs.YtapinbbflfkglaaGreatDoorW.PrintMore
open Go.Proofs.YtapinbbflfkglaaGreatDoor.Fp (IsNear mid)
set_option maxRecDepth 100000
theorem dec_ne_nil (w : Nat) : Lib.decDigits w ≠ [] := by
  intro h
  have := congrArg List.length h
  rw [Lib.decDigits_length] at this
  have := Lib.nDigits_pos w
  simp at *; omega
theorem amt_ten (w z : Nat) (x : Int) (K : Nat) (h : -(K : Int) ≤ x) : amt (w * 10 ^ z) x K = amt w (x + (z : Nat)) K := by
  unfold amt
  rw [Nat.mul_assoc, ← Nat.pow_add]
  congr 2
  omega
theorem less_canon {D D' : Nat} {x x' ex ex' : Int} {dg dg' : List UInt8} (h : Canon D x dg ex) (h' : Canon D' x' dg' ex') (hD : D < 10 ^ 64) (hD' : D' < 10 ^ 64) (hx1 : -200000 ≤ x) (hx2 : x ≤ 200000) (hx1' : -200000 ≤ x') (hx2' : x' ≤ 200000) :
    Ev (fun k => rhizomeref02_Less.f k (bs dg) ex (bs dg') ex') (decide (amt D x 200000 < amt D' x' 200000)) := by
  have j0 : ∀ (a b : List UInt8) (u v : Int), a = [] ∨ b = [] → Ev (fun k => rhizomeref02_Less.f k (bs a) u (bs b) v) (decide (a = []) && !decide (b = [])) := by
    intro a b u v hab
    have hj : Ev (fun k => rhizomeref02_Less.j0 k true (bs a) u (bs b) v) (decide (a = []) && !decide (b = [])) := by
      refine Ev.step (f := fun _ => some (decide (a = []) && !decide (b = []))) (fun k => ?_) (Ev.now _)
      show (if (bs a).toList = ([] : List UInt8) then some ((bs b).toList != ([] : List UInt8)) else some false) = _
      rw [bs_toList, bs_toList]
      by_cases ha : a = []
      · rw [if_pos ha, decide_eq_true ha, Bool.true_and]
        congr 1
        by_cases hb : b = []
        · rw [hb]; rfl
        · rw [decide_eq_false hb]; simpa using hb
      · rw [if_neg ha, decide_eq_false ha]; rfl
    refine Ev.congr (fun k => ?_) hj
    unfold rhizomeref02_Less.f
    by_cases ha : a = []
    · rw [if_pos (by rw [bs_toList]; exact ha)]
    · rw [if_neg (by rw [bs_toList]; exact ha)]
      have hb : b = [] := hab.resolve_left ha
      rw [bs_toList, hb]
      rfl
  have pos : ∀ (w z : Nat) (y : Int), w % 10 ≠ 0 → -200000 ≤ y → 0 < amt (w * 10 ^ z) y 200000 := by
    intro w z y hw _
    unfold amt
    refine Nat.mul_pos (Nat.mul_pos ?_ (Nat.pow_pos (by omega))) (Nat.pow_pos (by omega))
    apply Nat.pos_of_ne_zero
    rintro rfl
    exact hw rfl
  have small : ∀ (w z : Nat) (E : Nat), w % 10 ≠ 0 → E = w * 10 ^ z → E < 10 ^ 64 → 1 ≤ w ∧ Lib.nDigits w ≤ 64 ∧ z < 64 := by
    intro w z E hw hE hlt
    have hw1 : 1 ≤ w := by
      apply Nat.pos_of_ne_zero
      rintro rfl
      exact hw rfl
    have hp : 1 ≤ 10 ^ z := Nat.pow_pos (by omega)
    have hwE : w ≤ E := by rw [hE]; exact Nat.le_mul_of_pos_right _ hp
    refine ⟨hw1, nDigits_le hw1 (by omega), ?_⟩
    apply Classical.byContradiction
    intro c
    have : (10 : Nat) ^ 64 ≤ 10 ^ z := Nat.pow_le_pow_right (n := 10) (by omega) (by omega)
    have h5 : 1 * 10 ^ z ≤ w * 10 ^ z := Nat.mul_le_mul_right _ hw1
    omega
  rcases h with ⟨h0, h1, h2⟩ | ⟨w, z, h1, h2, h3, h4⟩
  · rcases h' with ⟨g0, g1, g2⟩ | ⟨w', z', g1, g2, g3, g4⟩
    · have e := j0 dg dg' ex ex' (.inl h1)
      rw [h1, g1] at e
      rw [h0, g0, h1, g1]
      have z0 : ∀ y, amt 0 y 200000 = 0 := fun y => by unfold amt; rw [Nat.zero_mul]
      rw [z0, z0]
      exact e
    · have e := j0 dg dg' ex ex' (.inl h1)
      have hne : dg' ≠ [] := by rw [g3]; exact dec_ne_nil w'
      rw [decide_eq_true h1, decide_eq_false hne] at e
      have z0 : amt 0 x 200000 = 0 := by unfold amt; rw [Nat.zero_mul]
      have hp := pos w' z' x' g2 hx1'
      rw [h0, z0, g1, decide_eq_true hp]
      exact e
  · rcases h' with ⟨g0, g1, g2⟩ | ⟨w', z', g1, g2, g3, g4⟩
    · have e := j0 dg dg' ex ex' (.inr g1)
      have hne : dg ≠ [] := by rw [h3]; exact dec_ne_nil w
      rw [decide_eq_false hne] at e
      have z0 : amt 0 x' 200000 = 0 := by unfold amt; rw [Nat.zero_mul]
      rw [g0, z0, decide_eq_false (Nat.not_lt_zero _)]
      exact e
    · obtain ⟨a1, a2, a3⟩ := small w z D h2 h1 hD
      obtain ⟨b1, b2, b3⟩ := small w' z' D' g2 g1 hD'
      have e := less_pos (w := w) (w' := w') (e := x + (z : Nat)) (e' := x' + (z' : Nat)) a1 b1 200000 (by omega) (by omega) (by omega) (by omega) (by omega) (by omega) (by omega)
      rw [h3, g3, h4, g4, h1, g1, amt_ten w z x 200000 (by omega), amt_ten w' z' x' 200000 (by omega)]
      exact e
theorem near_amt {D : Nat} {x : Int} {q K : Nat} (hx : -(K : Int) ≤ x) (h : IsNear (nN D x) (nD x) q) : IsNear (amt D x K * 2 ^ 1075) (10 ^ K) q := by
  refine near_ratio (nD_pos x) (Nat.pow_pos (by omega)) ?_ h
  unfold nN nD amt
  have e : (10 : Nat) ^ x.toNat * 10 ^ K = 10 ^ (x + (K : Int)).toNat * 10 ^ (-x).toNat := by
    rw [← Nat.pow_add, ← Nat.pow_add]; congr 1; omega
  generalize (2 : Nat) ^ 1075 = T
  generalize (10 : Nat) ^ K = a at *
  generalize (10 : Nat) ^ (x + (K : Int)).toNat = c at *
  generalize (10 : Nat) ^ (-x).toNat = f at *
  generalize (10 : Nat) ^ x.toNat = h at *
  calc D * h * T * a = D * T * (h * a) := by grind
    _ = D * T * (c * f) := by rw [e]
    _ = _ := by grind
end Go.Proofs.YtapinbbflfkglaaGreatDoor.PFloatsParses
namespace Go.Proofs.YtapinbbflfkglaaGreatDoor
open Go.RowKit Go.Lib Go.Sort
open Go.Proofs.YtapinbbflfkglaaGreatDoor.Fp (IsNear mid)
open Go.Proofs.YtapinbbflfkglaaGreatDoorW.PrintWords Go.Proofs.YtapinbbflfkglaaGreatDoorW.PrintLast Go.Proofs.YtapinbbflfkglaaGreatDoorW.PrintMore
open PFloatsParses (nN nD nD_pos xF behindR RefAns parse_ref bs numF_lt readL fin Canon cutP cutP_canon read_f enc readL_ok xF_bd amt near_amt less_canon near_mono)
set_option maxRecDepth 100000
theorem parse_here (l : List UInt8) (W w : World) (g10 gp ga : Addr) (ev : Value) {g : Bool} {I F X : List UInt8} {xx : Int} (P : Parts l g I F X xx) (hf : formL l = true) (hB : Below W.heap.size W w)
    (hT : ∀ w', Below W.heap.size W w' → AllTab w' g10 gp ga) (hgp : gp.block < W.heap.size) (hga : ga.block < W.heap.size) (h12 : 12 < W.heap.size)
    (hv : ∀ w', Below W.heap.size W w' → w'.cell? ⟨2, 0, none⟩ = some ev) (hev : ev = .nilIface ∨ ∃ te pe, ev = .iface te pe) :
    Calls Tryz.prog 19 #[.string ⟨l.toArray⟩] w fun e w' => ParseAns g (nN (amtD I F) (amtX F xx)) (nD (amtX F xx)) e ∧ Below w.heap.size w w' := by
  refine parse_form l w g _ _ P.len hf fun w1 h1 => ?_
  have hB1 : Below W.heap.size W w1 := hB.trans (h1.mono hB.size)
  have hup : ∀ w', Below w1.heap.size w1 w' → Below W.heap.size W w' := fun w' h => hB1.trans (h.mono hB1.size)
  have hsz := hB1.size
  refine parseFloatN l w1 g _ _ ev P.len (fun w' h => hv w' (hup w' h)) hev ?_
  refine atof_any l w1 g10 gp ga P ?_ (fun w' h => hT w' (hup w' h)) (by omega) (by omega) (by omega)
  intro A kk h0 w2 b hb h43 hA hkk hsaw htail
  refine (set_any l w2 b P.len P.plain h0 h43 hb hA hkk hsaw htail).mono ?_
  rintro e w' ⟨rfl, M, s, rfl, q1, q2, q3, q4, q5, q6, q7, q8⟩
  refine ⟨rfl, M, s, rfl, q1, q2, q3, q4, q5, q6, q7, ?_⟩
  rw [q8]
  have hl := P.eq
  have hdrop : l.drop (if l[0] = 45 then 1 else 0) = I ++ (dotF F ++ X) := by
    obtain ⟨_, _, _, _, _, _, _, _, h0', kk', a8, a9, _⟩ := P.reads
    have : (if l[0] = 45 then 1 else 0) = (sgB g).length := by
      cases g
      · rw [if_neg (by simpa using a9)]; rfl
      · rw [if_pos (by simpa using a9)]; rfl
    rw [this]
    have e : ∀ l', l' = sgB g ++ (I ++ (dotF F ++ X)) → l'.drop (sgB g).length = I ++ (dotF F ++ X) := by rintro _ rfl; simp
    exact e l hl
  rw [hdrop]
  exact scanN_form P.i P.f P.x.ends
structure TF (W : World) (l : List UInt8) (r1 r2 : Int) (p ok : Bool) (dg : List UInt8) (ex : Int) : Prop where
  parse : ∀ w, Below W.heap.size W w → Calls Tryz.prog 19 #[.string ⟨l.toArray⟩] w fun e w' => e = .returned (.tuple #[.int .u64 r1, .int .i64 r2]) ∧ Below W.heap.size W w'
  read : Ev (fun k => PFloatsParses.rhizomeref02_Read.f k (bs l)) (p, bs dg, ex, ok)
  say : (ok = false ∧ r1 = 0 ∧ r2 = 20) ∨ (ok = true ∧ (∃ D x, D < 10 ^ 64 ∧ -200000 ≤ x ∧ x ≤ 200000 ∧ Canon D x dg ex ∧ ((r2 = 0 ∧ ∃ q : Nat, r1 = ((sgN p + q : Nat) : Int) ∧ q < 9218868437227405312 ∧ IsNear (nN D x) (nD x) q) ∨ (r1 = 0 ∧ r2 = 21))) ∧
    (p = false → l.length < 64 → ∀ w, Below W.heap.size W w → Calls Tryz.prog 19 #[.string ⟨(45 :: l).toArray⟩] w fun e w' => e = .returned (.tuple #[.int .u64 (if r2 = 0 then r1 + 9223372036854775808 else 0), .int .i64 r2]) ∧ Below w.heap.size w w'))
theorem form_neg {l : List UInt8} {I F X : List UInt8} (h1 : l = sgB false ++ (I ++ (dotF F ++ X))) (hI : allD I) (hI0 : I ≠ []) (hl : l.length < 64) (hf : formL l = true) : formL (45 :: l) = true := by
  obtain ⟨c, I', hIe⟩ : ∃ c I', I = c :: I' := by
    cases hI' : I with
    | nil => exact absurd hI' hI0
    | cons c I' => exact ⟨c, I', rfl⟩
  have hc := hI c (by rw [hIe]; exact List.mem_cons_self ..)
  have hcd := dig_iff.1 hc
  have n45 : c ≠ 45 := by rintro rfl; exact absurd hcd.1 (by decide)
  have hlc : ∃ t, l = c :: t := ⟨I' ++ (dotF F ++ X), by rw [h1, hIe]; rfl⟩
  obtain ⟨t, rfl⟩ := hlc
  unfold formL at hf ⊢
  have t1 : Lib.trimPrefix (c :: t) [45] = c :: t := by
    unfold Lib.trimPrefix
    rw [if_neg (by simp [Lib.hasPrefix, List.isPrefixOf]; exact fun e => n45 e.symm)]
  have t2 : Lib.trimPrefix (45 :: c :: t) [45] = c :: t := by
    unfold Lib.trimPrefix
    rw [if_pos (by simp [Lib.hasPrefix, List.isPrefixOf])]
    rfl
  rw [t1] at hf
  rw [t2]
  split at hf
  · cases hf
  · rw [if_neg (by simp at hl ⊢; omega)]
    exact hf
theorem text_facts (l : List UInt8) (W : World) (g gp ga : Addr) (ev : Value) (hT : FullT W g ev gp ga) (hev : ev = .nilIface ∨ ∃ te pe, ev = .iface te pe) :
    ∃ r1 r2 p ok dg ex, TF W l r1 r2 p ok dg ex := by
  have hread := read_f l
  rcases parse_ref l with ⟨hf, hr⟩ | ⟨hf, s, I, F, X, y, h1, h2, h3, h4, h5, h6, h7, r, hr, hans⟩
  · have hok := (readL_ok (l := l)).1
    rw [hf] at hok
    refine ⟨0, 20, (readL l).1, false, (readL l).2.1, (readL l).2.2.1, fun w hB => ?_, ?_, .inl ⟨rfl, rfl, rfl⟩⟩
    · by_cases c : 64 < l.length
      · exact (parse_long l w c).mono (fun e w' h => ⟨h.1, by rw [← h.2]; exact hB⟩)
      · exact (parse_none l w (by omega) hf).mono (fun e w' h => ⟨h.1, hB.trans (h.2.mono hB.size)⟩)
    · have e : enc (readL l) = ((readL l).1, bs (readL l).2.1, (readL l).2.2.1, false) := by unfold enc; rw [hok]; rfl
      rw [← e]; exact hread
  · obtain ⟨xx, hx1, hx2⟩ := behind_of h6
    have P : Parts l s I F X xx := ⟨h1, h3, h4, h5, hx1, h2⟩
    have hIF : allD (I ++ F) := by intro c hc; rw [List.mem_append] at hc; rcases hc with h | h; exact h3 c h; exact h5 c h
    have hlen : (I ++ F).length ≤ 64 := by
      have := congrArg List.length h1
      rw [List.length_append, List.length_append, List.length_append] at this
      have hFl : F.length ≤ (dotF F).length := by
        unfold dotF; split
        · next e => rw [e]; simp
        · simp
      rw [List.length_append]
      omega
    have hFl : F.length ≤ 64 := by rw [List.length_append] at hlen; omega
    have hD : numF (I ++ F) 0 < 10 ^ 64 := Nat.lt_of_lt_of_le (numF_lt hIF) (Nat.pow_le_pow_right (n := 10) (by omega) hlen)
    have hy := xF_bd h6
    have hcan := cutP_canon hIF (y - (F.length : Nat))
    rw [h7] at hread
    refine ⟨r.1, r.2, s, true, (cutP (I ++ F) (y - (F.length : Nat))).1, (cutP (I ++ F) (y - (F.length : Nat))).2, fun w hB => (parse_any l W w g gp ga ev P hf hB (fun w' h => hT.all h) hT.bp hT.ba hT.b12 (fun w' h => (hT.fx.below h).c2) hev).mono (fun e w' h => ⟨?_, h.2⟩), hread, .inr ⟨rfl, ⟨_, _, hD, ?_, ?_, hcan, ?_⟩, fun hs hl w hB => ?_⟩⟩
    · exact ans_agree hD (by unfold amtX; omega) h.1 hans
    · omega
    · omega
    · rcases hans with ⟨q, rfl, a, b⟩ | ⟨rfl, _⟩
      · exact .inl ⟨rfl, q, rfl, a, b⟩
      · exact .inr ⟨rfl, rfl⟩
    · subst hs
      have P2 : Parts (45 :: l) true I F X xx := ⟨by rw [h1]; rfl, h3, h4, h5, hx1, by rw [List.length_cons]; omega⟩
      refine (parse_here (45 :: l) W w g gp ga ev P2 (form_neg h1 h3 h4 hl hf) hB (fun w' h => hT.all h) hT.bp hT.ba hT.b12 (fun w' h => (hT.fx.below h).c2) hev).mono (fun e w' h => ⟨?_, h.2⟩)
      rcases hans with ⟨q, rfl, a, b⟩ | ⟨rfl, a⟩
      · have := ans_agree (r := (((sgN true + q : Nat) : Int), 0)) hD (by unfold amtX; omega) h.1 (.inl ⟨q, rfl, a, b⟩)
        rw [this, if_pos rfl]
        have e1 : ((sgN true + q : Nat) : Int) = ((sgN false + q : Nat) : Int) + 9223372036854775808 := by unfold sgN; simp; omega
        rw [e1]
      · have := ans_agree (r := (0, 21)) hD (by unfold amtX; omega) h.1 (.inr ⟨rfl, a⟩)
        rw [this, if_neg (by decide)]
theorem cmp_small (q q' : Nat) (hq : q < 9218868437227405312) (hq' : q' < 9218868437227405312) : ∃ c : Int, cmpR ((q : Nat) : Int) ((q' : Nat) : Int) = #[.int .i64 c, .bool true] ∧ ((q < q' ∧ c = -1) ∨ (q = q' ∧ c = 0) ∨ (q' < q ∧ c = 1)) := by
  refine ⟨sgnZ (svZ ((q : Nat) : Int)) (svZ ((q' : Nat) : Int)), ?_, ?_⟩
  · have na : nanZ ((q : Nat) : Int) = false := by
      unfold nanZ szZ
      simp only [decide_eq_false_iff_not]
      omega
    have nb : nanZ ((q' : Nat) : Int) = false := by
      unfold nanZ szZ
      simp only [decide_eq_false_iff_not]
      omega
    unfold cmpR
    rw [na, nb, if_neg (by simp)]
  · have s1 : svZ ((q : Nat) : Int) = (q : Nat) := by unfold svZ szZ; repeat' split
                                                      all_goals omega
    have s2 : svZ ((q' : Nat) : Int) = (q' : Nat) := by unfold svZ szZ; repeat' split
                                                        all_goals omega
    rw [s1, s2]
    unfold sgnZ
    rcases Nat.lt_trichotomy q q' with c | c | c
    · left; refine ⟨c, ?_⟩; repeat' split
      all_goals omega
    · right; left; refine ⟨c, ?_⟩; repeat' split
      all_goals omega
    · right; right; refine ⟨c, ?_⟩; repeat' split
      all_goals omega
theorem ten_pos (K : Nat) : 0 < 10 ^ K := Nat.pow_pos (by omega)
theorem less_both {q q' : Nat} {dg dg' : List UInt8} {ex ex' : Int} {D1 D2 : ByteArray} (h : ∃ D x, D < 10 ^ 64 ∧ -200000 ≤ x ∧ x ≤ 200000 ∧ Canon D x dg ex ∧ IsNear (nN D x) (nD x) q) (h' : ∃ D x, D < 10 ^ 64 ∧ -200000 ≤ x ∧ x ≤ 200000 ∧ Canon D x dg' ex' ∧ IsNear (nN D x) (nD x) q') (hD1 : D1 = bs dg) (hD2 : D2 = bs dg') :
    ∃ l1 l2 : Bool, (∀ w, Calls Tryz.prog 30 #[.agg #[.string D2, .int .i64 ex'], .agg #[.string D1, .int .i64 ex]] w fun e w' => e = .returned (.bool l1) ∧ Below w.heap.size w w') ∧ (∀ w, Calls Tryz.prog 30 #[.agg #[.string D1, .int .i64 ex], .agg #[.string D2, .int .i64 ex']] w fun e w' => e = .returned (.bool l2) ∧ Below w.heap.size w w') ∧
      ((l1 = false ∧ l2 = true ∧ q ≤ q') ∨ (l1 = false ∧ l2 = false ∧ q = q') ∨ (l1 = true ∧ l2 = false ∧ q' ≤ q)) := by
  obtain ⟨D, x, a1, a2, a3, a4, a5⟩ := h
  obtain ⟨E, y, b1, b2, b3, b4, b5⟩ := h'
  obtain ⟨K1, k1⟩ := less_canon a4 b4 a1 b1 a2 a3 b2 b3
  obtain ⟨K2, k2⟩ := less_canon b4 a4 b1 a1 b2 b3 a2 a3
  have n1 := near_amt (K := 200000) (by omega) a5
  have n2 := near_amt (K := 200000) (by omega) b5
  obtain ⟨u, hu⟩ : ∃ u, u = amt D x 200000 := ⟨_, rfl⟩
  obtain ⟨v, hv⟩ : ∃ v, v = amt E y 200000 := ⟨_, rfl⟩
  rw [← hu, ← hv] at k1 k2
  rw [← hu] at n1
  rw [← hv] at n2
  have hp := ten_pos 200000
  refine ⟨decide (v < u), decide (u < v), fun w => ?_, fun w => ?_, ?_⟩
  · rw [hD1, hD2]; exact PFloatsParses.rhizomeref02_Less.calls K2 _ _ _ _ _ w (k2 K2 (Nat.le_refl _))
  · rw [hD1, hD2]; exact PFloatsParses.rhizomeref02_Less.calls K1 _ _ _ _ _ w (k1 K1 (Nat.le_refl _))
  · rcases Nat.lt_trichotomy u v with c | c | c
    · exact .inl ⟨by simp; omega, by simpa using c, near_mono hp n1 n2 (Nat.mul_le_mul_right _ (by omega))⟩
    · subst c
      exact .inr (.inl ⟨by simp, by simp, n1.unique hp n2⟩)
    · exact .inr (.inr ⟨by simpa using c, by simp; omega, near_mono hp n2 n1 (Nat.mul_le_mul_right _ (by omega))⟩)
theorem cell_alloc_old (w : World) (o : Obj) {a : Addr} {v : Value} (h : w.cell? a = some v) : (w.alloc o).cell? a = some v := by
  rw [← h]
  have hb := World.block_lt_of_cell? _ _ h
  unfold World.cell? World.alloc
  rw [Array.getElem?_push_lt hb, Array.getElem?_eq_getElem hb]
set_option maxHeartbeats 2000000 in
theorem rise_walk (W : World) (g gp ga : Addr) (ev : Value) (s t : ByteArray) (_hs : s.size ≤ maxLen) (_ht : t.size ≤ maxLen) (hT : FullT W g ev gp ga) (hev : ev = .nilIface ∨ ∃ te pe, ev = .iface te pe) :
    Calls Tryz.prog 11 #[.string s, .string t] W fun e w' => e = .returned (.bool true) ∧ Below W.heap.size W w' := by
  have HF : Hid (∀ w, Below W.heap.size W w → Calls Tryz.prog 14 #[] w fun e w' => e = .returned (.bool true) ∧ Below W.heap.size W w') := Lib.hid (fun w hB => fixed_any W w g ev hB hT.fx hev)
  obtain ⟨r1, r2, p, ok, dg, ex, FS⟩ := text_facts s.data.toList W g gp ga ev hT hev
  obtain ⟨u1, u2, p', ok', dg', ex', FT⟩ := text_facts t.data.toList W g gp ga ev hT hev
  obtain ⟨H1, ⟨K1, hK1⟩, HS⟩ := FS
  obtain ⟨H2, ⟨K2, hK2⟩, HT⟩ := FT
  have R1 := Lib.hid (fun w => PFloatsParses.rhizomeref02_Read.calls K1 s _ _ _ _ w ((congrArg _ (bs_of s).symm).trans (hK1 K1 (Nat.le_refl _))))
  have R2 := Lib.hid (fun w => PFloatsParses.rhizomeref02_Read.calls K2 t _ _ _ _ w ((congrArg _ (bs_of t).symm).trans (hK2 K2 (Nat.le_refl _))))
  rw [bs_of] at H1 H2
  have hlen : s.data.toList.length = s.size := by rw [Array.length_toList]; rfl
  rw [hlen] at HS
  replace H1 := Lib.hid H1
  replace H2 := Lib.hid H2
  replace HS := Lib.hid HS
  replace HT := Lib.hid HT
  obtain ⟨D1, hD1⟩ : ∃ D, D = bs dg := ⟨_, rfl⟩
  obtain ⟨D2, hD2⟩ : ∃ D, D = bs dg' := ⟨_, rfl⟩
  rw [← hD1] at R1
  rw [← hD2] at R2
  replace hD1 := Lib.hid hD1
  replace hD2 := Lib.hid hD2
  clear hT hev hK1 hK2 hlen
  go_enter Tryz.func11, Tryz.ntmps11
  go_wp2_with (fail)
  refine (H1.out _ (Below.refl _ _)).mono ?_
  rintro e' w1 ⟨rfl, h1⟩
  have HB1 := Lib.hid h1
  clear h1
  go_wp2_with (fail)
  refine (H2.out _ HB1.out).mono ?_
  rintro e' w2 ⟨rfl, h1⟩
  have HB2 := Lib.hid h1
  clear h1 HB1
  go_wp2_with (fail)
  refine (HF.out _ HB2.out).mono ?_
  rintro e' w3 ⟨rfl, h1⟩
  have HB3 := Lib.hid h1
  clear h1 HB2
  go_wp2_with (fail)
  refine (R1.out _).mono ?_
  rintro e' w4 ⟨rfl, h1⟩
  have HB4 := Lib.hid ((HB3.out.trans (h1.mono HB3.out.size)).alloc (HB3.out.trans (h1.mono HB3.out.size)).size (Obj.cells #[Value.string D1, Value.int IntKind.i64 ex] 39))
  have x0 : (w4.alloc (Obj.cells #[Value.string D1, Value.int IntKind.i64 ex] 39)).cell? ⟨w4.heap.size, 0, none⟩ = some (.string D1) := by unfold World.cell? World.alloc; simp
  have x1 : (w4.alloc (Obj.cells #[Value.string D1, Value.int IntKind.i64 ex] 39)).cell? ⟨w4.heap.size, 1, none⟩ = some (.int .i64 ex) := by unfold World.cell? World.alloc; simp
  have xs : w4.heap.size < (w4.alloc (Obj.cells #[Value.string D1, Value.int IntKind.i64 ex] 39)).heap.size := by unfold World.alloc; simp
  clear h1 HB3
  go_wp2_with (fail)
  obtain ⟨v4, hv4⟩ : ∃ v4, v4 = w4.alloc (Obj.cells #[Value.string D1, Value.int IntKind.i64 ex] 39) := ⟨_, rfl⟩
  rw [← hv4] at HB4 x0 x1 xs ⊢
  refine (R2.out _).mono ?_
  rintro e' w5 ⟨rfl, h1⟩
  have HB5 := Lib.hid ((HB4.out.trans (h1.mono HB4.out.size)).alloc (HB4.out.trans (h1.mono HB4.out.size)).size (Obj.cells #[Value.string D2, Value.int IntKind.i64 ex'] 39))
  have s5 : v4.heap.size ≤ w5.heap.size := h1.size
  have z0 : w5.cell? ⟨w4.heap.size, 0, none⟩ = some (.string D1) := by rw [h1.cell xs]; exact x0
  have z1 : w5.cell? ⟨w4.heap.size, 1, none⟩ = some (.int .i64 ex) := by rw [h1.cell xs]; exact x1
  have q0 := cell_alloc_old w5 (Obj.cells #[Value.string D2, Value.int IntKind.i64 ex'] 39) z0
  have q1 := cell_alloc_old w5 (Obj.cells #[Value.string D2, Value.int IntKind.i64 ex'] 39) z1
  have y0 : (w5.alloc (Obj.cells #[Value.string D2, Value.int IntKind.i64 ex'] 39)).cell? ⟨w5.heap.size, 0, none⟩ = some (.string D2) := by unfold World.cell? World.alloc; simp
  have y1 : (w5.alloc (Obj.cells #[Value.string D2, Value.int IntKind.i64 ex'] 39)).cell? ⟨w5.heap.size, 1, none⟩ = some (.int .i64 ex') := by unfold World.cell? World.alloc; simp
  have ys : w5.heap.size < (w5.alloc (Obj.cells #[Value.string D2, Value.int IntKind.i64 ex'] 39)).heap.size := by unfold World.alloc; simp
  obtain ⟨v5, hv5⟩ : ∃ v5, v5 = w5.alloc (Obj.cells #[Value.string D2, Value.int IntKind.i64 ex'] 39) := ⟨_, rfl⟩
  rw [← hv5] at HB5 q0 q1 y0 y1 ys
  have xs5 : w4.heap.size < v5.heap.size := by omega
  replace hv5 := Lib.hid hv5
  clear h1 HB4 x0 x1 z0 z1
  have hsz : s.data.size = s.size := rfl
  obtain ⟨cc, hcc⟩ : ∃ cc : Bool, cc = (ok && (!p && decide (s.size < 64))) := ⟨_, rfl⟩
  replace hcc := Lib.hid hcc
  go_upto_region 7 with (fail)
  rw [← hv5.out]
  obtain ⟨bx, hbx⟩ : ∃ b, b = w4.heap.size := ⟨_, rfl⟩
  obtain ⟨by_, hby⟩ : ∃ b, b = w5.heap.size := ⟨_, rfl⟩
  rw [← hbx] at q0 q1 xs5 ⊢
  rw [← hby] at y0 y1 ys ⊢
  clear hbx hby hv5 s5 xs
  go_cut [52] (fun s52 wx => wx = v5 ∧ s52 = .bool cc)
  case first =>
    as_aux_lemma =>
    cases ok
    · go_wp2_with (fail)
      go_meet
      exact ⟨rfl, by rw [hcc.out]; rfl⟩
    · cases p
      · by_cases c : s.size < 64
        · have hd : decide (((s.size : Nat) : Int) < 64) = true := by simp; omega
          have hq : Hid (cc = true) := Lib.hid (by rw [hcc.out]; simp [c])
          go_wp2_with (fail)
          go_meet
          exact ⟨rfl, by rw [hq.out]⟩
        · have hd : decide (((s.size : Nat) : Int) < 64) = false := by simp; omega
          have hq : Hid (cc = false) := Lib.hid (by rw [hcc.out]; simp [c])
          go_wp2_with (fail)
          go_meet
          exact ⟨rfl, by rw [hq.out]⟩
      · go_wp2_with (fail)
        go_meet
        exact ⟨rfl, by rw [hcc.out]; rfl⟩
  case rest =>
    as_aux_lemma =>
    obtain ⟨rfl, rfl⟩ := hcut
    go_upto_if 52 with (fail)
    go_cut [15, 16] (fun s15 s16 w9 => Hid (Below W.heap.size W w9) ∧ w9.cell? ⟨bx, 0, none⟩ = some (.string D1) ∧ w9.cell? ⟨bx, 1, none⟩ = some (.int .i64 ex) ∧ w9.cell? ⟨by_, 0, none⟩ = some (.string D2) ∧ w9.cell? ⟨by_, 1, none⟩ = some (.int .i64 ex') ∧ bx < w9.heap.size ∧ by_ < w9.heap.size)
    case first =>
      as_aux_lemma =>
      cases cc
      · go_wp2_with (fail)
        go_meet
        exact ⟨HB5, q0, q1, y0, y1, xs5, ys⟩
      · have hok : ok = true ∧ p = false ∧ s.size < 64 := by
          have h := hcc.out
          cases ok
          · cases h
          · cases p
            · exact ⟨rfl, rfl, by simpa using h⟩
            · cases h
        obtain ⟨rfl, rfl, hs64⟩ := hok
        have H3 : Hid (Calls Tryz.prog 19 #[.string ⟨(45 :: s.data.toList).toArray⟩] wc fun e w' => e = .returned (.tuple #[.int .u64 (if r2 = 0 then r1 + 9223372036854775808 else 0), .int .i64 r2]) ∧ Below wc.heap.size wc w') := Lib.hid (by
          rcases HS.out with ⟨h, _⟩ | ⟨_, _, h⟩
          · cases h
          · exact h rfl hs64 _ HB5.out)
        have hneg : (⟨#[45]⟩ : ByteArray) ++ s = ⟨(45 :: s.data.toList).toArray⟩ := by
          apply ByteArray.ext
          rw [ByteArray.data_append]
          show #[45] ++ s.data = (45 :: s.data.toList).toArray
          simp
        have hr : (∃ q : Nat, r1 = ((q : Nat) : Int) ∧ q < 9218868437227405312 ∧ r2 = 0) ∨ (r1 = 0 ∧ r2 = 21) := by
          rcases HS.out with ⟨h, _⟩ | ⟨_, ⟨_, _, _, _, _, _, h⟩, _⟩
          · cases h
          · rcases h with ⟨h1, q, h2, h3, _⟩ | ⟨h1, h2⟩
            · exact .inl ⟨q, by rw [h2]; unfold sgN; simp, h3, h1⟩
            · exact .inr ⟨h1, h2⟩
        have hend : ∀ w', Below wc.heap.size wc w' → Hid (Below W.heap.size W w') ∧ w'.cell? ⟨bx, 0, none⟩ = some (.string D1) ∧ w'.cell? ⟨bx, 1, none⟩ = some (.int .i64 ex) ∧ w'.cell? ⟨by_, 0, none⟩ = some (.string D2) ∧ w'.cell? ⟨by_, 1, none⟩ = some (.int .i64 ex') ∧ bx < w'.heap.size ∧ by_ < w'.heap.size := fun w' h =>
          ⟨Lib.hid (HB5.out.trans (h.mono HB5.out.size)), by rw [h.cell xs5]; exact q0, by rw [h.cell xs5]; exact q1, by rw [h.cell ys]; exact y0, by rw [h.cell ys]; exact y1, Nat.lt_of_lt_of_le xs5 h.size, Nat.lt_of_lt_of_le ys h.size⟩
        replace hend := Lib.hid hend
        clear HS q0 q1 y0 y1
        rcases hr with ⟨q, rfl, hq, rfl⟩ | ⟨rfl, rfl⟩
        · rw [if_pos rfl] at H3
          go_wp2_with (fail)
          refine H3.out.mono ?_
          rintro e' w6 ⟨rfl, h1⟩
          have HE := Lib.hid (hend.out w6 h1)
          clear h1 hend H3
          go_wp2_with (fail)
          go_meet
          exact HE.out
        · rw [if_neg (by decide)] at H3
          go_wp2_with (fail)
          refine H3.out.mono ?_
          rintro e' w6 ⟨rfl, h1⟩
          have HE := Lib.hid (hend.out w6 h1)
          clear h1 hend H3
          go_wp2_with (fail)
          go_meet
          exact HE.out
    case rest =>
      as_aux_lemma =>
      clear q0 q1 y0 y1 xs5 ys HB5
      obtain ⟨HB5, q0, q1, y0, y1, xs5, ys⟩ := hcut
      have cs : ∀ {r1 r2 : Int} {p ok : Bool} {dg : List UInt8} {ex : Int} {Z : Prop}, ((ok = false ∧ r1 = 0 ∧ r2 = 20) ∨ (ok = true ∧ (∃ D x, D < 10 ^ 64 ∧ -200000 ≤ x ∧ x ≤ 200000 ∧ Canon D x dg ex ∧ ((r2 = 0 ∧ ∃ q : Nat, r1 = ((sgN p + q : Nat) : Int) ∧ q < 9218868437227405312 ∧ IsNear (nN D x) (nD x) q) ∨ (r1 = 0 ∧ r2 = 21))) ∧ Z)) →
          (ok = false ∧ r1 = 0 ∧ r2 = 20) ∨ (ok = true ∧ r1 = 0 ∧ r2 = 21) ∨ (ok = true ∧ r2 = 0 ∧ ∃ q : Nat, r1 = ((sgN p + q : Nat) : Int) ∧ q < 9218868437227405312 ∧ Hid (∃ D x, D < 10 ^ 64 ∧ -200000 ≤ x ∧ x ≤ 200000 ∧ Canon D x dg ex ∧ IsNear (nN D x) (nD x) q)) := by
        intro r1 r2 p ok dg ex Z h
        rcases h with h | ⟨h1, ⟨D, x, a1, a2, a3, a4, h⟩, _⟩
        · exact .inl h
        · rcases h with ⟨b1, q, b2, b3, b4⟩ | ⟨b1, b2⟩
          · exact .inr (.inr ⟨h1, b1, q, b2, b3, Lib.hid ⟨D, x, a1, a2, a3, a4, b4⟩⟩)
          · exact .inr (.inl ⟨h1, b1, b2⟩)
      have hS := cs HS.out
      have hT := cs HT.out
      clear cs HS HT hcc
      rcases hS with ⟨rfl, rfl, rfl⟩ | ⟨rfl, rfl, rfl⟩ | ⟨rfl, rfl, q, rfl, hq, hqn⟩
      · rcases hT with ⟨rfl, rfl, rfl⟩ | ⟨rfl, rfl, rfl⟩ | ⟨rfl, rfl, q', rfl, hq', hqn'⟩
        all_goals
          go_wp2_with (fail)
          go_ret
          exact ⟨rfl, HB5.out⟩
      · rcases hT with ⟨rfl, rfl, rfl⟩ | ⟨rfl, rfl, rfl⟩ | ⟨rfl, rfl, q', rfl, hq', hqn'⟩
        all_goals
          go_wp2_with (fail)
          go_ret
          exact ⟨rfl, HB5.out⟩
      · rcases hT with ⟨rfl, rfl, rfl⟩ | ⟨rfl, rfl, rfl⟩ | ⟨rfl, rfl, q', rfl, hq', hqn'⟩
        · go_wp2_with (fail)
          go_ret
          exact ⟨rfl, HB5.out⟩
        · go_wp2_with (fail)
          go_ret
          exact ⟨rfl, HB5.out⟩
        · have hA1 : (((sgN p + q : Nat) : Int) % 9223372036854775808) = ((q : Nat) : Int) ∧ decide ((9223372036854775808 : Int) ≤ ((sgN p + q : Nat) : Int)) = p ∧ sgN p + q < 18446744073709551616 := by
            cases p
            · exact ⟨by show (((0 + q : Nat) : Int) % 9223372036854775808) = _; omega, decide_eq_false (by show ¬ (9223372036854775808 : Int) ≤ ((0 + q : Nat) : Int); omega), by show 0 + q < 18446744073709551616; omega⟩
            · exact ⟨by show (((9223372036854775808 + q : Nat) : Int) % 9223372036854775808) = _; omega, decide_eq_true (by show (9223372036854775808 : Int) ≤ ((9223372036854775808 + q : Nat) : Int); omega), by show 9223372036854775808 + q < 18446744073709551616; omega⟩
          have hB1 : (((sgN p' + q' : Nat) : Int) % 9223372036854775808) = ((q' : Nat) : Int) ∧ decide ((9223372036854775808 : Int) ≤ ((sgN p' + q' : Nat) : Int)) = p' ∧ sgN p' + q' < 18446744073709551616 := by
            cases p'
            · exact ⟨by show (((0 + q' : Nat) : Int) % 9223372036854775808) = _; omega, decide_eq_false (by show ¬ (9223372036854775808 : Int) ≤ ((0 + q' : Nat) : Int); omega), by show 0 + q' < 18446744073709551616; omega⟩
            · exact ⟨by show (((9223372036854775808 + q' : Nat) : Int) % 9223372036854775808) = _; omega, decide_eq_true (by show (9223372036854775808 : Int) ≤ ((9223372036854775808 + q' : Nat) : Int); omega), by show 9223372036854775808 + q' < 18446744073709551616; omega⟩
          obtain ⟨A, hA⟩ : ∃ A, A = sgN p + q := ⟨_, rfl⟩
          obtain ⟨B, hB⟩ : ∃ B, B = sgN p' + q' := ⟨_, rfl⟩
          rw [← hA] at hA1 ⊢
          rw [← hB] at hB1 ⊢
          obtain ⟨A1, A2, A3⟩ := hA1
          obtain ⟨B1, B2, B3⟩ := hB1
          clear hA hB
          obtain ⟨c, hc, hcs⟩ := cmp_small q q' hq hq'
          obtain ⟨l1, l2, HL1, HL2, hord⟩ := less_both hqn.out hqn'.out hD1.out hD2.out
          have HC := Lib.hid (fun w => cmp_any ((q : Nat) : Int) ((q' : Nat) : Int) w ⟨by omega, by omega⟩ ⟨by omega, by omega⟩)
          rw [hc] at HC
          have hall : Hid ((c = -1 ∧ l2 = true) ∨ c = 0 ∨ (c = 1 ∧ l1 = true)) := Lib.hid (by
            rcases hord with ⟨h1, h2, h3⟩ | ⟨h1, h2, h3⟩ | ⟨h1, h2, h3⟩ <;> rcases hcs with ⟨h4, h5⟩ | ⟨h4, h5⟩ | ⟨h4, h5⟩ <;> first | (exact .inl ⟨h5, h2⟩) | (exact .inr (.inl h5)) | (exact .inr (.inr ⟨h5, h1⟩)) | omega)
          replace HL1 := Lib.hid HL1
          replace HL2 := Lib.hid HL2
          clear hc hcs hord hqn hqn' hD1 hD2
          go_wp2_with (fail)
          refine (HC.out _).mono ?_
          rintro e' w6 ⟨rfl, rfl⟩
          go_wp2_with (fail)
          refine (HL1.out _).mono ?_
          rintro e' w7 ⟨rfl, h1⟩
          have HB7 := Lib.hid (HB5.out.trans (h1.mono HB5.out.size))
          have z0 : w7.cell? ⟨bx, 0, none⟩ = some (.string D1) := by rw [h1.cell xs5]; exact q0
          have z1 : w7.cell? ⟨bx, 1, none⟩ = some (.int .i64 ex) := by rw [h1.cell xs5]; exact q1
          have z2 : w7.cell? ⟨by_, 0, none⟩ = some (.string D2) := by rw [h1.cell ys]; exact y0
          have z3 : w7.cell? ⟨by_, 1, none⟩ = some (.int .i64 ex') := by rw [h1.cell ys]; exact y1
          clear h1 q0 q1 y0 y1 HL1 HC
          have hfin : ∀ w8, Below w7.heap.size w7 w8 → Hid (Below W.heap.size W w8) := fun w8 h => Lib.hid (HB7.out.trans (h.mono HB7.out.size))
          replace hfin := Lib.hid hfin
          rcases hall.out with ⟨rfl, rfl⟩ | rfl | ⟨rfl, rfl⟩
          · cases l1
            all_goals
              go_wp2_with (fail)
              refine (HL2.out _).mono ?_
              rintro e' w8 ⟨rfl, h1⟩
              have HB8 := Lib.hid (hfin.out w8 h1)
              clear h1
              go_wp2_with (fail)
              go_ret
              exact ⟨rfl, HB8.out.out⟩
          · cases l1
            all_goals
              go_wp2_with (fail)
              refine (HL2.out _).mono ?_
              rintro e' w8 ⟨rfl, h1⟩
              have HB8 := Lib.hid (hfin.out w8 h1)
              clear h1
              cases l2
              all_goals
                go_wp2_with (fail)
                go_ret
                exact ⟨rfl, HB8.out.out⟩
          · go_wp2_with (fail)
            refine (HL2.out _).mono ?_
            rintro e' w8 ⟨rfl, h1⟩
            have HB8 := Lib.hid (hfin.out w8 h1)
            clear h1
            cases l2
            all_goals
              go_wp2_with (fail)
              go_ret
              exact ⟨rfl, HB8.out.out⟩
end Go.Proofs.YtapinbbflfkglaaGreatDoor
