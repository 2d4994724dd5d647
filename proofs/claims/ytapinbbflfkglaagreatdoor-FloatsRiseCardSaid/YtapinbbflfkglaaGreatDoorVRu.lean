import Derived.Test.YtapinbbflfkglaaGreatDoorVRj
import Derived.Test.YtapinbbflfkglaaGreatDoorVRq
import Derived.Deep.CutBlock
import Derived.Deep.CutRange
import Derived.BigQuiet
import Derived.StillTailTactics
import Derived.Deep.QuietTactic
import Derived.Deep.LoopGhost
namespace Go.Proofs.YtapinbbflfkglaaGreatDoor
open Go.RowKit Go.Lib Go.Sort
set_option maxRecDepth 100000
structure ScI (a : Acc) (D : Nat) : Prop where
  hi : D < 10 ^ a.nd
  lo : 0 < a.nd → 10 ^ a.nd ≤ 10 * D
  ndm : a.ndm = min a.nd 19
  mant : a.mant = D / 10 ^ (a.nd - a.ndm)
  trunc : a.trunc = (D % 10 ^ (a.nd - a.ndm) != 0)
theorem ScI.acc0 : ScI acc0 0 := ⟨by decide, fun h => absurd h (by decide), by decide, by decide, by decide⟩
theorem ScI.put {a : Acc} {D : Nat} (h : ScI a D) {c : UInt8} (hc : digB c = true) : ScI (a.put c) (D * 10 + (c.toNat - 48)) := by
  obtain ⟨c1, c2⟩ := dig_iff.1 hc
  obtain ⟨h1, h2, h3, h4, h5⟩ := h
  obtain ⟨k, hk⟩ : ∃ k, k = c.toNat - 48 := ⟨_, rfl⟩
  have hk9 : k ≤ 9 := by omega
  have hcz : (c = 48) ↔ k = 0 := by
    constructor
    · rintro rfl; exact hk
    · intro e
      rw [← UInt8.toNat_inj]
      show c.toNat = 48
      omega
  rw [← hk]
  unfold Acc.put
  by_cases z : c = 48 ∧ a.nd = 0
  · rw [if_pos z]
    obtain ⟨z1, z2⟩ := z
    have hk0 := hcz.1 z1
    rw [z2] at h1
    have hD : D = 0 := by simp at h1; omega
    subst hD
    rw [hk0]
    refine ⟨?_, ?_, h3, ?_, ?_⟩
    · show 0 * 10 + 0 < 10 ^ a.nd; rw [z2]; decide
    · intro hh; exact absurd z2 (by have : 0 < a.nd := hh; omega)
    · show a.mant = _; rw [h4]
    · show a.trunc = _; rw [h5]
  · rw [if_neg z]
    have hD1 : D = 0 → a.nd = 0 := by
      intro e
      apply Classical.byContradiction
      intro hn
      have := h2 (by omega)
      have := Nat.pow_pos (n := a.nd) (show 0 < 10 by omega)
      omega
    have hlo : 10 ^ (a.nd + 1) ≤ 10 * (D * 10 + k) := by
      rw [Nat.pow_succ]
      by_cases hn : a.nd = 0
      · rw [hn] at h1 ⊢
        have hk1 : k ≠ 0 := fun e => z ⟨hcz.2 e, hn⟩
        rw [Nat.pow_zero]
        omega
      · have := h2 (by omega); omega
    have hhi : D * 10 + k < 10 ^ (a.nd + 1) := by rw [Nat.pow_succ]; omega
    by_cases m : a.ndm < 19
    · rw [if_pos m]
      have e1 : a.nd = a.ndm := by omega
      have e2 : a.nd - a.ndm = 0 := by omega
      rw [e2, Nat.pow_zero, Nat.div_one] at h4
      rw [e2, Nat.pow_zero, Nat.mod_one] at h5
      refine ⟨hhi, fun _ => hlo, ?_, ?_, ?_⟩
      · show a.ndm + 1 = min (a.nd + 1) 19; omega
      · show a.mant * 10 + (c.toNat - 48) = _ / 10 ^ (a.nd + 1 - (a.ndm + 1))
        rw [show a.nd + 1 - (a.ndm + 1) = 0 by omega, Nat.pow_zero, Nat.div_one, h4, hk]
      · show a.trunc = (_ % 10 ^ (a.nd + 1 - (a.ndm + 1)) != 0)
        rw [show a.nd + 1 - (a.ndm + 1) = 0 by omega, Nat.pow_zero, Nat.mod_one, h5]
    · rw [if_neg m]
      obtain ⟨j, hj⟩ : ∃ j, j = a.nd - a.ndm := ⟨_, rfl⟩
      have e1 : a.nd + 1 - a.ndm = j + 1 := by omega
      rw [← hj] at h4 h5
      have hP : 0 < 10 ^ j := Nat.pow_pos (by omega)
      have hdv : (D * 10 + k) / 10 ^ (j + 1) = D / 10 ^ j := by
        rw [Nat.pow_succ, Nat.mul_comm (10 ^ j), ← Nat.div_div_eq_div_mul]
        congr 1
        omega
      have hmd : (D * 10 + k) % 10 ^ (j + 1) = 10 * (D % 10 ^ j) + k := by
        rw [Nat.pow_succ, Nat.mul_comm (10 ^ j), Nat.mod_mul, show (D * 10 + k) / 10 = D by omega]
        omega
      refine ⟨hhi, fun _ => hlo, ?_, ?_, ?_⟩
      · show a.ndm = min (a.nd + 1) 19; omega
      · show a.mant = _ / 10 ^ (a.nd + 1 - a.ndm)
        rw [e1, hdv, h4]
      · show (a.trunc || c != 48) = (_ % 10 ^ (a.nd + 1 - a.ndm) != 0)
        rw [e1, hmd, h5, Bool.eq_iff_iff, Bool.or_eq_true, bne_iff_ne, bne_iff_ne, bne_iff_ne, Ne, Ne, Ne, hcz]
        omega
def accs (ds : List UInt8) (a : Acc) : Acc := ds.foldl Acc.put a
theorem scan_pre : ∀ (ds : List UInt8) (a : Acc) (t : List UInt8), allD ds → scanF (ds ++ t) a = scanF t (accs ds a)
  | [], _, _, _ => rfl
  | c :: cs, a, t, h => by
    have hc := h c (List.mem_cons_self ..)
    have hcd := dig_iff.1 hc
    have n46 : c ≠ 46 := by rintro rfl; exact absurd hcd.1 (by decide)
    rw [List.cons_append]
    conv => lhs; unfold scanF
    rw [if_neg n46, if_pos hc, scan_pre cs _ t (fun x hx => h x (List.mem_cons_of_mem _ hx))]
    rfl
theorem put_dot (a : Acc) (c : UInt8) : (a.put c).dot = a.dot ∧ (a.put c).saw = true ∧ (a.put c).dp - (a.put c).nd = a.dp - a.nd - 1 := by
  unfold Acc.put
  split
  · exact ⟨rfl, rfl, by show a.dp - 1 - (a.nd : Int) = _; omega⟩
  · split
    · exact ⟨rfl, rfl, by show a.dp - ((a.nd + 1 : Nat) : Int) = _; omega⟩
    · exact ⟨rfl, rfl, by show a.dp - ((a.nd + 1 : Nat) : Int) = _; omega⟩
theorem accs_dot : ∀ (ds : List UInt8) (a : Acc), (accs ds a).dot = a.dot ∧ (accs ds a).dp - (accs ds a).nd = a.dp - a.nd - ds.length
  | [], a => ⟨rfl, by show a.dp - a.nd = a.dp - a.nd - ((0 : Nat) : Int); omega⟩
  | c :: cs, a => by
    obtain ⟨h1, _, h3⟩ := put_dot a c
    obtain ⟨g1, g2⟩ := accs_dot cs (a.put c)
    refine ⟨g1.trans h1, ?_⟩
    show (accs cs (a.put c)).dp - (accs cs (a.put c)).nd = _
    rw [g2, h3, List.length_cons]
    omega
theorem accs_saw : ∀ (ds : List UInt8) (a : Acc), a.saw = true ∨ ds ≠ [] → (accs ds a).saw = true
  | [], _, h => by rcases h with h | h; exact h; exact absurd rfl h
  | c :: cs, a, _ => accs_saw cs (a.put c) (.inl (put_dot a c).2.1)
theorem accs_ScI : ∀ (ds : List UInt8) (a : Acc) (D : Nat), allD ds → ScI a D → ScI (accs ds a) (numF ds D)
  | [], _, _, _, h => h
  | c :: cs, a, _, hd, h => accs_ScI cs (a.put c) _ (fun x hx => hd x (List.mem_cons_of_mem _ hx)) (h.put (hd c (List.mem_cons_self ..)))
def dotF (F : List UInt8) : List UInt8 := if F = [] then [] else 46 :: F
def ends (X : List UInt8) : Prop := X = [] ∨ ∃ c r, X = c :: r ∧ (c = 101 ∨ c = 69)
theorem scan_ends {X : List UInt8} (h : ends X) (a : Acc) : scanF X a = (a, X) := by
  rcases h with rfl | ⟨c, r, rfl, h⟩
  · rfl
  · unfold scanF
    rcases h with rfl | rfl
    · rw [if_neg (by decide), if_neg (by decide)]
    · rw [if_neg (by decide), if_neg (by decide)]
theorem scan_form {I F X : List UInt8} (hI : allD I) (hI0 : I ≠ []) (hF : allD F) (hX : ends X) :
    ∃ A, scanF (I ++ (dotF F ++ X)) acc0 = (A, X) ∧ A.saw = true ∧ ScI A (numF (I ++ F) 0) ∧ dpF A - A.nd = -((F.length : Nat) : Int) := by
  rw [scan_pre I _ _ hI]
  have s1 := accs_saw I acc0 (.inr hI0)
  have i1 := accs_ScI I acc0 0 hI ScI.acc0
  obtain ⟨d1, _⟩ := accs_dot I acc0
  obtain ⟨A1, hA1⟩ : ∃ A1, A1 = accs I acc0 := ⟨_, rfl⟩
  rw [← hA1] at s1 i1 d1
  rw [← hA1, numF_append]
  unfold dotF
  by_cases c : F = []
  · subst c
    rw [if_pos rfl, List.nil_append, scan_ends hX]
    refine ⟨A1, rfl, s1, i1, ?_⟩
    unfold dpF
    rw [d1]
    show ((A1.nd : Nat) : Int) - A1.nd = -((0 : Nat) : Int)
    omega
  · rw [if_neg c, List.cons_append]
    conv => enter [1, A, 1, 1]; unfold scanF
    rw [if_pos rfl, if_neg (by rw [d1]; decide), scan_pre F _ _ hF, scan_ends hX]
    obtain ⟨d2, e2⟩ := accs_dot F { A1 with dot := true, dp := A1.nd }
    refine ⟨_, rfl, accs_saw F _ (.inl s1), accs_ScI F _ _ hF ⟨i1.hi, i1.lo, i1.ndm, i1.mant, i1.trunc⟩, ?_⟩
    unfold dpF
    rw [d2, if_pos rfl, e2]
    show ((A1.nd : Nat) : Int) - A1.nd - _ = _
    omega
def sgX (k : Nat) : List UInt8 := if k = 0 then [] else if k = 1 then [43] else [45]
def behind (X : List UInt8) (xx : Int) : Prop :=
  (X = [] ∧ xx = 0) ∨ ∃ c k es, X = c :: (sgX k ++ es) ∧ (c = 101 ∨ c = 69) ∧ k ≤ 2 ∧ allD es ∧ es ≠ [] ∧ xx = if k = 2 then -((eF es 0 : Nat) : Int) else ((eF es 0 : Nat) : Int)
theorem behind.ends {X : List UInt8} {xx : Int} (h : behind X xx) : ends X := by
  rcases h with ⟨h, _⟩ | ⟨c, k, es, h, hc, _⟩
  · exact .inl h
  · exact .inr ⟨c, _, h, hc⟩
theorem tail_of (pre X : List UInt8) (xx : Int) (h : behind X xx) : Tail (pre ++ X) pre.length xx := by
  rcases h with ⟨rfl, rfl⟩ | ⟨c, k, es, rfl, hc, hk, hd, hne, rfl⟩
  · rw [List.append_nil]; exact .none rfl
  · have hel : 1 ≤ es.length := by
      cases es with
      | nil => exact absurd rfl hne
      | cons a r => simp
    have hck : (pre ++ c :: (sgX k ++ es))[pre.length]'(by simp) = c := by simp
    have hdig : ∀ q, (pre ++ c :: (sgX k ++ es)).drop q = es → ∀ j (h : j < (pre ++ c :: (sgX k ++ es)).length), q ≤ j → digB (pre ++ c :: (sgX k ++ es))[j] = true := by
      intro q hq j h hj
      have : (pre ++ c :: (sgX k ++ es))[j] ∈ (pre ++ c :: (sgX k ++ es)).drop q := by
        rw [List.mem_drop_iff_getElem]
        exact ⟨j - q, by omega, by congr 1; omega⟩
      rw [hq] at this
      exact hd _ this
    rcases (show k = 0 ∨ k = 1 ∨ k = 2 by omega) with rfl | rfl | rfl
    · have hd0 : (pre ++ c :: (sgX 0 ++ es)).drop (pre.length + 1) = es := by simp [sgX]
      have := Tail.exp (l := pre ++ c :: (sgX 0 ++ es)) (k := pre.length) (pre.length + 1) false (by simp) (by rw [hck]; exact hc) (by omega) (fun _ => .inl ⟨rfl, rfl⟩) (by simp [sgX]; omega) (hdig _ hd0)
      rw [hd0] at this
      exact this
    · have hd0 : (pre ++ c :: (sgX 1 ++ es)).drop (pre.length + 2) = es := by simp [sgX]
      have := Tail.exp (l := pre ++ c :: (sgX 1 ++ es)) (k := pre.length) (pre.length + 2) false (by simp) (by rw [hck]; exact hc) (by omega) (fun h => .inr (.inl ⟨rfl, by simp [sgX], rfl⟩)) (by simp [sgX]; omega) (hdig _ hd0)
      rw [hd0] at this
      exact this
    · have hd0 : (pre ++ c :: (sgX 2 ++ es)).drop (pre.length + 2) = es := by simp [sgX]
      have := Tail.exp (l := pre ++ c :: (sgX 2 ++ es)) (k := pre.length) (pre.length + 2) true (by simp) (by rw [hck]; exact hc) (by omega) (fun h => .inr (.inr ⟨rfl, by simp [sgX], rfl⟩)) (by simp [sgX]; omega) (hdig _ hd0)
      rw [hd0] at this
      exact this
structure Parts (l : List UInt8) (g : Bool) (I F X : List UInt8) (xx : Int) : Prop where
  eq : l = sgB g ++ (I ++ (dotF F ++ X))
  i : allD I
  i0 : I ≠ []
  f : allD F
  x : behind X xx
  len : l.length ≤ 64
theorem plain_dig {c : UInt8} (h : digB c = true) : plainB c = true := by
  obtain ⟨a, b⟩ := dig_iff.1 h
  unfold plainB
  simp only [Bool.and_eq_true, bne_iff_ne]
  refine ⟨⟨?_, ?_⟩, ?_⟩ <;> rintro rfl <;> exact absurd b (by decide)
theorem Parts.plain {l : List UInt8} {g : Bool} {I F X : List UInt8} {xx : Int} (h : Parts l g I F X xx) : ∀ c ∈ l, plainB c = true := by
  intro c hc
  rw [h.eq, List.mem_append, List.mem_append, List.mem_append] at hc
  rcases hc with hc | hc | hc | hc
  · cases g
    · simp [sgB] at hc
    · simp [sgB] at hc; rw [hc]; decide
  · exact plain_dig (h.i c hc)
  · unfold dotF at hc
    split at hc
    · simp at hc
    · rw [List.mem_cons] at hc
      rcases hc with rfl | hc
      · decide
      · exact plain_dig (h.f c hc)
  · rcases h.x with ⟨rfl, _⟩ | ⟨e, k, es, rfl, he, hk, hd, _⟩
    · simp at hc
    · rw [List.mem_cons, List.mem_append] at hc
      rcases hc with rfl | hc | hc
      · rcases he with rfl | rfl <;> decide
      · unfold sgX at hc
        split at hc
        · simp at hc
        · split at hc
          · simp at hc; rw [hc]; decide
          · simp at hc; rw [hc]; decide
      · exact plain_dig (hd c hc)
def amtD (I F : List UInt8) : Nat := numF (I ++ F) 0
def amtX (F : List UInt8) (xx : Int) : Int := xx - (F.length : Nat)
theorem Parts.reads {l : List UInt8} {g : Bool} {I F X : List UInt8} {xx : Int} (h : Parts l g I F X xx) :
    ∃ A : Acc, A.nd ≤ 64 ∧ ScI A (amtD I F) ∧ dpF A - A.nd = -((F.length : Nat) : Int) ∧ scanF (I ++ (dotF F ++ X)) acc0 = (A, X) ∧ A.saw = true ∧
      NotSpecial (.string ⟨l.toArray⟩) ∧ ReadsAs (.string ⟨l.toArray⟩) A.mant (if A.mant = 0 then 0 else dpF A + xx - A.ndm) g A.trunc l.length ∧
      ∃ (h0 : 0 < l.length) (kk : Nat), l[0] ≠ 43 ∧ (l[0] == 45) = g ∧ scanF (l.drop (if l[0] = 45 then 1 else 0)) acc0 = (A, l.drop kk) ∧ kk ≤ l.length ∧ Tail l kk xx := by
  obtain ⟨A, a1, a2, a3, a4⟩ := scan_form h.i h.i0 h.f h.x.ends
  obtain ⟨c, I', hI⟩ : ∃ c I', I = c :: I' := by
    cases hI : I with
    | nil => exact absurd hI h.i0
    | cons c I' => exact ⟨c, I', rfl⟩
  have hc := h.i c (by rw [hI]; exact List.mem_cons_self ..)
  have hcd := dig_iff.1 hc
  have n45 : c ≠ 45 := by rintro rfl; exact absurd hcd.1 (by decide)
  have n43 : c ≠ 43 := by rintro rfl; exact absurd hcd.1 (by decide)
  have hl := h.eq
  have hlen := h.len
  have h0 : 0 < l.length := by rw [hl, hI]; cases g <;> simp [sgB]
  have hg : (l[0] == 45) = g := by
    have : ∀ (l' : List UInt8) (h' : 0 < l'.length), l' = sgB g ++ (I ++ (dotF F ++ X)) → (l'[0] == 45) = g := by
      rintro l' h' rfl
      subst hI
      cases g
      · simpa [sgB] using n45
      · simp [sgB]
    exact this l h0 hl
  have h43 : l[0] ≠ 43 := by
    have : ∀ (l' : List UInt8) (h' : 0 < l'.length), l' = sgB g ++ (I ++ (dotF F ++ X)) → l'[0] ≠ 43 := by
      rintro l' h' rfl
      subst hI
      cases g
      · simpa [sgB] using n43
      · simp [sgB]
    exact this l h0 hl
  have hdrop : l.drop (if l[0] = 45 then 1 else 0) = I ++ (dotF F ++ X) := by
    have : (if l[0] = 45 then 1 else 0) = (sgB g).length := by
      cases g
      · rw [if_neg (by simpa using hg)]; rfl
      · rw [if_pos (by simpa using hg)]; rfl
    rw [this]
    have e : ∀ l', l' = sgB g ++ (I ++ (dotF F ++ X)) → l'.drop (sgB g).length = I ++ (dotF F ++ X) := by rintro _ rfl; simp
    exact e l hl
  obtain ⟨pre, hpre⟩ : ∃ pre, pre = sgB g ++ (I ++ dotF F) := ⟨_, rfl⟩
  have hlp : l = pre ++ X := by rw [hl, hpre]; simp
  have htail := tail_of pre X xx h.x
  rw [← hlp] at htail
  have hA2 : scanF (l.drop (if l[0] = 45 then 1 else 0)) acc0 = (A, l.drop pre.length) := by
    rw [hdrop, a1]
    congr 1
    have e : ∀ l', l' = pre ++ X → X = l'.drop pre.length := by rintro _ rfl; simp
    exact e l hlp
  have hkk : pre.length ≤ l.length := by rw [hlp]; simp
  refine ⟨A, ?_, a3, a4, a1, a2, ?_, ?_, h0, pre.length, h43, hg, hA2, hkk, htail⟩
  · have : ∀ (ds : List UInt8) (a : Acc), (accs ds a).nd ≤ a.nd + ds.length := by
      intro ds
      induction ds with
      | nil => intro a; exact Nat.le_refl _
      | cons c cs ih =>
        intro a
        have := ih (a.put c)
        have h2 : (a.put c).nd ≤ a.nd + 1 := by
          unfold Acc.put
          split
          · exact Nat.le_succ _
          · split <;> exact Nat.le_refl _
        show (accs cs (a.put c)).nd ≤ a.nd + (cs.length + 1)
        omega
    have hIF : I.length + F.length ≤ 64 := by
      have := congrArg List.length hl
      rw [List.length_append, List.length_append, List.length_append] at this
      have hF : F.length ≤ (dotF F).length := by
        unfold dotF; split
        · next e => rw [e]; simp
        · simp
      omega
    have hA3 : A = if F = [] then accs I acc0 else accs F { accs I acc0 with dot := true, dp := (accs I acc0).nd } := by
      rw [scan_pre I _ _ h.i] at a1
      have hd := (accs_dot I acc0).1
      unfold dotF at a1
      split at a1
      · next e => rw [if_pos e]; rw [List.nil_append, scan_ends h.x.ends] at a1; exact (congrArg Prod.fst a1).symm
      · next e =>
        rw [if_neg e]
        rw [List.cons_append] at a1
        conv at a1 => lhs; unfold scanF
        rw [if_pos rfl, if_neg (by rw [hd]; decide), scan_pre F _ _ h.f, scan_ends h.x.ends] at a1
        exact (congrArg Prod.fst a1).symm
    have h1 := this I acc0
    have h2 := this F { accs I acc0 with dot := true, dp := (accs I acc0).nd }
    have e0 : acc0.nd = 0 := rfl
    rw [hA3]
    split
    · omega
    · have e1 : ({ accs I acc0 with dot := true, dp := (accs I acc0).nd } : Acc).nd = (accs I acc0).nd := rfl
      omega
  · intro w
    subst hI
    cases g
    · exact special_dig l w h0 (by
        have : ∀ (l' : List UInt8) (h' : 0 < l'.length), l' = sgB false ++ (c :: I' ++ (dotF F ++ X)) → digB l'[0] = true := by
          rintro l' h' rfl
          exact hc
        exact this l h0 hl)
    · have e : l = 45 :: c :: (I' ++ (dotF F ++ X)) := by rw [hl]; rfl
      rw [e]
      exact special_neg c _ w hc (by
        have := congrArg List.length e
        simp only [List.length_cons] at this
        omega)
  · intro w
    have := readFloat_any l w hlen h.plain h0 h43 hA2 hkk a2 htail
    rw [hg] at this
    exact this
end Go.Proofs.YtapinbbflfkglaaGreatDoor
namespace Go.Proofs.YtapinbbflfkglaaGreatDoor
open Go.RowKit
open Go.PlainAid (bt get_bt bt_nonneg bt_le bt_end)
set_option maxRecDepth 100000
attribute [local go_sem] setCell_drewN
structure DInv (s : Dec) (g : Bool) (a : Acc) (D : Nat) : Prop where
  nd : s.nd = (a.nd : Nat)
  dp : s.dp = a.dp
  neg : s.neg = g
  tr : s.tr = false
  dig : ∀ i, i < a.nd → 48 ≤ s.d i ∧ s.d i ≤ 57
  lead : 0 < a.nd → s.d 0 ≠ 48
  val : pv (dgt s.d) a.nd = D
theorem DInv.zero {s : Dec} {g : Bool} {a : Acc} {D : Nat} (h : DInv s g a D) (c : UInt8) (hc : c = 48 ∧ a.nd = 0) (hd : digB c = true) : DInv { s with dp := a.dp - 1 } g (a.put c) (D * 10 + (c.toNat - 48)) := by
  obtain ⟨h1, h2, h3, h4, h5, h6, h7⟩ := h
  obtain ⟨rfl, c2⟩ := hc
  unfold Acc.put
  rw [if_pos ⟨rfl, c2⟩]
  refine ⟨h1, rfl, h3, h4, h5, h6, ?_⟩
  rw [c2] at h7
  have h8 : D = 0 := h7.symm
  show pv (dgt s.d) a.nd = _
  rw [c2, h8]
  rfl
theorem DInv.put {s : Dec} {g : Bool} {a : Acc} {D : Nat} (h : DInv s g a D) (c : UInt8) (hc : ¬(c = 48 ∧ a.nd = 0)) (hd : digB c = true) : DInv { s with d := up s.d a.nd c.toNat, nd := ((a.nd + 1 : Nat) : Int) } g (a.put c) (D * 10 + (c.toNat - 48)) := by
  obtain ⟨h1, h2, h3, h4, h5, h6, h7⟩ := h
  obtain ⟨d1, d2⟩ := dig_iff.1 hd
  have hnd : (a.put c).nd = a.nd + 1 := by
    unfold Acc.put
    rw [if_neg hc]
    split <;> rfl
  have hdp : (a.put c).dp = a.dp := by
    unfold Acc.put
    rw [if_neg hc]
    split <;> rfl
  refine ⟨by rw [hnd], by rw [hdp]; exact h2, h3, h4, ?_, ?_, ?_⟩
  · rw [hnd]
    intro i hi
    show 48 ≤ up s.d a.nd c.toNat i ∧ up s.d a.nd c.toNat i ≤ 57
    by_cases e : i = a.nd
    · subst e; rw [up_at]; exact ⟨d1, d2⟩
    · rw [up_ne _ _ e]; exact h5 i (by omega)
  · intro _
    show up s.d a.nd c.toNat 0 ≠ 48
    by_cases e : a.nd = 0
    · rw [e, up_at]
      intro h
      refine hc ⟨?_, e⟩
      rw [← UInt8.toNat_inj]
      exact h
    · rw [up_ne _ _ (fun h => e h.symm)]; exact h6 (by omega)
  · rw [hnd]
    show 10 * pv (dgt (up s.d a.nd c.toNat)) a.nd + dgt (up s.d a.nd c.toNat) a.nd = _
    rw [pv_congr (h := dgt s.d) a.nd (fun i hi => by unfold dgt; rw [up_ne _ _ (by omega)]), h7]
    unfold dgt
    rw [up_at, Nat.mul_comm]
theorem DInv.dot {s : Dec} {g : Bool} {a : Acc} {D : Nat} (h : DInv s g a D) : DInv { s with dp := ((a.nd : Nat) : Int) } g { a with dot := true, dp := a.nd } D :=
  ⟨h.nd, rfl, h.neg, h.tr, h.dig, h.lead, h.val⟩
def scanN : List UInt8 → Acc → Nat → Nat
  | [], _, D => D
  | c :: cs, a, D =>
    if c = 46 then (if a.dot then D else scanN cs { a with dot := true, dp := a.nd } D)
    else if digB c then scanN cs (a.put c) (D * 10 + (c.toNat - 48)) else D
theorem scanN_end {l : List UInt8} {k : Nat} (h : l.length ≤ k) (a : Acc) (D : Nat) : scanN (l.drop k) a D = D := by
  rw [List.drop_eq_nil_of_le h]; rfl
theorem scanN_at {l : List UInt8} {k : Nat} (h : k < l.length) (a : Acc) (D : Nat) : scanN (l.drop k) a D =
    if l[k] = 46 then (if a.dot then D else scanN (l.drop (k + 1)) { a with dot := true, dp := a.nd } D)
    else if digB l[k] then scanN (l.drop (k + 1)) (a.put l[k]) (D * 10 + (l[k].toNat - 48)) else D := by
  rw [List.drop_eq_getElem_cons h]; rfl
theorem scanN_pre : ∀ (ds : List UInt8) (a : Acc) (D : Nat) (t : List UInt8), allD ds → scanN (ds ++ t) a D = scanN t (accs ds a) (numF ds D)
  | [], _, _, _, _ => rfl
  | c :: cs, a, D, t, h => by
    have hc := h c (List.mem_cons_self ..)
    have hcd := dig_iff.1 hc
    have n46 : c ≠ 46 := by rintro rfl; exact absurd hcd.1 (by decide)
    rw [List.cons_append]
    conv => lhs; unfold scanN
    rw [if_neg n46, if_pos hc, scanN_pre cs _ _ t (fun x hx => h x (List.mem_cons_of_mem _ hx))]
    rfl
theorem scanN_ends {X : List UInt8} (h : ends X) (a : Acc) (D : Nat) : scanN X a D = D := by
  rcases h with rfl | ⟨c, r, rfl, h⟩
  · rfl
  · unfold scanN
    rcases h with rfl | rfl
    · rw [if_neg (by decide), if_neg (by decide)]
    · rw [if_neg (by decide), if_neg (by decide)]
theorem scanN_form {I F X : List UInt8} (hI : allD I) (hF : allD F) (hX : ends X) : scanN (I ++ (dotF F ++ X)) acc0 0 = numF (I ++ F) 0 := by
  rw [scanN_pre I _ _ _ hI, numF_append]
  have d1 := (accs_dot I acc0).1
  unfold dotF
  by_cases c : F = []
  · subst c
    rw [if_pos rfl, List.nil_append, scanN_ends hX]
    rfl
  · rw [if_neg c, List.cons_append]
    conv => lhs; unfold scanN
    rw [if_pos rfl, if_neg (by rw [d1]; decide), scanN_pre F _ _ _ hF, scanN_ends hX]
def dec0 : Dec := ⟨fun _ => 0, 0, 0, false, false⟩
theorem DInv.start (g : Bool) : DInv { dec0 with neg := g } g acc0 0 := ⟨rfl, rfl, rfl, rfl, fun _ hi => absurd hi (Nat.not_lt_zero _), fun h => absurd h (Nat.lt_irrefl _), rfl⟩
set_option maxHeartbeats 8000000 in
theorem set_any (l : List UInt8) (w : World) (b : Nat) (hl : l.length ≤ 64) (hpl : ∀ c ∈ l, plainB c = true) (h0 : 0 < l.length) (h1 : l[0] ≠ 43) {A : Acc} {kk : Nat} {xx : Int} (hb : b < w.heap.size)
    (hA : scanF (l.drop (if l[0] = 45 then 1 else 0)) acc0 = (A, l.drop kk)) (hkk : kk ≤ l.length) (hsaw : A.saw = true) (htail : Tail l kk xx) :
    Calls Tryz.prog 124 #[.pointer (some ⟨b, 0, none⟩), .string ⟨l.toArray⟩] (putD w b dec0) fun e w' => e = .returned (.bool true) ∧ ∃ N s, w' = (putD w b s).drewN N ∧ s.neg = (l[0] == 45) ∧ s.tr = false ∧ s.nd = (A.nd : Nat) ∧ s.dp = dpF A + xx ∧ (∀ i, i < A.nd → 48 ≤ s.d i ∧ s.d i ≤ 57) ∧ (0 < A.nd → s.d 0 ≠ 48) ∧ ScI A (pv (dgt s.d) A.nd) ∧ pv (dgt s.d) A.nd = scanN (l.drop (if l[0] = 45 then 1 else 0)) acc0 0 := by
  obtain ⟨g, hg⟩ : ∃ g : Bool, g = (l[0] == 45) := ⟨_, rfl⟩
  have HG := Lib.hid hg
  have k1 := get_bt ⟨l.toArray⟩
  have t1 : (bt ⟨l.toArray⟩ 0 == 43) = false := by rw [show (43 : Int) = ((43 : Nat) : Int) from rfl, bt_eq h0 43 (by decide)]; simpa using h1
  have t2 : (bt ⟨l.toArray⟩ 0 == 45) = g := by rw [hg, show (45 : Int) = ((45 : Nat) : Int) from rfl, bt_eq h0 45 (by decide)]; rfl
  have hne : decide (l = []) = false := by cases l with | nil => simp at h0 | cons => rfl
  have hu : ∀ k, k < l.length → (bt ⟨l.toArray⟩ k == 95) = false := fun k hk => by
    rw [show (95 : Int) = ((95 : Nat) : Int) from rfl, bt_eq hk 95 (by decide)]
    have := hpl _ (List.getElem_mem hk)
    unfold plainB at this
    simp only [Bool.and_eq_true, bne_iff_ne] at this
    simpa using this.1.1
  have HU := Lib.hid hu
  clear hg h1 hpl hu
  have hgl : (l[0] == 45) = g := HG.out.symm
  rw [hgl]
  obtain ⟨RD, hRD⟩ : ∃ RD, RD = scanN (l.drop (if l[0] = 45 then 1 else 0)) acc0 0 := ⟨_, rfl⟩
  rw [← hRD]
  replace hRD := Lib.hid hRD
  obtain ⟨i0, hi⟩ : ∃ i0 : Nat, i0 = if g then 1 else 0 := ⟨_, rfl⟩
  have HI := Lib.hid hi
  have hi1 : i0 ≤ 1 := by rw [hi]; split <;> omega
  clear hi
  have fz := fun (s : Dec) i => frozen_putD w b s i hb
  have q0 := fun (s : Dec) => cell_putD_nd w b s hb
  have q1 := fun (s : Dec) => cell_putD_dp w b s hb
  have q2 := fun (s : Dec) => cell_putD_neg w b s hb
  have q3 := fun (s : Dec) => cell_putD_tr w b s hb
  have p1 := fun (s : Dec) x => set_putD_neg w b s x
  have p2 := fun (s : Dec) x => set_putD_tr w b s x
  go_enter Tryz.func124, Tryz.ntmps124
  go_upto_block 0 with (fail)
  go_cut [5] (fun s5 wx => s5 = .int .i64 i0 ∧ wx = putD w b { dec0 with neg := g })
  case first =>
    as_aux_lemma =>
      cases g
      · go_wp2_with fail
        go_meet
        exact ⟨by rw [HI.out]; rfl, rfl⟩
      · go_wp2_with fail
        go_meet
        exact ⟨by rw [HI.out]; rfl, rfl⟩
  case rest =>
    as_aux_lemma =>
      obtain ⟨rfl, rfl⟩ := hcut
      clear t1 t2 q0 q1 q2 q3 p1 p2 fz
      obtain ⟨R, hR⟩ : ∃ R, R = scanF (l.drop i0) acc0 := ⟨_, rfl⟩
      have HR := Lib.hid hR
      have HRA := Lib.hid (show R = (A, l.drop kk) by
        rw [hR, ← hA, HI.out, HG.out]
        by_cases h : l[0] = 45 <;> simp [h])
      clear hR
      have HRD := Lib.hid (show RD = scanN (l.drop i0) acc0 0 by
        rw [hRD.out, HI.out, HG.out]
        by_cases h : l[0] = 45 <;> simp [h])
      have HD0 := Lib.hid (DInv.start g)
      obtain ⟨W0, hW0⟩ : ∃ W0, W0 = putD w b { dec0 with neg := g } := ⟨_, rfl⟩
      rw [← hW0]
      replace hW0 := Lib.hid hW0
      go_upto_block 1 with (fail)
      go_cut [5, 6, 7] (fun s5 s6 s7 wx => ∃ (k D N : Nat) (a : Acc) (s : Dec), s5 = .int .i64 k ∧ s6 = .bool a.dot ∧ s7 = .bool a.saw ∧ wx = putD (w.drewN N) b s ∧ k ≤ l.length ∧ Hid (R = (a, l.drop k)) ∧ Hid (RD = D) ∧ OkA a k ∧ Hid (DInv s g a D) ∧ Hid (ScI a D))
      case first =>
        as_aux_lemma =>
          go_wp2_with fail
          go_loopg [5, 6, 7] (l.length - i0) (fun gk s5 s6 s7 wx => ∃ (k D N : Nat) (a : Acc) (s : Dec), s5 = .int .i64 k ∧ s6 = .bool a.dot ∧ s7 = .bool a.saw ∧ wx = putD (w.drewN N) b s ∧ gk = l.length - k ∧ k ≤ l.length ∧ Hid (R = scanF (l.drop k) a) ∧ Hid (RD = scanN (l.drop k) a D) ∧ OkA a k ∧ Hid (DInv s g a D) ∧ Hid (ScI a D))
          case atStart =>
            exact ⟨i0, 0, 0, acc0, _, rfl, rfl, rfl, hW0.out, rfl, by omega, HR, HRD, ⟨by decide, by decide, Nat.zero_le _, Nat.le_refl _, by simp [acc0], by simp [acc0]⟩, HD0, Lib.hid ScI.acc0⟩
          case round =>
            as_aux_lemma =>
              obtain ⟨k, D, N, a, s, rfl, rfl, rfl, rfl, hgk, hk, HK, HKD, ok, hD, hS⟩ := hrel
              clear HR HRD HD0 hW0
              have hb1 : b < (w.drewN N).heap.size := hb
              have hNN : Hid ((w.drewN N).drew = w.drewN (N + 1)) := Lib.hid rfl
              obtain ⟨w1, hw1⟩ : ∃ w1, w1 = w.drewN N := ⟨_, rfl⟩
              rw [← hw1] at hb1 hNN ⊢
              replace hw1 := Lib.hid hw1
              have ho1 := ok.d
              have ho3 := ok.lo
              have ho4 := ok.hi
              have f0 := cell_putD_nd w1 b s hb1
              rw [hD.out.nd] at f0
              have f2 := cell_putD_dp w1 b s hb1
              rw [hD.out.dp] at f2
              have fz := fun i => frozen_putD w1 b s i hb1
              by_cases hlt : k < l.length
              · have hkd : decide ((k : Int) < (l.length : Nat)) = true := by simp; omega
                have u1 := HU.out k hlt
                have hc1 := bt_nonneg ⟨l.toArray⟩ k
                have hc2 := bt_le ⟨l.toArray⟩ k
                have hbb := Lib.hid (bt_bs l k hlt)
                have HS := Lib.hid (HK.out.trans (scan_at hlt a))
                have HSD := Lib.hid (HKD.out.trans (scanN_at hlt a D))
                by_cases c1 : l[k] = 46
                · have u2 : (bt ⟨l.toArray⟩ k == 46) = true := by rw [hbb.out, c1]; rfl
                  cases hd : a.dot with
                  | true =>
                    exfalso
                    have HQ : R = (a, l.drop k) := by rw [HS.out, if_pos c1, hd]; rfl
                    have h := HQ.symm.trans HRA.out
                    have h2 := congrArg (fun p => p.2.length) h
                    simp only [List.length_drop] at h2
                    have hkk2 : kk = k := by omega
                    subst hkk2
                    cases htail with
                    | none h => omega
                    | exp q neg hk he hq hs hq2 hd =>
                      rw [c1] at he
                      rcases he with he | he <;> exact absurd he (by decide)
                  | false =>
                    have HQ := Lib.hid (show R = scanF (l.drop (k + 1)) { a with dot := true, dp := a.nd } by rw [HS.out, if_pos c1, hd]; rfl)
                    have HQD := Lib.hid (show RD = scanN (l.drop (k + 1)) { a with dot := true, dp := a.nd } D by rw [HSD.out, if_pos c1, hd]; rfl)
                    have hD2 := Lib.hid hD.out.dot
                    have hS2 : Hid (ScI { a with dot := true, dp := a.nd } D) := Lib.hid ⟨hS.out.hi, hS.out.lo, hS.out.ndm, hS.out.mant, hS.out.trunc⟩
                    have e1 := Lib.hid (set_putD_dp w1 b s ((a.nd : Nat) : Int))
                    have okp := ok.dot
                    obtain ⟨W, hW⟩ : ∃ W, W = putD w1 b s := ⟨_, rfl⟩
                    rw [← hW] at f0 f2 e1 ⊢
                    simp only [← hW] at fz
                    clear hW c1 hS hD
                    go_wp2
                    go_roundg (gk - 1)
                    case measure => omega
                    case rel => exact ⟨k + 1, D, N, { a with dot := true, dp := a.nd }, _, by go_num, rfl, rfl, by rw [← hw1.out]; exact e1.out, by omega, by omega, HQ, HQD, okp, hD2, hS2⟩
                · have u2 : (bt ⟨l.toArray⟩ k == 46) = false := by rw [hbb.out]; exact byte_ne (by decide) c1
                  by_cases c2 : digB l[k] = true
                  · have HQ := Lib.hid (show R = scanF (l.drop (k + 1)) (a.put l[k]) by rw [HS.out, if_neg c1, if_pos c2])
                    have HQD := Lib.hid (show RD = scanN (l.drop (k + 1)) (a.put l[k]) (D * 10 + (l[k].toNat - 48)) by rw [HSD.out, if_neg c1, if_pos c2])
                    have okp := ok.put c2
                    have hS2 := Lib.hid (hS.out.put c2)
                    obtain ⟨d1, d2⟩ := dig_iff.1 c2
                    have e1 : 48 ≤ bt ⟨l.toArray⟩ k := by rw [hbb.out]; omega
                    have e2 : bt ⟨l.toArray⟩ k ≤ 57 := by rw [hbb.out]; omega
                    have u3 : decide (48 ≤ bt ⟨l.toArray⟩ k) = true := by simp [e1]
                    have u4 : decide (bt ⟨l.toArray⟩ k ≤ 57) = true := by simp [e2]
                    obtain ⟨z1, z2, _⟩ := put_dot a l[k]
                    by_cases c3 : l[k] = 48 ∧ a.nd = 0
                    · have hD2 := Lib.hid (hD.out.zero l[k] c3 c2)
                      have u5 : (bt ⟨l.toArray⟩ k == 48) = true := by rw [hbb.out, c3.1]; rfl
                      have u6 : (((a.nd : Nat) : Int) == 0) = true := by simp [c3.2]
                      have e9 := Lib.hid (set_putD_dp w1 b s (a.dp - 1))
                      obtain ⟨W, hW⟩ : ∃ W, W = putD w1 b s := ⟨_, rfl⟩
                      rw [← hW] at f0 f2 e9 ⊢
                      simp only [← hW] at fz
                      replace z1 := Lib.hid z1
                      replace z2 := Lib.hid z2
                      clear hW c1 c2 c3 e1 e2 hS hD
                      go_wp2
                      go_roundg (gk - 1)
                      case measure => omega
                      case rel => exact ⟨k + 1, _, N, a.put l[k], _, by go_num, by rw [z1.out], by rw [z2.out], by rw [← hw1.out]; exact e9.out, by omega, by omega, HQ, HQD, okp, hD2, hS2⟩
                    · have hD2 := Lib.hid (hD.out.put l[k] c3 c2)
                      have u5 : (bt ⟨l.toArray⟩ k == 48) = false ∨ ((bt ⟨l.toArray⟩ k == 48) = true ∧ (((a.nd : Nat) : Int) == 0) = false) := by
                        by_cases h : l[k] = 48
                        · right; exact ⟨by rw [hbb.out, h]; rfl, by have : a.nd ≠ 0 := fun h2 => c3 ⟨h, h2⟩; simp; omega⟩
                        · left; rw [hbb.out]; exact byte_ne (by decide) h
                      have hn8 : a.nd < 800 := by omega
                      have f9 := cell_putD_dig w1 b s a.nd hb1 hn8
                      have hb2 : b < w1.drew.heap.size := hb1
                      have hdr : (putD w1 b s).drew = putD w1.drew b s := rfl
                      obtain ⟨w2, hw2⟩ : ∃ w2, w2 = w1.drew := ⟨_, rfl⟩
                      rw [← hw2] at hb2 hdr hNN
                      clear hw2
                      have y9 := cell_putD_dig w2 b s a.nd hb2 hn8
                      have yz := fun i => frozen_putD w2 b s i hb2
                      have e8 : (putD w2 b s).setCell ⟨b, a.nd, none⟩ (.int .u8 (bt ⟨l.toArray⟩ k)) = putD w2 b { s with d := up s.d a.nd l[k].toNat } := set_putD_dig w2 b s a.nd l[k].toNat _ hn8 hbb.out
                      have g0 := cell_putD_nd w2 b { s with d := up s.d a.nd l[k].toNat } hb2
                      have g0' : (putD w2 b { s with d := up s.d a.nd l[k].toNat }).cell? ⟨b, 800, none⟩ = some (.int .i64 ((a.nd : Nat) : Int)) := by rw [g0]; show some (Value.int .i64 s.nd) = _; rw [hD.out.nd]
                      have gz := fun i => frozen_putD w2 b { s with d := up s.d a.nd l[k].toNat } i hb2
                      have e9 := Lib.hid (set_putD_nd w2 b { s with d := up s.d a.nd l[k].toNat } ((a.nd + 1 : Nat) : Int))
                      obtain ⟨W1, hW1⟩ : ∃ W, W = putD w2 b { s with d := up s.d a.nd l[k].toNat } := ⟨_, rfl⟩
                      obtain ⟨W, hW⟩ : ∃ W, W = putD w1 b s := ⟨_, rfl⟩
                      obtain ⟨W2, hW2⟩ : ∃ W, W = putD w2 b s := ⟨_, rfl⟩
                      rw [← hW1] at g0' e8 e9
                      simp only [← hW1] at gz
                      rw [← hW2] at y9 e8 hdr
                      simp only [← hW2] at yz
                      rw [← hW] at f0 f2 f9 hdr ⊢
                      simp only [← hW] at fz
                      clear hW2
                      replace hdr := Lib.hid hdr
                      replace z1 := Lib.hid z1
                      replace z2 := Lib.hid z2
                      clear g0 hW hW1 c1 c2 c3 hS hD
                      rcases u5 with u5 | ⟨u5, u6⟩
                      all_goals
                        go_wp2
                        go_still_tail 11, (by kernel_rfl)
                        change wpList _ _ _ _ _ W.drew
                        rw [hdr.out]
                        go_wp2
                        go_roundg (gk - 1)
                        case measure => omega
                        case rel => exact ⟨k + 1, _, N + 1, a.put l[k], _, by go_num, by rw [z1.out], by rw [z2.out], by rw [← hNN.out]; exact e9.out, by omega, by omega, HQ, HQD, okp, hD2, hS2⟩
                  · have HQ := Lib.hid (show R = (a, l.drop k) by rw [HS.out, if_neg c1, if_neg c2])
                    have HQD := Lib.hid (show RD = D by rw [HSD.out, if_neg c1, if_neg c2])
                    have u3 : decide (48 ≤ bt ⟨l.toArray⟩ k) = false ∨ (decide (48 ≤ bt ⟨l.toArray⟩ k) = true ∧ decide (bt ⟨l.toArray⟩ k ≤ 57) = false) := by
                      by_cases h : 48 ≤ bt ⟨l.toArray⟩ k
                      · right
                        refine ⟨by simp [h], ?_⟩
                        rw [decide_eq_false_iff_not]
                        intro h2
                        rw [hbb.out] at h h2
                        exact c2 (dig_iff.2 ⟨by omega, by omega⟩)
                      · left; simp; omega
                    obtain ⟨W, hW⟩ : ∃ W, W = putD w1 b s := ⟨_, rfl⟩
                    rw [← hW] at f0 f2 ⊢
                    replace hW := Lib.hid hW
                    clear c1 c2 fz
                    rcases u3 with u3 | ⟨u3, u4⟩
                    all_goals
                      go_wp2
                      go_meet
                      exact ⟨k, D, N, a, s, rfl, rfl, rfl, by rw [← hw1.out]; exact hW.out, hk, HQ, HQD, ok, hD, hS⟩
              · have hkd : decide ((k : Int) < (l.length : Nat)) = false := by simp; omega
                have HQ := Lib.hid (HK.out.trans (scan_end (by omega) a))
                have HQD := Lib.hid (HKD.out.trans (scanN_end (by omega) a D))
                obtain ⟨W, hW⟩ : ∃ W, W = putD w1 b s := ⟨_, rfl⟩
                rw [← hW] at f0 f2 ⊢
                replace hW := Lib.hid hW
                clear fz
                go_wp2
                go_meet
                exact ⟨k, D, N, a, s, rfl, rfl, rfl, by rw [← hw1.out]; exact hW.out, hk, HQ, HQD, ok, hD, hS⟩
      case rest =>
        as_aux_lemma =>
        obtain ⟨k, D, N, a, s, rfl, rfl, rfl, rfl, hk, HK, HKD, ok, hD, hS⟩ := hcut
        have hAk : a = A ∧ k = kk := by
          have h := HK.out.symm.trans HRA.out
          have h2 := congrArg (fun p => p.2.length) h
          simp only [List.length_drop] at h2
          exact ⟨congrArg Prod.fst h, by omega⟩
        obtain ⟨rfl, rfl⟩ := hAk
        clear HR HRD HK HRA hi1 HI hW0 HD0
        have hd1 := (dpF_bd ok).1
        have hd2 := (dpF_bd ok).2
        have hnd := ok.d
        have hsaw2 : a.saw = true := hsaw
        have HT := Lib.hid htail
        clear htail
        obtain ⟨w1, hw1⟩ : ∃ w1, w1 = w.drewN N := ⟨_, rfl⟩
        have hb1 : b < w1.heap.size := by rw [hw1]; exact hb
        rw [← hw1]
        replace hw1 := Lib.hid hw1
        have hfin := Lib.hid (fun (s' : Dec) (h1 : s'.nd = s.nd) (h2 : s'.d = s.d) (h3 : s'.neg = s.neg) (h4 : s'.tr = s.tr) => (show s'.neg = g ∧ s'.tr = false ∧ s'.nd = (a.nd : Nat) ∧ (∀ i, i < a.nd → 48 ≤ s'.d i ∧ s'.d i ≤ 57) ∧ (0 < a.nd → s'.d 0 ≠ 48) ∧ ScI a (pv (dgt s'.d) a.nd) ∧ pv (dgt s'.d) a.nd = RD from by
          rw [h1, h2, h3, h4]
          exact ⟨hD.out.neg, hD.out.tr, hD.out.nd, hD.out.dig, hD.out.lead, by rw [hD.out.val]; exact hS.out, by rw [hD.out.val]; exact HKD.out.symm⟩))
        have f0 := cell_putD_nd w1 b s hb1
        rw [hD.out.nd] at f0
        have f2 := cell_putD_dp w1 b s hb1
        have fz := fun i => frozen_putD w1 b s i hb1
        have e9 := Lib.hid (set_putD_dp w1 b s ((a.nd : Nat) : Int))
        have hsdp := Lib.hid hD.out.dp
        have hDD : Hid (dpF a = if a.dot then a.dp else ((a.nd : Nat) : Int)) := Lib.hid rfl
        obtain ⟨D1, hD1⟩ : ∃ D1, D1 = dpF a := ⟨_, rfl⟩
        rw [← hD1] at hd1 hd2 hDD
        replace hD1 := Lib.hid hD1
        obtain ⟨W, hW⟩ : ∃ W, W = putD w1 b s := ⟨_, rfl⟩
        rw [← hW] at f0 f2 e9 ⊢
        simp only [← hW] at fz
        replace hW := Lib.hid hW
        obtain ⟨dt, hdt⟩ : ∃ dt, dt = a.dot := ⟨_, rfl⟩
        obtain ⟨sw, hsw⟩ : ∃ sw, sw = a.saw := ⟨_, rfl⟩
        rw [← hsw] at hsaw2 ⊢
        rw [← hdt] at hDD ⊢
        subst hsaw2
        clear hsw hdt
        go_upto_if 120 with (fail)
        go_cut [] (fun wx => ∃ s1 : Dec, wx = putD w1 b s1 ∧ Hid (s1.dp = D1) ∧ Hid (s1.nd = s.nd ∧ s1.d = s.d ∧ s1.neg = s.neg ∧ s1.tr = s.tr))
        case first =>
          as_aux_lemma =>
            cases dt
            · go_wp2_with fail
              go_meet
              exact ⟨_, e9.out, Lib.hid (by rw [hDD.out]; rfl), Lib.hid ⟨rfl, rfl, rfl, rfl⟩⟩
            · go_wp2_with fail
              go_meet
              exact ⟨_, hW.out, Lib.hid (by rw [hsdp.out, hDD.out]; rfl), Lib.hid ⟨rfl, rfl, rfl, rfl⟩⟩
        case rest =>
          as_aux_lemma =>
            clear f0 f2 fz e9 hW
            obtain ⟨s1, rfl, hs1, hs2⟩ := hcut
            obtain ⟨bb, hbb⟩ : ∃ b : Bool, b = decide (k < l.length) := ⟨_, rfl⟩
            have HB := Lib.hid hbb
            clear hbb
            have f2 := cell_putD_dp w1 b s1 hb1
            rw [hs1.out] at f2
            have fz := fun i => frozen_putD w1 b s1 i hb1
            have e9 := Lib.hid (fun x => set_putD_dp w1 b s1 x)
            obtain ⟨W, hW⟩ : ∃ W, W = putD w1 b s1 := ⟨_, rfl⟩
            rw [← hW] at f2 ⊢
            simp only [← hW] at fz e9
            replace hW := Lib.hid hW
            go_upto_region 32 with (fail)
            go_cut [138] (fun s138 wx => wx = W ∧ s138 = .bool bb)
            case first =>
              as_aux_lemma =>
                by_cases hlt : k < l.length
                · have HQ := Lib.hid (show bb = true by rw [HB.out]; simp [hlt])
                  have hkd : decide ((k : Int) < (l.length : Nat)) = true := by simp; omega
                  have hy : (bits .or .u8 (bt ⟨l.toArray⟩ k) 32 == 101) = true := by
                    rw [bt_bs l k hlt]
                    cases HT.out with
                    | none h => omega
                    | exp q neg hk he hq hs hq2 hd => exact lower_e he
                  go_wp2_with (go_at_call 132; refine (Tryz.internal_strconv_lower _ _).mono ?_; rintro e w' ⟨rfl, rfl⟩)
                  go_meet
                  exact ⟨rfl, by rw [HQ.out]⟩
                · have HQ := Lib.hid (show bb = false by rw [HB.out]; simp [hlt])
                  have hkd : decide ((k : Int) < (l.length : Nat)) = false := by simp; omega
                  go_wp2_with fail
                  go_meet
                  exact ⟨rfl, by rw [HQ.out]⟩
            case rest =>
              as_aux_lemma =>
                obtain ⟨rfl, rfl⟩ := hcut
                go_upto_if 138 with (fail)
                go_cut [5, 8, 9] (fun s5 s8 s9 wx => s5 = .int .i64 (l.length : Nat) ∧ ∃ (M : Nat) (s2 : Dec), wx = putD (w.drewN M) b s2 ∧ Hid (s2.dp = D1 + xx) ∧ Hid (s2.nd = s.nd ∧ s2.d = s.d ∧ s2.neg = s.neg ∧ s2.tr = s.tr))
                case first =>
                  as_aux_lemma =>
                    cases HT.out with
                    | none h =>
                      have HQ := Lib.hid (show bb = false by rw [HB.out]; simp; omega)
                      cases bb with
                      | true => cases HQ.out
                      | false =>
                      subst h
                      go_wp2_with fail
                      go_meet
                      exact ⟨rfl, N, s1, by rw [← hw1.out]; exact hW.out, Lib.hid (by rw [hs1.out, Int.add_zero]), hs2⟩
                    | exp q neg hk he hq hs hq2 hd =>
                      have HQ := Lib.hid (show bb = true by rw [HB.out]; simp; omega)
                      cases bb with
                      | false => cases HQ.out
                      | true =>
                      have hk1 : k + 1 < l.length := by omega
                      have hss := Lib.hid (hs hk1)
                      have hdd := Lib.hid hd
                      have heb := Lib.hid he
                      clear hs hd he HQ HB
                      obtain ⟨sg, hsg⟩ : ∃ sg : Int, sg = if neg then -1 else 1 := ⟨_, rfl⟩
                      have HSG := Lib.hid hsg
                      clear hsg
                      go_upto_block 4 with (fail)
                      go_cut [5, 8] (fun s5 s8 wx => wx = wc ∧ s5 = .int .i64 (q : Nat) ∧ s8 = .int .i64 sg)
                      case first =>
                        as_aux_lemma =>
                          rcases hss.out with ⟨rfl, rfl⟩ | ⟨rfl, c, rfl⟩ | ⟨rfl, c, rfl⟩
                          · have dd := dig_iff.1 (hdd.out (k + 1) hk1 (Nat.le_refl _))
                            have u1 : (bt ⟨l.toArray⟩ (k + 1) == 43) = false := by rw [bt_bs l _ hk1, beq_eq_false_iff_ne]; omega
                            have u2 : (bt ⟨l.toArray⟩ (k + 1) == 45) = false := by rw [bt_bs l _ hk1, beq_eq_false_iff_ne]; omega
                            clear dd
                            go_wp2_with fail
                            go_meet
                            exact ⟨rfl, by go_num, by rw [HSG.out]; rfl⟩
                          · have u1 : (bt ⟨l.toArray⟩ (k + 1) == 43) = true := by rw [bt_bs l _ hk1, c]; rfl
                            clear c
                            go_wp2_with fail
                            go_meet
                            exact ⟨rfl, by go_num, by rw [HSG.out]; rfl⟩
                          · have u1 : (bt ⟨l.toArray⟩ (k + 1) == 43) = false := by rw [bt_bs l _ hk1, c]; rfl
                            have u2 : (bt ⟨l.toArray⟩ (k + 1) == 45) = true := by rw [bt_bs l _ hk1, c]; rfl
                            clear c
                            go_wp2_with fail
                            go_meet
                            exact ⟨rfl, by go_num, by rw [HSG.out]; rfl⟩
                      case rest =>
                        as_aux_lemma =>
                          obtain ⟨rfl, rfl, rfl⟩ := hcut
                          have dq := dig_iff.1 (hdd.out q hq2 (Nat.le_refl _))
                          have v1 : 48 ≤ bt ⟨l.toArray⟩ q := by rw [bt_bs l _ hq2]; omega
                          have v2 : bt ⟨l.toArray⟩ q ≤ 57 := by rw [bt_bs l _ hq2]; omega
                          have v3 : decide (bt ⟨l.toArray⟩ q < 48) = false := by rw [decide_eq_false_iff_not]; omega
                          have v4 : decide (57 < bt ⟨l.toArray⟩ q) = false := by rw [decide_eq_false_iff_not]; omega
                          have v5 : decide (l.length ≤ q) = false := by rw [decide_eq_false_iff_not]; omega
                          clear dq
                          obtain ⟨E, hE⟩ : ∃ E, E = eF (l.drop q) 0 := ⟨_, rfl⟩
                          have hEb : E ≤ 99999 := by
                            rw [hE]
                            refine eF_le _ _ (by omega) ?_
                            intro c hc
                            obtain ⟨j, hj, rfl⟩ := List.getElem_of_mem hc
                            rw [List.getElem_drop]
                            rw [List.length_drop] at hj
                            exact hdd.out _ (by omega) (by omega)
                          have HE := Lib.hid hE
                          clear hE
                          go_wp2_with fail
                          go_loop [5, 9] (fun s5 s9 => ∃ (j e : Nat), s5 = .int .i64 (j : Nat) ∧ s9 = .int .i64 (e : Nat) ∧ q ≤ j ∧ j ≤ l.length ∧ e ≤ 99999 ∧ Hid (E = eF (l.drop j) e)) (fun s5 _ => l.length - (intOf s5).toNat)
                          case atStart => exact ⟨q, 0, rfl, rfl, Nat.le_refl _, by omega, by omega, HE⟩
                          case round =>
                            obtain ⟨j, e, rfl, rfl, hj1, hj2, he, HJ⟩ := hrel
                            by_cases hlt : j < l.length
                            · have dj := dig_iff.1 (hdd.out j hlt hj1)
                              have hbj := Lib.hid (bt_bs l j hlt)
                              have w1 : 48 ≤ bt ⟨l.toArray⟩ j := by rw [hbj.out]; omega
                              have w2 : bt ⟨l.toArray⟩ j ≤ 57 := by rw [hbj.out]; omega
                              have w3 : (bt ⟨l.toArray⟩ j == 95) = false := by rw [beq_eq_false_iff_ne]; omega
                              have HK := Lib.hid (show E = eF (l.drop (j + 1)) (if e < 10000 then e * 10 + (l[j].toNat - 48) else e) by rw [HJ.out, List.drop_eq_getElem_cons hlt]; rfl)
                              by_cases he2 : e < 10000
                              · have HK2 := Lib.hid (show E = eF (l.drop (j + 1)) (e * 10 + (l[j].toNat - 48)) by rw [HK.out, if_pos he2])
                                have hfin := Lib.hid (show (e : Int) * 10 + bt ⟨l.toArray⟩ j - 48 = ((e * 10 + (l[j].toNat - 48) : Nat) : Int) by rw [hbj.out]; omega)
                                have hfb : e * 10 + (l[j].toNat - 48) ≤ 99999 := by omega
                                clear dj
                                go_wp2
                                go_round
                                case rel => exact ⟨j + 1, e * 10 + (l[j].toNat - 48), by go_num, by rw [← hfin.out], by omega, by omega, hfb, HK2⟩
                                case measure => simp [intOf]; omega
                              · have HK2 := Lib.hid (show E = eF (l.drop (j + 1)) e by rw [HK.out, if_neg he2])
                                clear dj
                                go_wp2
                                go_round
                                case rel => exact ⟨j + 1, e, by go_num, rfl, by omega, by omega, he, HK2⟩
                                case measure => simp [intOf]; omega
                            · have hj : j = l.length := by omega
                              have HK2 := Lib.hid (show E = e by rw [HJ.out, List.drop_eq_nil_of_le (by omega)]; rfl)
                              subst hj
                              cases neg with
                              | false =>
                                obtain rfl : sg = 1 := HSG.out
                                have hxx : Hid ((if false = true then -((eF (l.drop q) 0 : Nat) : Int) else ((eF (l.drop q) 0 : Nat) : Int)) = (e : Int)) := Lib.hid (by rw [if_neg (by decide), ← HE.out, HK2.out])
                                go_wp2
                                go_meet
                                refine ⟨rfl, N, _, by rw [← hw1.out]; exact e9.out _, ?_, ?_⟩
                                · exact Lib.hid (by rw [hxx.out])
                                · exact Lib.hid hs2.out
                              | true =>
                                obtain rfl : sg = -1 := HSG.out
                                have hxx : Hid ((if true = true then -((eF (l.drop q) 0 : Nat) : Int) else ((eF (l.drop q) 0 : Nat) : Int)) = -(e : Int)) := Lib.hid (by rw [if_pos rfl, ← HE.out, HK2.out])
                                go_wp2
                                go_meet
                                refine ⟨rfl, N, _, by rw [← hw1.out]; exact e9.out _, ?_, ?_⟩
                                · exact Lib.hid (by first | (rw [hxx.out]; done) | (rw [hxx.out]; dsimp only; omega))
                                · exact Lib.hid hs2.out
                case rest =>
                  as_aux_lemma =>
                    obtain ⟨rfl, M, s2, rfl, hs3, hs4⟩ := hcut
                    obtain ⟨r1, r2, r3, r4, r5, r6, r7⟩ := hfin.out s2 hs4.out.1 hs4.out.2.1 hs4.out.2.2.1 hs4.out.2.2.2
                    have hans : Hid (∃ N s, putD (w.drewN M) b s2 = (putD w b s).drewN N ∧ s.neg = g ∧ s.tr = false ∧ s.nd = (a.nd : Nat) ∧ s.dp = dpF a + xx ∧ (∀ i, i < a.nd → 48 ≤ s.d i ∧ s.d i ≤ 57) ∧ (0 < a.nd → s.d 0 ≠ 48) ∧ ScI a (pv (dgt s.d) a.nd) ∧ pv (dgt s.d) a.nd = RD) := Lib.hid ⟨M, s2, rfl, r1, r2, r3, by rw [hs3.out, hD1.out], r4, r5, r6, r7⟩
                    clear hfin hs3 hs4 r1 r2 r3 r4 r5 r6 r7 fz e9 hsdp hDD
                    generalize putD (w.drewN M) b s2 = W9 at hans ⊢
                    go_wp2_with fail
                    go_ret
                    exact ⟨rfl, hans.out⟩
end Go.Proofs.YtapinbbflfkglaaGreatDoor
