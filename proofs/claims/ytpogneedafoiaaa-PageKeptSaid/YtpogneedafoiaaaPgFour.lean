/- Contracts by hand, and plain words about them: PgR, RfP, PgW, PgX. -/
import Derived.Test.YtpogneedafoiaaaPgTwo
import Derived.Test.YtpogneedafoiaaaPgThree
import Derived.Test.YtpogneedafoiaaaRfA
namespace Go.Proofs.Ytpogneedafoiaaa.Pg
open Go.RowKit Go.Proofs.YtpogneedafoiaaaW.PrintWords Go.Proofs.Ytpogneedafoiaaa.Bw Go.Proofs.Ytpogneedafoiaaa.Crc Go.Proofs.Ytpogneedafoiaaa.Wordy
set_option linter.unusedVariables false
set_option linter.unusedSimpArgs false

def Agree (p q : List Int) : Prop := p.length = 512 ∧ q.length = 512 ∧ ∀ j, (12 ≤ j ∧ j < 18 ∨ 26 ≤ j ∧ j < 512) → p.getD j 0 = q.getD j 0
theorem Agree.trans {p q r : List Int} (h : Agree p q) (k : Agree q r) : Agree p r := ⟨h.1, k.2.1, fun j hj => (h.2.2 j hj).trans (k.2.2 j hj)⟩
theorem Agree.cut {p q : List Int} (h : Agree p q) {b s : Nat} (hb : 12 ≤ b ∧ b + s ≤ 18 ∨ 26 ≤ b ∧ b + s ≤ 512) : (p.drop b).take s = (q.drop b).take s :=
  cut_congr (by have := h.1; omega) (by have := h.2.1; omega) (fun j hj => h.2.2 (b + j) (by omega))
theorem Agree.num {p q : List Int} (h : Agree p q) {b s : Nat} (hb : 12 ≤ b ∧ b + s ≤ 18 ∨ 26 ≤ b ∧ b + s ≤ 512) : numAt p b s = numAt q b s := by
  unfold numAt
  rw [h.cut hb]
theorem Agree.cnt {p q : List Int} (h : Agree p q) : cnt p = cnt q := h.num (by omega)
theorem Agree.low {p q : List Int} (h : Agree p q) : lowP p = lowP q := h.num (by omega)
theorem Agree.frm {p q : List Int} (h : Agree p q) {i : Nat} (hi : 30 + 4 * i ≤ 512) : frm p i = frm q i := h.num (by omega)
theorem Agree.sz {p q : List Int} (h : Agree p q) {i : Nat} (hi : 30 + 4 * i ≤ 512) : szP p i = szP q i := h.num (by omega)
theorem Agree.chk {p q : List Int} (h : Agree p q) : ∀ (d i : Nat) (T : List Bool), 26 + 4 * (i + d) ≤ 512 → chkB p T i d = chkB q T i d := by
  intro d
  induction d with
  | zero => intro i T _; rfl
  | succ d ih =>
    intro i T hi
    simp only [chkB, h.frm (show 30 + 4 * i ≤ 512 by omega), h.sz (show 30 + 4 * i ≤ 512 by omega), h.low]
    rw [show (fun T' => chkB p T' (i + 1) d) = (fun T' => chkB q T' (i + 1) d) from funext fun T' => ih (i + 1) T' (by omega)]
theorem Agree.good {p q : List Int} (h : Agree p q) : goodP p = goodP q := by
  have e13 := h.2.2 13 (by omega)
  unfold goodP
  rw [h.1, h.2.1, h.cnt, h.low, e13]
  simp only [if_true]
  by_cases h1 : q.getD 13 0 = 0
  · rw [if_pos h1, if_pos h1]
    by_cases h2 : 26 + 4 * Pg.cnt q ≤ lowP q ∧ lowP q ≤ 512
    · rw [if_pos h2, if_pos h2, h.chk _ _ _ (by omega)]
    · rw [if_neg h2, if_neg h2]
  · rw [if_neg h1, if_neg h1]
def cellsP (p : List Int) : List (List Int) := (List.range (cnt p)).map (cellP p)
theorem cellsP_length (p : List Int) : (cellsP p).length = cnt p := by unfold cellsP; rw [List.length_map, List.length_range]
theorem Agree.cells {p q : List Int} (h : Agree p q) (hg : goodP p = true) : cellsP p = cellsP q := by
  obtain ⟨h1, h2, h3, h4, h5, h6⟩ := good_facts hg
  unfold cellsP
  rw [← h.cnt]
  refine List.map_congr_left (fun i hi => ?_)
  have hi := List.mem_range.mp hi
  have h7 := h6 i hi
  unfold cellP
  rw [← h.frm (by omega), ← h.sz (by omega)]
  exact h.cut (by omega)
theorem agree_over {p : List Int} (hl : p.length = 512) {a : Nat} {l : List Int} (h : a + l.length ≤ 12 ∨ 18 ≤ a ∧ a + l.length ≤ 26) : Agree p (over p a l) := by
  refine ⟨hl, over_len hl (by omega), fun j hj => ?_⟩
  rw [over_getD _ _ _ (by omega), if_neg (by omega)]
theorem agree_set {p : List Int} (hl : p.length = 512) (x y : Int) : Agree p (setP p x y) := by
  have h1 : Agree p (over p 18 (leB x 4)) := agree_over hl (by rw [leB_length]; omega)
  exact h1.trans (agree_over h1.2.1 (by rw [leB_length]; omega))
theorem agree_seal {p : List Int} (hl : p.length = 512) (lsn : Int) : Agree p (sealP p lsn) := by
  have h1 : Agree p (sealB p lsn) := agree_over hl (by rw [leB_length]; omega)
  exact h1.trans (agree_over h1.2.1 (by rw [leB_length]; omega))
theorem setP_len {p : List Int} (hl : p.length = 512) (x y : Int) : (setP p x y).length = 512 := (agree_set hl x y).2.1
theorem setP_octs {p : List Int} (ho : octs p) (x y : Int) : octs (setP p x y) := over_octs (over_octs ho _ (leB_octs _ _)) _ (leB_octs _ _)
theorem setP_link {p : List Int} (hl : p.length = 512) (x : Nat) (y : Int) (hx : x < 4294967296) : numAt (setP p (x : Int) y) 18 4 = x := by
  have h32 : (2 : Nat) ^ (8 * 4) = 4294967296 := by decide
  unfold setP
  rw [numAt_over_ne (by rw [leB_length, over_len hl (by rw [leB_length]; decide)]; decide) (by rw [over_len hl (by rw [leB_length]; decide)]; decide) (by omega)]
  exact numAt_over_leB (by rw [hl]; decide) (by rw [h32]; exact hx)
theorem setP_extra {p : List Int} (hl : p.length = 512) (x : Int) (y : Nat) (hy : y < 4294967296) : numAt (setP p x (y : Int)) 22 4 = y := by
  have h32 : (2 : Nat) ^ (8 * 4) = 4294967296 := by decide
  unfold setP
  exact numAt_over_leB (by rw [over_len hl (by rw [leB_length]; decide)]; decide) (by rw [h32]; exact hy)
theorem setP_lsn {p : List Int} (hl : p.length = 512) (x y : Int) : numAt (setP p x y) 4 8 = numAt p 4 8 := by
  unfold setP
  rw [numAt_over_ne (by rw [leB_length, over_len hl (by rw [leB_length]; decide)]; decide) (by rw [over_len hl (by rw [leB_length]; decide)]; decide) (by omega), numAt_over_ne (by rw [leB_length, hl]; decide) (by rw [hl]; decide) (by omega)]
theorem sealP_num {p : List Int} (hl : p.length = 512) (lsn : Int) {b s : Nat} (hb : 12 ≤ b) (hs : b + s ≤ 512) : numAt (sealP p lsn) b s = numAt p b s := numAt_tail (sealP_tail hl lsn) s hb
theorem octs_cells {p : List Int} (ho : octs p) : octsL (cellsP p) := by
  intro l hl
  unfold cellsP at hl
  obtain ⟨i, _, rfl⟩ := List.mem_map.mp hl
  exact octs_take (octs_drop ho _) _
theorem agree_kind {p q : List Int} (h : Agree p q) : p.getD 12 0 = q.getD 12 0 := h.2.2 12 (by omega)
end Go.Proofs.Ytpogneedafoiaaa.Pg
namespace Go.Proofs.Ytpogneedafoiaaa.Pg
open Go.RowKit Go.Proofs.YtpogneedafoiaaaW.PrintWords Go.Proofs.Ytpogneedafoiaaa.Bw Go.Proofs.Ytpogneedafoiaaa.Crc Go.Proofs.Ytpogneedafoiaaa.Wordy Go.Proofs.Ytpogneedafoiaaa.Rf
set_option linter.unusedVariables false
set_option linter.unusedSimpArgs false

theorem Get_l0 (b : List Int) (ho : octs b) (hb : b.length ≤ 9223372036854775807) (at_ size : Nat) (h : at_ + size ≤ b.length) (hs : size ≤ 8) : ∀ (d j : Nat), d ≤ size →
    munimentref1_Get.l0 (j + d + 1) b (at_ : Int) ((numAt b (at_ + d) (size - d) : Nat) : Int) ((d : Int) - 1) = some ((numAt b at_ size : Nat) : Int) := by
  intro d
  induction d with
  | zero =>
    intro j _
    simp only [munimentref1_Get.l0]
    rw [if_neg (by omega)]
    simp
  | succ d ih =>
    intro j hd
    have e : j + (d + 1) + 1 = (j + d + 1) + 1 := by omega
    rw [e]
    simp only [munimentref1_Get.l0]
    have e1 : (((d + 1 : Nat) : Int) - 1) = (d : Int) := by omega
    rw [e1, w64 (n := (at_ : Int) + (d : Int)) (by omega) (by omega), w64 (n := (d : Int) - 1) (by omega) (by omega)]
    rw [if_pos (by omega), if_pos (by omega), if_pos (by omega)]
    have e2 : size - d = (size - (d + 1)) + 1 := by omega
    have hs2 := shift_or b ho at_ d (size - (d + 1)) (by omega) (by omega)
    rw [hs2, ← e2]
    exact ih j (by omega)
theorem Get_eq (b : List Int) (ho : octs b) (hb : b.length ≤ 9223372036854775807) (at_ size k : Nat) (h : at_ + size ≤ b.length) (hs : size ≤ 8) (hk : 9 ≤ k) : munimentref1_Get.f k b (at_ : Int) (size : Int) = some ((numAt b at_ size : Nat) : Int) := by
  obtain ⟨j, rfl⟩ : ∃ j, k = j + size + 1 := ⟨k - size - 1, by omega⟩
  have := Get_l0 b ho hb at_ size h hs size j (Nat.le_refl _)
  unfold munimentref1_Get.f
  rw [w64 (n := (size : Int) - 1) (by omega) (by omega)]
  rw [Nat.sub_self] at this
  have e0 : numAt b (at_ + size) 0 = 0 := by simp [numAt, num]
  rw [e0] at this
  exact this
theorem rget_eq (b : List Int) (ho : octs b) (hb : b.length ≤ 9223372036854775807) (at_ size k : Nat) (h : at_ + size ≤ b.length) (hs : size ≤ 4) (hk : 9 ≤ k) : munimentref5_get.f k b (at_ : Int) (size : Int) = some ((numAt b at_ size : Nat) : Int) := by
  unfold munimentref5_get.f
  rw [Get_eq b ho hb at_ size k h (by omega) hk]
  have hlt := numAt_lt b ho at_ size
  have : 2 ^ (8 * size) ≤ 2 ^ 32 := Nat.pow_le_pow_right (by decide) (by omega)
  simp only [Option.bind_some, Nat.reducePow] at *
  rw [w64 (by omega) (by omega)]
section
variable (p : List Int) (ho : octs p) (hl : p.length = 512) (k : Nat) (hk : 9 ≤ k)
include ho hl hk
theorem rlow_eq : munimentref5_Low.f k p = some ((lowP p : Nat) : Int) := by
  unfold munimentref5_Low.f
  have := rget_eq p ho (by omega) 16 2 k (by omega) (by omega) hk
  rw [show ((16 : Nat) : Int) = 16 from rfl, show ((2 : Nat) : Int) = 2 from rfl] at this
  rw [this]
  rfl
theorem rcnt_eq : munimentref5_Count.f k p = some ((cnt p : Nat) : Int) := by
  unfold munimentref5_Count.f
  have := rget_eq p ho (by omega) 14 2 k (by omega) (by omega) hk
  rw [show ((14 : Nat) : Int) = 14 from rfl, show ((2 : Nat) : Int) = 2 from rfl] at this
  rw [this]
  rfl
theorem rslot_eq (i : Nat) (hi : 30 + 4 * i ≤ 512) : munimentref5_slot.f k p (i : Int) = some (((frm p i : Nat) : Int), ((szP p i : Nat) : Int)) := by
  unfold munimentref5_slot.f
  have h1 := rget_eq p ho (by omega) (26 + 4 * i) 2 k (by omega) (by omega) hk
  have h2 := rget_eq p ho (by omega) (28 + 4 * i) 2 k (by omega) (by omega) hk
  rw [w64 (n := 4 * (i : Int)) (by omega) (by omega), w64 (n := 26 + 4 * (i : Int)) (by omega) (by omega), w64 (n := 28 + 4 * (i : Int)) (by omega) (by omega)]
  rw [show ((26 + 4 * i : Nat) : Int) = 26 + 4 * (i : Int) by omega, show ((2 : Nat) : Int) = 2 from rfl] at h1
  rw [show ((28 + 4 * i : Nat) : Int) = 28 + 4 * (i : Int) by omega, show ((2 : Nat) : Int) = 2 from rfl] at h2
  rw [h1, h2]
  rfl
end
end Go.Proofs.Ytpogneedafoiaaa.Pg
namespace Go.Proofs.Ytpogneedafoiaaa.Pg
open Go.RowKit Go.Proofs.YtpogneedafoiaaaW.PrintWords Go.Proofs.Ytpogneedafoiaaa.Bw Go.Proofs.Ytpogneedafoiaaa.Crc Go.Proofs.Ytpogneedafoiaaa.Wordy
set_option linter.unusedVariables false
set_option linter.unusedSimpArgs false

theorem markB_iff : ∀ (m : Nat) (T : List Bool) (k : Nat), k + m ≤ T.length →
    ((∀ x, k ≤ x → x < k + m → T.getD x false = false) → ∃ T', markB T k m = some T' ∧ T'.length = T.length ∧ ∀ x, T'.getD x false = (T.getD x false || decide (k ≤ x ∧ x < k + m))) ∧
    ((∃ x, k ≤ x ∧ x < k + m ∧ T.getD x false = true) → markB T k m = none) := by
  intro m
  induction m with
  | zero =>
    intro T k _
    refine ⟨fun _ => ⟨T, rfl, rfl, fun x => ?_⟩, fun ⟨x, h1, h2, _⟩ => absurd h2 (by omega)⟩
    rw [decide_eq_false (by omega), Bool.or_false]
  | succ m ih =>
    intro T k hk
    have hset : ∀ x, (T.set k true).getD x false = if x = k then true else T.getD x false := by
      intro x
      rw [List.getD_eq_getElem?_getD, List.getElem?_set, List.getD_eq_getElem?_getD]
      by_cases hx : k = x
      · subst hx; simp [show k < T.length by omega]
      · rw [if_neg hx, if_neg (fun e => hx e.symm)]
    obtain ⟨i1, i2⟩ := ih (T.set k true) (k + 1) (by rw [List.length_set]; omega)
    refine ⟨fun h => ?_, fun ⟨x, h1, h2, h3⟩ => ?_⟩
    · have hkk := h k (Nat.le_refl _) (by omega)
      obtain ⟨T', e1, e2, e3⟩ := i1 (fun x hx1 hx2 => by rw [hset, if_neg (by omega)]; exact h x (by omega) (by omega))
      refine ⟨T', by rw [markB, if_neg (by rw [hkk]; decide)]; exact e1, by rw [e2, List.length_set], fun x => ?_⟩
      rw [e3, hset]
      by_cases hx : x = k
      · subst hx
        rw [if_pos rfl, decide_eq_true (show x ≤ x ∧ x < x + (m + 1) by omega)]
        simp
      · rw [if_neg hx]
        congr 1
        exact decide_eq_decide.mpr (by omega)
    · rw [markB]
      by_cases hkk : T.getD k false = true
      · rw [if_pos hkk]
      · rw [if_neg hkk]
        have hne : x ≠ k := by intro e; rw [e] at h3; exact hkk h3
        exact i2 ⟨x, by omega, by omega, by rw [hset, if_neg hne]; exact h3⟩
/-- which bytes a cell has -/
def inC (p : List Int) (i x : Nat) : Prop := frm p i ≤ x ∧ x < frm p i + szP p i
theorem chkB_iff (p : List Int) : ∀ (d i : Nat) (T : List Bool), T.length = 512 →
    (chkB p T i d = true ↔ (∀ j, i ≤ j → j < i + d → lowP p ≤ frm p j ∧ frm p j + szP p j ≤ 512 ∧ ∀ x, inC p j x → T.getD x false = false) ∧ ∀ j k x, i ≤ j → j < k → k < i + d → inC p j x → ¬ inC p k x) := by
  intro d
  induction d with
  | zero =>
    intro i T _
    exact ⟨fun _ => ⟨fun j h1 h2 => absurd h2 (by omega), fun j k x h1 h2 h3 => absurd h3 (by omega)⟩, fun _ => rfl⟩
  | succ d ih =>
    intro i T hT
    rw [chkB]
    by_cases h1 : frm p i < lowP p ∨ 512 < frm p i + szP p i
    · rw [if_pos h1]
      refine ⟨fun h => (by cases h), fun ⟨h, _⟩ => ?_⟩
      have := h i (Nat.le_refl _) (by omega)
      omega
    · rw [if_neg h1]
      obtain ⟨m1, m2⟩ := markB_iff (szP p i) T (frm p i) (by omega)
      by_cases hx : ∃ x, frm p i ≤ x ∧ x < frm p i + szP p i ∧ T.getD x false = true
      · rw [m2 hx]
        refine ⟨fun h => (by cases h), fun ⟨h, _⟩ => ?_⟩
        obtain ⟨x, a, b, c⟩ := hx
        have := (h i (Nat.le_refl _) (by omega)).2.2 x ⟨a, b⟩
        rw [c] at this
        cases this
      · have hx2 : ∀ x, frm p i ≤ x → x < frm p i + szP p i → T.getD x false = false := by
          intro x a b
          cases hv : T.getD x false with
          | false => rfl
          | true => exact absurd ⟨x, a, b, hv⟩ hx
        obtain ⟨T', e1, e2, e3⟩ := m1 hx2
        rw [e1]
        show chkB p T' (i + 1) d = true ↔ _
        rw [ih (i + 1) T' (by omega)]
        constructor
        · rintro ⟨a, b⟩
          refine ⟨fun j hj1 hj2 => ?_, fun j k x hj hk1 hk2 hi hk => ?_⟩
          · rcases Nat.eq_or_lt_of_le hj1 with e | e
            · subst e
              exact ⟨by omega, by omega, fun x hx => hx2 x hx.1 hx.2⟩
            · have := a j (by omega) (by omega)
              refine ⟨this.1, this.2.1, fun x hx => ?_⟩
              have h3 := this.2.2 x hx
              rw [e3] at h3
              exact (Bool.or_eq_false_iff.mp h3).1
          · rcases Nat.eq_or_lt_of_le hj with e | e
            · subst e
              have := (a k (by omega) (by omega)).2.2 x hk
              rw [e3] at this
              have h4 := (Bool.or_eq_false_iff.mp this).2
              exact absurd (show frm p i ≤ x ∧ x < frm p i + szP p i from hi) (of_decide_eq_false h4)
            · exact b j k x (by omega) hk1 (by omega) hi hk
        · rintro ⟨a, b⟩
          refine ⟨fun j hj1 hj2 => ?_, fun j k x hj hk1 hk2 hi hk => b j k x (by omega) hk1 (by omega) hi hk⟩
          have := a j (by omega) (by omega)
          refine ⟨this.1, this.2.1, fun x hx => ?_⟩
          rw [e3, this.2.2 x hx, Bool.false_or]
          exact decide_eq_false (p := frm p i ≤ x ∧ x < frm p i + szP p i) (fun h => b i j x (Nat.le_refl _) (by omega) (by omega) h hx)
structure WF (p : List Int) : Prop where
  len : p.length = 512
  none_ : p.getD 13 0 = 0
  slots : 26 + 4 * cnt p ≤ lowP p
  low : lowP p ≤ 512
  fit : ∀ i, i < cnt p → lowP p ≤ frm p i ∧ frm p i + szP p i ≤ 512
  apart : ∀ i j x, i < j → j < cnt p → inC p i x → ¬ inC p j x
theorem good_iff {p : List Int} : goodP p = true ↔ WF p := by
  unfold goodP
  constructor
  · intro h
    by_cases h1 : p.length = 512
    · rw [if_pos h1] at h
      by_cases h2 : p.getD 13 0 = 0
      · rw [if_pos h2] at h
        by_cases h3 : 26 + 4 * cnt p ≤ lowP p ∧ lowP p ≤ 512
        · rw [if_pos h3] at h
          obtain ⟨a, b⟩ := (chkB_iff p (cnt p) 0 _ List.length_replicate).mp h
          exact ⟨h1, h2, h3.1, h3.2, fun i hi => ⟨(a i (by omega) (by omega)).1, (a i (by omega) (by omega)).2.1⟩, fun i j x hi hj => b i j x (by omega) hi (by omega)⟩
        · rw [if_neg h3] at h; cases h
      · rw [if_neg h2] at h; cases h
    · rw [if_neg h1] at h; cases h
  · rintro ⟨h1, h2, h3, h4, h5, h6⟩
    rw [if_pos h1, if_pos h2, if_pos ⟨h3, h4⟩]
    refine (chkB_iff p (cnt p) 0 _ List.length_replicate).mpr ⟨fun j _ hj => ⟨(h5 j (by omega)).1, (h5 j (by omega)).2, fun x _ => replicate_getD 512 x⟩, fun i j x _ hi hj => h6 i j x hi (by omega)⟩

section
variable {p : List Int} (hl : p.length = 512) (hf : Fits p)
include hl hf
theorem anK_step {k : Nat} (hk : k < cnt p) : ∃ a b, anK p (k + 1) = over (over a (26 + 4 * k) (leB ((512 - sumSz p (k + 1) : Nat) : Int) 2)) (28 + 4 * k) (leB ((szP p k : Nat) : Int) 2) ∧ a = over (anK p k) (512 - sumSz p (k + 1)) (cellP p k) ∧ b = over a (26 + 4 * k) (leB ((512 - sumSz p (k + 1) : Nat) : Int) 2) ∧ (anK p k).length = 512 ∧ a.length = 512 ∧ b.length = 512 ∧ (cellP p k).length = szP p k ∧ sumSz p (k + 1) = sumSz p k + szP p k ∧ sumSz p (k + 1) ≤ sumSz p (cnt p) ∧ 26 + 4 * cnt p + sumSz p (cnt p) ≤ 512 := by
  have h1 := hf.1
  have h2 := hf.2 k hk
  have h3 := sumSz_mono p (show k + 1 ≤ cnt p from hk)
  have h4 : sumSz p (k + 1) = sumSz p k + szP p k := rfl
  have h5 := anK_length hl hf k (by omega)
  have h6 := cellP_length hl h2
  have e1 : (over (anK p k) (512 - sumSz p (k + 1)) (cellP p k)).length = 512 := over_len h5 (by omega)
  exact ⟨_, _, rfl, rfl, rfl, h5, e1, over_len e1 (by rw [leB_length]; omega), h6, h4, h3, h1⟩
/-- numbers and bytes that round k does not write -/
theorem anK_cut {k : Nat} (hk : k < cnt p) {b s : Nat} (hb : b + s ≤ 512) (h1 : b + s ≤ 26 + 4 * k ∨ 30 + 4 * k ≤ b) (h2 : b + s ≤ 512 - sumSz p (k + 1) ∨ 512 - sumSz p k ≤ b) : ((anK p (k + 1)).drop b).take s = ((anK p k).drop b).take s := by
  obtain ⟨a, c, e, ea, ec, l1, l2, l3, l4, l5, l6, l7⟩ := anK_step hl hf hk
  rw [e, ← ec, cut_over_ne (by rw [leB_length]; omega) (by omega) (by rw [leB_length]; omega), ec, cut_over_ne (by rw [leB_length]; omega) (by omega) (by rw [leB_length]; omega), ea, cut_over_ne (by omega) (by omega) (by omega)]
theorem anK_frm : ∀ k, k ≤ cnt p → ∀ i, i < k → frm (anK p k) i = 512 - sumSz p (i + 1) := by
  intro k
  induction k with
  | zero => intro _ i hi; omega
  | succ k ih =>
    intro hk i hi
    obtain ⟨a, c, e, ea, ec, l1, l2, l3, l4, l5, l6, l7⟩ := anK_step hl hf (show k < cnt p by omega)
    rcases Nat.lt_or_eq_of_le (Nat.le_of_lt_succ hi) with h | h
    · have := anK_cut hl hf (show k < cnt p by omega) (b := 26 + 4 * i) (s := 2) (by omega) (by omega) (by omega)
      have h2 := ih (by omega) i h
      unfold frm numAt at *
      rw [this, h2]
    · subst h
      unfold frm
      rw [e, ← ec, numAt_over_ne (by rw [leB_length]; omega) (by omega) (by omega), ec]
      exact numAt_over_leB (by omega) (by simp; omega)
theorem anK_sz : ∀ k, k ≤ cnt p → ∀ i, i < cnt p → szP (anK p k) i = szP p i := by
  intro k
  induction k with
  | zero => intro _ i _; rfl
  | succ k ih =>
    intro hk i hi
    obtain ⟨a, c, e, ea, ec, l1, l2, l3, l4, l5, l6, l7⟩ := anK_step hl hf (show k < cnt p by omega)
    by_cases h : i = k
    · subst h
      have h512 := hf.2 i hi
      unfold szP at *
      rw [e, ← ec]
      exact numAt_over_leB (by omega) (by simp; omega)
    · have := anK_cut hl hf (show k < cnt p by omega) (b := 28 + 4 * i) (s := 2) (by omega) (by omega) (by omega)
      have h2 := ih (by omega) i hi
      unfold szP numAt at *
      rw [this, h2]
theorem anK_cell : ∀ k, k ≤ cnt p → ∀ i, i < k → ((anK p k).drop (512 - sumSz p (i + 1))).take (szP p i) = cellP p i := by
  intro k
  induction k with
  | zero => intro _ i hi; omega
  | succ k ih =>
    intro hk i hi
    obtain ⟨a, c, e, ea, ec, l1, l2, l3, l4, l5, l6, l7⟩ := anK_step hl hf (show k < cnt p by omega)
    rcases Nat.lt_or_eq_of_le (Nat.le_of_lt_succ hi) with h | h
    · have hs := sumSz_mono p (show i + 1 ≤ k by omega)
      have hs2 : sumSz p (i + 1) = sumSz p i + szP p i := rfl
      rw [anK_cut hl hf (show k < cnt p by omega) (by omega) (by omega) (by omega)]
      exact ih (by omega) i h
    · subst h
      rw [e, ← ec, cut_over_ne (by rw [leB_length]; omega) (by omega) (by rw [leB_length]; omega), ec, cut_over_ne (by rw [leB_length]; omega) (by omega) (by rw [leB_length]; omega), ea]
      have := cut_over_eq (p := anK p i) (a := 512 - sumSz p (i + 1)) (l := cellP p i) (by omega)
      rw [l4] at this
      exact this
/-- behind the rounds: what the zeros and low do not touch -/
theorem anew_cut {b s : Nat} (hb : b + s ≤ 512) (h1 : b + s ≤ 16 ∨ 18 ≤ b) (h2 : b + s ≤ 26 + 4 * cnt p ∨ 512 - sumSz p (cnt p) ≤ b) : ((anewP p).drop b).take s = ((anK p (cnt p)).drop b).take s := by
  have h3 := hf.1
  have hk := anK_length hl hf _ (Nat.le_refl _)
  have e1 : (over (anK p (cnt p)) (26 + 4 * cnt p) (List.replicate (512 - sumSz p (cnt p) - (26 + 4 * cnt p)) 0)).length = 512 := over_len hk (by rw [List.length_replicate]; omega)
  unfold anewP
  rw [cut_over_ne (by rw [leB_length]; omega) (by omega) (by rw [leB_length]; omega), cut_over_ne (by rw [List.length_replicate]; omega) (by omega) (by rw [List.length_replicate]; omega)]
theorem anew_frm {i : Nat} (hi : i < cnt p) : frm (anewP p) i = 512 - sumSz p (i + 1) := by
  have h3 := hf.1
  have h := anK_frm hl hf _ (Nat.le_refl _) i hi
  have := anew_cut hl hf (b := 26 + 4 * i) (s := 2) (by omega) (by omega) (by omega)
  unfold frm numAt at *
  rw [this, h]
theorem anew_sz {i : Nat} (hi : i < cnt p) : szP (anewP p) i = szP p i := by
  have h3 := hf.1
  have h := anK_sz hl hf _ (Nat.le_refl _) i hi
  have := anew_cut hl hf (b := 28 + 4 * i) (s := 2) (by omega) (by omega) (by omega)
  unfold szP numAt at *
  rw [this, h]
theorem anew_cell {i : Nat} (hi : i < cnt p) : cellP (anewP p) i = cellP p i := by
  have h3 := hf.1
  have hs := sumSz_mono p (show i + 1 ≤ cnt p from hi)
  have hs2 : sumSz p (i + 1) = sumSz p i + szP p i := rfl
  have h := anK_cell hl hf _ (Nat.le_refl _) i hi
  have := anew_cut hl hf (b := 512 - sumSz p (i + 1)) (s := szP p i) (by omega) (by omega) (by omega)
  have e1 := anew_frm hl hf hi
  have e2 := anew_sz hl hf hi
  unfold cellP at *
  rw [e1, e2, this, h]
theorem anew_sum : ∀ k, k ≤ cnt p → sumSz (anewP p) k = sumSz p k := by
  intro k
  induction k with
  | zero => intro _; rfl
  | succ k ih =>
    intro hk
    rw [sumSz, sumSz, ih (by omega), anew_sz hl hf (by omega)]
theorem anew_cells : cellsP (anewP p) = cellsP p := by
  unfold cellsP
  rw [anew_cnt hl hf]
  exact List.map_congr_left (fun i hi => anew_cell hl hf (List.mem_range.mp hi))
theorem anew_free : freeP (anewP p) = freeP p := by
  unfold freeP
  rw [anew_cnt hl hf, anew_sum hl hf _ (Nat.le_refl _)]
theorem anew_none : (anewP p).getD 13 0 = p.getD 13 0 := by
  have h3 := hf.1
  have hk := anK_length hl hf _ (Nat.le_refl _)
  have e1 : (over (anK p (cnt p)) (26 + 4 * cnt p) (List.replicate (512 - sumSz p (cnt p) - (26 + 4 * cnt p)) 0)).length = 512 := over_len hk (by rw [List.length_replicate]; omega)
  have hr : ∀ k, k ≤ cnt p → (anK p k).getD 13 0 = p.getD 13 0 := by
    intro k
    induction k with
    | zero => intro _; rfl
    | succ k ih =>
      intro hk
      obtain ⟨a, c, e, ea, ec, l1, l2, l3, l4, l5, l6, l7⟩ := anK_step hl hf (show k < cnt p by omega)
      rw [e, ← ec, over_getD _ _ _ (by rw [leB_length]; omega), if_neg (by omega), ec, over_getD _ _ _ (by rw [leB_length]; omega), if_neg (by omega), ea, over_getD _ _ _ (by omega), if_neg (by omega)]
      exact ih (by omega)
  unfold anewP
  rw [over_getD _ _ _ (by rw [leB_length]; omega), if_neg (by omega), over_getD _ _ _ (by rw [List.length_replicate]; omega), if_neg (by omega)]
  exact hr _ (Nat.le_refl _)
end
theorem anew_wf {p : List Int} (h : WF p) (hf : Fits p) : WF (anewP p) := by
  have h1 := hf.1
  refine ⟨anew_length h.len hf, by rw [anew_none h.len hf]; exact h.none_, ?_, ?_, fun i hi => ?_, fun i j x hij hj hi hx => ?_⟩
  · rw [anew_cnt h.len hf, anew_low h.len hf]; omega
  · rw [anew_low h.len hf]; omega
  · rw [anew_cnt h.len hf] at hi
    have hs := sumSz_mono p (show i + 1 ≤ cnt p from hi)
    have hs2 : sumSz p (i + 1) = sumSz p i + szP p i := rfl
    rw [anew_low h.len hf, anew_frm h.len hf hi, anew_sz h.len hf hi]
    omega
  · rw [anew_cnt h.len hf] at hj
    unfold inC at hi hx
    rw [anew_frm h.len hf hj, anew_sz h.len hf hj] at hx
    rw [anew_frm h.len hf (show i < cnt p by omega), anew_sz h.len hf (show i < cnt p by omega)] at hi
    have hs := sumSz_mono p (show j + 1 ≤ cnt p from hj)
    have hs2 : sumSz p (j + 1) = sumSz p j + szP p j := rfl
    have hs3 := sumSz_mono p (show i + 1 ≤ j from hij)
    omega
theorem anew_good {p : List Int} (h : goodP p = true) : goodP (anewP p) = true := good_iff.mpr (anew_wf (good_iff.mp h) (fits_of_good h))
end Go.Proofs.Ytpogneedafoiaaa.Pg
namespace Go.Proofs.Ytpogneedafoiaaa.Pg
open Go.RowKit Go.Proofs.YtpogneedafoiaaaW.PrintWords Go.Proofs.Ytpogneedafoiaaa.Bw Go.Proofs.Ytpogneedafoiaaa.Crc Go.Proofs.Ytpogneedafoiaaa.Wordy
set_option linter.unusedVariables false
set_option linter.unusedSimpArgs false

theorem leB_num : ∀ {l : List Int}, octs l → leB ((num l : Nat) : Int) l.length = l := by
  intro l
  induction l with
  | nil => intro _; rfl
  | cons x l ih =>
    intro h
    have hx := h x (by simp)
    have hl := ih (fun y hy => h y (by simp [hy]))
    rw [num_cons, List.length_cons]
    unfold leB at *
    rw [List.range_succ_eq_map, List.map_cons, List.map_map]
    have e0 : octOf ((x.toNat + 256 * num l : Nat) : Int) 0 = x := by
      unfold octOf
      rw [Nat.mul_zero, Int.pow_zero]
      omega
    rw [e0]
    congr 1
    refine Eq.trans (List.map_congr_left (g := octOf ((num l : Nat) : Int)) fun i _ => ?_) hl
    show octOf ((x.toNat + 256 * num l : Nat) : Int) (i + 1) = octOf ((num l : Nat) : Int) i
    unfold octOf
    have e1 : (2 : Int) ^ (8 * (i + 1)) = 256 * 2 ^ (8 * i) := by rw [show 8 * (i + 1) = 8 + 8 * i by omega, Int.pow_add]; rfl
    rw [e1, ← Int.ediv_ediv_of_nonneg (by decide)]
    congr 2
    omega
theorem over_self {q : List Int} {a : Nat} {l : List Int} (h : (q.drop a).take l.length = l) : over q a l = q := by
  unfold over
  rw [← List.drop_drop, ← List.append_assoc]
  have : l ++ List.drop l.length (List.drop a q) = q.drop a := by
    conv => lhs; lhs; rw [← h]
    exact List.take_append_drop _ _
  rw [List.append_assoc, this, List.take_append_drop]
theorem over_num_self {q : List Int} (ho : octs q) {a s : Nat} (h : a + s ≤ q.length) : over q a (leB ((numAt q a s : Nat) : Int) s) = q := by
  have hlen : ((q.drop a).take s).length = s := by rw [List.length_take, List.length_drop]; omega
  have e : leB ((numAt q a s : Nat) : Int) s = (q.drop a).take s := by
    have := leB_num (octs_take (octs_drop ho a) s)
    rw [hlen] at this
    exact this
  rw [e]
  exact over_self (by rw [hlen])
theorem over_nil (q : List Int) (a : Nat) : over q a [] = q := over_self (by simp)
theorem anew_zero {p : List Int} (hl : p.length = 512) (hf : Fits p) : ((anewP p).drop (26 + 4 * cnt p)).take (512 - sumSz p (cnt p) - (26 + 4 * cnt p)) = List.replicate (512 - sumSz p (cnt p) - (26 + 4 * cnt p)) 0 := by
  have h3 := hf.1
  have hk := anK_length hl hf _ (Nat.le_refl _)
  have e1 : (over (anK p (cnt p)) (26 + 4 * cnt p) (List.replicate (512 - sumSz p (cnt p) - (26 + 4 * cnt p)) 0)).length = 512 := over_len hk (by rw [List.length_replicate]; omega)
  unfold anewP
  rw [cut_over_ne (by rw [leB_length]; omega) (by omega) (by rw [leB_length]; omega)]
  have := cut_over_eq (p := anK p (cnt p)) (a := 26 + 4 * cnt p) (l := List.replicate (512 - sumSz p (cnt p) - (26 + 4 * cnt p)) 0) (by rw [List.length_replicate]; omega)
  rw [List.length_replicate] at this
  exact this
theorem anew_fits {p : List Int} (hl : p.length = 512) (hf : Fits p) : Fits (anewP p) := by
  have h1 := hf.1
  refine ⟨by rw [anew_cnt hl hf, anew_sum hl hf _ (Nat.le_refl _)]; exact h1, fun i hi => ?_⟩
  rw [anew_cnt hl hf] at hi
  have hs := sumSz_mono p (show i + 1 ≤ cnt p from hi)
  have hs2 : sumSz p (i + 1) = sumSz p i + szP p i := rfl
  rw [anew_frm hl hf hi, anew_sz hl hf hi]
  omega
theorem anew_twice {p : List Int} (hl : p.length = 512) (ho : octs p) (hf : Fits p) : anewP (anewP p) = anewP p := by
  obtain ⟨q, hq⟩ : ∃ q, anewP p = q := ⟨_, rfl⟩
  have h1 := hf.1
  have ql : q.length = 512 := by rw [← hq]; exact anew_length hl hf
  have qo : octs q := by rw [← hq]; exact anew_octs ho
  have qc : cnt q = cnt p := by rw [← hq]; exact anew_cnt hl hf
  have qs : ∀ k, k ≤ cnt p → sumSz q k = sumSz p k := by rw [← hq]; exact anew_sum hl hf
  have hz := anew_zero hl hf
  have hlow := anew_low hl hf
  rw [hq] at hz hlow
  have hk : ∀ k, k ≤ cnt p → anK q k = q := by
    intro k
    induction k with
    | zero => intro _; rfl
    | succ k ih =>
      intro hk
      have ef : frm q k = 512 - sumSz p (k + 1) := by rw [← hq]; exact anew_frm hl hf hk
      have es : szP q k = szP p k := by rw [← hq]; exact anew_sz hl hf hk
      have hs := sumSz_mono p (show k + 1 ≤ cnt p from hk)
      have hs2 : sumSz p (k + 1) = sumSz p k + szP p k := rfl
      rw [anK, ih (by omega), qs _ hk]
      have e1 : over q (512 - sumSz p (k + 1)) (cellP q k) = q := by
        refine over_self ?_
        rw [cellP_length ql (by omega)]
        unfold cellP
        rw [ef]
      rw [e1, ← ef]
      have e2 : over q (26 + 4 * k) (leB ((frm q k : Nat) : Int) 2) = q := over_num_self qo (by omega)
      have e3 : over q (28 + 4 * k) (leB ((szP q k : Nat) : Int) 2) = q := over_num_self qo (by omega)
      rw [e2, e3]
  rw [hq]
  unfold anewP
  have e4 : over q (26 + 4 * cnt p) (List.replicate (512 - sumSz p (cnt p) - (26 + 4 * cnt p)) 0) = q := over_self (by rw [List.length_replicate]; exact hz)
  rw [qc, hk _ (Nat.le_refl _), qs _ (Nat.le_refl _), e4, ← hlow]
  exact over_num_self qo (by omega)
/-- where there is room, nothing moves: the bytes from low on stay -/
theorem insert_tail {q l : List Int} (hw : WF q) (hroom : 26 + 4 * cnt q + (l.length + 4) ≤ lowP q) : (insertP q (cnt q) l).drop (lowP q) = q.drop (lowP q) := by
  have h1 := hw.len
  have h2 := hw.low
  have e0 : insQ q l = q := by unfold insQ; rw [if_neg (by omega)]
  have e1 : ins1 q (cnt q) (cnt q) = q := by unfold ins1; rw [Nat.sub_self, Nat.mul_zero, List.take_zero, over_nil]
  obtain ⟨r, hr⟩ : ∃ r, over q 14 (leB ((cnt q + 1 : Nat) : Int) 2) = r := ⟨_, rfl⟩
  have rl : r.length = 512 := by rw [← hr]; exact over_len h1 (by rw [leB_length]; decide)
  have rlow : lowP r = lowP q := by rw [← hr]; exact numAt_over_ne (by rw [leB_length, h1]; decide) (by rw [h1]; decide) (by rw [leB_length]; decide)
  have rd : r.drop (lowP q) = q.drop (lowP q) := by rw [← hr]; exact drop_over (by rw [leB_length, h1]; decide) (by rw [leB_length]; omega)
  unfold insertP
  rw [e0, e1, hr]
  unfold belowP
  rw [rlow]
  have l1 : (over r (lowP q - l.length) l).length = 512 := over_len rl (by omega)
  have l2 : (over (over r (lowP q - l.length) l) 16 (leB ((lowP q - l.length : Nat) : Int) 2)).length = 512 := over_len l1 (by rw [leB_length]; omega)
  have l3 : (over (over (over r (lowP q - l.length) l) 16 (leB ((lowP q - l.length : Nat) : Int) 2)) (26 + 4 * cnt q) (leB ((lowP q - l.length : Nat) : Int) 2)).length = 512 := over_len l2 (by rw [leB_length]; omega)
  rw [drop_over (by rw [leB_length]; omega) (by rw [leB_length]; omega), drop_over (by rw [leB_length]; omega) (by rw [leB_length]; omega), drop_over (by rw [leB_length]; omega) (by rw [leB_length]; omega), drop_over (by omega) (by omega), rd]
theorem below_len2 {q l : List Int} (hl : q.length = 512) {i : Nat} (hi : 30 + 4 * i ≤ 512) (h1 : l.length ≤ lowP q) (h2 : lowP q ≤ 512) : (belowP q i l).length = 512 := by
  unfold belowP
  exact over_len (over_len (over_len (over_len hl (by omega)) (by rw [leB_length]; omega)) (by rw [leB_length]; omega)) (by rw [leB_length]; omega)
theorem below_octs {q l : List Int} (ho : octs q) (hol : octs l) (i : Nat) : octs (belowP q i l) := by
  unfold belowP
  exact over_octs (over_octs (over_octs (over_octs ho _ hol) _ (leB_octs _ _)) _ (leB_octs _ _)) _ (leB_octs _ _)
theorem insQ_octs {p l : List Int} (ho : octs p) : octs (insQ p l) := by
  unfold insQ
  split
  · exact anew_octs ho
  · exact ho
theorem insertP_octs {p l : List Int} (ho : octs p) (hol : octs l) (i : Nat) : octs (insertP p i l) := by
  unfold insertP ins1
  exact below_octs (over_octs (over_octs (insQ_octs ho) _ (octs_take (octs_drop (insQ_octs ho) _) _)) _ (leB_octs _ _)) hol i
/-- what insQ gives -/
theorem insQ_facts {p l : List Int} (hg : goodP p = true) (hfree : (l.length : Int) + 4 ≤ freeP p) : goodP (insQ p l) = true ∧ cnt (insQ p l) = cnt p ∧ cellsP (insQ p l) = cellsP p ∧ freeP (insQ p l) = freeP p ∧ 26 + 4 * cnt p + (l.length + 4) ≤ lowP (insQ p l) := by
  obtain ⟨g1, g2, g3, g4, g5, g6⟩ := good_facts hg
  have hf := fits_of_good hg
  unfold insQ
  split
  · refine ⟨anew_good hg, anew_cnt g1 hf, anew_cells g1 hf, anew_free g1 hf, ?_⟩
    rw [anew_low g1 hf]
    unfold freeP at hfree
    omega
  · exact ⟨hg, rfl, rfl, rfl, by omega⟩
theorem insertP_len {p l : List Int} (hg : goodP p = true) {i : Nat} (hi : i ≤ cnt p) (hfree : (l.length : Int) + 4 ≤ freeP p) : (insertP p i l).length = 512 := by
  obtain ⟨h1, h2, h3, h4, h5⟩ := insQ_facts (l := l) hg hfree
  obtain ⟨q, hq⟩ : ∃ q, insQ p l = q := ⟨_, rfl⟩
  rw [hq] at h1 h2 h3 h4 h5
  have w := good_iff.mp h1
  have hw1 := w.len
  have hw2 := w.low
  have e1 : ((q.drop (26 + 4 * i)).take (4 * (cnt p - i))).length = 4 * (cnt p - i) := by rw [List.length_take, List.length_drop]; omega
  have l1 : (ins1 q i (cnt p)).length = 512 := by unfold ins1; exact over_len hw1 (by rw [e1]; omega)
  have l2 : (over (ins1 q i (cnt p)) 14 (leB ((cnt p + 1 : Nat) : Int) 2)).length = 512 := over_len l1 (by rw [leB_length]; decide)
  have lo : lowP (over (ins1 q i (cnt p)) 14 (leB ((cnt p + 1 : Nat) : Int) 2)) = lowP q := by
    unfold lowP
    rw [numAt_over_ne (by rw [leB_length, l1]; decide) (by rw [l1]; decide) (by rw [leB_length]; decide)]
    unfold ins1
    exact numAt_over_ne (by rw [e1]; omega) (by omega) (by omega)
  unfold insertP
  rw [hq]
  exact below_len2 l2 (by omega) (by rw [lo]; omega) (by rw [lo]; exact hw2)
end Go.Proofs.Ytpogneedafoiaaa.Pg
