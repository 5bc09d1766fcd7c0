/- Plain: pages laid over, their numbers; good pages fit. -/
import Derived.Test.YtpogneedafoiaaaPgI
namespace Go.Proofs.Ytpogneedafoiaaa.Pg
open Go.RowKit Go.Proofs.YtpogneedafoiaaaW.PrintWords Go.Proofs.Ytpogneedafoiaaa.Bw Go.Proofs.Ytpogneedafoiaaa.Crc Go.Proofs.Ytpogneedafoiaaa.Wordy
set_option linter.unusedVariables false
set_option linter.unusedSimpArgs false

theorem cut_eq (p : List Int) (b s : Nat) (h : b + s ≤ p.length) : (p.drop b).take s = (List.range s).map fun j => p.getD (b + j) 0 := by
  apply List.ext_getElem
  · rw [List.length_take, List.length_drop, List.length_map, List.length_range]; omega
  · intro j h1 h2
    rw [List.length_map, List.length_range] at h2
    simp only [List.getElem_take, List.getElem_drop, List.getElem_map, List.getElem_range]
    rw [List.getD_eq_getElem?_getD, List.getElem?_eq_getElem (show b + j < p.length by omega)]
    rfl
theorem cut_congr {p q : List Int} {b s : Nat} (hp : b + s ≤ p.length) (hq : b + s ≤ q.length) (h : ∀ j, j < s → p.getD (b + j) 0 = q.getD (b + j) 0) : (p.drop b).take s = (q.drop b).take s := by
  rw [cut_eq p b s hp, cut_eq q b s hq]
  exact List.map_congr_left (fun j hj => h j (List.mem_range.mp hj))
theorem over_getD (p : List Int) (a : Nat) (l : List Int) (h : a + l.length ≤ p.length) (j : Nat) :
    (over p a l).getD j 0 = if a ≤ j ∧ j < a + l.length then l.getD (j - a) 0 else p.getD j 0 := by
  unfold over
  have hta : (p.take a).length = a := by rw [List.length_take]; omega
  simp only [List.getD_eq_getElem?_getD]
  by_cases h1 : j < a
  · rw [if_neg (by omega), List.getElem?_append_left (by omega), List.getElem?_take, if_pos h1]
  · rw [List.getElem?_append_right (by omega), hta]
    by_cases h2 : j < a + l.length
    · rw [if_pos ⟨by omega, h2⟩, List.getElem?_append_left (by omega)]
    · rw [if_neg (by omega), List.getElem?_append_right (by omega), List.getElem?_drop, show a + l.length + (j - a - l.length) = j by omega]
theorem cut_over_ne {p : List Int} {a : Nat} {l : List Int} {b s : Nat} (h : a + l.length ≤ p.length) (hb : b + s ≤ p.length) (hne : b + s ≤ a ∨ a + l.length ≤ b) : ((over p a l).drop b).take s = (p.drop b).take s := by
  refine cut_congr (by rw [over_length _ _ _ h]; exact hb) hb (fun j hj => ?_)
  rw [over_getD _ _ _ h, if_neg (by omega)]
theorem cut_over_eq {p : List Int} {a : Nat} {l : List Int} (h : a + l.length ≤ p.length) : ((over p a l).drop a).take l.length = l := by
  unfold over
  have hta : (p.take a).length = a := by rw [List.length_take]; omega
  rw [List.drop_append_of_le_length (by omega), List.drop_eq_nil_of_le (by omega), List.nil_append, List.take_append_of_le_length (Nat.le_refl _), List.take_of_length_le (Nat.le_refl _)]
theorem numAt_over_ne {p : List Int} {a : Nat} {l : List Int} {b s : Nat} (h : a + l.length ≤ p.length) (hb : b + s ≤ p.length) (hne : b + s ≤ a ∨ a + l.length ≤ b) : numAt (over p a l) b s = numAt p b s := by
  unfold numAt
  rw [cut_over_ne h hb hne]
theorem numAt_over_leB {p : List Int} {a s n : Nat} (h : a + s ≤ p.length) (hn : n < 2 ^ (8 * s)) : numAt (over p a (leB (n : Int) s)) a s = n := by
  unfold numAt
  have := cut_over_eq (p := p) (a := a) (l := leB (n : Int) s) (by rw [leB_length]; exact h)
  rw [leB_length] at this
  rw [this, num_leB, Nat.mod_eq_of_lt hn]

/-- counting marks -/
def cntT : List Bool → Nat
  | [] => 0
  | b :: T => (if b then 1 else 0) + cntT T
theorem cntT_set : ∀ (T : List Bool) (k : Nat), k < T.length → T.getD k false = false → cntT (T.set k true) = cntT T + 1 := by
  intro T
  induction T with
  | nil => intro k h; simp at h
  | cons b T ih =>
    intro k h hf
    cases k with
    | zero =>
      have hb : b = false := by simpa using hf
      subst hb
      simp [cntT, Nat.add_comm]
    | succ k =>
      have := ih k (by simpa using h) (by simpa using hf)
      simp only [List.set_cons_succ, cntT, this]
      omega
theorem cntT_replicate (n : Nat) : cntT (List.replicate n false) = 0 := by
  induction n with
  | zero => rfl
  | succ n ih => simp [List.replicate_succ, cntT, ih]
/-- marks from low on alone: at most that many -/
theorem cntT_le : ∀ (T : List Bool) (low : Nat), (∀ j, j < low → T.getD j false = false) → cntT T ≤ T.length - low := by
  intro T
  induction T with
  | nil => intro low _; simp [cntT]
  | cons b T ih =>
    intro low h
    cases low with
    | zero =>
      have := ih 0 (fun j hj => absurd hj (by omega))
      simp only [cntT, List.length_cons]
      cases b <;> simp <;> omega
    | succ low =>
      have hb : b = false := by simpa using h 0 (by omega)
      have := ih low (fun j hj => by simpa using h (j + 1) (by omega))
      simp only [cntT, List.length_cons, hb]
      simp
      omega
theorem markB_facts : ∀ (m : Nat) (T T' : List Bool) (k : Nat), k + m ≤ T.length → markB T k m = some T' → T'.length = T.length ∧ cntT T' = cntT T + m ∧ ∀ j, j < k → T'.getD j false = T.getD j false := by
  intro m
  induction m with
  | zero => intro T T' k _ h; simp only [markB, Option.some.injEq] at h; subst h; exact ⟨rfl, rfl, fun _ _ => rfl⟩
  | succ m ih =>
    intro T T' k hk h
    rw [markB] at h
    cases hv : T.getD k false with
    | true => rw [if_pos hv] at h; cases h
    | false =>
      rw [if_neg (by rw [hv]; decide)] at h
      obtain ⟨h1, h2, h3⟩ := ih (T.set k true) T' (k + 1) (by rw [List.length_set]; omega) h
      refine ⟨by rw [h1, List.length_set], by rw [h2, cntT_set T k (by omega) hv]; omega, fun j hj => ?_⟩
      rw [h3 j (by omega), List.getD_eq_getElem?_getD, List.getElem?_set_ne (by omega), List.getD_eq_getElem?_getD]
theorem chkB_facts (p : List Int) (hlow : lowP p ≤ 512) : ∀ (d i : Nat) (T : List Bool), T.length = 512 → cntT T = sumSz p i → (∀ j, j < lowP p → T.getD j false = false) → (∀ j, j < i → frm p j + szP p j ≤ 512 ∧ lowP p ≤ frm p j) → chkB p T i d = true →
    lowP p + sumSz p (i + d) ≤ 512 ∧ ∀ j, j < i + d → frm p j + szP p j ≤ 512 ∧ lowP p ≤ frm p j := by
  intro d
  induction d with
  | zero =>
    intro i T hT hc hj hi _
    have := cntT_le T (lowP p) hj
    rw [Nat.add_zero]
    exact ⟨by omega, hi⟩
  | succ d ih =>
    intro i T hT hc hj hi h
    rw [chkB] at h
    by_cases h1 : frm p i < lowP p ∨ 512 < frm p i + szP p i
    · rw [if_pos h1] at h; cases h
    · rw [if_neg h1] at h
      cases hm : markB T (frm p i) (szP p i) with
      | none => rw [hm] at h; cases h
      | some T' =>
        rw [hm] at h
        obtain ⟨f1, f2, f3⟩ := markB_facts _ _ _ _ (by omega) hm
        have := ih (i + 1) T' (by omega) (by rw [f2, hc]; rfl) (fun j hj' => by rw [f3 j (by omega)]; exact hj j hj') (fun j hj' => by
          rcases Nat.lt_or_eq_of_le (Nat.le_of_lt_succ hj') with h2 | h2
          · exact hi j h2
          · subst h2; exact ⟨by omega, by omega⟩) h
        rw [show i + (d + 1) = i + 1 + d by omega]
        exact this
theorem replicate_getD (n j : Nat) : (List.replicate n false).getD j false = false := by
  rw [List.getD_eq_getElem?_getD, List.getElem?_replicate]
  split <;> rfl
theorem good_facts {p : List Int} (h : goodP p = true) : p.length = 512 ∧ p.getD 13 0 = 0 ∧ 26 + 4 * cnt p ≤ lowP p ∧ lowP p ≤ 512 ∧ lowP p + sumSz p (cnt p) ≤ 512 ∧ ∀ j, j < cnt p → frm p j + szP p j ≤ 512 ∧ lowP p ≤ frm p j := by
  unfold goodP at h
  by_cases h1 : p.length = 512
  · rw [if_pos h1] at h
    by_cases h2 : p.getD 13 0 = 0
    · rw [if_pos h2] at h
      by_cases h3 : 26 + 4 * cnt p ≤ lowP p ∧ lowP p ≤ 512
      · rw [if_pos h3] at h
        have := chkB_facts p h3.2 (cnt p) 0 _ List.length_replicate (cntT_replicate 512) (fun j _ => replicate_getD 512 j) (fun j hj => absurd hj (by omega)) h
        rw [Nat.zero_add] at this
        exact ⟨h1, h2, h3.1, h3.2, this.1, this.2⟩
      · rw [if_neg h3] at h; cases h
    · rw [if_neg h2] at h; cases h
  · rw [if_neg h1] at h; cases h
theorem fits_of_good {p : List Int} (h : goodP p = true) : Fits p := by
  obtain ⟨h1, h2, h3, h4, h5, h6⟩ := good_facts h
  exact ⟨by omega, fun i hi => (h6 i hi).1⟩
end Go.Proofs.Ytpogneedafoiaaa.Pg
