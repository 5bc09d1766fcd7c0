/- Plain: a page is a list of cells: Insert, Remove, Replace do with it what one does with the list. -/
import Derived.Test.YtpogneedafoiaaaPgAns
namespace Go.Proofs.Ytpogneedafoiaaa.Pg
open Go.RowKit Go.Proofs.YtpogneedafoiaaaW.PrintWords Go.Proofs.Ytpogneedafoiaaa.Bw Go.Proofs.Ytpogneedafoiaaa.Crc Go.Proofs.Ytpogneedafoiaaa.Wordy
set_option linter.unusedVariables false
set_option linter.unusedSimpArgs false

/-- a page that is good but for cell i -/
structure WFx (p : List Int) (i : Nat) : Prop where
  len : p.length = 512
  none_ : p.getD 13 0 = 0
  low : lowP p ≤ 512
  fit : ∀ j, j < cnt p → j ≠ i → lowP p ≤ frm p j ∧ frm p j + szP p j ≤ 512
  apart : ∀ j k x, j < k → k < cnt p → j ≠ i → k ≠ i → inC p j x → ¬ inC p k x
theorem below_wf {p l : List Int} {i : Nat} (h : WFx p i) (hi : i < cnt p) (hroom : 26 + 4 * cnt p + l.length ≤ lowP p) :
    WF (belowP p i l) ∧ cnt (belowP p i l) = cnt p ∧ (∀ j, j < cnt p → j ≠ i → cellP (belowP p i l) j = cellP p j) ∧ cellP (belowP p i l) i = l := by
  have h1 := h.len
  have h2 := h.low
  obtain ⟨lo, hlo⟩ : ∃ lo, lowP p = lo + l.length := ⟨lowP p - l.length, by omega⟩
  have elo : lowP p - l.length = lo := by omega
  have hr : belowP p i l = over (over (over (over p lo l) 16 (leB (lo : Int) 2)) (26 + 4 * i) (leB (lo : Int) 2)) (28 + 4 * i) (leB (l.length : Int) 2) := by unfold belowP; rw [elo]
  have b1 : (over p lo l).length = 512 := over_len h1 (by omega)
  have b2 : (over (over p lo l) 16 (leB (lo : Int) 2)).length = 512 := over_len b1 (by rw [leB_length]; omega)
  have b3 : (over (over (over p lo l) 16 (leB (lo : Int) 2)) (26 + 4 * i) (leB (lo : Int) 2)).length = 512 := over_len b2 (by rw [leB_length]; omega)
  have b4 : (belowP p i l).length = 512 := by rw [hr]; exact over_len b3 (by rw [leB_length]; omega)
  have cutr : ∀ b s, b + s ≤ 512 → (b + s ≤ 16 ∨ 18 ≤ b) → (b + s ≤ 26 + 4 * i ∨ 30 + 4 * i ≤ b) → (b + s ≤ lo ∨ lo + l.length ≤ b) → ((belowP p i l).drop b).take s = (p.drop b).take s := by
    intro b s c1 c2 c3 c4
    rw [hr, cut_over_ne (by rw [leB_length]; omega) (by omega) (by rw [leB_length]; omega), cut_over_ne (by rw [leB_length]; omega) (by omega) (by rw [leB_length]; omega), cut_over_ne (by rw [leB_length]; omega) (by omega) (by rw [leB_length]; omega), cut_over_ne (by omega) (by omega) (by omega)]
  have numr : ∀ b s, b + s ≤ 512 → (b + s ≤ 16 ∨ 18 ≤ b) → (b + s ≤ 26 + 4 * i ∨ 30 + 4 * i ≤ b) → (b + s ≤ lo ∨ lo + l.length ≤ b) → numAt (belowP p i l) b s = numAt p b s := by
    intro b s c1 c2 c3 c4
    unfold numAt
    rw [cutr b s c1 c2 c3 c4]
  have ec : cnt (belowP p i l) = cnt p := numr 14 2 (by omega) (by omega) (by omega) (by omega)
  have el : lowP (belowP p i l) = lo := by
    rw [hr]
    unfold lowP
    rw [numAt_over_ne (by rw [leB_length]; omega) (by omega) (by rw [leB_length]; omega), numAt_over_ne (by rw [leB_length]; omega) (by omega) (by rw [leB_length]; omega)]
    exact numAt_over_leB (by omega) (by simp; omega)
  have ef : frm (belowP p i l) i = lo := by
    rw [hr]
    unfold frm
    rw [numAt_over_ne (by rw [leB_length]; omega) (by omega) (by rw [leB_length]; omega)]
    exact numAt_over_leB (by omega) (by simp; omega)
  have es : szP (belowP p i l) i = l.length := by
    rw [hr]
    unfold szP
    exact numAt_over_leB (by omega) (by simp; omega)
  have efj : ∀ j, j < cnt p → j ≠ i → frm (belowP p i l) j = frm p j := fun j hj hne => numr _ 2 (by omega) (by omega) (by omega) (by omega)
  have esj : ∀ j, j < cnt p → j ≠ i → szP (belowP p i l) j = szP p j := fun j hj hne => numr _ 2 (by omega) (by omega) (by omega) (by omega)
  refine ⟨⟨b4, ?_, by rw [ec, el]; omega, by rw [el]; omega, fun j hj => ?_, fun j k x hjk hk hxj hxk => ?_⟩, ec, fun j hj hne => ?_, ?_⟩
  · have := cutr 13 1 (by omega) (by omega) (by omega) (by omega)
    have e := congrArg (fun l => l.getD 0 0) this
    simp only [List.getD_eq_getElem?_getD, List.getElem?_take, List.getElem?_drop] at e
    simp at e
    rw [List.getD_eq_getElem?_getD, e, ← List.getD_eq_getElem?_getD]
    exact h.none_
  · rw [ec] at hj
    rw [el]
    by_cases hji : j = i
    · subst hji
      rw [ef, es]
      omega
    · rw [efj j hj hji, esj j hj hji]
      have := h.fit j hj hji
      omega
  · rw [ec] at hk
    unfold inC at hxj hxk
    by_cases hji : j = i
    · subst hji
      rw [ef, es] at hxj
      rw [efj k hk (by omega), esj k hk (by omega)] at hxk
      have := (h.fit k hk (by omega)).1
      omega
    · rw [efj j (by omega) hji, esj j (by omega) hji] at hxj
      by_cases hki : k = i
      · subst hki
        rw [ef, es] at hxk
        have := (h.fit j (by omega) hji).1
        omega
      · rw [efj k hk hki, esj k hk hki] at hxk
        exact h.apart j k x hjk hk hji hki hxj hxk
  · have hf := h.fit j hj hne
    unfold cellP
    rw [efj j hj hne, esj j hj hne]
    exact cutr _ _ hf.2 (by omega) (by omega) (by omega)
  · unfold cellP
    rw [ef, es, hr, cut_over_ne (by rw [leB_length]; omega) (by omega) (by rw [leB_length]; omega), cut_over_ne (by rw [leB_length]; omega) (by omega) (by rw [leB_length]; omega), cut_over_ne (by rw [leB_length]; omega) (by omega) (by rw [leB_length]; omega)]
    exact cut_over_eq (by omega)
theorem cellsP_get {p : List Int} {j : Nat} (hj : j < cnt p) : (cellsP p)[j]? = some (cellP p j) := by
  unfold cellsP
  rw [List.getElem?_map, List.getElem?_range hj]
  rfl
theorem cellsP_none {p : List Int} {j : Nat} (hj : cnt p ≤ j) : (cellsP p)[j]? = none := List.getElem?_eq_none (by rw [cellsP_length]; exact hj)
/-- the list with an element more -/
def insL (cs : List (List Int)) (i : Nat) (l : List Int) : List (List Int) := cs.take i ++ l :: cs.drop i
def remL (cs : List (List Int)) (i : Nat) : List (List Int) := cs.take i ++ cs.drop (i + 1)
def repL (cs : List (List Int)) (i : Nat) (l : List Int) : List (List Int) := cs.take i ++ l :: cs.drop (i + 1)
theorem insL_get (cs : List (List Int)) {i : Nat} (hi : i ≤ cs.length) (l : List Int) (j : Nat) : (insL cs i l)[j]? = if j < i then cs[j]? else if j = i then some l else cs[j - 1]? := by
  have ht : (cs.take i).length = i := by rw [List.length_take]; omega
  unfold insL
  by_cases h1 : j < i
  · rw [if_pos h1, List.getElem?_append_left (by omega), List.getElem?_take, if_pos h1]
  · rw [if_neg h1, List.getElem?_append_right (by omega), ht]
    by_cases h2 : j = i
    · rw [if_pos h2, h2, Nat.sub_self]; rfl
    · rw [if_neg h2, show j - i = (j - 1 - i) + 1 by omega, List.getElem?_cons_succ, List.getElem?_drop, show i + (j - 1 - i) = j - 1 by omega]
theorem remL_get (cs : List (List Int)) {i : Nat} (hi : i < cs.length) (j : Nat) : (remL cs i)[j]? = if j < i then cs[j]? else cs[j + 1]? := by
  have ht : (cs.take i).length = i := by rw [List.length_take]; omega
  unfold remL
  by_cases h1 : j < i
  · rw [if_pos h1, List.getElem?_append_left (by omega), List.getElem?_take, if_pos h1]
  · rw [if_neg h1, List.getElem?_append_right (by omega), ht, List.getElem?_drop, show i + 1 + (j - i) = j + 1 by omega]
theorem repL_get (cs : List (List Int)) {i : Nat} (hi : i < cs.length) (l : List Int) (j : Nat) : (repL cs i l)[j]? = if j = i then some l else cs[j]? := by
  have ht : (cs.take i).length = i := by rw [List.length_take]; omega
  unfold repL
  by_cases h1 : j < i
  · rw [if_neg (by omega), List.getElem?_append_left (by omega), List.getElem?_take, if_pos h1]
  · rw [List.getElem?_append_right (by omega), ht]
    by_cases h2 : j = i
    · rw [if_pos h2, h2, Nat.sub_self]; rfl
    · rw [if_neg h2, show j - i = (j - 1 - i) + 1 by omega, List.getElem?_cons_succ, List.getElem?_drop, show i + 1 + (j - 1 - i) = j by omega]
theorem wfx_of_wf {p : List Int} (h : WF p) (i : Nat) : WFx p i := ⟨h.len, h.none_, h.low, fun j hj _ => h.fit j hj, fun j k x hjk hk _ _ => h.apart j k x hjk hk⟩
theorem getD13 {p q : List Int} (h : (p.drop 13).take 1 = (q.drop 13).take 1) : p.getD 13 0 = q.getD 13 0 := by
  have e := congrArg (fun l => l.getD 0 0) h
  simp only [List.getD_eq_getElem?_getD, List.getElem?_take, List.getElem?_drop] at e
  simp at e
  rw [List.getD_eq_getElem?_getD, e, ← List.getD_eq_getElem?_getD]
theorem insert_wf {p l : List Int} (hg : goodP p = true) {i : Nat} (hi : i ≤ cnt p) (hfree : (l.length : Int) + 4 ≤ freeP p) : WF (insertP p i l) ∧ cellsP (insertP p i l) = insL (cellsP p) i l := by
  obtain ⟨q1, q2, q3, q4, q5⟩ := insQ_facts (l := l) hg hfree
  obtain ⟨q, hq⟩ : ∃ q, insQ p l = q := ⟨_, rfl⟩
  rw [hq] at q1 q2 q3 q4 q5
  have w := good_iff.mp q1
  have h1 := w.len
  have h2 := w.low
  rw [← q2] at q5 hi
  have e1 : ((q.drop (26 + 4 * i)).take (4 * (cnt q - i))).length = 4 * (cnt q - i) := by rw [List.length_take, List.length_drop]; omega
  obtain ⟨X, hX⟩ : ∃ X, over (ins1 q i (cnt q)) 14 (leB ((cnt q + 1 : Nat) : Int) 2) = X := ⟨_, rfl⟩
  have l1 : (ins1 q i (cnt q)).length = 512 := by unfold ins1; exact over_len h1 (by rw [e1]; omega)
  have lX : X.length = 512 := by rw [← hX]; exact over_len l1 (by rw [leB_length]; omega)
  have cutX : ∀ b s, b + s ≤ 512 → (b + s ≤ 14 ∨ 16 ≤ b) → (b + s ≤ 30 + 4 * i ∨ 30 + 4 * cnt q ≤ b) → (X.drop b).take s = (q.drop b).take s := by
    intro b s c1 c2 c3
    rw [← hX, cut_over_ne (by rw [leB_length]; omega) (by omega) (by rw [leB_length]; omega)]
    unfold ins1
    exact cut_over_ne (by rw [e1]; omega) (by omega) (by rw [e1]; omega)
  have numX : ∀ b s, b + s ≤ 512 → (b + s ≤ 14 ∨ 16 ≤ b) → (b + s ≤ 30 + 4 * i ∨ 30 + 4 * cnt q ≤ b) → numAt X b s = numAt q b s := by
    intro b s c1 c2 c3
    unfold numAt
    rw [cutX b s c1 c2 c3]
  have cX : cnt X = cnt q + 1 := by rw [← hX]; exact numAt_over_leB (by omega) (by simp; omega)
  have lowX : lowP X = lowP q := numX 16 2 (by omega) (by omega) (by omega)
  have cutS : ∀ d s, d + s ≤ 4 * (cnt q - i) → (X.drop (30 + 4 * i + d)).take s = (q.drop (26 + 4 * i + d)).take s := by
    intro d s hds
    rw [← hX, cut_over_ne (by rw [leB_length]; omega) (by omega) (by rw [leB_length]; omega)]
    have hlo : (over q (26 + 4 * (i + 1)) ((q.drop (26 + 4 * i)).take (4 * (cnt q - i)))).length = 512 := l1
    unfold ins1
    rw [cut_eq (over q (26 + 4 * (i + 1)) ((q.drop (26 + 4 * i)).take (4 * (cnt q - i)))) (30 + 4 * i + d) s (by omega), cut_eq q (26 + 4 * i + d) s (by omega)]
    refine List.map_congr_left (fun j hj => ?_)
    have hj := List.mem_range.mp hj
    rw [over_getD _ _ _ (by rw [e1]; omega), e1, if_pos (by omega), cut_eq q _ _ (by omega), List.getD_eq_getElem?_getD, List.getElem?_map, List.getElem?_range (by omega)]
    show q.getD _ 0 = _
    congr 1
    omega
  have fl : ∀ j, j < i → frm X j = frm q j ∧ szP X j = szP q j := fun j hj => ⟨numX _ 2 (by omega) (by omega) (by omega), numX _ 2 (by omega) (by omega) (by omega)⟩
  have fr : ∀ j, i < j → j < cnt q + 1 → frm X j = frm q (j - 1) ∧ szP X j = szP q (j - 1) := by
    intro j hj hj2
    have a := cutS (4 * (j - 1 - i)) 2 (by omega)
    have b := cutS (4 * (j - 1 - i) + 2) 2 (by omega)
    rw [show 30 + 4 * i + 4 * (j - 1 - i) = 26 + 4 * j by omega, show 26 + 4 * i + 4 * (j - 1 - i) = 26 + 4 * (j - 1) by omega] at a
    rw [show 30 + 4 * i + (4 * (j - 1 - i) + 2) = 28 + 4 * j by omega, show 26 + 4 * i + (4 * (j - 1 - i) + 2) = 28 + 4 * (j - 1) by omega] at b
    unfold frm szP numAt
    exact ⟨by rw [a], by rw [b]⟩
  have un : ∀ j, j < cnt X → j ≠ i → ∃ m, m < cnt q ∧ frm X j = frm q m ∧ szP X j = szP q m ∧ m = if j < i then j else j - 1 := by
    intro j hj hne
    rw [cX] at hj
    by_cases h : j < i
    · exact ⟨j, by omega, (fl j h).1, (fl j h).2, by rw [if_pos h]⟩
    · exact ⟨j - 1, by omega, (fr j (by omega) hj).1, (fr j (by omega) hj).2, by rw [if_neg h]⟩
  have wx : WFx X i := by
    refine ⟨lX, ?_, by rw [lowX]; exact h2, fun j hj hne => ?_, fun j k x hjk hk hji hki hxj hxk => ?_⟩
    · rw [getD13 (cutX 13 1 (by omega) (by omega) (by omega))]
      exact w.none_
    · obtain ⟨m, hm, e2, e3, _⟩ := un j hj hne
      rw [lowX, e2, e3]
      exact w.fit m hm
    · obtain ⟨m, hm, e2, e3, em⟩ := un j (by omega) hji
      obtain ⟨n, hn, e4, e5, en⟩ := un k hk hki
      unfold inC at hxj hxk
      rw [e2, e3] at hxj
      rw [e4, e5] at hxk
      refine w.apart m n x ?_ hn hxj hxk
      rw [em, en]
      split <;> split <;> omega
  have hins : insertP p i l = belowP X i l := by
    unfold insertP
    rw [hq, ← q2, hX]
  obtain ⟨r1, r2, r3, r4⟩ := below_wf (l := l) wx (by rw [cX]; omega) (by rw [cX, lowX]; omega)
  rw [hins]
  refine ⟨r1, ?_⟩
  rw [← q3]
  apply List.ext_getElem?
  intro j
  rw [insL_get _ (by rw [cellsP_length]; exact hi)]
  by_cases hj : j < cnt q + 1
  · rw [cellsP_get (by rw [r2, cX]; exact hj)]
    by_cases hji : j = i
    · subst hji
      rw [if_neg (by omega), if_pos rfl, r4]
    · rw [r3 j (by rw [cX]; exact hj) hji]
      obtain ⟨m, hm, e2, e3, em⟩ := un j (by rw [cX]; exact hj) hji
      have hfm := w.fit m hm
      have ecell : cellP X j = cellP q m := by
        unfold cellP
        rw [e2, e3]
        exact cutX _ _ hfm.2 (by omega) (by omega)
      rw [ecell]
      by_cases h : j < i
      · rw [if_pos h]
        rw [if_pos h] at em
        rw [em, cellsP_get (by omega)]
      · rw [if_neg h, if_neg hji]
        rw [if_neg h] at em
        rw [em, cellsP_get (by omega)]
  · rw [cellsP_none (by rw [r2, cX]; omega), if_neg (by omega), if_neg (by omega), cellsP_none (by omega)]
theorem remove_wf {p : List Int} (hg : goodP p = true) {i : Nat} (hi : i < cnt p) : WF (removeP p i) ∧ cellsP (removeP p i) = remL (cellsP p) i := by
  have w := good_iff.mp hg
  have h1 := w.len
  have h2 := w.low
  have h3 := w.slots
  obtain ⟨n, hn⟩ : ∃ n, cnt p = n + 1 := ⟨cnt p - 1, by omega⟩
  have e1 : ((p.drop (26 + 4 * (i + 1))).take (4 * (cnt p - 1 - i))).length = 4 * (cnt p - 1 - i) := by rw [List.length_take, List.length_drop]; omega
  have l1 : (rm1 p i (cnt p)).length = 512 := over_len h1 (by rw [e1]; omega)
  have l2 : (rm2 p i (cnt p)).length = 512 := over_len l1 (by rw [List.length_replicate]; omega)
  have l3 : (rm3 p i (cnt p)).length = 512 := over_len l2 (by rw [leB_length]; omega)
  have lr := removeP_len hg hi
  -- behind low's own bytes
  have cut0 : ∀ b s, b + s ≤ 512 → (b + s ≤ 16 ∨ 18 ≤ b) → ((removeP p i).drop b).take s = ((rm3 p i (cnt p)).drop b).take s := by
    intro b s c1 c2
    unfold removeP
    split
    · exact cut_over_ne (by rw [leB_length]; omega) (by omega) (by rw [leB_length]; omega)
    · rfl
  have cutR : ∀ b s, b + s ≤ 512 → (b + s ≤ 14 ∨ 18 ≤ b) → (b + s ≤ 26 + 4 * i ∨ 26 + 4 * cnt p ≤ b) → ((removeP p i).drop b).take s = (p.drop b).take s := by
    intro b s c1 c2 c3
    rw [cut0 b s c1 (by omega)]
    unfold rm3
    rw [cut_over_ne (by rw [leB_length]; omega) (by omega) (by rw [leB_length]; omega)]
    unfold rm2
    rw [cut_over_ne (by rw [List.length_replicate]; omega) (by omega) (by rw [List.length_replicate]; omega)]
    unfold rm1
    exact cut_over_ne (by rw [e1]; omega) (by omega) (by rw [e1]; omega)
  have cutS : ∀ d s, d + s ≤ 4 * (cnt p - 1 - i) → ((removeP p i).drop (26 + 4 * i + d)).take s = (p.drop (30 + 4 * i + d)).take s := by
    intro d s hds
    rw [cut0 _ _ (by omega) (by omega)]
    unfold rm3
    rw [cut_over_ne (by rw [leB_length]; omega) (by omega) (by rw [leB_length]; omega)]
    unfold rm2
    rw [cut_over_ne (by rw [List.length_replicate]; omega) (by omega) (by rw [List.length_replicate]; omega)]
    have l1' := l1
    unfold rm1 at l1' ⊢
    rw [cut_eq (over p (26 + 4 * i) ((p.drop (26 + 4 * (i + 1))).take (4 * (cnt p - 1 - i)))) (26 + 4 * i + d) s (by omega), cut_eq p (30 + 4 * i + d) s (by omega)]
    refine List.map_congr_left (fun j hj => ?_)
    have hj := List.mem_range.mp hj
    rw [over_getD _ _ _ (by rw [e1]; omega), e1, if_pos (by omega), cut_eq p _ _ (by omega), List.getD_eq_getElem?_getD, List.getElem?_map, List.getElem?_range (by omega)]
    show p.getD _ 0 = _
    congr 1
    omega
  have cR : cnt (removeP p i) = n := by
    have a := cut0 14 2 (by omega) (by omega)
    have b : numAt (rm3 p i (cnt p)) 14 2 = n := by
      have e : ((cnt p : Nat) : Int) - 1 = (n : Int) := by omega
      unfold rm3
      rw [e]
      exact numAt_over_leB (by omega) (by simp; omega)
    unfold cnt numAt at *
    rw [a, b]
  have lowR : (n = 0 → lowP (removeP p i) = 512) ∧ (n ≠ 0 → lowP (removeP p i) = lowP p) := by
    constructor
    · intro h0
      unfold removeP
      rw [if_pos (by omega)]
      exact numAt_over_leB (n := 512) (by omega) (by simp)
    · intro h0
      unfold removeP
      rw [if_neg (by omega)]
      unfold lowP rm3
      rw [numAt_over_ne (by rw [leB_length]; omega) (by omega) (by rw [leB_length]; omega)]
      unfold rm2
      rw [numAt_over_ne (by rw [List.length_replicate]; omega) (by omega) (by rw [List.length_replicate]; omega)]
      unfold rm1
      exact numAt_over_ne (by rw [e1]; omega) (by omega) (by rw [e1]; omega)
  have un : ∀ j, j < n → ∃ m, m < cnt p ∧ frm (removeP p i) j = frm p m ∧ szP (removeP p i) j = szP p m ∧ m = if j < i then j else j + 1 := by
    intro j hj
    by_cases h : j < i
    · have a := cutR (26 + 4 * j) 2 (by omega) (by omega) (by omega)
      have b := cutR (28 + 4 * j) 2 (by omega) (by omega) (by omega)
      refine ⟨j, by omega, ?_, ?_, by rw [if_pos h]⟩
      · unfold frm numAt; rw [a]
      · unfold szP numAt; rw [b]
    · have a := cutS (4 * (j - i)) 2 (by omega)
      have b := cutS (4 * (j - i) + 2) 2 (by omega)
      rw [show 26 + 4 * i + 4 * (j - i) = 26 + 4 * j by omega, show 30 + 4 * i + 4 * (j - i) = 26 + 4 * (j + 1) by omega] at a
      rw [show 26 + 4 * i + (4 * (j - i) + 2) = 28 + 4 * j by omega, show 30 + 4 * i + (4 * (j - i) + 2) = 28 + 4 * (j + 1) by omega] at b
      refine ⟨j + 1, by omega, ?_, ?_, by rw [if_neg h]⟩
      · unfold frm numAt; rw [a]
      · unfold szP numAt; rw [b]
  have ecell : ∀ j m, m < cnt p → frm (removeP p i) j = frm p m → szP (removeP p i) j = szP p m → cellP (removeP p i) j = cellP p m := by
    intro j m hm e2 e3
    have := w.fit m hm
    unfold cellP
    rw [e2, e3]
    exact cutR _ _ this.2 (by omega) (by omega)
  refine ⟨⟨lr, ?_, ?_, ?_, fun j hj => ?_, fun j k x hjk hk hxj hxk => ?_⟩, ?_⟩
  · rw [getD13 (cutR 13 1 (by omega) (by omega) (by omega))]
    exact w.none_
  · rw [cR]
    by_cases h0 : n = 0
    · rw [lowR.1 h0]; omega
    · rw [lowR.2 h0]; omega
  · by_cases h0 : n = 0
    · rw [lowR.1 h0]; omega
    · rw [lowR.2 h0]; omega
  · rw [cR] at hj
    obtain ⟨m, hm, e2, e3, _⟩ := un j hj
    rw [lowR.2 (by omega), e2, e3]
    exact w.fit m hm
  · rw [cR] at hk
    obtain ⟨m, hm, e2, e3, em⟩ := un j (by omega)
    obtain ⟨m', hm', e4, e5, em'⟩ := un k hk
    unfold inC at hxj hxk
    rw [e2, e3] at hxj
    rw [e4, e5] at hxk
    refine w.apart m m' x ?_ hm' hxj hxk
    rw [em, em']
    split <;> split <;> omega
  · apply List.ext_getElem?
    intro j
    rw [remL_get _ (by rw [cellsP_length]; exact hi)]
    by_cases hj : j < n
    · rw [cellsP_get (by rw [cR]; exact hj)]
      obtain ⟨m, hm, e2, e3, em⟩ := un j hj
      rw [ecell j m hm e2 e3]
      by_cases h : j < i
      · rw [if_pos h] at em ⊢
        rw [em, cellsP_get (by omega)]
      · rw [if_neg h] at em ⊢
        rw [em, cellsP_get (by omega)]
    · rw [cellsP_none (by rw [cR]; omega)]
      by_cases h : j < i
      · omega
      · rw [if_neg h, cellsP_none (by omega)]
theorem repL_cells {p r : List Int} (l : List Int) {i : Nat} (hi : i < cnt p) (hc : cnt r = cnt p) (h1 : ∀ j, j < cnt p → j ≠ i → cellP r j = cellP p j) (h2 : cellP r i = l) : cellsP r = repL (cellsP p) i l := by
  apply List.ext_getElem?
  intro j
  rw [repL_get _ (by rw [cellsP_length]; exact hi)]
  by_cases hj : j < cnt p
  · rw [cellsP_get (by rw [hc]; exact hj)]
    by_cases hji : j = i
    · subst hji
      rw [if_pos rfl, h2]
    · rw [if_neg hji, h1 j hj hji, cellsP_get hj]
  · rw [cellsP_none (by rw [hc]; omega), if_neg (by omega), cellsP_none (by omega)]
theorem replace_small_wf {p l : List Int} (hg : goodP p = true) {i : Nat} (hi : i < cnt p) (hs : l.length ≤ szP p i) : WF (rpS p i l) ∧ cellsP (rpS p i l) = repL (cellsP p) i l := by
  have w := good_iff.mp hg
  have h1 := w.len
  have h2 := w.low
  have h3 := w.slots
  have h4 := w.fit i hi
  obtain ⟨a, ha⟩ : ∃ a, frm p i = a := ⟨_, rfl⟩
  rw [ha] at h4
  have b1 : (over p a l).length = 512 := over_len h1 (by omega)
  have b2 : (over (over p a l) (26 + 4 * i) (leB (a : Int) 2)).length = 512 := over_len b1 (by rw [leB_length]; omega)
  have b3 : (rpS p i l).length = 512 := by unfold rpS; rw [ha]; exact over_len b2 (by rw [leB_length]; omega)
  have cutr : ∀ b s, b + s ≤ 512 → (b + s ≤ 26 + 4 * i ∨ 30 + 4 * i ≤ b) → (b + s ≤ a ∨ a + l.length ≤ b) → ((rpS p i l).drop b).take s = (p.drop b).take s := by
    intro b s c1 c3 c4
    unfold rpS
    rw [ha, cut_over_ne (by rw [leB_length]; omega) (by omega) (by rw [leB_length]; omega), cut_over_ne (by rw [leB_length]; omega) (by omega) (by rw [leB_length]; omega), cut_over_ne (by omega) (by omega) (by omega)]
  have numr : ∀ b s, b + s ≤ 512 → (b + s ≤ 26 + 4 * i ∨ 30 + 4 * i ≤ b) → (b + s ≤ a ∨ a + l.length ≤ b) → numAt (rpS p i l) b s = numAt p b s := by
    intro b s c1 c3 c4
    unfold numAt
    rw [cutr b s c1 c3 c4]
  have ec : cnt (rpS p i l) = cnt p := numr 14 2 (by omega) (by omega) (by omega)
  have el : lowP (rpS p i l) = lowP p := numr 16 2 (by omega) (by omega) (by omega)
  have ef : frm (rpS p i l) i = a := by
    unfold rpS frm
    rw [numAt_over_ne (by rw [leB_length]; rw [show numAt p (26 + 4 * i) 2 = a from ha]; omega) (by rw [show numAt p (26 + 4 * i) 2 = a from ha]; omega) (by rw [leB_length]; omega), show numAt p (26 + 4 * i) 2 = a from ha]
    exact numAt_over_leB (by omega) (by simp; omega)
  have es : szP (rpS p i l) i = l.length := by
    unfold rpS
    rw [ha]
    unfold szP
    exact numAt_over_leB (by omega) (by simp; omega)
  have efj : ∀ j, j < cnt p → j ≠ i → frm (rpS p i l) j = frm p j := fun j hj hne => numr _ 2 (by omega) (by omega) (by omega)
  have esj : ∀ j, j < cnt p → j ≠ i → szP (rpS p i l) j = szP p j := fun j hj hne => numr _ 2 (by omega) (by omega) (by omega)
  have hap : ∀ j, j < cnt p → j ≠ i → ∀ x, inC p i x → ¬ inC p j x := by
    intro j hj hne x hx hy
    rcases Nat.lt_or_gt_of_ne hne with h | h
    · exact w.apart j i x h hi hy hx
    · exact w.apart i j x h hj hx hy
  have ecell : ∀ j, j < cnt p → j ≠ i → cellP (rpS p i l) j = cellP p j := by
    intro j hj hne
    have hf := w.fit j hj
    unfold cellP
    rw [efj j hj hne, esj j hj hne]
    by_cases hz : szP p j = 0
    · rw [hz, List.take_zero, List.take_zero]
    · by_cases hl0 : l.length = 0
      · have hnil : l = [] := List.eq_nil_of_length_eq_zero hl0
        have bb : (over p (26 + 4 * i) (leB (a : Int) 2)).length = 512 := over_len h1 (by rw [leB_length]; omega)
        unfold rpS
        rw [ha, hnil, over_nil, cut_over_ne (by rw [leB_length]; omega) (by omega) (by rw [leB_length]; omega), cut_over_ne (by rw [leB_length]; omega) (by omega) (by rw [leB_length]; omega)]
      · refine cutr _ _ hf.2 (by omega) ?_
        have k1 := hap j hj hne (frm p j)
        have k2 := hap j hj hne a
        unfold inC at k1 k2
        rw [ha] at k1 k2
        omega
  refine ⟨⟨b3, ?_, by rw [ec, el]; exact h3, by rw [el]; exact h2, fun j hj => ?_, fun j k x hjk hk hxj hxk => ?_⟩, repL_cells l hi ec ecell ?_⟩
  · rw [getD13 (cutr 13 1 (by omega) (by omega) (by omega))]
    exact w.none_
  · rw [ec] at hj
    rw [el]
    by_cases hji : j = i
    · subst hji
      rw [ef, es]
      omega
    · rw [efj j hj hji, esj j hj hji]
      exact w.fit j hj
  · rw [ec] at hk
    unfold inC at hxj hxk
    by_cases hji : j = i
    · subst hji
      rw [ef, es] at hxj
      rw [efj k hk (by omega), esj k hk (by omega)] at hxk
      refine hap k hk (by omega) x ?_ hxk
      unfold inC
      rw [ha]
      omega
    · rw [efj j (by omega) hji, esj j (by omega) hji] at hxj
      by_cases hki : k = i
      · subst hki
        rw [ef, es] at hxk
        refine hap j (by omega) hji x ?_ hxj
        unfold inC
        rw [ha]
        omega
      · rw [efj k hk hki, esj k hk hki] at hxk
        exact w.apart j k x hjk hk hxj hxk
  · unfold cellP
    rw [ef, es]
    unfold rpS
    rw [ha, cut_over_ne (by rw [leB_length]; omega) (by omega) (by rw [leB_length]; omega), cut_over_ne (by rw [leB_length]; omega) (by omega) (by rw [leB_length]; omega)]
    exact cut_over_eq (by omega)
theorem rp1_wf {p : List Int} (hg : goodP p = true) {i : Nat} (hi : i < cnt p) : WF (rp1 p i) ∧ ∀ j, j < cnt p → j ≠ i → cellP (rp1 p i) j = cellP p j := by
  have w := good_iff.mp hg
  have h1 := w.len
  have h2 := w.low
  have h3 := w.slots
  have hi5 : 30 + 4 * i ≤ 512 := by omega
  have yl := rp1_len h1 hi5
  have yc := rp1_cnt h1 hi5
  have ylow := rp1_low h1 hi5
  have ysz := rp1_sz h1 hi5
  have yf := rp1_frm h1 hi5 h2
  have e1 : ∀ j, j < cnt p → j ≠ i → frm (rp1 p i) j = frm p j := fun j hj hne => rp1_ne h1 hi5 (by omega) (by omega)
  have e2 : ∀ j, j < cnt p → j ≠ i → szP (rp1 p i) j = szP p j := fun j hj hne => rp1_ne h1 hi5 (by omega) (by omega)
  have cutr : ∀ b s, b + s ≤ 512 → (b + s ≤ 26 + 4 * i ∨ 30 + 4 * i ≤ b) → ((rp1 p i).drop b).take s = (p.drop b).take s := by
    intro b s c1 c3
    unfold rp1
    rw [cut_over_ne (by rw [leB_length, over_len h1 (by rw [leB_length]; omega)]; omega) (by rw [over_len h1 (by rw [leB_length]; omega)]; omega) (by rw [leB_length]; omega), cut_over_ne (by rw [leB_length]; omega) (by omega) (by rw [leB_length]; omega)]
  refine ⟨⟨yl, ?_, by rw [yc, ylow]; exact h3, by rw [ylow]; exact h2, fun j hj => ?_, fun j k x hjk hk hxj hxk => ?_⟩, fun j hj hne => ?_⟩
  · rw [getD13 (cutr 13 1 (by omega) (by omega))]
    exact w.none_
  · rw [yc] at hj
    rw [ylow]
    by_cases hji : j = i
    · subst hji
      rw [yf, ysz]
      omega
    · rw [e1 j hj hji, e2 j hj hji]
      exact w.fit j hj
  · rw [yc] at hk
    unfold inC at hxj hxk
    by_cases hji : j = i
    · subst hji
      rw [ysz] at hxj
      omega
    · by_cases hki : k = i
      · subst hki
        rw [ysz] at hxk
        omega
      · rw [e1 j (by omega) hji, e2 j (by omega) hji] at hxj
        rw [e1 k hk hki, e2 k hk hki] at hxk
        exact w.apart j k x hjk hk hxj hxk
  · unfold cellP
    rw [e1 j hj hne, e2 j hj hne]
    have hf := w.fit j hj
    exact cutr _ _ hf.2 (by omega)
theorem replace_wf {p l : List Int} (hg : goodP p = true) {i : Nat} (hi : i < cnt p) (h : l.length ≤ szP p i ∨ (l.length : Int) - szP p i ≤ freeP p) : WF (replaceP p i l) ∧ cellsP (replaceP p i l) = repL (cellsP p) i l := by
  by_cases hs : l.length ≤ szP p i
  · have e : replaceP p i l = rpS p i l := by unfold replaceP; rw [if_pos hs]
    rw [e]
    exact replace_small_wf hg hi hs
  · have e : replaceP p i l = belowP (rp2 p i l) i l := by unfold replaceP; rw [if_neg hs]
    obtain ⟨a1, a2, a3, a4⟩ := rp2_facts (l := l) hg hi (by omega) (by omega)
    obtain ⟨yw, yce⟩ := rp1_wf hg hi
    have w := good_iff.mp hg
    have hi5 : 30 + 4 * i ≤ 512 := by have := w.slots; have := w.low; omega
    have yc := rp1_cnt w.len hi5
    have key : WF (rp2 p i l) ∧ cnt (rp2 p i l) = cnt p ∧ ∀ j, j < cnt p → j ≠ i → cellP (rp2 p i l) j = cellP p j := by
      unfold rp2
      split
      · refine ⟨anew_wf yw a4, by rw [anew_cnt yw.len a4, yc], fun j hj hne => ?_⟩
        rw [anew_cell yw.len a4 (by rw [yc]; exact hj)]
        exact yce j hj hne
      · exact ⟨yw, yc, yce⟩
    obtain ⟨k1, k2, k3⟩ := key
    obtain ⟨r1, r2, r3, r4⟩ := below_wf (l := l) (wfx_of_wf k1 i) (by rw [k2]; exact hi) (by rw [k2]; exact a2)
    rw [e]
    exact ⟨r1, repL_cells l hi (by rw [r2, k2]) (fun j hj hne => by rw [r3 j (by rw [k2]; exact hj) hne]; exact k3 j hj hne) r4⟩
/-- what cells take -/
def sumC : List (List Int) → Nat
  | [] => 0
  | l :: ls => 4 + l.length + sumC ls
theorem sumC_append (a b : List (List Int)) : sumC (a ++ b) = sumC a + sumC b := by
  induction a with
  | nil => simp [sumC]
  | cons x a ih => rw [List.cons_append, sumC, sumC, ih]; omega
theorem free_sum {p : List Int} (hg : goodP p = true) : freeP p = 486 - (sumC (cellsP p) : Int) := by
  have w := good_iff.mp hg
  have h : ∀ k, k ≤ cnt p → sumC ((List.range k).map (cellP p)) = 4 * k + sumSz p k := by
    intro k
    induction k with
    | zero => intro _; rfl
    | succ k ih =>
      intro hk
      rw [List.range_succ, List.map_append, sumC_append, ih (by omega), sumSz]
      show 4 * k + sumSz p k + (4 + (cellP p k).length + 0) = _
      rw [cellP_length w.len (w.fit k (by omega)).2]
      omega
  unfold freeP cellsP
  rw [h _ (Nat.le_refl _)]
  omega
theorem free_nonneg {p : List Int} (hg : goodP p = true) : 0 ≤ freeP p := by
  have := good_facts hg
  unfold freeP
  omega
end Go.Proofs.Ytpogneedafoiaaa.Pg
