/- Plain: the reference's Replace is the page's own. -/
import Derived.Test.YtpogneedafoiaaaRfS
namespace Go.Proofs.Ytpogneedafoiaaa.Pg
open Go.RowKit Go.Proofs.YtpogneedafoiaaaW.PrintWords Go.Proofs.YtpogneedafoiaaaW.PrintLast Go.Proofs.YtpogneedafoiaaaW.PrintMore Go.Proofs.Ytpogneedafoiaaa.Bw Go.Proofs.Ytpogneedafoiaaa.Crc Go.Proofs.Ytpogneedafoiaaa.Wordy Go.Proofs.Ytpogneedafoiaaa.Rf
set_option linter.unusedVariables false
set_option linter.unusedSimpArgs false

/-- two pages that agree but for the place of cell i -/
def Off (i : Nat) (p q : List Int) : Prop := p.length = 512 ∧ q.length = 512 ∧ ∀ j, j < 26 + 4 * i ∨ 28 + 4 * i ≤ j → p.getD j 0 = q.getD j 0
theorem off_over {i : Nat} {p q : List Int} (h : Off i p q) {a : Nat} {l : List Int} (ha : a + l.length ≤ 512) : Off i (over p a l) (over q a l) := by
  have h1 := h.1
  have h2 := h.2.1
  refine ⟨over_len h1 ha, over_len h2 ha, fun j hj => ?_⟩
  rw [over_getD _ _ _ (by omega), over_getD _ _ _ (by omega), h.2.2 j hj]
theorem off_close {i : Nat} {p q : List Int} (h : Off i p q) {l : List Int} (hl : l.length = 2) (hi : 30 + 4 * i ≤ 512) : over p (26 + 4 * i) l = over q (26 + 4 * i) l := by
  have h1 := h.1
  have h2 := h.2.1
  refine list_ext_getD (by rw [over_len h1 (by omega), over_len h2 (by omega)]) (fun j hj => ?_)
  rw [over_getD _ _ _ (by omega), over_getD _ _ _ (by omega), hl]
  by_cases c : 26 + 4 * i ≤ j ∧ j < 26 + 4 * i + 2
  · rw [if_pos c, if_pos c]
  · rw [if_neg c, if_neg c]
    exact h.2.2 j (by omega)
theorem off_cut {i : Nat} {p q : List Int} (h : Off i p q) {b s : Nat} (hb : b + s ≤ 512) (hne : b + s ≤ 26 + 4 * i ∨ 28 + 4 * i ≤ b) : (p.drop b).take s = (q.drop b).take s :=
  cut_congr (by have := h.1; omega) (by have := h.2.1; omega) (fun j hj => h.2.2 (b + j) (by omega))
theorem off_num {i : Nat} {p q : List Int} (h : Off i p q) {b s : Nat} (hb : b + s ≤ 512) (hne : b + s ≤ 26 + 4 * i ∨ 28 + 4 * i ≤ b) : numAt p b s = numAt q b s := by
  unfold numAt
  rw [off_cut h hb hne]
section
variable {i : Nat} {p q : List Int} (h : Off i p q) (hf : Fits p) (hn : 26 + 4 * cnt p ≤ 512) (hi : i < cnt p) (hz : szP p i = 0) (hout : ∀ j, j < cnt p → j ≠ i → 26 + 4 * cnt p ≤ frm p j)
include h hf hn hi hz hout
omit hf hn hi hz hout in
theorem off_cnt : cnt p = cnt q := off_num h (by omega) (by omega)
omit hf hi hz hout in
theorem off_sz {j : Nat} (hj : j < cnt p) : szP p j = szP q j := off_num h (by omega) (by omega)
omit hf hi hz hout in
theorem off_sum : ∀ k, k ≤ cnt p → sumSz p k = sumSz q k := by
  intro k
  induction k with
  | zero => intro _; rfl
  | succ k ih => intro hk; rw [sumSz, sumSz, ih (by omega), off_sz h hn (show k < cnt p by omega)]
theorem off_cell {j : Nat} (hj : j < cnt p) : cellP p j = cellP q j := by
  have hs := off_sz h hn hj
  have h512 := hf.2 j hj
  by_cases hji : j = i
  · subst hji
    unfold cellP
    rw [← hs, hz, List.take_zero, List.take_zero]
  · have e : frm p j = frm q j := off_num h (by omega) (by omega)
    unfold cellP
    rw [← hs, ← e]
    have := hout j hj hji
    exact off_cut h h512 (by omega)
theorem off_ank : ∀ k, k ≤ cnt p → Off i (anK p k) (anK q k) ∧ (i < k → anK p k = anK q k) := by
  intro k
  induction k with
  | zero => intro _; exact ⟨h, fun hk => absurd hk (by omega)⟩
  | succ k ih =>
    intro hk
    obtain ⟨h1, h2⟩ := ih (by omega)
    have hf1 := hf.1
    have hsk := off_sum h hn (k + 1) hk
    have hs := off_sz h hn (show k < cnt p by omega)
    have hc := off_cell h hf hn hi hz hout (show k < cnt p by omega)
    have hm := sumSz_mono p hk
    have hss : sumSz p (k + 1) = sumSz p k + szP p k := rfl
    have hcl := cellP_length h.1 (hf.2 k (by omega))
    rw [anK, anK, ← hsk, ← hs, ← hc]
    by_cases hki : i < k
    · rw [h2 hki]
      refine ⟨⟨?_, ?_, fun _ _ => rfl⟩, fun _ => rfl⟩
      all_goals exact over_len (over_len (over_len h1.2.1 (by omega)) (by rw [leB_length]; omega)) (by rw [leB_length]; omega)
    · have o1 := off_over h1 (a := 512 - sumSz p (k + 1)) (l := cellP p k) (by omega)
      by_cases hke : i = k
      · subst hke
        rw [off_close o1 (leB_length _ _) (by omega)]
        refine ⟨⟨?_, ?_, fun _ _ => rfl⟩, fun _ => rfl⟩
        all_goals exact over_len (over_len o1.2.1 (by rw [leB_length]; omega)) (by rw [leB_length]; omega)
      · exact ⟨off_over (off_over o1 (by rw [leB_length]; omega)) (by rw [leB_length]; omega), fun hk2 => absurd hk2 (by omega)⟩
theorem off_anew : anewP p = anewP q := by
  unfold anewP
  rw [← off_cnt h, ← off_sum h hn _ (Nat.le_refl _), (off_ank h hf hn hi hz hout _ (Nat.le_refl _)).2 hi]
end
theorem rreplace_l0 {q : List Int} (hq : q.length = 512) (l : List Int) (lo : Nat) (h : lo + l.length ≤ 512) : ∀ (d i k : Nat), i + d = l.length → d < k →
    munimentref5_Replace.l0 k l (lo : Int) (over q lo (l.take i)) (i : Int) = some (over q lo l, true) := by
  intro d
  induction d with
  | zero =>
    intro i k hi hk
    obtain ⟨k, rfl⟩ : ∃ m, k = m + 1 := ⟨k - 1, by omega⟩
    rw [munimentref5_Replace.l0, if_neg (by omega), List.take_of_length_le (by omega)]
  | succ d ih =>
    intro i k hi hk
    obtain ⟨k, rfl⟩ : ∃ m, k = m + 1 := ⟨k - 1, by omega⟩
    have hti : (l.take i).length = i := by rw [List.length_take]; omega
    have hlen : (over q lo (l.take i)).length = 512 := over_len hq (by omega)
    rw [munimentref5_Replace.l0, if_pos (by omega), if_pos (by omega), w64 (n := (lo : Int) + (i : Int)) (by omega) (by omega), if_pos (by omega), if_pos (by rw [hlen]; omega), w64 (n := (i : Int) + 1) (by omega) (by omega)]
    have h := over_set_last q lo (l.take i) (rd l (i : Int)) (by omega)
    rw [hti, ← take_succ_rd l i (by omega)] at h
    rw [show ((lo : Int) + (i : Int)).toNat = lo + i by omega, h]
    exact ih (i + 1) k (by omega) (by omega)
theorem rreplace_j0 {q : List Int} (hq : q.length = 512) (l : List Int) (i lo : Nat) (hi : 30 + 4 * i ≤ 512) (h : lo + l.length ≤ 512) (k : Nat) (hk : 600 ≤ k) :
    munimentref5_Replace.j0 k (i : Int) l (lo : Int) q = some (over (over q (28 + 4 * i) (leB (l.length : Int) 2)) lo l, true) := by
  obtain ⟨k, rfl⟩ : ∃ m, k = m + 1 := ⟨k - 1, by omega⟩
  have l1 : (over q (28 + 4 * i) (leB (l.length : Int) 2)).length = 512 := over_len hq (by rw [leB_length]; omega)
  rw [munimentref5_Replace.j0, w64 (n := 4 * (i : Int)) (by omega) (by omega), w64 (n := 28 + 4 * (i : Int)) (by omega) (by omega), u64_nat (n := l.length) (by omega), rput_at _ (28 + 4 * i) 2 _ 2 _ (by omega) rfl hq (by omega) (by decide) (by omega) k (by omega), Option.bind_some]
  have h := rreplace_l0 l1 l lo h l.length 0 k (by omega) (by omega)
  rw [List.take_zero, over_nil] at h
  exact h
/-- the page behind Replace's last changes, in the reference's order -/
theorem replace_chain {X l : List Int} (hX : X.length = 512) {L S : List Int} (hL : L.length = 2) (hS : S.length = 2) {i lo : Nat} (hi : 30 + 4 * i ≤ lo) (hlo : lo + l.length ≤ 512) :
    over (over (over (over X 16 L) (26 + 4 * i) L) (28 + 4 * i) S) lo l = over (over (over (over X lo l) 16 L) (26 + 4 * i) L) (28 + 4 * i) S := by
  have b1 : (over X 16 L).length = 512 := over_len hX (by omega)
  have b2 : (over (over X 16 L) (26 + 4 * i) L).length = 512 := over_len b1 (by omega)
  rw [over_comm b2 (a := 28 + 4 * i) (b := lo) (by omega) (by omega) (by omega), over_comm b1 (a := 26 + 4 * i) (b := lo) (by omega) (by omega) (by omega), over_comm hX (a := 16) (b := lo) (by omega) (by omega) (by omega)]
/-- the reference's page with the cell emptied -/
def rz (p : List Int) (i : Nat) : List Int := over p (28 + 4 * i) (leB ((0 : Nat) : Int) 2)
theorem off_rz {p : List Int} (hp : p.length = 512) {i : Nat} (hi : 30 + 4 * i ≤ 512) : Off i (rp1 p i) (rz p i) := by
  have h1 : Off i (over p (26 + 4 * i) (leB (lowP p) 2)) p := ⟨over_len hp (by rw [leB_length]; omega), hp, fun j hj => by rw [over_getD _ _ _ (by rw [leB_length]; omega), leB_length, if_neg (by omega)]⟩
  exact off_over h1 (by rw [leB_length]; omega)
theorem rreplace_small {p l : List Int} (ho : octs p) (hg : goodP p = true) {i : Nat} (hi : i < cnt p) (hsz : l.length ≤ szP p i) (k : Nat) (hk : 1000 ≤ k) : munimentref5_Replace.f k p (i : Int) l = some (replaceP p i l, true) := by
  have w := good_iff.mp hg
  have h1 := w.slots
  have h2 := w.low
  have h3 := w.fit i hi
  obtain ⟨r, hr, hr1, hr2⟩ : ∃ r, munimentref5_slot.f k p (i : Int) = some r ∧ r.1 = ((frm p i : Nat) : Int) ∧ r.2 = ((szP p i : Nat) : Int) := ⟨_, rslot_eq p ho w.len k (by omega) i (by omega), rfl, rfl⟩
  unfold munimentref5_Replace.f
  rw [hr, Option.bind_some, rcopy_eq p (by rw [w.len]; decide), Option.bind_some, hr2, if_neg (by omega), hr1, rreplace_j0 w.len l i (frm p i) (by omega) (by omega) k (by omega)]
  unfold replaceP rpS
  have l1 : (over p (frm p i) l).length = 512 := over_len w.len (by omega)
  rw [if_pos hsz, over_comm w.len (a := 28 + 4 * i) (b := frm p i) (l := leB (l.length : Int) 2) (m := l) (by rw [leB_length]; omega) (by omega) (by rw [leB_length]; omega)]
  have e : over (over p (frm p i) l) (26 + 4 * i) (leB (frm p i) 2) = over p (frm p i) l := by
    have hp2 := over_num_self ho (a := 26 + 4 * i) (s := 2) (by rw [w.len]; omega)
    have e2 : numAt p (26 + 4 * i) 2 = frm p i := rfl
    rw [e2] at hp2
    rw [over_comm w.len (a := frm p i) (b := 26 + 4 * i) (l := l) (m := leB (frm p i) 2) (by omega) (by rw [leB_length]; omega) (by rw [leB_length]; omega), hp2]
  rw [e]
theorem rreplace_full {p l : List Int} (ho : octs p) (hg : goodP p = true) {i : Nat} (hi : i < cnt p) (hll : l.length ≤ 140737488351232) (hsz : szP p i < l.length) (hfull : freeP p < (l.length : Int) - szP p i) (k : Nat) (hk : 1000 ≤ k) : munimentref5_Replace.f k p (i : Int) l = some ([], false) := by
  have w := good_iff.mp hg
  have h1 := w.slots
  have h2 := w.low
  have h3 := w.fit i hi
  obtain ⟨r, hr, hr1, hr2⟩ : ∃ r, munimentref5_slot.f k p (i : Int) = some r ∧ r.1 = ((frm p i : Nat) : Int) ∧ r.2 = ((szP p i : Nat) : Int) := ⟨_, rslot_eq p ho w.len k (by omega) i (by omega), rfl, rfl⟩
  unfold munimentref5_Replace.f
  rw [hr, Option.bind_some, rcopy_eq p (by rw [w.len]; decide), Option.bind_some, hr2, if_pos (by omega), rfree_eq p ho w.len (by omega) k (by omega), Option.bind_some, w64 (n := (l.length : Int) - ((szP p i : Nat) : Int)) (by omega) (by omega), if_pos hfull]
theorem rreplace_big {p l : List Int} (ho : octs p) (hg : goodP p = true) {i : Nat} (hi : i < cnt p) (hll : l.length ≤ 140737488351232) (hsz : szP p i < l.length) (hfree : (l.length : Int) - szP p i ≤ freeP p) (k : Nat) (hk : 200000 ≤ k) : munimentref5_Replace.f k p (i : Int) l = some (replaceP p i l, true) := by
  have w := good_iff.mp hg
  have h1 := w.slots
  have h2 := w.low
  have h3 := w.fit i hi
  have hi5 : 30 + 4 * i ≤ 512 := by omega
  have hpl := w.len
  have hgf := good_facts hg
  have hsm := sumSz_mono p (show i + 1 ≤ cnt p from hi)
  have hfr := hfree
  unfold freeP at hfr
  obtain ⟨r, hr, hr1, hr2⟩ : ∃ r, munimentref5_slot.f k p (i : Int) = some r ∧ r.1 = ((frm p i : Nat) : Int) ∧ r.2 = ((szP p i : Nat) : Int) := ⟨_, rslot_eq p ho w.len k (by omega) i (by omega), rfl, rfl⟩
  have hoff := off_rz hpl hi5
  obtain ⟨z, hz⟩ : ∃ z, rz p i = z := ⟨_, rfl⟩
  obtain ⟨y, hy⟩ : ∃ y, rp1 p i = y := ⟨_, rfl⟩
  have zl : z.length = 512 := by rw [← hz]; exact over_len hpl (by rw [leB_length]; omega)
  have zo : octs z := by rw [← hz]; exact over_octs ho _ (leB_octs _ _)
  have znum : ∀ b s, b + s ≤ 512 → (b + s ≤ 28 + 4 * i ∨ 30 + 4 * i ≤ b) → numAt z b s = numAt p b s := by
    intro b s hb hne
    rw [← hz]
    exact numAt_over_ne (by rw [leB_length]; omega) (by omega) (by rw [leB_length]; omega)
  have zc : cnt z = cnt p := znum 14 2 (by omega) (by omega)
  have zlow : lowP z = lowP p := znum 16 2 (by omega) (by omega)
  have yl : y.length = 512 := by rw [← hy]; exact rp1_len hpl hi5
  have yo : octs y := by rw [← hy]; exact rp1_octs ho i
  have yc : cnt y = cnt p := by rw [← hy]; exact rp1_cnt hpl hi5
  have ylow : lowP y = lowP p := by rw [← hy]; exact rp1_low hpl hi5
  have ysz : szP y i = 0 := by rw [← hy]; exact rp1_sz hpl hi5
  have ysum : sumSz y (cnt p) + szP p i = sumSz p (cnt p) := by
    have := rp1_sum hpl hi5 (cnt p) (by omega)
    rw [if_pos hi, hy] at this
    exact this
  rw [hy, hz] at hoff
  have yfit : Fits y := by
    refine ⟨by rw [yc]; omega, fun j hj => ?_⟩
    rw [yc] at hj
    by_cases hji : j = i
    · subst hji
      have e : frm y j = lowP p := by rw [← hy]; exact rp1_frm hpl hi5 h2
      rw [e, ysz]
      omega
    · have e1 : frm y j = frm p j := by rw [← hy]; exact rp1_ne hpl hi5 (by omega) (by omega)
      have e2 : szP y j = szP p j := by rw [← hy]; exact rp1_ne hpl hi5 (by omega) (by omega)
      rw [e1, e2]
      exact (w.fit j hj).2
  have zfit : Fits z := by
    have zsz : ∀ j, j < cnt p → szP y j = szP z j := fun j hj => off_num hoff (by omega) (by omega)
    have zsum : ∀ m, m ≤ cnt p → sumSz y m = sumSz z m := by
      intro m
      induction m with
      | zero => intro _; rfl
      | succ m ih => intro hm; rw [sumSz, sumSz, ih (by omega), zsz m (by omega)]
    refine ⟨by rw [zc, ← zsum _ (Nat.le_refl _)]; omega, fun j hj => ?_⟩
    rw [zc] at hj
    have e1 : frm z j = frm p j := znum _ 2 (by omega) (by omega)
    have e2 := zsz j hj
    have e3 : szP y j ≤ szP p j := by
      by_cases hji : j = i
      · subst hji; omega
      · have : szP y j = szP p j := by rw [← hy]; exact rp1_ne hpl hi5 (by omega) (by omega)
        omega
    have := (w.fit j hj).2
    omega
  have yout : ∀ j, j < cnt y → j ≠ i → 26 + 4 * cnt y ≤ frm y j := by
    intro j hj hji
    rw [yc] at hj ⊢
    have e1 : frm y j = frm p j := by rw [← hy]; exact rp1_ne hpl hi5 (by omega) (by omega)
    have := (w.fit j hj).1
    omega
  have han : anewP y = anewP z := off_anew hoff yfit (by rw [yc]; omega) (by rw [yc]; exact hi) ysz yout
  have hw1 : IntKind.u64.wrap 0 = 0 := by decide
  unfold munimentref5_Replace.f
  rw [hr, Option.bind_some, rcopy_eq p (by rw [w.len]; decide), Option.bind_some, hr2, if_pos (by omega), rfree_eq p ho hpl (by omega) k (by omega), Option.bind_some, w64 (n := (l.length : Int) - ((szP p i : Nat) : Int)) (by omega) (by omega), if_neg (by omega), w64 (n := 4 * (i : Int)) (by omega) (by omega), w64 (n := 28 + 4 * (i : Int)) (by omega) (by omega), w64 (n := 26 + 4 * (i : Int)) (by omega) (by omega)]
  rw [rput_at p (28 + 4 * i) 2 _ 2 0 (by omega) rfl hpl (by omega) (by decide) (by omega) k (by omega), Option.bind_some]
  have ez : over p (28 + 4 * i) (leB 0 2) = z := hz
  rw [ez, rlow_eq z zo zl k (by omega), Option.bind_some, rcnt_eq z zo zl k (by omega), Option.bind_some, zc, zlow, w64 (n := ((lowP p : Nat) : Int) - 26) (by omega) (by omega), w64 (n := 4 * ((cnt p : Nat) : Int)) (by omega) (by omega), w64 (n := ((lowP p : Nat) : Int) - 26 - 4 * ((cnt p : Nat) : Int)) (by omega) (by omega)]
  have hrep : replaceP p i l = belowP (if lowP p < 26 + 4 * cnt p + l.length then anewP y else y) i l := by
    unfold replaceP rp2
    rw [if_neg (by omega), hy]
  rw [hrep]
  by_cases hroom : lowP p < 26 + 4 * cnt p + l.length
  · rw [if_pos hroom, if_pos (by omega), rcompact_eq zl zo zfit (by rw [zc]; omega) k (by omega), Option.bind_some, ← han]
    obtain ⟨q, hq⟩ : ∃ q, anewP y = q := ⟨_, rfl⟩
    have ql : q.length = 512 := by rw [← hq]; exact anew_length yl yfit
    have qo : octs q := by rw [← hq]; exact anew_octs yo
    have qlow : lowP q = 512 - sumSz y (cnt p) := by rw [← hq, anew_low yl yfit, yc]
    rw [hq]
    have b1 : (over q 16 (leB ((lowP q - l.length : Nat) : Int) 2)).length = 512 := over_len ql (by rw [leB_length]; omega)
    have b2 : (over (over q 16 (leB ((lowP q - l.length : Nat) : Int) 2)) (26 + 4 * i) (leB ((lowP q - l.length : Nat) : Int) 2)).length = 512 := over_len b1 (by rw [leB_length]; omega)
    rw [rlow_eq q qo ql k (by omega), Option.bind_some, w64 (n := ((lowP q : Nat) : Int) - (l.length : Int)) (by omega) (by omega), show ((lowP q : Nat) : Int) - (l.length : Int) = ((lowP q - l.length : Nat) : Int) by omega, u64_nat (n := lowP q - l.length) (by omega)]
    rw [rput_at _ 16 2 _ 2 _ (by omega) rfl ql (by omega) (by decide) (by omega) k (by omega), Option.bind_some, rput_at _ (26 + 4 * i) 2 _ 2 _ (by omega) rfl b1 (by omega) (by decide) (by omega) k (by omega), Option.bind_some, rreplace_j0 b2 l i (lowP q - l.length) hi5 (by omega) k (by omega)]
    rw [replace_chain ql (leB_length _ _) (leB_length _ _) (by omega) (by omega)]
    rfl
  · rw [if_neg hroom, if_neg (by omega)]
    have b1 : (over z 16 (leB ((lowP p - l.length : Nat) : Int) 2)).length = 512 := over_len zl (by rw [leB_length]; omega)
    have b2 : (over (over z 16 (leB ((lowP p - l.length : Nat) : Int) 2)) (26 + 4 * i) (leB ((lowP p - l.length : Nat) : Int) 2)).length = 512 := over_len b1 (by rw [leB_length]; omega)
    rw [Option.bind_some, w64 (n := ((lowP p : Nat) : Int) - (l.length : Int)) (by omega) (by omega), show ((lowP p : Nat) : Int) - (l.length : Int) = ((lowP p - l.length : Nat) : Int) by omega, u64_nat (n := lowP p - l.length) (by omega)]
    rw [rput_at _ 16 2 _ 2 _ (by omega) rfl zl (by omega) (by decide) (by omega) k (by omega), Option.bind_some, rput_at _ (26 + 4 * i) 2 _ 2 _ (by omega) rfl b1 (by omega) (by decide) (by omega) k (by omega), Option.bind_some, rreplace_j0 b2 l i (lowP p - l.length) hi5 (by omega) k (by omega)]
    rw [replace_chain zl (leB_length _ _) (leB_length _ _) (by omega) (by omega)]
    unfold belowP
    rw [ylow]
    have o1 := off_over (off_over hoff (a := lowP p - l.length) (l := l) (by omega)) (a := 16) (l := leB ((lowP p - l.length : Nat) : Int) 2) (by rw [leB_length]; omega)
    rw [off_close o1 (leB_length _ _) hi5]
end Go.Proofs.Ytpogneedafoiaaa.Pg
