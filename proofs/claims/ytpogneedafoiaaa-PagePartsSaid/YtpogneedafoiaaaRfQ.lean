/- Plain: the reference's Good, Free, Cells, Copy, put, Compact are the page's own. -/
import Derived.Test.YtpogneedafoiaaaRfB
import Derived.Test.YtpogneedafoiaaaRfC
import Derived.Test.YtpogneedafoiaaaPgFour
namespace Go.Proofs.Ytpogneedafoiaaa.Pg
open Go.RowKit Go.Proofs.YtpogneedafoiaaaW.PrintWords Go.Proofs.YtpogneedafoiaaaW.PrintLast Go.Proofs.YtpogneedafoiaaaW.PrintMore Go.Proofs.Ytpogneedafoiaaa.Bw Go.Proofs.Ytpogneedafoiaaa.Crc Go.Proofs.Ytpogneedafoiaaa.Wordy Go.Proofs.Ytpogneedafoiaaa.Rf
set_option linter.unusedVariables false
set_option linter.unusedSimpArgs false

def contO (x : Option (List Bool)) (f : List Bool → Option Bool) : Option Bool := match x with | none => some false | some T => f T
theorem rgood_l1 (p : List Int) (a b f s : Int) (i : Nat) (hfs : f + s ≤ 512) (hfs0 : 0 ≤ f) (hs0 : 0 ≤ s) (hi : i < 65536) : ∀ (m : Nat) (T : List Bool) (j k : Nat), T.length = 512 → (j : Int) + m = f + s →
    munimentref5_Good.l1 (k + m + 1) p a b T (i : Int) f s (j : Int) = contO (markB T j m) (fun T' => munimentref5_Good.l0 k p a b T' ((i + 1 : Nat) : Int)) := by
  intro m
  induction m with
  | zero =>
    intro T j k hT hj
    simp only [Nat.add_zero, munimentref5_Good.l1]
    rw [w64 (n := f + s) (by omega) (by omega), if_neg (by omega), w64 (n := (i : Int) + 1) (by omega) (by omega)]
    rfl
  | succ m ih =>
    intro T j k hT hj
    obtain ⟨q, hq⟩ : ∃ q, k + m + 1 = q := ⟨_, rfl⟩
    have e : k + (m + 1) + 1 = q + 1 := by omega
    rw [e]
    simp only [munimentref5_Good.l1]
    rw [w64 (n := f + s) (by omega) (by omega), if_pos (by omega), if_pos (by omega), if_pos (by rw [hT]; omega), w64 (n := (j : Int) + 1) (by omega) (by omega)]
    rw [← hq]
    have hrd : rdOf false T (j : Int) = T.getD j false := by unfold rdOf; rw [Int.toNat_natCast]
    rw [hrd, markB]
    by_cases hv : T.getD j false = true
    · rw [if_pos hv, if_pos hv]; rfl
    · rw [if_neg hv, if_neg hv, Int.toNat_natCast]
      exact ih (T.set j true) (j + 1) k (by rw [List.length_set]; exact hT) (by omega)
theorem rgood_l0 (p : List Int) (ho : octs p) (hl : p.length = 512) (hn : 26 + 4 * cnt p ≤ 512) : ∀ (d i k : Nat) (T : List Bool), T.length = 512 → i + d = cnt p → 600 * d + 30 ≤ k →
    munimentref5_Good.l0 k p ((cnt p : Nat) : Int) ((lowP p : Nat) : Int) T (i : Int) = some (chkB p T i d) := by
  intro d
  induction d with
  | zero =>
    intro i k T hT hi hk
    obtain ⟨k, rfl⟩ : ∃ m, k = m + 1 := ⟨k - 1, by omega⟩
    simp only [munimentref5_Good.l0]
    rw [if_neg (by omega), chkB]
  | succ d ih =>
    intro i k T hT hi hk
    obtain ⟨k, rfl⟩ : ∃ m, k = m + 2 := ⟨k - 2, by omega⟩
    have hf : frm p i < 65536 := numAt2_lt ho _
    have hs : szP p i < 65536 := numAt2_lt ho _
    simp only [munimentref5_Good.l0]
    rw [if_pos (by omega), rslot_eq p ho hl (k + 1) (by omega) i (by omega)]
    simp only [Option.bind_some, munimentref5_Good.j3]
    rw [w64 (n := ((frm p i : Nat) : Int) + ((szP p i : Nat) : Int)) (by omega) (by omega), chkB]
    by_cases h1 : frm p i < lowP p
    · rw [if_pos (by omega), if_pos trivial, if_pos (.inl h1)]
    · rw [if_neg (by omega)]
      by_cases h2 : 512 < frm p i + szP p i
      · rw [if_pos (decide_eq_true (by omega)), if_pos (.inr h2)]
      · rw [if_neg (by rw [decide_eq_false (by omega)]; decide), if_neg (by omega)]
        obtain ⟨k', rfl⟩ : ∃ k', k = k' + szP p i + 1 := ⟨k - szP p i - 1, by omega⟩
        rw [rgood_l1 p _ _ ((frm p i : Nat) : Int) ((szP p i : Nat) : Int) i (by omega) (by omega) (by omega) (by omega) (szP p i) T (frm p i) k' hT (by omega)]
        cases hm : markB T (frm p i) (szP p i) with
        | none => rfl
        | some T' =>
          show munimentref5_Good.l0 k' p _ _ T' ((i + 1 : Nat) : Int) = some (chkB p T' (i + 1) d)
          exact ih (i + 1) k' T' (by rw [(markB_facts _ _ _ _ (by omega) hm).1]; exact hT) (by omega) (by omega)
theorem rgood_eq (p : List Int) (ho : octs p) (hll : p.length ≤ 140737488351232) (k : Nat) (hk : 100000 ≤ k) : munimentref5_Good.f k p = some (goodP p) := by
  obtain ⟨k, rfl⟩ : ∃ m, k = m + 2 := ⟨k - 2, by omega⟩
  unfold munimentref5_Good.f goodP
  by_cases hl : p.length = 512
  · rw [if_pos (by omega), if_pos (by omega), if_pos hl]
    have hrd : rd p 13 = p.getD 13 0 := rfl
    rw [hrd, munimentref5_Good.j0]
    by_cases h1 : p.getD 13 0 = 0
    · have hb : (p.getD 13 0 != 0) = false := by rw [h1]; rfl
      rw [hb, if_pos h1, if_neg (by decide), rcnt_eq p ho hl (k + 1) (by omega), rlow_eq p ho hl (k + 1) (by omega), Option.bind_some, Option.bind_some]
      have b1 : cnt p < 65536 := numAt2_lt ho _
      have b2 : lowP p < 65536 := numAt2_lt ho _
      rw [w64 (n := 4 * ((cnt p : Nat) : Int)) (by omega) (by omega), w64 (n := 26 + 4 * ((cnt p : Nat) : Int)) (by omega) (by omega)]
      by_cases h2 : 26 + 4 * cnt p ≤ lowP p
      · rw [if_neg (by omega), munimentref5_Good.j1]
        by_cases h3 : lowP p ≤ 512
        · rw [if_neg (by rw [decide_eq_false (by omega)]; decide), if_pos (Nat.le_of_ble_eq_true rfl), if_pos ⟨h2, h3⟩]
          exact rgood_l0 p ho hl (by omega) (cnt p) 0 k _ List.length_replicate (by omega) (by omega)
        · rw [if_pos (decide_eq_true (by omega)), if_neg (by omega)]
      · rw [if_pos (by omega), munimentref5_Good.j1, if_pos rfl, if_neg (by omega)]
    · have hb : (p.getD 13 0 != 0) = true := by simpa using h1
      rw [hb, if_neg h1, if_pos rfl]
  · rw [if_neg (by omega), if_neg hl]
    simp only [munimentref5_Good.j0]
    rw [if_pos trivial]
section
variable (p : List Int) (ho : octs p) (hl : p.length = 512) (hn : 26 + 4 * cnt p ≤ 512)
include ho hl hn
theorem rfree_l0 : ∀ (d i k : Nat), i + d = cnt p → d + 20 ≤ k →
    munimentref5_Free.l0 k p (486 - 4 * ((cnt p : Nat) : Int) - ((sumSz p i : Nat) : Int)) (i : Int) = some (freeP p) := by
  intro d
  induction d with
  | zero =>
    intro i k hi hk
    obtain ⟨k, rfl⟩ : ∃ m, k = m + 1 := ⟨k - 1, by omega⟩
    simp only [munimentref5_Free.l0]
    rw [rcnt_eq p ho hl k (by omega)]
    simp only [Option.bind_some]
    rw [if_neg (by omega)]
    unfold freeP
    rw [show i = cnt p by omega]
  | succ d ih =>
    intro i k hi hk
    obtain ⟨k, rfl⟩ : ∃ m, k = m + 1 := ⟨k - 1, by omega⟩
    have hs : szP p i < 65536 := numAt2_lt ho _
    have hss := sumSz_le ho i
    simp only [munimentref5_Free.l0]
    rw [rcnt_eq p ho hl k (by omega)]
    simp only [Option.bind_some]
    rw [if_pos (by omega), rslot_eq p ho hl k (by omega) i (by omega)]
    simp only [Option.bind_some]
    rw [w64 (n := 486 - 4 * ((cnt p : Nat) : Int) - ((sumSz p i : Nat) : Int) - ((szP p i : Nat) : Int)) (by omega) (by omega), w64 (n := (i : Int) + 1) (by omega) (by omega)]
    have := ih (i + 1) k (by omega) (by omega)
    rw [sumSz] at this
    rw [← this]
    congr 1
    omega
theorem rfree_eq (k : Nat) (hk : 200 ≤ k) : munimentref5_Free.f k p = some (freeP p) := by
  unfold munimentref5_Free.f
  rw [rcnt_eq p ho hl k (by omega)]
  simp only [Option.bind_some]
  rw [w64 (n := 4 * ((cnt p : Nat) : Int)) (by omega) (by omega), w64 (n := 486 - 4 * ((cnt p : Nat) : Int)) (by omega) (by omega)]
  have := rfree_l0 p ho hl hn (cnt p) 0 k (by omega) (by omega)
  rw [sumSz] at this
  rw [← this]
  congr 1
  omega
theorem rcells_l0 (hf : ∀ i, i < cnt p → frm p i + szP p i ≤ 512) : ∀ (d i k : Nat), i + d = cnt p → d + 20 ≤ k →
    munimentref5_Cells.l0 k p ((List.range i).map (cellP p)) (i : Int) = some (cellsP p) := by
  intro d
  induction d with
  | zero =>
    intro i k hi hk
    obtain ⟨k, rfl⟩ : ∃ m, k = m + 1 := ⟨k - 1, by omega⟩
    rw [munimentref5_Cells.l0, rcnt_eq p ho hl k (by omega), Option.bind_some, if_neg (by omega)]
    unfold cellsP
    rw [show i = cnt p by omega]
  | succ d ih =>
    intro i k hi hk
    obtain ⟨k, rfl⟩ : ∃ m, k = m + 1 := ⟨k - 1, by omega⟩
    have h512 := hf i (by omega)
    obtain ⟨r, hr, hr1, hr2⟩ : ∃ r, munimentref5_slot.f k p (i : Int) = some r ∧ r.1 = ((frm p i : Nat) : Int) ∧ r.2 = ((szP p i : Nat) : Int) := ⟨_, rslot_eq p ho hl k (by omega) i (by omega), rfl, rfl⟩
    rw [munimentref5_Cells.l0, rcnt_eq p ho hl k (by omega), Option.bind_some, if_pos (by omega), hr, Option.bind_some, hr1, hr2]
    rw [w64 (n := ((frm p i : Nat) : Int) + ((szP p i : Nat) : Int)) (by omega) (by omega), w64 (n := (i : Int) + 1) (by omega) (by omega)]
    rw [if_pos (by omega), if_pos (by omega), if_pos (by omega)]
    have e0 : List.drop ((frm p i : Nat) : Int).toNat (List.take (((frm p i : Nat) : Int) + ((szP p i : Nat) : Int)).toNat p) = cellP p i := by
      rw [Int.toNat_natCast, show (((frm p i : Nat) : Int) + ((szP p i : Nat) : Int)).toNat = frm p i + szP p i by omega, List.drop_take, Nat.add_sub_cancel_left]
      rfl
    have hcl := cellP_length hl h512
    rw [e0, if_pos (by rw [List.length_nil, hcl]; omega), if_pos (by rw [List.length_map, List.length_range]; omega), List.nil_append]
    have := ih (i + 1) k (by omega) (by omega)
    rw [List.range_succ, List.map_append] at this
    exact this
theorem rcells_eq (hf : ∀ i, i < cnt p → frm p i + szP p i ≤ 512) (k : Nat) (hk : 200 ≤ k) : munimentref5_Cells.f k p = some (cellsP p) := by
  unfold munimentref5_Cells.f
  have := rcells_l0 p ho hl hn hf (cnt p) 0 k (by omega) (by omega)
  exact this
end
theorem rcopy_eq (p : List Int) (hl : p.length ≤ 140737488351232) : munimentref5_Copy.f p = some p := by
  unfold munimentref5_Copy.f
  rw [if_pos (by rw [List.length_nil]; omega), List.nil_append]
theorem rPut_l0 (n : Int) (hn : 0 ≤ n) (size : Nat) (hs : size ≤ 8) : ∀ (d i k : Nat), i + d = size → d < k → munimentref1_Put.l0 k n (size : Int) (leB n i) (i : Int) = some (leB n size) := by
  intro d
  induction d with
  | zero =>
    intro i k hi hk
    obtain ⟨k, rfl⟩ : ∃ m, k = m + 1 := ⟨k - 1, by omega⟩
    simp only [munimentref1_Put.l0]
    rw [if_neg (by omega), show i = size by omega]
  | succ d ih =>
    intro i k hi hk
    obtain ⟨k, rfl⟩ : ∃ m, k = m + 1 := ⟨k - 1, by omega⟩
    simp only [munimentref1_Put.l0]
    rw [w64 (n := 8 * (i : Int)) (by omega) (by omega), w64 (n := (i : Int) + 1) (by omega) (by omega)]
    have hw : IntKind.u64.wrap (8 * (i : Int)) = 8 * (i : Int) := by rw [IntKind.wrap_u64]; omega
    have hsh : shr .u64 n (8 * (i : Int)) % 256 = octOf n i := by
      unfold shr octOf
      rw [show (8 * (i : Int)).toNat = 8 * i by omega, Nat.min_eq_left (by show 8 * i ≤ 64; omega)]
    rw [hw, hsh, if_pos (by omega), if_pos (by omega), if_pos (by rw [leB_length]; omega), ← leB_succ]
    exact ih (i + 1) k (by omega) (by omega)
theorem rPut_eq (n : Int) (hn : 0 ≤ n) (size : Nat) (hs : size ≤ 8) (k : Nat) (hk : 9 ≤ k) : munimentref1_Put.f k n (size : Int) = some (leB n size) := by
  unfold munimentref1_Put.f
  exact rPut_l0 n hn size hs size 0 k (by omega) (by omega)
theorem over_set_last (p : List Int) (a : Nat) (l : List Int) (x : Int) (h : a + l.length < p.length) : (over p a l).set (a + l.length) x = over p a (l ++ [x]) := by
  have hlen := over_length p a l (by omega)
  refine list_ext_getD ?_ (fun i hi => ?_)
  · rw [List.length_set, hlen, over_length _ _ _ (by rw [List.length_append, List.length_singleton]; omega)]
  · rw [List.length_set, hlen] at hi
    rw [getD_set _ _ _ _ (by omega), over_getD _ _ _ (by omega), over_getD _ _ _ (by rw [List.length_append, List.length_singleton]; omega), List.length_append, List.length_singleton]
    by_cases h1 : i = a + l.length
    · subst h1
      rw [if_pos rfl, if_pos (by omega), Nat.add_sub_cancel_left, List.getD_eq_getElem?_getD, List.getElem?_append_right (Nat.le_refl _)]
      simp
    · rw [if_neg h1]
      by_cases h2 : a ≤ i ∧ i < a + l.length
      · rw [if_pos h2, if_pos (by omega), List.getD_eq_getElem?_getD, List.getD_eq_getElem?_getD, List.getElem?_append_left (by omega)]
      · rw [if_neg h2, if_neg (by omega)]
theorem take_succ_rd (l : List Int) (i : Nat) (h : i < l.length) : l.take (i + 1) = l.take i ++ [rd l (i : Int)] := by
  rw [List.take_succ_eq_append_getElem h]
  unfold rd
  rw [Int.toNat_natCast, List.getD_eq_getElem?_getD, List.getElem?_eq_getElem h]
  rfl
theorem rput_l0 (p l : List Int) (a size : Nat) (hp : p.length ≤ 140737488351232) (hs : l.length = size) (ha : a + size ≤ p.length) : ∀ (d i k : Nat), i + d = size → d < k →
    munimentref5_put.l0 k (over p a (l.take i)) (a : Int) (size : Int) l (i : Int) = some (over p a l) := by
  intro d
  induction d with
  | zero =>
    intro i k hi hk
    obtain ⟨k, rfl⟩ : ∃ m, k = m + 1 := ⟨k - 1, by omega⟩
    simp only [munimentref5_put.l0]
    rw [if_neg (by omega), List.take_of_length_le (by omega)]
  | succ d ih =>
    intro i k hi hk
    obtain ⟨k, rfl⟩ : ∃ m, k = m + 1 := ⟨k - 1, by omega⟩
    have hti : (l.take i).length = i := by rw [List.length_take]; omega
    have hlen := over_length p a (l.take i) (by omega)
    simp only [munimentref5_put.l0]
    rw [w64 (n := (a : Int) + (i : Int)) (by omega) (by omega), w64 (n := (i : Int) + 1) (by omega) (by omega)]
    rw [if_pos (by omega), if_pos (by omega), if_pos (by omega), if_pos (by omega), if_pos (by rw [hlen]; omega)]
    have e1 : ((a : Int) + (i : Int)).toNat = a + i := by omega
    have h := over_set_last p a (l.take i) (rd l (i : Int)) (by omega)
    rw [hti, ← take_succ_rd l i (by omega)] at h
    rw [e1, h]
    exact ih (i + 1) k (by omega) (by omega)
theorem rput_eq (p : List Int) (a size : Nat) (n : Int) (hp : p.length ≤ 140737488351232) (hn : 0 ≤ n) (hs : size ≤ 8) (ha : a + size ≤ p.length) (k : Nat) (hk : 10 ≤ k) :
    munimentref5_put.f k p (a : Int) (size : Int) n = some (over p a (leB n size)) := by
  unfold munimentref5_put.f
  rw [rPut_eq n hn size hs k (by omega)]
  simp only [Option.bind_some]
  have := rput_l0 p (leB n size) a size hp (leB_length _ _) ha size 0 k (by omega) (by omega)
  rw [List.take_zero, over_nil] at this
  exact this
/-- .. at a place and of a size that are said as numbers -/
theorem rput_at (p : List Int) (a size : Nat) (a' s' n : Int) (ha' : a' = (a : Int)) (hs' : s' = (size : Int)) (hl : p.length = 512) (hn : 0 ≤ n) (hs : size ≤ 8) (ha : a + size ≤ 512) (k : Nat) (hk : 10 ≤ k) :
    munimentref5_put.f k p a' s' n = some (over p a (leB n size)) := by
  subst ha' hs'
  exact rput_eq p a size n (by omega) hn hs (by omega) k hk
end Go.Proofs.Ytpogneedafoiaaa.Pg
