/- Plain: the reference's Compact, Insert, Remove are the page's own. -/
import Derived.Test.YtpogneedafoiaaaRfQ
namespace Go.Proofs.Ytpogneedafoiaaa.Pg
open Go.RowKit Go.Proofs.YtpogneedafoiaaaW.PrintWords Go.Proofs.YtpogneedafoiaaaW.PrintLast Go.Proofs.YtpogneedafoiaaaW.PrintMore Go.Proofs.Ytpogneedafoiaaa.Bw Go.Proofs.Ytpogneedafoiaaa.Crc Go.Proofs.Ytpogneedafoiaaa.Wordy Go.Proofs.Ytpogneedafoiaaa.Rf
set_option linter.unusedVariables false
set_option linter.unusedSimpArgs false

theorem over_comm {p : List Int} (hp : p.length = 512) {a b : Nat} {l m : List Int} (ha : a + l.length ≤ 512) (hb : b + m.length ≤ 512) (h : a + l.length ≤ b ∨ b + m.length ≤ a) : over (over p a l) b m = over (over p b m) a l := by
  have h1 := over_len hp ha
  have h2 := over_len hp hb
  refine list_ext_getD (by rw [over_len h1 hb, over_len h2 ha]) (fun j hj => ?_)
  rw [over_getD _ _ _ (by omega), over_getD _ _ _ (by omega), over_getD _ _ _ (by omega), over_getD _ _ _ (by omega)]
  by_cases c1 : b ≤ j ∧ j < b + m.length
  · rw [if_pos c1, if_neg (by omega), if_pos c1]
  · rw [if_neg c1, if_neg c1]
theorem over_append {p : List Int} (hp : p.length = 512) {a : Nat} {l m : List Int} (h : a + l.length + m.length ≤ 512) : over (over p a l) (a + l.length) m = over p a (l ++ m) := by
  have h1 := over_len hp (show a + l.length ≤ 512 by omega)
  have e : (l ++ m).length = l.length + m.length := List.length_append
  refine list_ext_getD (by rw [over_len h1 (by omega), over_len hp (by omega)]) (fun j hj => ?_)
  rw [over_getD _ _ _ (by omega), over_getD _ _ _ (by omega), over_getD _ _ _ (by omega), e]
  by_cases c1 : a + l.length ≤ j ∧ j < a + l.length + m.length
  · rw [if_pos c1, if_pos (by omega), List.getD_eq_getElem?_getD, List.getD_eq_getElem?_getD, List.getElem?_append_right (by omega), Nat.sub_sub]
  · rw [if_neg c1]
    by_cases c2 : a ≤ j ∧ j < a + l.length
    · rw [if_pos c2, if_pos (by omega), List.getD_eq_getElem?_getD, List.getD_eq_getElem?_getD, List.getElem?_append_left (by omega)]
    · rw [if_neg c2, if_neg (by omega)]
theorem leB_cut {q : List Int} (ho : octs q) {a s : Nat} (h : a + s ≤ q.length) : leB ((numAt q a s : Nat) : Int) s = (q.drop a).take s := by
  have hlen : ((q.drop a).take s).length = s := by rw [List.length_take, List.length_drop]; omega
  have := leB_num (octs_take (octs_drop ho a) s)
  rw [hlen] at this
  exact this
theorem cut_length {q : List Int} {a s : Nat} (h : a + s ≤ q.length) : ((q.drop a).take s).length = s := by rw [List.length_take, List.length_drop]; omega
theorem cut_split (q : List Int) (a s t : Nat) : (q.drop a).take (s + t) = (q.drop a).take s ++ (q.drop (a + s)).take t := by
  rw [List.take_add, List.drop_drop]

section
variable {p : List Int} (hl : p.length = 512) (ho : octs p) (hf : Fits p)
include hl ho hf
omit hl hf in
theorem anK_octs (k : Nat) : octs (anK p k) := by
  induction k with
  | zero => exact ho
  | succ k ih => exact over_octs (over_octs (over_octs ih _ (octs_take (octs_drop ho _) _)) _ (leB_octs _ _)) _ (leB_octs _ _)
theorem anK_succ {k : Nat} (hk : k < cnt p) : anK p (k + 1) = over (over (anK p k) (512 - sumSz p (k + 1)) (cellP p k)) (26 + 4 * k) (leB ((512 - sumSz p (k + 1) : Nat) : Int) 2) := by
  obtain ⟨a, c, e, ea, ec, l1, l2, l3, l4, l5, l6, l7⟩ := anK_step hl hf hk
  have hoc : octs c := by rw [ec, ea]; exact over_octs (over_octs (anK_octs ho k) _ (octs_take (octs_drop ho _) _)) _ (leB_octs _ _)
  have hs : numAt c (28 + 4 * k) 2 = szP p k := by
    rw [ec, numAt_over_ne (by rw [leB_length]; omega) (by omega) (by rw [leB_length]; omega), ea, numAt_over_ne (by omega) (by omega) (by omega)]
    exact anK_sz hl hf k (by omega) k hk
  rw [e, ← ec, ← hs, over_num_self hoc (by omega), ec, ea]
/-- the reference's rounds: the free bytes are noughts ahead -/
def rK (p : List Int) : Nat → List Int
  | 0 => over p (26 + 4 * cnt p) (List.replicate (486 - 4 * cnt p) 0)
  | k + 1 => over (over (rK p k) (512 - sumSz p (k + 1)) (cellP p k)) (26 + 4 * k) (leB ((512 - sumSz p (k + 1) : Nat) : Int) 2)
omit ho in
theorem rK_length : ∀ k, k ≤ cnt p → (rK p k).length = 512 := by
  intro k
  have h1 := hf.1
  induction k with
  | zero => intro _; exact over_len hl (by rw [List.length_replicate]; omega)
  | succ k ih =>
    intro hk
    obtain ⟨a, c, e, ea, ec, l1, l2, l3, l4, l5, l6, l7⟩ := anK_step hl hf (show k < cnt p by omega)
    exact over_len (over_len (ih (by omega)) (by omega)) (by rw [leB_length]; omega)
theorem rK_getD : ∀ k, k ≤ cnt p → ∀ j, j < 512 → (rK p k).getD j 0 = if 26 + 4 * cnt p ≤ j ∧ j < 512 - sumSz p k then 0 else (anK p k).getD j 0 := by
  intro k
  have h1 := hf.1
  induction k with
  | zero =>
    intro _ j hj
    rw [rK, over_getD _ _ _ (by rw [List.length_replicate]; omega), List.length_replicate, sumSz]
    by_cases c1 : 26 + 4 * cnt p ≤ j ∧ j < 512
    · rw [if_pos (by omega), if_pos (by omega), List.getD_eq_getElem?_getD, List.getElem?_replicate, if_pos (by omega)]
      rfl
    · rw [if_neg (by omega), if_neg (by omega), anK]
  | succ k ih =>
    intro hk j hj
    obtain ⟨a, c, e, ea, ec, l1, l2, l3, l4, l5, l6, l7⟩ := anK_step hl hf (show k < cnt p by omega)
    have hr := rK_length hl hf k (by omega)
    rw [anK_succ hl ho hf (by omega), rK, over_getD _ _ _ (by rw [over_len hr (by omega), leB_length]; omega), over_getD _ _ _ (by omega), over_getD _ _ _ (by rw [over_len l1 (by omega), leB_length]; omega), over_getD _ _ _ (by omega), leB_length, l4, ih (by omega) j hj]
    by_cases c1 : 26 + 4 * k ≤ j ∧ j < 26 + 4 * k + 2
    · rw [if_pos c1, if_neg (by omega), if_pos c1]
    · rw [if_neg c1, if_neg c1]
      by_cases c2 : 512 - sumSz p (k + 1) ≤ j ∧ j < 512 - sumSz p (k + 1) + szP p k
      · rw [if_pos c2, if_pos c2, if_neg (by omega)]
      · rw [if_neg c2, if_neg c2]
        by_cases c3 : 26 + 4 * cnt p ≤ j ∧ j < 512 - sumSz p k
        · rw [if_pos c3, if_pos (by omega)]
        · rw [if_neg c3, if_neg (by omega)]
theorem anewP_rK : anewP p = over (rK p (cnt p)) 16 (leB ((512 - sumSz p (cnt p) : Nat) : Int) 2) := by
  have h1 := hf.1
  have hk := anK_length hl hf _ (Nat.le_refl _)
  have hr := rK_length hl hf _ (Nat.le_refl _)
  have e1 : (over (anK p (cnt p)) (26 + 4 * cnt p) (List.replicate (512 - sumSz p (cnt p) - (26 + 4 * cnt p)) 0)).length = 512 := over_len hk (by rw [List.length_replicate]; omega)
  unfold anewP
  congr 1
  refine list_ext_getD (by rw [e1, hr]) (fun j hj => ?_)
  rw [e1] at hj
  rw [rK_getD hl ho hf _ (Nat.le_refl _) j hj, over_getD _ _ _ (by rw [List.length_replicate]; omega), List.length_replicate]
  by_cases c1 : 26 + 4 * cnt p ≤ j ∧ j < 512 - sumSz p (cnt p)
  · rw [if_pos c1, if_pos (by omega), List.getD_eq_getElem?_getD, List.getElem?_replicate, if_pos (by omega)]
    rfl
  · rw [if_neg c1, if_neg (by omega)]
omit ho hf in
theorem rcompact_l0 (cs : List (List Int)) (lo : Int) (a : Nat) : ∀ (d i k : Nat), a + i + d = 512 →
    munimentref5_Compact.l0 (k + d + 1) (over p a (List.replicate i 0)) cs lo ((a + i : Nat) : Int) = munimentref5_Compact.l1 k (over p a (List.replicate (512 - a) 0)) cs lo 0 := by
  intro d
  induction d with
  | zero =>
    intro i k hi
    rw [Nat.add_zero, munimentref5_Compact.l0, if_neg (by omega), show i = 512 - a by omega]
  | succ d ih =>
    intro i k hi
    have hlen : (over p a (List.replicate i (0 : Int))).length = 512 := over_len hl (by rw [List.length_replicate]; omega)
    rw [show k + (d + 1) + 1 = (k + d + 1) + 1 by omega, munimentref5_Compact.l0, if_pos (by omega), if_pos (by omega), if_pos (by rw [hlen]; omega), w64 (n := ((a + i : Nat) : Int) + 1) (by omega) (by omega), Int.toNat_natCast]
    have h := over_set_last p a (List.replicate i 0) 0 (by rw [List.length_replicate]; omega)
    rw [List.length_replicate] at h
    rw [h, ← List.replicate_succ', show ((a + i : Nat) : Int) + 1 = ((a + (i + 1) : Nat) : Int) by omega]
    exact ih (i + 1) k (by omega)
omit hl ho hf in
theorem rcompact_l2 {q : List Int} (hq : q.length = 512) (cs : List (List Int)) (lo j : Nat) (c : List Int) (hj : j < cs.length) (hj2 : cs.length ≤ 512) (hc : rd_L2 cs (j : Int) = c) (hlo : lo + c.length ≤ 512) : ∀ (d i k : Nat), i + d = c.length →
    munimentref5_Compact.l2 (k + d + 1) (over q lo (c.take i)) cs (lo : Int) (j : Int) (i : Int) = (munimentref5_put.f k (over q lo c) (26 + 4 * (j : Int)) 2 (lo : Int)).bind fun t => munimentref5_Compact.l1 k t cs (lo : Int) ((j + 1 : Nat) : Int) := by
  intro d
  induction d with
  | zero =>
    intro i k hi
    have hw : IntKind.u64.wrap (lo : Int) = (lo : Int) := by rw [IntKind.wrap_u64]; omega
    rw [Nat.add_zero, munimentref5_Compact.l2, if_pos (by omega), if_pos (by omega), hc, if_neg (by omega), List.take_of_length_le (by omega), w64 (n := 4 * (j : Int)) (by omega) (by omega), w64 (n := 26 + 4 * (j : Int)) (by omega) (by omega), w64 (n := (j : Int) + 1) (by omega) (by omega), hw]
    rfl
  | succ d ih =>
    intro i k hi
    have hti : (c.take i).length = i := by rw [List.length_take]; omega
    have hlen : (over q lo (c.take i)).length = 512 := over_len hq (by omega)
    rw [show k + (d + 1) + 1 = (k + d + 1) + 1 by omega, munimentref5_Compact.l2, if_pos (by omega), if_pos (by omega), hc, if_pos (by omega), if_pos (by omega), w64 (n := (lo : Int) + (i : Int)) (by omega) (by omega), if_pos (by omega), if_pos (by rw [hlen]; omega), w64 (n := (i : Int) + 1) (by omega) (by omega)]
    have h := over_set_last q lo (c.take i) (rd c (i : Int)) (by omega)
    rw [hti, ← take_succ_rd c i (by omega)] at h
    rw [show ((lo : Int) + (i : Int)).toNat = lo + i by omega, h]
    exact ih (i + 1) k (by omega)
theorem rcompact_l1 : ∀ (d i k : Nat), i + d = cnt p → 600 * d + 30 ≤ k →
    munimentref5_Compact.l1 k (rK p i) (cellsP p) ((512 - sumSz p i : Nat) : Int) (i : Int) = some (anewP p) := by
  intro d
  have h1 := hf.1
  have hcl := cellsP_length p
  induction d with
  | zero =>
    intro i k hi hk
    obtain ⟨k, rfl⟩ : ∃ m, k = m + 1 := ⟨k - 1, by omega⟩
    obtain rfl : i = cnt p := by omega
    have hw : IntKind.u64.wrap ((512 - sumSz p (cnt p) : Nat) : Int) = ((512 - sumSz p (cnt p) : Nat) : Int) := by rw [IntKind.wrap_u64]; omega
    rw [munimentref5_Compact.l1, if_neg (by omega), hw, rput_at (rK p (cnt p)) 16 2 16 2 _ rfl rfl (rK_length hl hf _ (Nat.le_refl _)) (by omega) (by decide) (by decide) k (by omega), Option.bind_some, anewP_rK hl ho hf]
  | succ d ih =>
    intro i k hi hk
    obtain ⟨k, rfl⟩ : ∃ m, k = m + 1 := ⟨k - 1, by omega⟩
    obtain ⟨a, c, e, ea, ec, l1, l2, l3, l4, l5, l6, l7⟩ := anK_step hl hf (show i < cnt p by omega)
    have hc : rd_L2 (cellsP p) (i : Int) = cellP p i := by
      unfold rd_L2 cellsP
      rw [Int.toNat_natCast, List.getD_eq_getElem?_getD, List.getElem?_map, List.getElem?_range (by omega)]
      rfl
    have hr := rK_length hl hf i (by omega)
    rw [munimentref5_Compact.l1, if_pos (by omega), if_pos (by omega), hc, l4, w64 (n := ((512 - sumSz p i : Nat) : Int) - ((szP p i : Nat) : Int)) (by omega) (by omega)]
    obtain ⟨k', rfl⟩ : ∃ k', k = k' + szP p i + 1 := ⟨k - szP p i - 1, by omega⟩
    have h2 := rcompact_l2 hr (cellsP p) (512 - sumSz p (i + 1)) i (cellP p i) (by omega) (by omega) hc (by omega) (szP p i) 0 k' (by omega)
    rw [List.take_zero, over_nil] at h2
    rw [show ((512 - sumSz p i : Nat) : Int) - ((szP p i : Nat) : Int) = ((512 - sumSz p (i + 1) : Nat) : Int) by omega, show (0 : Int) = ((0 : Nat) : Int) from rfl, h2]
    rw [rput_at _ (26 + 4 * i) 2 _ 2 _ (by omega) rfl (over_len hr (by omega)) (by omega) (by decide) (by omega) k' (by omega), Option.bind_some]
    exact ih (i + 1) k' (by omega) (by omega)
theorem rcompact_eq (hn : 26 + 4 * cnt p ≤ 512) (k : Nat) (hk : 100000 ≤ k) : munimentref5_Compact.f k p = some (anewP p) := by
  have h1 := hf.1
  unfold munimentref5_Compact.f
  rw [rcopy_eq p (by omega), Option.bind_some, rcells_eq p ho hl hn hf.2 k (by omega), Option.bind_some, cellsP_length, w64 (n := 4 * ((cnt p : Nat) : Int)) (by omega) (by omega), w64 (n := 26 + 4 * ((cnt p : Nat) : Int)) (by omega) (by omega)]
  obtain ⟨k', rfl⟩ : ∃ k', k = k' + (486 - 4 * cnt p) + 1 := ⟨k - (486 - 4 * cnt p) - 1, by omega⟩
  have h2 := rcompact_l0 hl (cellsP p) 512 (26 + 4 * cnt p) (486 - 4 * cnt p) 0 k' (by omega)
  rw [List.replicate_zero, over_nil, show ((26 + 4 * cnt p + 0 : Nat) : Int) = 26 + 4 * ((cnt p : Nat) : Int) by omega] at h2
  rw [h2, show 512 - (26 + 4 * cnt p) = 486 - 4 * cnt p by omega]
  exact rcompact_l1 hl ho hf (cnt p) 0 k' (by omega) (by omega)
end
end Go.Proofs.Ytpogneedafoiaaa.Pg
