/- Contracts by hand: Replace. -/
import Derived.Test.YtpogneedafoiaaaPgN
namespace Go.Proofs.Ytpogneedafoiaaa.Pg
open Go.RowKit Go.Proofs.YtpogneedafoiaaaW.PrintWords Go.Proofs.YtpogneedafoiaaaW.PrintLast Go.Proofs.YtpogneedafoiaaaW.PrintMore Go.Proofs.Ytpogneedafoiaaa.Bw Go.Proofs.Ytpogneedafoiaaa.Crc Go.Proofs.Ytpogneedafoiaaa.Wordy
set_option linter.unusedVariables false
set_option linter.unusedSimpArgs false

def rpS (p : List Int) (i : Nat) (l : List Int) : List Int := over (over (over p (frm p i) l) (26 + 4 * i) (leB (frm p i) 2)) (28 + 4 * i) (leB (l.length : Int) 2)
def rp1 (p : List Int) (i : Nat) : List Int := over (over p (26 + 4 * i) (leB (lowP p) 2)) (28 + 4 * i) (leB ((0 : Nat) : Int) 2)
def rp2 (p : List Int) (i : Nat) (l : List Int) : List Int := if lowP p < 26 + 4 * cnt p + l.length then anewP (rp1 p i) else rp1 p i
def replaceP (p : List Int) (i : Nat) (l : List Int) : List Int := if l.length ≤ szP p i then rpS p i l else belowP (rp2 p i l) i l
set_option maxHeartbeats 4000000 in
theorem replace_no (A B : Option Addr) (c cc n : Nat) (p : List Int) (i : Int) (w : World) (hr : Kd.C (Kd.int .u8) w A 512 p) (hc : 512 ≤ c) (ho : octs p) (hl : p.length = 512) (hg : goodP p = true) (hi : ¬ (0 ≤ i ∧ i < cnt p)) :
    Calls Try.prog 20 #[.slice A 512 c, .int .i64 i, .slice B n cc] w fun e w' => e = .returned (.tuple #[.slice none 0 0, .int .i64 1]) ∧ Below w.heap.size w w' := by
  by_cases h0 : i < 0
  · have q1 : decide (i < 0) = true := decide_eq_true h0
    have HR := Aside0.mk hr
    have HO := Aside0.mk ho
    have HG := Aside0.mk hg
    have HL := Aside0.mk hl
    clear hr ho hg hl
    go_enter Try.func20, Try.ntmps20
    go_wp2_with fail
    refine (copied_good A c p _ HR.out hc HO.out HL.out HG.out).mono ?_
    rintro e w1 ⟨g, rfl, hg1, hbk, hb⟩
    have HBk := Aside0.mk (hbk.below (below_alloc (Below.refl w1.heap.size w1) (.cells #[.slice (some ⟨g, 0, none⟩) 512 512] 65)))
    have HB := Aside0.mk (below_alloc hb (.cells #[.slice (some ⟨g, 0, none⟩) 512 512] 65))
    have hglt := hbk.lt
    clear hbk hb
    go_wp2
    go_ret2
    exact ⟨rfl, HB.out⟩
  · have q1 : decide (i < 0) = false := decide_eq_false h0
    have q2 : decide ((cnt p : Int) ≤ i) = true := decide_eq_true (by omega)
    have HR := Aside0.mk hr
    have HO := Aside0.mk ho
    have HG := Aside0.mk hg
    have HL := Aside0.mk hl
    clear hr ho hg hl
    go_enter Try.func20, Try.ntmps20
    go_wp2_with fail
    refine (copied_good A c p _ HR.out hc HO.out HL.out HG.out).mono ?_
    rintro e w1 ⟨g, rfl, hg1, hbk, hb⟩
    have HBk := Aside0.mk (hbk.below (below_alloc (Below.refl w1.heap.size w1) (.cells #[.slice (some ⟨g, 0, none⟩) 512 512] 65)))
    have HB := Aside0.mk (below_alloc hb (.cells #[.slice (some ⟨g, 0, none⟩) 512 512] 65))
    have hglt := hbk.lt
    clear hbk hb
    go_wp2_with fail
    refine (count5 (some ⟨g, 0, none⟩) 512 p _ (blk_rb5 HBk.out HL.out) (Nat.le_refl _) HO.out HL.out).mono ?_
    rintro e w2 ⟨rfl, hb⟩
    have HB2 := Aside0.mk (below_step HB.out hb)
    clear hb
    go_wp2
    go_ret2
    exact ⟨rfl, HB2.out⟩
set_option maxHeartbeats 4000000 in
theorem replace_full (A B : Option Addr) (c cc : Nat) (p l : List Int) (i : Nat) (w : World) (hr : Kd.C (Kd.int .u8) w A 512 p) (hc : 512 ≤ c) (ho : octs p) (hl : p.length = 512) (hg : goodP p = true) (hi : i < cnt p) (hll : l.length ≤ 140737488351232) (hsz : szP p i < l.length) (hfull : freeP p < (l.length : Int) - szP p i) :
    Calls Try.prog 20 #[.slice A 512 c, .int .i64 i, .slice B l.length cc] w fun e w' => e = .returned (.tuple #[.slice none 0 0, .int .i64 7]) ∧ Below w.heap.size w w' := by
  have q3 : decide (freeP p < (l.length : Int) - (szP p i : Int)) = true := decide_eq_true hfull
  have q4 : decide ((l.length : Int) ≤ (szP p i : Int)) = false := decide_eq_false (by omega)
  have q1 : decide ((i : Int) < 0) = false := decide_eq_false (by omega)
  have q2 : decide ((cnt p : Int) ≤ (i : Int)) = false := decide_eq_false (by omega)
  obtain ⟨_, _, gf1, gf2, gf3, gf4⟩ := good_facts hg
  have hfit := (gf4 i hi).1
  have hfit2 := (gf4 i hi).2
  clear gf4
  have HR := Aside0.mk hr
  have HO := Aside0.mk ho
  have HG := Aside0.mk hg
  have HL := Aside0.mk hl
  clear hr ho hg hl
  go_enter Try.func20, Try.ntmps20
  go_wp2_with fail
  refine (copied_good A c p _ HR.out hc HO.out HL.out HG.out).mono ?_
  rintro e w1 ⟨g, rfl, hg1, hbk, hb⟩
  have HBk := Aside0.mk (hbk.below (below_alloc (Below.refl w1.heap.size w1) (.cells #[.slice (some ⟨g, 0, none⟩) 512 512] 65)))
  have HB := Aside0.mk (below_alloc hb (.cells #[.slice (some ⟨g, 0, none⟩) 512 512] 65))
  have hglt := hbk.lt
  clear hbk hb
  go_wp2_with fail
  refine (count5 (some ⟨g, 0, none⟩) 512 p _ (blk_rb5 HBk.out HL.out) (Nat.le_refl _) HO.out HL.out).mono ?_
  rintro e w2 ⟨rfl, hb⟩
  have hc2 := pw_cell_below hb (a := ⟨w1.heap.size, 0, none⟩) (v := .slice (some ⟨g, 0, none⟩) 512 512) (by simp)
  have HB2 := Aside0.mk (below_step HB.out hb)
  have HBk2 := Aside0.mk (HBk.out.below hb)
  clear hb
  go_wp2_with fail
  refine (slot5 (some ⟨g, 0, none⟩) 512 p _ (blk_rb5 HBk2.out HL.out) (Nat.le_refl _) HO.out HL.out i (by omega)).mono ?_
  rintro e w3 ⟨rfl, hb⟩
  have hc3 := pw_cell_below hb hc2
  have HB3 := Aside0.mk (below_step HB2.out hb)
  have HBk3 := Aside0.mk (HBk2.out.below hb)
  clear hb hc2 HBk HBk2 HB HB2
  go_wp2_with fail
  refine (free5 (some ⟨g, 0, none⟩) 512 p _ (blk_rb5 HBk3.out HL.out) (Nat.le_refl _) HO.out HL.out (by omega)).mono ?_
  rintro e w4 ⟨rfl, hb⟩
  have HB4 := Aside0.mk (below_step HB3.out hb)
  clear hb
  go_wp2
  go_ret2
  exact ⟨rfl, HB4.out⟩
set_option maxHeartbeats 4000000 in
theorem replace_small (A B : Option Addr) (c cc : Nat) (p l : List Int) (i : Nat) (w : World) (hr : Kd.C (Kd.int .u8) w A 512 p) (hc : 512 ≤ c) (ho : octs p) (hl : p.length = 512) (hg : goodP p = true) (hr2 : Kd.C (Kd.int .u8) w B l.length l) (hc2 : l.length ≤ cc) (hi : i < cnt p) (hsz : l.length ≤ szP p i) :
    Calls Try.prog 20 #[.slice A 512 c, .int .i64 i, .slice B l.length cc] w fun e w' => ∃ g, e = .returned (.tuple #[.slice (some ⟨g, 0, none⟩) 512 512, .int .i64 0]) ∧ w.heap.size ≤ g ∧ Blk w' 5 g (replaceP p i l) ∧ Below w.heap.size w w' := by
  have hcc := hc2
  clear hc2
  have HR2 := Aside0.mk hr2
  clear hr2
  have q4 : decide ((l.length : Int) ≤ (szP p i : Int)) = true := decide_eq_true (by omega)
  have q1 : decide ((i : Int) < 0) = false := decide_eq_false (by omega)
  have q2 : decide ((cnt p : Int) ≤ (i : Int)) = false := decide_eq_false (by omega)
  obtain ⟨_, _, gf1, gf2, gf3, gf4⟩ := good_facts hg
  have hfit := (gf4 i hi).1
  have hfit2 := (gf4 i hi).2
  clear gf4
  have HR := Aside0.mk hr
  have HO := Aside0.mk ho
  have HG := Aside0.mk hg
  have HL := Aside0.mk hl
  clear hr ho hg hl
  go_enter Try.func20, Try.ntmps20
  go_wp2_with fail
  refine (copied_good A c p _ HR.out hc HO.out HL.out HG.out).mono ?_
  rintro e w1 ⟨g, rfl, hg1, hbk, hb⟩
  have HBk := Aside0.mk (hbk.below (below_alloc (Below.refl w1.heap.size w1) (.cells #[.slice (some ⟨g, 0, none⟩) 512 512] 65)))
  have HB := Aside0.mk (below_alloc hb (.cells #[.slice (some ⟨g, 0, none⟩) 512 512] 65))
  have hglt := hbk.lt
  clear hbk hb
  go_wp2_with fail
  refine (count5 (some ⟨g, 0, none⟩) 512 p _ (blk_rb5 HBk.out HL.out) (Nat.le_refl _) HO.out HL.out).mono ?_
  rintro e w2 ⟨rfl, hb⟩
  have hc2 := pw_cell_below hb (a := ⟨w1.heap.size, 0, none⟩) (v := .slice (some ⟨g, 0, none⟩) 512 512) (by simp)
  have HB2 := Aside0.mk (below_step HB.out hb)
  have HBk2 := Aside0.mk (HBk.out.below hb)
  clear hb
  go_wp2_with fail
  refine (slot5 (some ⟨g, 0, none⟩) 512 p _ (blk_rb5 HBk2.out HL.out) (Nat.le_refl _) HO.out HL.out i (by omega)).mono ?_
  rintro e w3 ⟨rfl, hb⟩
  have hc3 := pw_cell_below hb hc2
  have HB3 := Aside0.mk (below_step HB2.out hb)
  have HBk3 := Aside0.mk (HBk2.out.below hb)
  clear hb hc2 HBk HBk2 HB HB2
  by_cases h5 : frm p i = 512
  · have hnil : l.length = 0 := by omega
    have hq5 : (512 = frm p i) = True := eq_true (by omega)
    have hq6 : Nat.min l.length (512 - frm p i) = 0 := by rw [h5]; exact Nat.min_zero _
    have H5 := Aside0.mk h5
    have HN := Aside0.mk hnil
    clear h5 hnil
    go_wp2_with ((with_reducible refine gate_builtin (b := .copy) (xs := #[.tmp 43, .tmp 44]) rfl ?_); go_loud (refine wl_copy rfl (.tmp 43) (.tmp 44) 22 22 5 rfl Try.underlying22 size5 g 0 (512 - frm p i) (512 - frm p i) l.length cc B p l rfl rfl HBk3.out (Kd.C_below HR2.out HB3.out) (by rw [hq6]; omega) ?_); intro w5 hb5 hg5; have hc5 := cell_grown' hg5 hc3 (by simp; omega))
    have HBo : Aside0 (Blk w5 5 g (over p (frm p i) l)) := by
      have hcn : l = [] := List.eq_nil_of_length_eq_zero HN.out
      constructor
      unfold over
      rw [hcn, List.nil_append, List.length_nil, Nat.add_zero, List.take_append_drop]
      rw [hcn] at hb5
      simpa using hb5
    have HG5 := Aside0.mk hg5
    clear hb5 hg5 hq5 hq6 hc3
    go_wp2_with fail
    refine (setSlot_calls g _ i (frm p i) l.length _ HBo.out (over_len HL.out (by omega)) (by omega) (by omega) (by omega)).mono ?_
    rintro e w7 ⟨rfl, hb7, hg7⟩
    have hc7 := cell_grown' hg7 hc5 (by simp; omega)
    have HB7 := Aside0.mk (show Blk w7 5 g (replaceP p i l) by unfold replaceP; rw [if_pos hsz]; exact hb7)
    have HG7 := Aside0.mk (grown_trans HG5.out hg7)
    clear hb7 hg7
    go_wp2
    go_ret2
    exact ⟨g, rfl, hg1, HB7.out, below_of_grown_new HB3.out HG7.out hg1⟩
  · have hq5 : ¬ 512 = frm p i := by omega
    have hq6 : Nat.min l.length (512 - frm p i) = l.length := Nat.min_eq_left (by omega)
    go_wp2_with ((with_reducible refine gate_builtin (b := .copy) (xs := #[.tmp 43, .tmp 44]) rfl ?_); go_loud (refine wl_copy rfl (.tmp 43) (.tmp 44) 22 22 5 rfl Try.underlying22 size5 g (frm p i) (512 - frm p i) (512 - frm p i) l.length cc B p l rfl rfl HBk3.out (Kd.C_below HR2.out HB3.out) (by rw [hq6]; have := HL.out; omega) ?_); intro w5 hb5 hg5; have hc5 := cell_grown' hg5 hc3 (by simp; omega))
    have HBo : Aside0 (Blk w5 5 g (over p (frm p i) l)) := by
      constructor
      unfold over
      have ht : l.take (512 - frm p i) = l := List.take_of_length_le (by omega)
      rw [hq6, ht] at hb5
      exact hb5
    have HG5 := Aside0.mk hg5
    clear hb5 hg5 hq5 hq6 hc3
    go_wp2_with fail
    refine (setSlot_calls g _ i (frm p i) l.length _ HBo.out (over_len HL.out (by omega)) (by omega) (by omega) (by omega)).mono ?_
    rintro e w7 ⟨rfl, hb7, hg7⟩
    have hc7 := cell_grown' hg7 hc5 (by simp; omega)
    have HB7 := Aside0.mk (show Blk w7 5 g (replaceP p i l) by unfold replaceP; rw [if_pos hsz]; exact hb7)
    have HG7 := Aside0.mk (grown_trans HG5.out hg7)
    clear hb7 hg7
    go_wp2
    go_ret2
    exact ⟨g, rfl, hg1, HB7.out, below_of_grown_new HB3.out HG7.out hg1⟩
theorem setSlot0 (g : Nat) (p : List Int) (i from_ : Nat) (w : World) (hb : Blk w 5 g p) (hl : p.length = 512) (hi : 30 + 4 * i ≤ 512) (hf : from_ ≤ 512) :
    Calls Try.prog 56 #[.agg #[.slice (some ⟨g, 0, none⟩) 512 512], .int .i64 i, .int .i64 from_, .int .i64 0] w fun e w' => e = .returned (.tuple #[]) ∧ Blk w' 5 g (over (over p (26 + 4 * i) (leB from_ 2)) (28 + 4 * i) (leB ((0 : Nat) : Int) 2)) ∧ w.grownBy w' (some g) :=
  setSlot_calls g p i from_ 0 w hb hl hi hf (by decide)
theorem rp1_len {p : List Int} (hl : p.length = 512) {i : Nat} (hi : 30 + 4 * i ≤ 512) : (rp1 p i).length = 512 := over_len (over_len hl (by rw [leB_length]; omega)) (by rw [leB_length]; omega)
theorem rp1_octs {p : List Int} (ho : octs p) (i : Nat) : octs (rp1 p i) := over_octs (over_octs ho _ (leB_octs _ _)) _ (leB_octs _ _)
theorem rp1_ne {p : List Int} (hl : p.length = 512) {i b s : Nat} (hi : 30 + 4 * i ≤ 512) (hb : b + s ≤ 512) (hne : b + s ≤ 26 + 4 * i ∨ 30 + 4 * i ≤ b) : numAt (rp1 p i) b s = numAt p b s := by
  have h1 : (over p (26 + 4 * i) (leB (lowP p) 2)).length = 512 := over_len hl (by rw [leB_length]; omega)
  unfold rp1
  rw [numAt_over_ne (by rw [leB_length]; omega) (by omega) (by rw [leB_length]; omega), numAt_over_ne (by rw [leB_length]; omega) (by omega) (by rw [leB_length]; omega)]
theorem rp1_frm {p : List Int} (hl : p.length = 512) {i : Nat} (hi : 30 + 4 * i ≤ 512) (hlow : lowP p ≤ 512) : frm (rp1 p i) i = lowP p := by
  have h1 : (over p (26 + 4 * i) (leB (lowP p) 2)).length = 512 := over_len hl (by rw [leB_length]; omega)
  unfold rp1 frm
  rw [numAt_over_ne (by rw [leB_length]; omega) (by omega) (by rw [leB_length]; omega)]
  exact numAt_over_leB (by omega) (by simp; omega)
theorem rp1_sz {p : List Int} (hl : p.length = 512) {i : Nat} (hi : 30 + 4 * i ≤ 512) : szP (rp1 p i) i = 0 := by
  have h1 : (over p (26 + 4 * i) (leB (lowP p) 2)).length = 512 := over_len hl (by rw [leB_length]; omega)
  unfold rp1 szP
  exact numAt_over_leB (by omega) (by simp)
theorem rp1_sum {p : List Int} (hl : p.length = 512) {i : Nat} (hi : 30 + 4 * i ≤ 512) : ∀ k, 26 + 4 * k ≤ 512 → sumSz (rp1 p i) k + (if i < k then szP p i else 0) = sumSz p k := by
  intro k
  induction k with
  | zero => intro _; rw [if_neg (by omega)]; rfl
  | succ k ih =>
    intro hk
    have h := ih (by omega)
    show sumSz (rp1 p i) k + szP (rp1 p i) k + _ = sumSz p k + szP p k
    by_cases hik : k = i
    · subst hik
      rw [rp1_sz hl hi, if_pos (by omega)]
      rw [if_neg (by omega)] at h
      omega
    · have e : szP (rp1 p i) k = szP p k := rp1_ne hl hi (by omega) (by omega)
      rw [e]
      by_cases hlt : i < k
      · rw [if_pos (by omega)]; rw [if_pos hlt] at h; omega
      · rw [if_neg (by omega)]; rw [if_neg hlt] at h; omega
theorem rp1_cnt {p : List Int} (hl : p.length = 512) {i : Nat} (hi : 30 + 4 * i ≤ 512) : cnt (rp1 p i) = cnt p := rp1_ne hl hi (by decide) (by omega)
theorem rp1_low {p : List Int} (hl : p.length = 512) {i : Nat} (hi : 30 + 4 * i ≤ 512) : lowP (rp1 p i) = lowP p := rp1_ne hl hi (by decide) (by omega)
set_option maxHeartbeats 4000000 in
theorem replace_big (A B : Option Addr) (c cc : Nat) (p l : List Int) (i : Nat) (w : World) (hr : Kd.C (Kd.int .u8) w A 512 p) (hc : 512 ≤ c) (ho : octs p) (hl : p.length = 512) (hg : goodP p = true) (hr2 : Kd.C (Kd.int .u8) w B l.length l) (hc2 : l.length ≤ cc) (hi : i < cnt p) (hsz : szP p i < l.length) (hll : l.length ≤ 140737488351232) (hfree : (l.length : Int) - szP p i ≤ freeP p) :
    Calls Try.prog 20 #[.slice A 512 c, .int .i64 i, .slice B l.length cc] w fun e w' => ∃ g, e = .returned (.tuple #[.slice (some ⟨g, 0, none⟩) 512 512, .int .i64 0]) ∧ w.heap.size ≤ g ∧ Blk w' 5 g (replaceP p i l) ∧ Below w.heap.size w w' := by
  have hcc := hc2
  clear hc2
  have HR2 := Aside0.mk hr2
  clear hr2
  have q3 : decide (freeP p < (l.length : Int) - (szP p i : Int)) = false := decide_eq_false (by omega)
  have q4 : decide ((l.length : Int) ≤ (szP p i : Int)) = false := decide_eq_false (by omega)
  have HFp := Aside0.mk (fits_of_good hg)
  have hgf := good_facts hg
  have hi30 : 30 + 4 * i ≤ 512 := by have := hgf.2.2; omega
  have hsum := rp1_sum hl hi30 (cnt p) (by have := hgf.2.2; omega)
  rw [if_pos hi] at hsum
  have HL1 := Aside0.mk (rp1_len hl hi30)
  have HO1 := Aside0.mk (rp1_octs ho i)
  have HC1 := Aside0.mk (rp1_cnt hl hi30)
  have HW1 := Aside0.mk (rp1_low hl hi30)
  have HF1 : Aside0 (Fits (rp1 p i)) := by
    refine ⟨?_, fun k hk => ?_⟩
    · rw [HC1.out]; have := HFp.out.1; omega
    · rw [HC1.out] at hk
      by_cases hik : k = i
      · subst hik; rw [rp1_frm hl hi30 (by have := hgf.2.2; omega), rp1_sz hl hi30]; have := hgf.2.2; omega
      · have e1 : frm (rp1 p i) k = frm p k := rp1_ne hl hi30 (by have := hgf.2.2; omega) (by omega)
        have e2 : szP (rp1 p i) k = szP p k := rp1_ne hl hi30 (by have := hgf.2.2; omega) (by omega)
        rw [e1, e2]; exact HFp.out.2 k hk
  have gfr : 26 + 4 * cnt p + l.length + sumSz (rp1 p i) (cnt p) ≤ 512 := by unfold freeP at hfree; omega
  clear hgf
  have q1 : decide ((i : Int) < 0) = false := decide_eq_false (by omega)
  have q2 : decide ((cnt p : Int) ≤ (i : Int)) = false := decide_eq_false (by omega)
  obtain ⟨_, _, gf1, gf2, gf3, gf4⟩ := good_facts hg
  have hfit := (gf4 i hi).1
  have hfit2 := (gf4 i hi).2
  clear gf4
  have HR := Aside0.mk hr
  have HO := Aside0.mk ho
  have HG := Aside0.mk hg
  have HL := Aside0.mk hl
  clear hr ho hg hl
  go_enter Try.func20, Try.ntmps20
  go_wp2_with fail
  refine (copied_good A c p _ HR.out hc HO.out HL.out HG.out).mono ?_
  rintro e w1 ⟨g, rfl, hg1, hbk, hb⟩
  have HBk := Aside0.mk (hbk.below (below_alloc (Below.refl w1.heap.size w1) (.cells #[.slice (some ⟨g, 0, none⟩) 512 512] 65)))
  have HB := Aside0.mk (below_alloc hb (.cells #[.slice (some ⟨g, 0, none⟩) 512 512] 65))
  have hglt := hbk.lt
  clear hbk hb
  go_wp2_with fail
  refine (count5 (some ⟨g, 0, none⟩) 512 p _ (blk_rb5 HBk.out HL.out) (Nat.le_refl _) HO.out HL.out).mono ?_
  rintro e w2 ⟨rfl, hb⟩
  have hc2 := pw_cell_below hb (a := ⟨w1.heap.size, 0, none⟩) (v := .slice (some ⟨g, 0, none⟩) 512 512) (by simp)
  have HB2 := Aside0.mk (below_step HB.out hb)
  have HBk2 := Aside0.mk (HBk.out.below hb)
  clear hb
  go_wp2_with fail
  refine (slot5 (some ⟨g, 0, none⟩) 512 p _ (blk_rb5 HBk2.out HL.out) (Nat.le_refl _) HO.out HL.out i (by omega)).mono ?_
  rintro e w3 ⟨rfl, hb⟩
  have hc3 := pw_cell_below hb hc2
  have HB3 := Aside0.mk (below_step HB2.out hb)
  have HBk3 := Aside0.mk (HBk2.out.below hb)
  clear hb hc2 HBk HBk2 HB HB2
  go_wp2_with fail
  refine (free5 (some ⟨g, 0, none⟩) 512 p _ (blk_rb5 HBk3.out HL.out) (Nat.le_refl _) HO.out HL.out (by omega)).mono ?_
  rintro e w4 ⟨rfl, hb⟩
  have hc4 := pw_cell_below hb hc3
  have HB4 := Aside0.mk (below_step HB3.out hb)
  have HBk4 := Aside0.mk (HBk3.out.below hb)
  clear hb hc3 HB3 HBk3
  have hcd := hc4
  have HBd := Aside0.mk (HBk4.out.below (below_drew (Below.refl w4.heap.size w4)))
  have hgi2 : 30 + 4 * i ≤ 512 := hi30
  go_wp2_with fail
  go_region_law (first
    | (go_simp; go_at_call 46; (with_reducible refine (low5 (some ⟨g, 0, none⟩) 512 p _ (blk_rb5 HBd.out HL.out) (Nat.le_refl _) HO.out HL.out).mono ?_); rintro e w5 ⟨rfl, hb5⟩; have hc5 := pw_cell_below hb5 (a := ⟨w1.heap.size, 0, none⟩) (v := .slice (some ⟨g, 0, none⟩) 512 512) (by simpa using hcd); have HBk5 := Aside0.mk (HBd.out.below hb5))
    | (go_simp; go_at_call 56; (with_reducible refine (setSlot0 g p i (lowP p) _ HBk5.out HL.out hgi2 (by omega)).mono ?_); rintro e w6 ⟨rfl, hb6, hg6⟩))
  all_goals (
    have HG6 : Aside0 (w4.grownBy w6 (some g)) := Aside0.mk (grown_trans (grown_trans (grown_below (below_drew (Below.refl w4.heap.size w4)) (some g)) (grown_below hb5 (some g))) hg6)
    have hc6 := cell_grown' hg6 hc5 (by simp; omega)
    have HBr := Aside0.mk (show Blk w6 5 g (rp1 p i) from hb6)
    have HBl6 := Aside0.mk (below_of_grown_new HB4.out HG6.out hg1)
    clear hb5 hc5 HBk5 hb6 hg6 hcd HBd
    go_wp2_with fail
    refine (room5 (some ⟨g, 0, none⟩) 512 _ _ (blk_rb5 HBr.out HL1.out) (Nat.le_refl _) HO1.out HL1.out).mono ?_
    rw [HC1.out, HW1.out]
    rintro e w7 ⟨rfl, hb⟩
    have hc7 := pw_cell_below hb hc6
    have HB7 := Aside0.mk (below_step HBl6.out hb)
    have HBr7 := Aside0.mk (HBr.out.below hb)
    clear hb hc6 HBl6 HBr HG6
    by_cases hroom : lowP p < 26 + 4 * cnt p + l.length
    · have q5 : decide ((lowP p : Int) - 26 - 4 * (cnt p : Int) < (l.length : Int)) = true := decide_eq_true (by omega)
      have HQ := Aside0.mk (show rp2 p i l = anewP (rp1 p i) by unfold rp2; rw [if_pos hroom])
      clear hroom
      go_wp2_with fail
      refine (anew_calls g _ _ HBr7.out HL1.out HO1.out HF1.out).mono ?_
      rintro e w8 ⟨rfl, hb8, hg8⟩
      have hc8 := cell_grown' hg8 hc7 (by simp; omega)
      have HB8 := Aside0.mk (below_of_grown_new HB7.out hg8 hg1)
      have HBq := Aside0.mk (show Blk w8 5 g (rp2 p i l) by rw [HQ.out]; exact hb8)
      have HLq := Aside0.mk (show (rp2 p i l).length = 512 by rw [HQ.out]; exact anew_length HL1.out HF1.out)
      have HOq := Aside0.mk (show octs (rp2 p i l) by rw [HQ.out]; exact anew_octs HO1.out)
      have HWq := Aside0.mk (show l.length ≤ lowP (rp2 p i l) ∧ lowP (rp2 p i l) ≤ 512 by rw [HQ.out, anew_low HL1.out HF1.out, HC1.out]; omega)
      clear hb8 hg8 hc7 HB7 HBr7
      go_wp2_with fail
      refine (below_calls g _ i B cc l _ HBq.out HLq.out HOq.out hgi2 (Kd.C_below HR2.out HB8.out) hcc HWq.out.1 HWq.out.2).mono ?_
      rintro e w9 ⟨rfl, hb9, hg9⟩
      have hc9 := cell_grown' hg9 hc8 (by simp; omega)
      have HB9 := Aside0.mk (show Blk w9 5 g (replaceP p i l) by unfold replaceP; rw [if_neg (by omega)]; exact hb9)
      have HBl9 := Aside0.mk (below_of_grown_new HB8.out hg9 hg1)
      clear hb9 hg9 hc8
      go_wp2
      go_ret2
      exact ⟨g, rfl, hg1, HB9.out, HBl9.out⟩
    · have q5 : decide ((lowP p : Int) - 26 - 4 * (cnt p : Int) < (l.length : Int)) = false := decide_eq_false (by omega)
      have HQ := Aside0.mk (show rp2 p i l = rp1 p i by unfold rp2; rw [if_neg hroom])
      have HBq := Aside0.mk (show Blk w7 5 g (rp2 p i l) by rw [HQ.out]; exact HBr7.out)
      have HLq := Aside0.mk (show (rp2 p i l).length = 512 by rw [HQ.out]; exact HL1.out)
      have HOq := Aside0.mk (show octs (rp2 p i l) by rw [HQ.out]; exact HO1.out)
      have HWq := Aside0.mk (show l.length ≤ lowP (rp2 p i l) ∧ lowP (rp2 p i l) ≤ 512 by rw [HQ.out, HW1.out]; omega)
      clear hroom
      go_wp2_with fail
      refine (below_calls g _ i B cc l _ HBq.out HLq.out HOq.out hgi2 (Kd.C_below HR2.out HB7.out) hcc HWq.out.1 HWq.out.2).mono ?_
      rintro e w9 ⟨rfl, hb9, hg9⟩
      have hc9 := cell_grown' hg9 hc7 (by simp; omega)
      have HB9 := Aside0.mk (show Blk w9 5 g (replaceP p i l) by unfold replaceP; rw [if_neg (by omega)]; exact hb9)
      have HBl9 := Aside0.mk (below_of_grown_new HB7.out hg9 hg1)
      clear hb9 hg9 hc7
      go_wp2
      go_ret2
      exact ⟨g, rfl, hg1, HB9.out, HBl9.out⟩)
end Go.Proofs.Ytpogneedafoiaaa.Pg
