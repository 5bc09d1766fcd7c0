/- Contracts by hand: Insert. -/
import Derived.Test.YtpogneedafoiaaaPgPl
import Derived.Deep.RegionLaw
import Derived.Outline
namespace Go.Proofs.Ytpogneedafoiaaa.Pg
open Go.RowKit Go.Proofs.YtpogneedafoiaaaW.PrintWords Go.Proofs.YtpogneedafoiaaaW.PrintLast Go.Proofs.YtpogneedafoiaaaW.PrintMore Go.Proofs.Ytpogneedafoiaaa.Bw Go.Proofs.Ytpogneedafoiaaa.Crc Go.Proofs.Ytpogneedafoiaaa.Wordy
set_option linter.unusedVariables false
set_option linter.unusedSimpArgs false

theorem anK_head {p : List Int} (hl : p.length = 512) (hf : Fits p) {b s : Nat} (hb : b + s ≤ 26) : ∀ k, k ≤ cnt p → numAt (anK p k) b s = numAt p b s := by
  intro k
  induction k with
  | zero => intro _; rfl
  | succ k ih =>
    intro hk
    have h1 := hf.1
    have h2 := hf.2 k (by omega)
    have h3 := sumSz_mono p (show k + 1 ≤ cnt p from hk)
    have h4 : sumSz p (k + 1) = sumSz p k + szP p k := rfl
    have h5 := anK_length hl hf k (by omega)
    have h6 := cellP_length hl h2
    have e1 : (over (anK p k) (512 - sumSz p (k + 1)) (cellP p k)).length = 512 := by rw [over_length _ _ _ (by omega)]; exact h5
    have e2 : (over (over (anK p k) (512 - sumSz p (k + 1)) (cellP p k)) (26 + 4 * k) (leB ((512 - sumSz p (k + 1) : Nat) : Int) 2)).length = 512 := by rw [over_length _ _ _ (by rw [leB_length]; omega)]; exact e1
    rw [anK, numAt_over_ne (by rw [leB_length]; omega) (by omega) (by omega), numAt_over_ne (by rw [leB_length]; omega) (by omega) (by omega), numAt_over_ne (by omega) (by omega) (by omega)]
    exact ih (by omega)
theorem anew_length {p : List Int} (hl : p.length = 512) (hf : Fits p) : (anewP p).length = 512 := by
  have h1 := hf.1
  unfold anewP
  exact over_len (over_len (anK_length hl hf _ (Nat.le_refl _)) (by rw [List.length_replicate]; omega)) (by rw [leB_length]; decide)
theorem anew_octs {p : List Int} (ho : octs p) : octs (anewP p) := by
  have hk : ∀ k, octs (anK p k) := by
    intro k
    induction k with
    | zero => exact ho
    | succ k ih => exact over_octs (over_octs (over_octs ih _ (octs_take (octs_drop ho _) _)) _ (leB_octs _ _)) _ (leB_octs _ _)
  unfold anewP
  refine over_octs (over_octs (hk _) _ ?_) _ (leB_octs _ _)
  intro x hx
  rw [List.eq_of_mem_replicate hx]
  decide
theorem anew_head {p : List Int} (hl : p.length = 512) (hf : Fits p) {b s : Nat} (hb : b + s ≤ 16 ∨ 18 ≤ b ∧ b + s ≤ 26) : numAt (anewP p) b s = numAt p b s := by
  have h1 := hf.1
  have hk := anK_length hl hf _ (Nat.le_refl _)
  unfold anewP
  rw [numAt_over_ne (by rw [leB_length, over_len hk (by rw [List.length_replicate]; omega)]; omega) (by rw [over_len hk (by rw [List.length_replicate]; omega)]; omega) (by rw [leB_length]; omega), numAt_over_ne (by rw [List.length_replicate]; omega) (by omega) (by omega)]
  exact anK_head hl hf (by omega) _ (Nat.le_refl _)
theorem anew_cnt {p : List Int} (hl : p.length = 512) (hf : Fits p) : cnt (anewP p) = cnt p := anew_head hl hf (by omega)
theorem anew_low {p : List Int} (hl : p.length = 512) (hf : Fits p) : lowP (anewP p) = 512 - sumSz p (cnt p) := by
  have h1 := hf.1
  have hk := anK_length hl hf _ (Nat.le_refl _)
  unfold anewP lowP
  exact numAt_over_leB (by rw [over_len hk (by rw [List.length_replicate]; omega)]; decide) (by simp; omega)
theorem rb_cutB {w : World} {g : Nat} {p : List Int} (h : Blk w 5 g p) (hl : p.length = 512) (o m : Nat) (hm : o + m ≤ 512) : Kd.C (Kd.int .u8) w (some ⟨g, o, none⟩) m ((p.drop o).take m) := by
  have h1 := rb_cut (blk_rb5 h hl) o m hm
  rwa [add_plain] at h1
def insQ (p l : List Int) : List Int := if lowP p < 26 + 4 * cnt p + (l.length + 4) then anewP p else p
def ins1 (q : List Int) (i n : Nat) : List Int := over q (26 + 4 * (i + 1)) ((q.drop (26 + 4 * i)).take (4 * (n - i)))
def insertP (p : List Int) (i : Nat) (l : List Int) : List Int := belowP (over (ins1 (insQ p l) i (cnt p)) 14 (leB ((cnt p + 1 : Nat) : Int) 2)) i l
set_option maxHeartbeats 4000000 in
theorem insert_no (A B : Option Addr) (c cc : Nat) (p l : List Int) (i : Int) (w : World) (hr : Kd.C (Kd.int .u8) w A 512 p) (hc : 512 ≤ c) (ho : octs p) (hl : p.length = 512) (hg : goodP p = true) (hi : ¬ (0 ≤ i ∧ i ≤ cnt p)) :
    Calls Try.prog 17 #[.slice A 512 c, .int .i64 i, .slice B l.length cc] w fun e w' => e = .returned (.tuple #[.slice none 0 0, .int .i64 1]) ∧ Below w.heap.size w w' := by
  by_cases h0 : i < 0
  · have q1 : decide (i < 0) = true := decide_eq_true h0
    have HR := Aside0.mk hr
    have HO := Aside0.mk ho
    have HG := Aside0.mk hg
    have HL := Aside0.mk hl
    clear hr ho hg hl
    go_enter Try.func17, Try.ntmps17
    go_wp2_with fail
    refine (copied_good A c p _ HR.out hc HO.out HL.out HG.out).mono ?_
    rintro e w1 ⟨g, rfl, hg1, hbk, hb⟩
    have HBk := Aside0.mk (hbk.below (below_alloc (Below.refl w1.heap.size w1) (.cells #[.slice (some ⟨g, 0, none⟩) 512 512] 65)))
    have HB := Aside0.mk (below_alloc hb (.cells #[.slice (some ⟨g, 0, none⟩) 512 512] 65))
    have hglt := hbk.lt
    clear hbk hb
    go_wp2
    go_ret2
    exact ⟨rfl, HB.out⟩
  · have q1 : decide (i < 0) = false := decide_eq_false h0
    have q2 : decide ((cnt p : Int) < i) = true := decide_eq_true (by omega)
    have HR := Aside0.mk hr
    have HO := Aside0.mk ho
    have HG := Aside0.mk hg
    have HL := Aside0.mk hl
    clear hr ho hg hl
    go_enter Try.func17, Try.ntmps17
    go_wp2_with fail
    refine (copied_good A c p _ HR.out hc HO.out HL.out HG.out).mono ?_
    rintro e w1 ⟨g, rfl, hg1, hbk, hb⟩
    have HBk := Aside0.mk (hbk.below (below_alloc (Below.refl w1.heap.size w1) (.cells #[.slice (some ⟨g, 0, none⟩) 512 512] 65)))
    have HB := Aside0.mk (below_alloc hb (.cells #[.slice (some ⟨g, 0, none⟩) 512 512] 65))
    have hglt := hbk.lt
    clear hbk hb
    go_wp2_with fail
    refine (count5 (some ⟨g, 0, none⟩) 512 p _ (blk_rb5 HBk.out HL.out) (Nat.le_refl _) HO.out HL.out).mono ?_
    rintro e w2 ⟨rfl, hb⟩
    have HB2 := Aside0.mk (below_step HB.out hb)
    clear hb
    go_wp2
    go_ret2
    exact ⟨rfl, HB2.out⟩
set_option maxHeartbeats 4000000 in
theorem insert_full (A B : Option Addr) (c cc : Nat) (p l : List Int) (i : Nat) (w : World) (hr : Kd.C (Kd.int .u8) w A 512 p) (hc : 512 ≤ c) (ho : octs p) (hl : p.length = 512) (hg : goodP p = true) (hi : i ≤ cnt p) (hll : l.length ≤ 140737488351232) (hfull : freeP p < (l.length : Int) + 4) :
    Calls Try.prog 17 #[.slice A 512 c, .int .i64 i, .slice B l.length cc] w fun e w' => e = .returned (.tuple #[.slice none 0 0, .int .i64 7]) ∧ Below w.heap.size w w' := by
  have q3 : decide (freeP p < (l.length : Int) + 4) = true := decide_eq_true hfull
  have q1 : decide ((i : Int) < 0) = false := decide_eq_false (by omega)
  have q2 : decide ((cnt p : Int) < (i : Int)) = false := decide_eq_false (by omega)
  have hn5 : 26 + 4 * cnt p ≤ 512 := by have := (good_facts hg).2.2; omega
  have HR := Aside0.mk hr
  have HO := Aside0.mk ho
  have HG := Aside0.mk hg
  have HL := Aside0.mk hl
  clear hr ho hg hl
  go_enter Try.func17, Try.ntmps17
  go_wp2_with fail
  refine (copied_good A c p _ HR.out hc HO.out HL.out HG.out).mono ?_
  rintro e w1 ⟨g, rfl, hg1, hbk, hb⟩
  have HBk := Aside0.mk (hbk.below (below_alloc (Below.refl w1.heap.size w1) (.cells #[.slice (some ⟨g, 0, none⟩) 512 512] 65)))
  have HB := Aside0.mk (below_alloc hb (.cells #[.slice (some ⟨g, 0, none⟩) 512 512] 65))
  have hglt := hbk.lt
  clear hbk hb
  go_wp2_with fail
  refine (count5 (some ⟨g, 0, none⟩) 512 p _ (blk_rb5 HBk.out HL.out) (Nat.le_refl _) HO.out HL.out).mono ?_
  rintro e w2 ⟨rfl, hb⟩
  have hc2 := pw_cell_below hb (a := ⟨w1.heap.size, 0, none⟩) (v := .slice (some ⟨g, 0, none⟩) 512 512) (by simp)
  have HB2 := Aside0.mk (below_step HB.out hb)
  have HBk2 := Aside0.mk (HBk.out.below hb)
  clear hb
  go_wp2_with fail
  refine (free5 (some ⟨g, 0, none⟩) 512 p _ (blk_rb5 HBk2.out HL.out) (Nat.le_refl _) HO.out HL.out hn5).mono ?_
  rintro e w3 ⟨rfl, hb⟩
  have hc3 := pw_cell_below hb hc2
  have HB3 := Aside0.mk (below_step HB2.out hb)
  have HBk3 := Aside0.mk (HBk2.out.below hb)
  clear hb hc2 HBk HBk2 HB HB2
  go_wp2
  go_ret2
  exact ⟨rfl, HB3.out⟩
set_option maxHeartbeats 4000000 in
theorem insert_good (A B : Option Addr) (c cc : Nat) (p l : List Int) (i : Nat) (w : World) (hr : Kd.C (Kd.int .u8) w A 512 p) (hc : 512 ≤ c) (ho : octs p) (hl : p.length = 512) (hg : goodP p = true) (hr2 : Kd.C (Kd.int .u8) w B l.length l) (hc2 : l.length ≤ cc) (hi : i ≤ cnt p) (hll : l.length ≤ 140737488351232) (hfree : (l.length : Int) + 4 ≤ freeP p) :
    Calls Try.prog 17 #[.slice A 512 c, .int .i64 i, .slice B l.length cc] w fun e w' => ∃ g, e = .returned (.tuple #[.slice (some ⟨g, 0, none⟩) 512 512, .int .i64 0]) ∧ w.heap.size ≤ g ∧ Blk w' 5 g (insertP p i l) ∧ Below w.heap.size w w' := by
  have q3 : decide (freeP p < (l.length : Int) + 4) = false := decide_eq_false (by omega)
  have hcc := hc2
  clear hc2
  have HR2 := Aside0.mk hr2
  clear hr2
  have HF := Aside0.mk (fits_of_good hg)
  obtain ⟨_, _, gf1, gf2, gf3, _⟩ := good_facts hg
  have gfr : 26 + 4 * (cnt p + 1) + l.length + sumSz p (cnt p) ≤ 512 := by unfold freeP at hfree; omega
  have q1 : decide ((i : Int) < 0) = false := decide_eq_false (by omega)
  have q2 : decide ((cnt p : Int) < (i : Int)) = false := decide_eq_false (by omega)
  have hn5 : 26 + 4 * cnt p ≤ 512 := by have := (good_facts hg).2.2; omega
  have HR := Aside0.mk hr
  have HO := Aside0.mk ho
  have HG := Aside0.mk hg
  have HL := Aside0.mk hl
  clear hr ho hg hl
  go_enter Try.func17, Try.ntmps17
  go_wp2_with fail
  refine (copied_good A c p _ HR.out hc HO.out HL.out HG.out).mono ?_
  rintro e w1 ⟨g, rfl, hg1, hbk, hb⟩
  have HBk := Aside0.mk (hbk.below (below_alloc (Below.refl w1.heap.size w1) (.cells #[.slice (some ⟨g, 0, none⟩) 512 512] 65)))
  have HB := Aside0.mk (below_alloc hb (.cells #[.slice (some ⟨g, 0, none⟩) 512 512] 65))
  have hglt := hbk.lt
  clear hbk hb
  go_wp2_with fail
  refine (count5 (some ⟨g, 0, none⟩) 512 p _ (blk_rb5 HBk.out HL.out) (Nat.le_refl _) HO.out HL.out).mono ?_
  rintro e w2 ⟨rfl, hb⟩
  have hc2 := pw_cell_below hb (a := ⟨w1.heap.size, 0, none⟩) (v := .slice (some ⟨g, 0, none⟩) 512 512) (by simp)
  have HB2 := Aside0.mk (below_step HB.out hb)
  have HBk2 := Aside0.mk (HBk.out.below hb)
  clear hb
  go_wp2_with fail
  refine (free5 (some ⟨g, 0, none⟩) 512 p _ (blk_rb5 HBk2.out HL.out) (Nat.le_refl _) HO.out HL.out hn5).mono ?_
  rintro e w3 ⟨rfl, hb⟩
  have hc3 := pw_cell_below hb hc2
  have HB3 := Aside0.mk (below_step HB2.out hb)
  have HBk3 := Aside0.mk (HBk2.out.below hb)
  clear hb hc2 HBk HBk2 HB HB2
  go_wp2_with fail
  refine (room5 (some ⟨g, 0, none⟩) 512 p _ (blk_rb5 HBk3.out HL.out) (Nat.le_refl _) HO.out HL.out).mono ?_
  rintro e w4 ⟨rfl, hb⟩
  have hc4 := pw_cell_below hb hc3
  have HB4 := Aside0.mk (below_step HB3.out hb)
  have HBk4 := Aside0.mk (HBk3.out.below hb)
  clear hb hc3 HB3 HBk3
  have HLq := Aside0.mk (show (insQ p l).length = 512 by unfold insQ; split; exact anew_length HL.out HF.out; exact HL.out)
  have HOq := Aside0.mk (show octs (insQ p l) by unfold insQ; split; exact anew_octs HO.out; exact HO.out)
  have HCq := Aside0.mk (show cnt (insQ p l) = cnt p by unfold insQ; split; exact anew_cnt HL.out HF.out; rfl)
  have HWq := Aside0.mk (show 26 + 4 * cnt p + (l.length + 4) ≤ lowP (insQ p l) ∧ lowP (insQ p l) ≤ 512 by
    unfold insQ
    split
    · rw [anew_low HL.out HF.out]; omega
    · omega)
  by_cases hroom : lowP p < 26 + 4 * cnt p + (l.length + 4)
  · have q4 : decide ((lowP p : Int) - 26 - 4 * (cnt p : Int) < (l.length : Int) + 4) = true := decide_eq_true (by omega)
    have HQ := Aside0.mk (show insQ p l = anewP p by unfold insQ; rw [if_pos hroom])
    clear hroom
    go_wp2_with fail
    refine (anew_calls g p _ HBk4.out HL.out HO.out HF.out).mono ?_
    rintro e w5 ⟨rfl, hb5, hg5⟩
    have hc5 := cell_grown' hg5 hc4 (by simp; omega)
    have HB5 := Aside0.mk (below_of_grown_new HB4.out hg5 hg1)
    have HBq := Aside0.mk (show Blk w5 5 g (insQ p l) by rw [HQ.out]; exact hb5)
    clear hb5 hg5 hc4 HB4 HBk4 HQ
    go_wp2_with fail
    refine (count5 (some ⟨g, 0, none⟩) 512 _ _ (blk_rb5 HBq.out HLq.out) (Nat.le_refl _) HOq.out HLq.out).mono ?_
    rintro e w6 ⟨rfl, hb⟩
    have hc6 := pw_cell_below hb hc5
    have HB6 := Aside0.mk (below_step HB5.out hb)
    have HBk6 := Aside0.mk (HBq.out.below hb)
    clear hb hc5 HB5 HBq
    rw [HCq.out]
    have a1 : IntKind.i64.wrap ((i : Int) + 1) = (i : Int) + 1 := IntWalk.i64_in _ (by omega)
    have a2 : IntKind.i64.wrap (4 * ((i : Int) + 1)) = 4 * ((i : Int) + 1) := IntWalk.i64_in _ (by omega)
    have a3 : IntKind.i64.wrap (26 + 4 * ((i : Int) + 1)) = 26 + 4 * ((i : Int) + 1) := IntWalk.i64_in _ (by omega)
    have a4 : IntKind.i64.wrap ((cnt p : Int) + 1) = (cnt p : Int) + 1 := IntWalk.i64_in _ (by omega)
    have a5 : IntKind.i64.wrap (4 * ((cnt p : Int) + 1)) = 4 * ((cnt p : Int) + 1) := IntWalk.i64_in _ (by omega)
    have a6 : IntKind.i64.wrap (26 + 4 * ((cnt p : Int) + 1)) = 26 + 4 * ((cnt p : Int) + 1) := IntWalk.i64_in _ (by omega)
    have a7 : IntKind.i64.wrap (4 * (i : Int)) = 4 * (i : Int) := IntWalk.i64_in _ (by omega)
    have a8 : IntKind.i64.wrap (26 + 4 * (i : Int)) = 26 + 4 * (i : Int) := IntWalk.i64_in _ (by omega)
    have a9 : IntKind.i64.wrap (4 * (cnt p : Int)) = 4 * (cnt p : Int) := IntWalk.i64_in _ (by omega)
    have a10 : IntKind.i64.wrap (26 + 4 * (cnt p : Int)) = 26 + 4 * (cnt p : Int) := IntWalk.i64_in _ (by omega)
    have c1 : (0 : Int) ≤ 26 + 4 * ((cnt p : Int) + 1) := by omega
    have c2 : 26 + 4 * ((cnt p : Int) + 1) ≤ 512 := by omega
    have c3 : (0 : Int) ≤ 26 + 4 * ((i : Int) + 1) := by omega
    have c4 : 26 + 4 * ((i : Int) + 1) ≤ max (26 + 4 * ((cnt p : Int) + 1)) 0 := by omega
    have c5 : (26 + 4 * ((i : Int) + 1)).toNat = 26 + 4 * (i + 1) := by omega
    have c6 : (26 + 4 * ((cnt p : Int) + 1)).toNat = 26 + 4 * (cnt p + 1) := by omega
    have c7 : ¬ (512 = 26 + 4 * (i + 1)) := by omega
    have d1 : (0 : Int) ≤ 26 + 4 * (cnt p : Int) := by omega
    have d2 : 26 + 4 * (cnt p : Int) ≤ 512 := by omega
    have d3 : (0 : Int) ≤ 26 + 4 * (i : Int) := by omega
    have d4 : 26 + 4 * (i : Int) ≤ max (26 + 4 * (cnt p : Int)) 0 := by omega
    have d5 : (26 + 4 * (i : Int)).toNat = 26 + 4 * i := by omega
    have d6 : (26 + 4 * (cnt p : Int)).toNat = 26 + 4 * cnt p := by omega
    have d7 : ¬ (512 = 26 + 4 * i) := by omega
    go_wp2_with fail
    go_region_law (refine st_copy rfl (.tmp 56) (.tmp 65) 22 22 5 rfl Try.underlying22 size5 g (26 + 4 * (i + 1)) (26 + 4 * (cnt p + 1) - (26 + 4 * (i + 1))) (512 - (26 + 4 * (i + 1))) (26 + 4 * cnt p - (26 + 4 * i)) (512 - (26 + 4 * i)) (some ⟨g, 26 + 4 * i, none⟩) (insQ p l) _ rfl rfl HBk6.out (rb_cutB HBk6.out HLq.out (26 + 4 * i) (26 + 4 * cnt p - (26 + 4 * i)) (by omega)) (by have := HLq.out; have h2 : Nat.min (26 + 4 * cnt p - (26 + 4 * i)) (26 + 4 * (cnt p + 1) - (26 + 4 * (i + 1))) ≤ 26 + 4 * (cnt p + 1) - (26 + 4 * (i + 1)) := Nat.min_le_right _ _; omega) ?_; intro w7 hb7 hg7)
    all_goals (
      have hmin : Nat.min (26 + 4 * cnt p - (26 + 4 * i)) (26 + 4 * (cnt p + 1) - (26 + 4 * (i + 1))) = 4 * (cnt p - i) := by
        rw [show 26 + 4 * cnt p - (26 + 4 * i) = 4 * (cnt p - i) by omega, show 26 + 4 * (cnt p + 1) - (26 + 4 * (i + 1)) = 4 * (cnt p - i) by omega]; exact Nat.min_self _
      have hqlen := HLq.out
      have hct : (((insQ p l).drop (26 + 4 * i)).take (26 + 4 * cnt p - (26 + 4 * i))).take (26 + 4 * (cnt p + 1) - (26 + 4 * (i + 1))) = ((insQ p l).drop (26 + 4 * i)).take (4 * (cnt p - i)) := by
        rw [List.take_take, show min (26 + 4 * (cnt p + 1) - (26 + 4 * (i + 1))) (26 + 4 * cnt p - (26 + 4 * i)) = 4 * (cnt p - i) by omega]
      have hll1 : (((insQ p l).drop (26 + 4 * i)).take (4 * (cnt p - i))).length = 4 * (cnt p - i) := by rw [List.length_take, List.length_drop]; omega
      have HB7 : Aside0 (Blk w7 5 g (ins1 (insQ p l) i (cnt p))) := by
        constructor
        unfold ins1 over
        rw [hll1]
        rw [hmin, hct] at hb7
        exact hb7
      have hc7 := cell_grown' hg7 hc6 (by simp; omega)
      have HG7 : Aside0 (w6.grownBy w7 (some g)) := Aside0.mk (grown_trans (by first | exact grown_below (below_drew (Below.refl w6.heap.size w6)) (some g) | exact grown_below (pw_below_drewN (Below.refl w6.heap.size w6) _) (some g) | exact grown_below (Below.refl w6.heap.size w6) (some g)) hg7)
      have H1L := Aside0.mk (show (ins1 (insQ p l) i (cnt p)).length = 512 by unfold ins1; exact over_len hqlen (by rw [hll1]; omega))
      have HLOW1 := Aside0.mk (show lowP (ins1 (insQ p l) i (cnt p)) = lowP (insQ p l) by unfold lowP ins1; exact numAt_over_ne (by rw [hll1]; omega) (by omega) (by omega))
      have HO1 := Aside0.mk (show octs (ins1 (insQ p l) i (cnt p)) by unfold ins1; exact over_octs HOq.out _ (octs_take (octs_drop HOq.out _) _))
      clear hb7 hg7 hct hc6 hll1 hmin hqlen
      go_wp2_with fail
      refine (put_at g _ 14 2 _ _ _ _ rfl rfl HB7.out H1L.out (by decide) (by decide) (by omega) (by decide)).mono ?_
      rintro e w8 ⟨rfl, hb8, hg8⟩
      have hc8 := cell_grown' hg8 hc7 (by simp; omega)
      have HG8 := Aside0.mk (grown_trans HG7.out hg8)
      have HB8 := Aside0.mk hb8
      have H2L := Aside0.mk (over_len H1L.out (show 14 + (leB ((cnt p : Int) + 1) 2).length ≤ 512 by rw [leB_length]; decide))
      have H2LOW := Aside0.mk (show lowP (over (ins1 (insQ p l) i (cnt p)) 14 (leB ((cnt p : Int) + 1) 2)) = lowP (insQ p l) by
        unfold lowP; rw [numAt_over_ne (by rw [leB_length, H1L.out]; decide) (by rw [H1L.out]; decide) (by rw [leB_length]; decide)]; exact HLOW1.out)
      have H2O := Aside0.mk (over_octs HO1.out 14 (leB_octs ((cnt p : Int) + 1) 2))
      clear hb8 hg8 hc7 HG7 HB7
      go_wp2_with fail
      refine (below_calls g _ i B cc l _ HB8.out H2L.out H2O.out (by omega) (Kd.C_below HR2.out (below_of_grown_new HB6.out HG8.out hg1)) hcc (by rw [H2LOW.out]; have := HWq.out.1; omega) (by rw [H2LOW.out]; exact HWq.out.2)).mono ?_
      rintro e w9 ⟨rfl, hb9, hg9⟩
      have hc9 := cell_grown' hg9 hc8 (by simp; omega)
      have HG9 := Aside0.mk (grown_trans HG8.out hg9)
      have HB9 := Aside0.mk hb9
      clear hb9 hg9 hc8
      go_wp2
      go_ret2
      exact ⟨g, rfl, hg1, HB9.out, below_of_grown_new HB6.out HG9.out hg1⟩)
  · have q4 : decide ((lowP p : Int) - 26 - 4 * (cnt p : Int) < (l.length : Int) + 4) = false := decide_eq_false (by omega)
    have HBq := Aside0.mk (show Blk w4 5 g (insQ p l) by unfold insQ; rw [if_neg hroom]; exact HBk4.out)
    obtain ⟨w5, rfl⟩ : ∃ w5, w4 = w5 := ⟨_, rfl⟩
    have hc5 := hc4
    have HB5 := HB4
    clear hc4 HB4 HBk4 hroom
    go_wp2_with fail
    refine (count5 (some ⟨g, 0, none⟩) 512 _ _ (blk_rb5 HBq.out HLq.out) (Nat.le_refl _) HOq.out HLq.out).mono ?_
    rintro e w6 ⟨rfl, hb⟩
    have hc6 := pw_cell_below hb hc5
    have HB6 := Aside0.mk (below_step HB5.out hb)
    have HBk6 := Aside0.mk (HBq.out.below hb)
    clear hb hc5 HB5 HBq
    rw [HCq.out]
    have a1 : IntKind.i64.wrap ((i : Int) + 1) = (i : Int) + 1 := IntWalk.i64_in _ (by omega)
    have a2 : IntKind.i64.wrap (4 * ((i : Int) + 1)) = 4 * ((i : Int) + 1) := IntWalk.i64_in _ (by omega)
    have a3 : IntKind.i64.wrap (26 + 4 * ((i : Int) + 1)) = 26 + 4 * ((i : Int) + 1) := IntWalk.i64_in _ (by omega)
    have a4 : IntKind.i64.wrap ((cnt p : Int) + 1) = (cnt p : Int) + 1 := IntWalk.i64_in _ (by omega)
    have a5 : IntKind.i64.wrap (4 * ((cnt p : Int) + 1)) = 4 * ((cnt p : Int) + 1) := IntWalk.i64_in _ (by omega)
    have a6 : IntKind.i64.wrap (26 + 4 * ((cnt p : Int) + 1)) = 26 + 4 * ((cnt p : Int) + 1) := IntWalk.i64_in _ (by omega)
    have a7 : IntKind.i64.wrap (4 * (i : Int)) = 4 * (i : Int) := IntWalk.i64_in _ (by omega)
    have a8 : IntKind.i64.wrap (26 + 4 * (i : Int)) = 26 + 4 * (i : Int) := IntWalk.i64_in _ (by omega)
    have a9 : IntKind.i64.wrap (4 * (cnt p : Int)) = 4 * (cnt p : Int) := IntWalk.i64_in _ (by omega)
    have a10 : IntKind.i64.wrap (26 + 4 * (cnt p : Int)) = 26 + 4 * (cnt p : Int) := IntWalk.i64_in _ (by omega)
    have c1 : (0 : Int) ≤ 26 + 4 * ((cnt p : Int) + 1) := by omega
    have c2 : 26 + 4 * ((cnt p : Int) + 1) ≤ 512 := by omega
    have c3 : (0 : Int) ≤ 26 + 4 * ((i : Int) + 1) := by omega
    have c4 : 26 + 4 * ((i : Int) + 1) ≤ max (26 + 4 * ((cnt p : Int) + 1)) 0 := by omega
    have c5 : (26 + 4 * ((i : Int) + 1)).toNat = 26 + 4 * (i + 1) := by omega
    have c6 : (26 + 4 * ((cnt p : Int) + 1)).toNat = 26 + 4 * (cnt p + 1) := by omega
    have c7 : ¬ (512 = 26 + 4 * (i + 1)) := by omega
    have d1 : (0 : Int) ≤ 26 + 4 * (cnt p : Int) := by omega
    have d2 : 26 + 4 * (cnt p : Int) ≤ 512 := by omega
    have d3 : (0 : Int) ≤ 26 + 4 * (i : Int) := by omega
    have d4 : 26 + 4 * (i : Int) ≤ max (26 + 4 * (cnt p : Int)) 0 := by omega
    have d5 : (26 + 4 * (i : Int)).toNat = 26 + 4 * i := by omega
    have d6 : (26 + 4 * (cnt p : Int)).toNat = 26 + 4 * cnt p := by omega
    have d7 : ¬ (512 = 26 + 4 * i) := by omega
    go_wp2_with fail
    go_region_law (refine st_copy rfl (.tmp 56) (.tmp 65) 22 22 5 rfl Try.underlying22 size5 g (26 + 4 * (i + 1)) (26 + 4 * (cnt p + 1) - (26 + 4 * (i + 1))) (512 - (26 + 4 * (i + 1))) (26 + 4 * cnt p - (26 + 4 * i)) (512 - (26 + 4 * i)) (some ⟨g, 26 + 4 * i, none⟩) (insQ p l) _ rfl rfl HBk6.out (rb_cutB HBk6.out HLq.out (26 + 4 * i) (26 + 4 * cnt p - (26 + 4 * i)) (by omega)) (by have := HLq.out; have h2 : Nat.min (26 + 4 * cnt p - (26 + 4 * i)) (26 + 4 * (cnt p + 1) - (26 + 4 * (i + 1))) ≤ 26 + 4 * (cnt p + 1) - (26 + 4 * (i + 1)) := Nat.min_le_right _ _; omega) ?_; intro w7 hb7 hg7)
    all_goals (
      have hmin : Nat.min (26 + 4 * cnt p - (26 + 4 * i)) (26 + 4 * (cnt p + 1) - (26 + 4 * (i + 1))) = 4 * (cnt p - i) := by
        rw [show 26 + 4 * cnt p - (26 + 4 * i) = 4 * (cnt p - i) by omega, show 26 + 4 * (cnt p + 1) - (26 + 4 * (i + 1)) = 4 * (cnt p - i) by omega]; exact Nat.min_self _
      have hqlen := HLq.out
      have hct : (((insQ p l).drop (26 + 4 * i)).take (26 + 4 * cnt p - (26 + 4 * i))).take (26 + 4 * (cnt p + 1) - (26 + 4 * (i + 1))) = ((insQ p l).drop (26 + 4 * i)).take (4 * (cnt p - i)) := by
        rw [List.take_take, show min (26 + 4 * (cnt p + 1) - (26 + 4 * (i + 1))) (26 + 4 * cnt p - (26 + 4 * i)) = 4 * (cnt p - i) by omega]
      have hll1 : (((insQ p l).drop (26 + 4 * i)).take (4 * (cnt p - i))).length = 4 * (cnt p - i) := by rw [List.length_take, List.length_drop]; omega
      have HB7 : Aside0 (Blk w7 5 g (ins1 (insQ p l) i (cnt p))) := by
        constructor
        unfold ins1 over
        rw [hll1]
        rw [hmin, hct] at hb7
        exact hb7
      have hc7 := cell_grown' hg7 hc6 (by simp; omega)
      have HG7 : Aside0 (w6.grownBy w7 (some g)) := Aside0.mk (grown_trans (by first | exact grown_below (below_drew (Below.refl w6.heap.size w6)) (some g) | exact grown_below (pw_below_drewN (Below.refl w6.heap.size w6) _) (some g) | exact grown_below (Below.refl w6.heap.size w6) (some g)) hg7)
      have H1L := Aside0.mk (show (ins1 (insQ p l) i (cnt p)).length = 512 by unfold ins1; exact over_len hqlen (by rw [hll1]; omega))
      have HLOW1 := Aside0.mk (show lowP (ins1 (insQ p l) i (cnt p)) = lowP (insQ p l) by unfold lowP ins1; exact numAt_over_ne (by rw [hll1]; omega) (by omega) (by omega))
      have HO1 := Aside0.mk (show octs (ins1 (insQ p l) i (cnt p)) by unfold ins1; exact over_octs HOq.out _ (octs_take (octs_drop HOq.out _) _))
      clear hb7 hg7 hct hc6 hll1 hmin hqlen
      go_wp2_with fail
      refine (put_at g _ 14 2 _ _ _ _ rfl rfl HB7.out H1L.out (by decide) (by decide) (by omega) (by decide)).mono ?_
      rintro e w8 ⟨rfl, hb8, hg8⟩
      have hc8 := cell_grown' hg8 hc7 (by simp; omega)
      have HG8 := Aside0.mk (grown_trans HG7.out hg8)
      have HB8 := Aside0.mk hb8
      have H2L := Aside0.mk (over_len H1L.out (show 14 + (leB ((cnt p : Int) + 1) 2).length ≤ 512 by rw [leB_length]; decide))
      have H2LOW := Aside0.mk (show lowP (over (ins1 (insQ p l) i (cnt p)) 14 (leB ((cnt p : Int) + 1) 2)) = lowP (insQ p l) by
        unfold lowP; rw [numAt_over_ne (by rw [leB_length, H1L.out]; decide) (by rw [H1L.out]; decide) (by rw [leB_length]; decide)]; exact HLOW1.out)
      have H2O := Aside0.mk (over_octs HO1.out 14 (leB_octs ((cnt p : Int) + 1) 2))
      clear hb8 hg8 hc7 HG7 HB7
      go_wp2_with fail
      refine (below_calls g _ i B cc l _ HB8.out H2L.out H2O.out (by omega) (Kd.C_below HR2.out (below_of_grown_new HB6.out HG8.out hg1)) hcc (by rw [H2LOW.out]; have := HWq.out.1; omega) (by rw [H2LOW.out]; exact HWq.out.2)).mono ?_
      rintro e w9 ⟨rfl, hb9, hg9⟩
      have hc9 := cell_grown' hg9 hc8 (by simp; omega)
      have HG9 := Aside0.mk (grown_trans HG8.out hg9)
      have HB9 := Aside0.mk hb9
      clear hb9 hg9 hc8
      go_wp2
      go_ret2
      exact ⟨g, rfl, hg1, HB9.out, below_of_grown_new HB6.out HG9.out hg1⟩)
end Go.Proofs.Ytpogneedafoiaaa.Pg
