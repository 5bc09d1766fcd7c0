/- Contracts by hand: below. -/
import Derived.Test.YtpogneedafoiaaaPgH
namespace Go.Proofs.Ytpogneedafoiaaa.Pg
open Go.RowKit Go.Proofs.YtpogneedafoiaaaW.PrintWords Go.Proofs.YtpogneedafoiaaaW.PrintLast Go.Proofs.YtpogneedafoiaaaW.PrintMore Go.Proofs.Ytpogneedafoiaaa.Bw Go.Proofs.Ytpogneedafoiaaa.Crc Go.Proofs.Ytpogneedafoiaaa.Wordy
set_option linter.unusedVariables false
set_option linter.unusedSimpArgs false

/-- a cell's bytes right below low, and its slot -/
def belowP (p : List Int) (i : Nat) (l : List Int) : List Int :=
  over (over (over (over p (lowP p - l.length) l) 16 (leB ((lowP p - l.length : Nat) : Int) 2)) (26 + 4 * i) (leB ((lowP p - l.length : Nat) : Int) 2)) (28 + 4 * i) (leB (l.length : Int) 2)
set_option maxHeartbeats 4000000 in
theorem below_calls (g : Nat) (p : List Int) (i : Nat) (B : Option Addr) (cc : Nat) (l : List Int) (w : World) (hb : Blk w 5 g p) (hl : p.length = 512) (ho : octs p) (hi : 30 + 4 * i ≤ 512) (hr : Kd.C (Kd.int .u8) w B l.length l) (hc : l.length ≤ cc) (hlow : l.length ≤ lowP p) (hlow2 : lowP p ≤ 512) :
    Calls Try.prog 54 #[.agg #[.slice (some ⟨g, 0, none⟩) 512 512], .int .i64 i, .slice B l.length cc] w fun e w' => e = .returned (.tuple #[]) ∧ Blk w' 5 g (belowP p i l) ∧ w.grownBy w' (some g) := by
  have HB := Aside0.mk (hb.below (below_alloc (Below.refl w.heap.size w) (.cells #[.slice (some ⟨g, 0, none⟩) 512 512] 65)))
  have HG := Aside0.mk (grown_below (below_alloc (Below.refl w.heap.size w) (.cells #[.slice (some ⟨g, 0, none⟩) 512 512] 65)) (some g))
  have HR := Aside0.mk (Kd.C_alloc hr (.cells #[.slice (some ⟨g, 0, none⟩) 512 512] 65))
  have HL := Aside0.mk hl
  have HO := Aside0.mk ho
  have hglt := hb.lt
  clear hb hr hl ho
  go_enter Try.func54, Try.ntmps54
  go_wp2_with fail
  refine (low5 (some ⟨g, 0, none⟩) 512 p _ (blk_rb5 HB.out HL.out) (Nat.le_refl _) HO.out HL.out).mono ?_
  rintro e w1 ⟨rfl, hb1⟩
  have hc1 := pw_cell_below hb1 (a := ⟨w.heap.size, 0, none⟩) (v := .slice (some ⟨g, 0, none⟩) 512 512) (by simp)
  have HB1 := Aside0.mk (HB.out.below hb1)
  have HG1 := Aside0.mk (grown_trans HG.out (grown_below hb1 _))
  have HR1 := Aside0.mk (Kd.C_below HR.out hb1)
  clear hb1
  obtain ⟨lo, hlo⟩ : ∃ lo, lowP p = lo + l.length := ⟨lowP p - l.length, by omega⟩
  have hlo3 : lo + l.length ≤ 512 := by omega
  have HLo := Aside0.mk hlo
  rw [hlo]
  clear hlo hlow hlow2
  by_cases h5 : lo = 512
  · have hq5 : (512 = lo) = True := eq_true (by omega)
    have hq6 : Nat.min l.length (512 - lo) = 0 := by rw [h5]; exact Nat.min_zero _
    have hnil : l.length = 0 := by omega
    have H5 := Aside0.mk h5
    have HN := Aside0.mk hnil
    clear h5 hnil
    go_wp2_with ((with_reducible refine gate_builtin (b := .copy) (xs := #[.tmp 15, .tmp 16]) rfl ?_); go_loud (refine wl_copy rfl (.tmp 15) (.tmp 16) 22 22 5 rfl Try.underlying22 size5 g 0 (512 - lo) (512 - lo) l.length cc B p l rfl rfl HB1.out HR1.out (by rw [hq6]; omega) ?_); intro w5 hb5 hg5; have hc5 := cell_grown' hg5 hc1 (by simp; omega))
    have HBo : Aside0 (Blk w5 5 g (over p lo l)) := by
      have hcn : l = [] := List.eq_nil_of_length_eq_zero HN.out
      constructor
      unfold over
      rw [hcn, List.nil_append, List.length_nil, Nat.add_zero, List.take_append_drop]
      rw [hcn] at hb5
      simpa using hb5
    have HG5 := Aside0.mk (grown_trans HG1.out hg5)
    clear hb5 hg5 hq5 hq6 hc1
    refine (put_at g _ 16 2 _ _ _ _ rfl rfl HBo.out (over_len HL.out hlo3) (by decide) (by decide) (by omega) (by decide)).mono ?_
    rintro e w6 ⟨rfl, hb6, hg6⟩
    have hc6 := cell_grown' hg6 hc5 (by simp; omega)
    have HB6 := Aside0.mk hb6
    have HG6 := Aside0.mk (grown_trans HG5.out hg6)
    clear hb6 hg6 hc5
    go_wp2_with fail
    refine (setSlot_calls g _ i lo l.length _ HB6.out (over_len (over_len HL.out hlo3) (by rw [leB_length]; decide)) hi (by omega) (by omega)).mono ?_
    rintro e w7 ⟨rfl, hb7, hg7⟩
    have HB7 := Aside0.mk hb7
    have HG7 := Aside0.mk (grown_trans HG6.out hg7)
    clear hb7 hg7
    go_wp2
    go_end0
    refine ⟨rfl, ?_, HG7.out⟩
    unfold belowP
    rw [show lowP p - l.length = lo by have := HLo.out; omega]
    exact HB7.out
  · have hq5 : ¬ 512 = lo := by omega
    have hq6 : Nat.min l.length (512 - lo) = l.length := Nat.min_eq_left (by omega)
    go_wp2_with ((with_reducible refine gate_builtin (b := .copy) (xs := #[.tmp 15, .tmp 16]) rfl ?_); go_loud (refine wl_copy rfl (.tmp 15) (.tmp 16) 22 22 5 rfl Try.underlying22 size5 g lo (512 - lo) (512 - lo) l.length cc B p l rfl rfl HB1.out HR1.out (by rw [hq6]; have := HL.out; omega) ?_); intro w5 hb5 hg5; have hc5 := cell_grown' hg5 hc1 (by simp; omega))
    have HBo : Aside0 (Blk w5 5 g (over p lo l)) := by
      constructor
      unfold over
      have ht : l.take (512 - lo) = l := List.take_of_length_le (by omega)
      rw [hq6, ht] at hb5
      exact hb5
    clear h5
    have HG5 := Aside0.mk (grown_trans HG1.out hg5)
    clear hb5 hg5 hq5 hq6 hc1
    refine (put_at g _ 16 2 _ _ _ _ rfl rfl HBo.out (over_len HL.out hlo3) (by decide) (by decide) (by omega) (by decide)).mono ?_
    rintro e w6 ⟨rfl, hb6, hg6⟩
    have hc6 := cell_grown' hg6 hc5 (by simp; omega)
    have HB6 := Aside0.mk hb6
    have HG6 := Aside0.mk (grown_trans HG5.out hg6)
    clear hb6 hg6 hc5
    go_wp2_with fail
    refine (setSlot_calls g _ i lo l.length _ HB6.out (over_len (over_len HL.out hlo3) (by rw [leB_length]; decide)) hi (by omega) (by omega)).mono ?_
    rintro e w7 ⟨rfl, hb7, hg7⟩
    have HB7 := Aside0.mk hb7
    have HG7 := Aside0.mk (grown_trans HG6.out hg7)
    clear hb7 hg7
    go_wp2
    go_end0
    refine ⟨rfl, ?_, HG7.out⟩
    unfold belowP
    rw [show lowP p - l.length = lo by have := HLo.out; omega]
    exact HB7.out
end Go.Proofs.Ytpogneedafoiaaa.Pg
