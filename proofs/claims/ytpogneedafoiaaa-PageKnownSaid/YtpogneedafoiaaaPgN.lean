/- Contracts by hand: Remove. -/
import Derived.Test.YtpogneedafoiaaaPgJ
namespace Go.Proofs.Ytpogneedafoiaaa.Pg
open Go.RowKit Go.Proofs.YtpogneedafoiaaaW.PrintWords Go.Proofs.YtpogneedafoiaaaW.PrintLast Go.Proofs.YtpogneedafoiaaaW.PrintMore Go.Proofs.Ytpogneedafoiaaa.Bw Go.Proofs.Ytpogneedafoiaaa.Crc Go.Proofs.Ytpogneedafoiaaa.Wordy
set_option linter.unusedVariables false
set_option linter.unusedSimpArgs false

def rm1 (p : List Int) (i n : Nat) : List Int := over p (26 + 4 * i) ((p.drop (26 + 4 * (i + 1))).take (4 * (n - 1 - i)))
def rm2 (p : List Int) (i n : Nat) : List Int := over (rm1 p i n) (26 + 4 * (n - 1)) (List.replicate 4 0)
def rm3 (p : List Int) (i n : Nat) : List Int := over (rm2 p i n) 14 (leB ((n : Int) - 1) 2)
def removeP (p : List Int) (i : Nat) : List Int := if cnt p = 1 then over (rm3 p i (cnt p)) 16 (leB 512 2) else rm3 p i (cnt p)
set_option maxHeartbeats 4000000 in
theorem remove_no (A : Option Addr) (c : Nat) (p : List Int) (i : Int) (w : World) (hr : Kd.C (Kd.int .u8) w A 512 p) (hc : 512 ≤ c) (ho : octs p) (hl : p.length = 512) (hg : goodP p = true) (hi : ¬ (0 ≤ i ∧ i < cnt p)) :
    Calls Try.prog 19 #[.slice A 512 c, .int .i64 i] w fun e w' => e = .returned (.tuple #[.slice none 0 0, .int .i64 1]) ∧ Below w.heap.size w w' := by
  by_cases h0 : i < 0
  · have q1 : decide (i < 0) = true := decide_eq_true h0
    have HR := Aside0.mk hr
    have HO := Aside0.mk ho
    have HG := Aside0.mk hg
    have HL := Aside0.mk hl
    clear hr ho hg hl
    go_enter Try.func19, Try.ntmps19
    go_wp2_with fail
    refine (copied_good A c p _ HR.out hc HO.out HL.out HG.out).mono ?_
    rintro e w1 ⟨g, rfl, hg1, hbk, hb⟩
    have HBk := Aside0.mk (hbk.below (below_alloc (Below.refl w1.heap.size w1) (.cells #[.slice (some ⟨g, 0, none⟩) 512 512] 65)))
    have HB := Aside0.mk (below_alloc hb (.cells #[.slice (some ⟨g, 0, none⟩) 512 512] 65))
    have hglt := hbk.lt
    clear hbk hb
    go_wp2
    go_ret2
    exact ⟨rfl, HB.out⟩
  · have q1 : decide (i < 0) = false := decide_eq_false h0
    have q2 : decide ((cnt p : Int) ≤ i) = true := decide_eq_true (by omega)
    have HR := Aside0.mk hr
    have HO := Aside0.mk ho
    have HG := Aside0.mk hg
    have HL := Aside0.mk hl
    clear hr ho hg hl
    go_enter Try.func19, Try.ntmps19
    go_wp2_with fail
    refine (copied_good A c p _ HR.out hc HO.out HL.out HG.out).mono ?_
    rintro e w1 ⟨g, rfl, hg1, hbk, hb⟩
    have HBk := Aside0.mk (hbk.below (below_alloc (Below.refl w1.heap.size w1) (.cells #[.slice (some ⟨g, 0, none⟩) 512 512] 65)))
    have HB := Aside0.mk (below_alloc hb (.cells #[.slice (some ⟨g, 0, none⟩) 512 512] 65))
    have hglt := hbk.lt
    clear hbk hb
    go_wp2_with fail
    refine (count5 (some ⟨g, 0, none⟩) 512 p _ (blk_rb5 HBk.out HL.out) (Nat.le_refl _) HO.out HL.out).mono ?_
    rintro e w2 ⟨rfl, hb⟩
    have HB2 := Aside0.mk (below_step HB.out hb)
    clear hb
    go_wp2
    go_ret2
    exact ⟨rfl, HB2.out⟩
set_option maxHeartbeats 4000000 in
theorem remove_good (A : Option Addr) (c : Nat) (p : List Int) (i : Nat) (w : World) (hr : Kd.C (Kd.int .u8) w A 512 p) (hc : 512 ≤ c) (ho : octs p) (hl : p.length = 512) (hg : goodP p = true) (hi : i < cnt p) :
    Calls Try.prog 19 #[.slice A 512 c, .int .i64 i] w fun e w' => ∃ g, e = .returned (.tuple #[.slice (some ⟨g, 0, none⟩) 512 512, .int .i64 0]) ∧ w.heap.size ≤ g ∧ Blk w' 5 g (removeP p i) ∧ Below w.heap.size w w' := by
  have q1 : decide ((i : Int) < 0) = false := decide_eq_false (by omega)
  have q2 : decide ((cnt p : Int) ≤ (i : Int)) = false := decide_eq_false (by omega)
  have hn5 : 26 + 4 * cnt p ≤ 512 := by have := (good_facts hg).2.2; omega
  have HR := Aside0.mk hr
  have HO := Aside0.mk ho
  have HG := Aside0.mk hg
  have HL := Aside0.mk hl
  clear hr ho hg hl
  go_enter Try.func19, Try.ntmps19
  go_wp2_with fail
  refine (copied_good A c p _ HR.out hc HO.out HL.out HG.out).mono ?_
  rintro e w1 ⟨g, rfl, hg1, hbk, hb⟩
  have HBk := Aside0.mk (hbk.below (below_alloc (Below.refl w1.heap.size w1) (.cells #[.slice (some ⟨g, 0, none⟩) 512 512] 65)))
  have HB := Aside0.mk (below_alloc hb (.cells #[.slice (some ⟨g, 0, none⟩) 512 512] 65))
  have hglt := hbk.lt
  clear hbk hb
  go_wp2_with fail
  refine (count5 (some ⟨g, 0, none⟩) 512 p _ (blk_rb5 HBk.out HL.out) (Nat.le_refl _) HO.out HL.out).mono ?_
  rintro e w2 ⟨rfl, hb⟩
  have hc2 := pw_cell_below hb (a := ⟨w1.heap.size, 0, none⟩) (v := .slice (some ⟨g, 0, none⟩) 512 512) (by simp)
  have HB2 := Aside0.mk (below_step HB.out hb)
  have HBk2 := Aside0.mk (HBk.out.below hb)
  clear hb
  go_wp2_with fail
  refine (count5 (some ⟨g, 0, none⟩) 512 p _ (blk_rb5 HBk2.out HL.out) (Nat.le_refl _) HO.out HL.out).mono ?_
  rintro e w3 ⟨rfl, hb⟩
  have hc3 := pw_cell_below hb hc2
  have HB3 := Aside0.mk (below_step HB2.out hb)
  have HBk3 := Aside0.mk (HBk2.out.below hb)
  clear hb hc2 HBk HBk2 HB HB2
  have a1 : IntKind.i64.wrap ((i : Int) + 1) = (i : Int) + 1 := IntWalk.i64_in _ (by omega)
  have a2 : IntKind.i64.wrap (4 * ((i : Int) + 1)) = 4 * ((i : Int) + 1) := IntWalk.i64_in _ (by omega)
  have a3 : IntKind.i64.wrap (26 + 4 * ((i : Int) + 1)) = 26 + 4 * ((i : Int) + 1) := IntWalk.i64_in _ (by omega)
  have a4 : IntKind.i64.wrap ((cnt p : Int) - 1) = (cnt p : Int) - 1 := IntWalk.i64_in _ (by omega)
  have a5 : IntKind.i64.wrap (4 * ((cnt p : Int) - 1)) = 4 * ((cnt p : Int) - 1) := IntWalk.i64_in _ (by omega)
  have a6 : IntKind.i64.wrap (26 + 4 * ((cnt p : Int) - 1)) = 26 + 4 * ((cnt p : Int) - 1) := IntWalk.i64_in _ (by omega)
  have a7 : IntKind.i64.wrap (4 * (i : Int)) = 4 * (i : Int) := IntWalk.i64_in _ (by omega)
  have a8 : IntKind.i64.wrap (26 + 4 * (i : Int)) = 26 + 4 * (i : Int) := IntWalk.i64_in _ (by omega)
  have a9 : IntKind.i64.wrap (4 * (cnt p : Int)) = 4 * (cnt p : Int) := IntWalk.i64_in _ (by omega)
  have a10 : IntKind.i64.wrap (26 + 4 * (cnt p : Int)) = 26 + 4 * (cnt p : Int) := IntWalk.i64_in _ (by omega)
  have c1 : (0 : Int) ≤ 26 + 4 * ((cnt p : Int) - 1) := by omega
  have c2 : 26 + 4 * ((cnt p : Int) - 1) ≤ 512 := by omega
  have c3 : (0 : Int) ≤ 26 + 4 * ((i : Int) + 1) := by omega
  have c4 : 26 + 4 * ((i : Int) + 1) ≤ max (26 + 4 * (cnt p : Int)) 0 := by omega
  have c5 : (26 + 4 * ((i : Int) + 1)).toNat = 26 + 4 * (i + 1) := by omega
  have c6 : (26 + 4 * ((cnt p : Int) - 1)).toNat = 26 + 4 * (cnt p - 1) := by omega
  have c7 : ¬ (512 = 26 + 4 * (i + 1)) := by omega
  have d1 : (0 : Int) ≤ 26 + 4 * (cnt p : Int) := by omega
  have d2 : 26 + 4 * (cnt p : Int) ≤ 512 := by omega
  have d3 : (0 : Int) ≤ 26 + 4 * (i : Int) := by omega
  have d4 : 26 + 4 * (i : Int) ≤ max (26 + 4 * ((cnt p : Int) - 1)) 0 := by omega
  have d5 : (26 + 4 * (i : Int)).toNat = 26 + 4 * i := by omega
  have d6 : (26 + 4 * (cnt p : Int)).toNat = 26 + 4 * cnt p := by omega
  have d7 : ¬ (512 = 26 + 4 * i) := by omega
  have d8 : ¬ (512 = 26 + 4 * (cnt p - 1)) := by omega
  have d9 : 26 + 4 * ((cnt p : Int) - 1) ≤ max (26 + 4 * (cnt p : Int)) 0 := by omega
  go_wp2_with fail
  have e1 : i ≤ cnt p - 1 := by omega
  have e2 : i + 1 ≤ cnt p := by omega
  have e3 : cnt p - 1 ≤ cnt p := by omega
  have e4 : (i : Int) + 1 ≤ (cnt p : Int) := by omega
  have e5 : (cnt p : Int) - 1 ≤ (cnt p : Int) := by omega
  go_region_law (refine st_copy rfl (.tmp 38) (.tmp 48) 22 22 5 rfl Try.underlying22 size5 g (26 + 4 * i) (26 + 4 * (cnt p - 1) - (26 + 4 * i)) (512 - (26 + 4 * i)) (26 + 4 * cnt p - (26 + 4 * (i + 1))) (512 - (26 + 4 * (i + 1))) (some ⟨g, 26 + 4 * (i + 1), none⟩) p _ rfl rfl HBk3.out (rb_cutB HBk3.out HL.out (26 + 4 * (i + 1)) (26 + 4 * cnt p - (26 + 4 * (i + 1))) (by omega)) (by have := HL.out; have h2 : Nat.min (26 + 4 * cnt p - (26 + 4 * (i + 1))) (26 + 4 * (cnt p - 1) - (26 + 4 * i)) ≤ 26 + 4 * (cnt p - 1) - (26 + 4 * i) := Nat.min_le_right _ _; omega) ?_; intro w7 hb7 hg7)
  all_goals (
    have hmin : Nat.min (26 + 4 * cnt p - (26 + 4 * (i + 1))) (26 + 4 * (cnt p - 1) - (26 + 4 * i)) = 4 * (cnt p - 1 - i) := by
      rw [show 26 + 4 * cnt p - (26 + 4 * (i + 1)) = 4 * (cnt p - 1 - i) by omega, show 26 + 4 * (cnt p - 1) - (26 + 4 * i) = 4 * (cnt p - 1 - i) by omega]; exact Nat.min_self _
    have hqlen := HL.out
    have hct : ((p.drop (26 + 4 * (i + 1))).take (26 + 4 * cnt p - (26 + 4 * (i + 1)))).take (26 + 4 * (cnt p - 1) - (26 + 4 * i)) = (p.drop (26 + 4 * (i + 1))).take (4 * (cnt p - 1 - i)) := by
      rw [List.take_take, show min (26 + 4 * (cnt p - 1) - (26 + 4 * i)) (26 + 4 * cnt p - (26 + 4 * (i + 1))) = 4 * (cnt p - 1 - i) by omega]
    have hll1 : ((p.drop (26 + 4 * (i + 1))).take (4 * (cnt p - 1 - i))).length = 4 * (cnt p - 1 - i) := by rw [List.length_take, List.length_drop]; omega
    have HB7 : Aside0 (Blk w7 5 g (rm1 p i (cnt p))) := by
      constructor
      unfold rm1 over
      rw [hll1]
      rw [hmin, hct] at hb7
      exact hb7
    have hc7 := cell_grown' hg7 hc3 (by simp; omega)
    have HG7 : Aside0 (w3.grownBy w7 (some g)) := Aside0.mk (grown_trans (by first | exact grown_below (below_drew (Below.refl w3.heap.size w3)) (some g) | exact grown_below (pw_below_drewN (Below.refl w3.heap.size w3) _) (some g) | exact grown_below (Below.refl w3.heap.size w3) (some g)) hg7)
    have H1L := Aside0.mk (show (rm1 p i (cnt p)).length = 512 by unfold rm1; exact over_len hqlen (by rw [hll1]; omega))
    clear hb7 hg7 hct hc3 hll1 hmin hqlen
    have a11 : IntKind.u64.wrap ((cnt p : Int) - 1) = (cnt p : Int) - 1 := by rw [IntKind.wrap_u64]; omega
    go_wp2_with ((with_reducible refine gate_builtin (b := .clear) (xs := #[.tmp 59]) rfl ?_); go_loud (refine wl_clear rfl (.tmp 59) 22 5 rfl Try.underlying22 zero5 g (26 + 4 * (cnt p - 1)) (26 + 4 * cnt p - (26 + 4 * (cnt p - 1))) (512 - (26 + 4 * (cnt p - 1))) (rm1 p i (cnt p)) rfl HB7.out (by have := H1L.out; omega) ?_); intro w8 hb8 hg8; have hc8 := cell_grown' hg8 hc7 (by simp; omega))
    have HB8 : Aside0 (Blk w8 5 g (rm2 p i (cnt p))) := by
      constructor
      unfold rm2 over
      rw [List.length_replicate]
      rw [show 26 + 4 * cnt p - (26 + 4 * (cnt p - 1)) = 4 by omega] at hb8
      exact hb8
    have HG8 := Aside0.mk (grown_trans HG7.out hg8)
    have H2L := Aside0.mk (show (rm2 p i (cnt p)).length = 512 by unfold rm2; exact over_len H1L.out (by rw [List.length_replicate]; omega))
    clear hb8 hg8 hc7 HG7 HB7
    refine (put_at g _ 14 2 _ _ _ _ rfl rfl HB8.out H2L.out (by decide) (by decide) (by omega) (by decide)).mono ?_
    rintro e w9 ⟨rfl, hb9, hg9⟩
    have hc9 := cell_grown' hg9 hc8 (by simp; omega)
    have HG9 := Aside0.mk (grown_trans HG8.out hg9)
    have HB9 := Aside0.mk (show Blk w9 5 g (rm3 p i (cnt p)) from hb9)
    have H3L := Aside0.mk (show (rm3 p i (cnt p)).length = 512 by unfold rm3; exact over_len H2L.out (by rw [leB_length]; decide))
    clear hb9 hg9 hc8 HG8 HB8
    by_cases h1 : cnt p = 1
    · have t1 : ((cnt p : Int) == 1) = true := by rw [h1]; rfl
      have t2 : decide ((cnt p : Int) = 1) = true := decide_eq_true (by omega)
      have H1 := Aside0.mk h1
      clear h1
      go_wp2_with fail
      refine (put_at g _ 16 2 _ _ _ _ rfl rfl HB9.out H3L.out (by decide) (by decide) (by decide) (by decide)).mono ?_
      rintro e w10 ⟨rfl, hb10, hg10⟩
      have hc10 := cell_grown' hg10 hc9 (by simp; omega)
      have HG10 := Aside0.mk (grown_trans HG9.out hg10)
      have HB10 := Aside0.mk (show Blk w10 5 g (removeP p i) by unfold removeP; rw [if_pos H1.out]; exact hb10)
      clear hb10 hg10 hc9
      go_wp2
      go_ret2
      exact ⟨g, rfl, hg1, HB10.out, below_of_grown_new HB3.out HG10.out hg1⟩
    · have t1 : ((cnt p : Int) == 1) = false := by rw [beq_eq_false_iff_ne]; omega
      have t2 : decide ((cnt p : Int) = 1) = false := decide_eq_false (by omega)
      have HB10 := Aside0.mk (show Blk w9 5 g (removeP p i) by unfold removeP; rw [if_neg h1]; exact HB9.out)
      go_wp2
      go_ret2
      exact ⟨g, rfl, hg1, HB10.out, below_of_grown_new HB3.out HG9.out hg1⟩)
end Go.Proofs.Ytpogneedafoiaaa.Pg
