/- Contracts by hand: Set, Seal. -/
import Derived.Test.YtpogneedafoiaaaPgF
import Derived.Deep.RegionLaw
namespace Go.Proofs.Ytpogneedafoiaaa.Pg
open Go.RowKit Go.Proofs.YtpogneedafoiaaaW.PrintWords Go.Proofs.YtpogneedafoiaaaW.PrintLast Go.Proofs.YtpogneedafoiaaaW.PrintMore Go.Proofs.Ytpogneedafoiaaa.Bw Go.Proofs.Ytpogneedafoiaaa.Crc Go.Proofs.Ytpogneedafoiaaa.Wordy
set_option linter.unusedVariables false
set_option linter.unusedSimpArgs false

theorem over_len {p : List Int} (hl : p.length = 512) {at_ : Nat} {l : List Int} (h : at_ + l.length ≤ 512) : (over p at_ l).length = 512 := by rw [over_length _ _ _ (by omega)]; exact hl
theorem over_octs {p : List Int} (ho : octs p) (at_ : Nat) {l : List Int} (h : octs l) : octs (over p at_ l) := octs_append (octs_take ho _) (octs_append h (octs_drop ho _))
theorem crc_calls (A : Option Addr) (c : Nat) (l : List Int) (w : World) (hr : Kd.C (Kd.int .u8) w A l.length l) (hc : l.length ≤ c) (ho : octs l) (hl : l.length ≤ 140737488351232) :
    Calls Try.prog 60 #[.slice A l.length c] w fun e w' => e = .returned (.int .u32 (more 0 l)) ∧ Drawn0 w w' := by
  obtain ⟨k, hk⟩ : ∃ k, 10 * l.length < k := ⟨_, Nat.lt_succ_self _⟩
  exact sum_Of.calls k A c l _ w hr hc (Of_eq l ho hl k hk)
def setP (p : List Int) (x y : Int) : List Int := over (over p 18 (leB x 4)) 22 (leB y 4)
def sealB (p : List Int) (lsn : Int) : List Int := over p 4 (leB lsn 8)
def sealP (p : List Int) (lsn : Int) : List Int := over (sealB p lsn) 0 (leB (more 0 ((sealB p lsn).drop 4)) 4)
set_option maxHeartbeats 2000000 in
theorem set_no (A : Option Addr) (c : Nat) (p : List Int) (x y : Int) (w : World) (hr : Kd.C (Kd.int .u8) w A 512 p) (hc : 512 ≤ c) (ho : octs p) (hl : p.length = 512) (hg : goodP p = true) (hx : ¬ (0 ≤ x ∧ x ≤ 4294967295 ∧ 0 ≤ y ∧ y ≤ 4294967295)) :
    Calls Try.prog 32 #[.slice A 512 c, .int .i64 x, .int .i64 y] w fun e w' => e = .returned (.tuple #[.slice none 0 0, .int .i64 1]) ∧ Below w.heap.size w w' := by
  have HR := Aside0.mk hr
  have HO := Aside0.mk ho
  have HG := Aside0.mk hg
  have HL := Aside0.mk hl
  clear hr ho hg hl
  go_enter Try.func32, Try.ntmps32
  go_wp2_with fail
  refine (copied_good A c p _ HR.out hc HO.out HL.out HG.out).mono ?_
  rintro e w1 ⟨g, rfl, hg1, hbk, hb⟩
  have HBk := Aside0.mk (hbk.below (below_alloc (Below.refl w1.heap.size w1) (.cells #[.slice (some ⟨g, 0, none⟩) 512 512] 65)))
  have HB := Aside0.mk (below_alloc hb (.cells #[.slice (some ⟨g, 0, none⟩) 512 512] 65))
  have hglt := hbk.lt
  clear hbk hb
  go_wp2_with fail
  all_goals
    go_ret2
    exact ⟨rfl, HB.out⟩
set_option maxHeartbeats 2000000 in
theorem set_good (A : Option Addr) (c : Nat) (p : List Int) (x y : Int) (w : World) (hr : Kd.C (Kd.int .u8) w A 512 p) (hc : 512 ≤ c) (ho : octs p) (hl : p.length = 512) (hg : goodP p = true) (hx : 0 ≤ x ∧ x ≤ 4294967295 ∧ 0 ≤ y ∧ y ≤ 4294967295) :
    Calls Try.prog 32 #[.slice A 512 c, .int .i64 x, .int .i64 y] w fun e w' => ∃ g, e = .returned (.tuple #[.slice (some ⟨g, 0, none⟩) 512 512, .int .i64 0]) ∧ w.heap.size ≤ g ∧ Blk w' 5 g (setP p x y) ∧ Below w.heap.size w w' := by
  obtain ⟨x0, x1, y0, y1⟩ := hx
  have HR := Aside0.mk hr
  have HO := Aside0.mk ho
  have HG := Aside0.mk hg
  have HL := Aside0.mk hl
  clear hr ho hg hl
  go_enter Try.func32, Try.ntmps32
  go_wp2_with fail
  refine (copied_good A c p _ HR.out hc HO.out HL.out HG.out).mono ?_
  rintro e w1 ⟨g, rfl, hg1, hbk, hb⟩
  have HBk := Aside0.mk (hbk.below (below_alloc (Below.refl w1.heap.size w1) (.cells #[.slice (some ⟨g, 0, none⟩) 512 512] 65)))
  have HB := Aside0.mk (below_alloc hb (.cells #[.slice (some ⟨g, 0, none⟩) 512 512] 65))
  have hglt := hbk.lt
  clear hbk hb
  go_wp2_with fail
  refine (put_at g _ 18 4 _ _ _ _ rfl rfl HBk.out HL.out (by decide) (by decide) x0 (by decide)).mono ?_
  rintro e w3 ⟨rfl, hb3, hg3⟩
  have hc3 := cell_grown' hg3 (a := ⟨w1.heap.size, 0, none⟩) (v := .slice (some ⟨g, 0, none⟩) 512 512) (by simp) (by simp; omega)
  have HB3 := Aside0.mk hb3
  have HG3 := Aside0.mk hg3
  clear hb3 hg3
  go_wp2_with fail
  refine (put_at g _ 22 4 _ _ _ _ rfl rfl HB3.out (over_len HL.out (by rw [leB_length]; decide)) (by decide) (by decide) y0 (by decide)).mono ?_
  rintro e w4 ⟨rfl, hb4, hg4⟩
  have hc4 := cell_grown' hg4 hc3 (by simp; omega)
  have HB4 := Aside0.mk hb4
  have HG4 := Aside0.mk (grown_trans HG3.out hg4)
  clear hb4 hg4 hc3
  go_wp2
  go_ret2
  exact ⟨g, rfl, hg1, HB4.out, below_of_grown_new HB.out HG4.out hg1⟩
set_option maxHeartbeats 4000000 in
theorem seal_good (A : Option Addr) (c : Nat) (p : List Int) (lsn : Int) (w : World) (hr : Kd.C (Kd.int .u8) w A 512 p) (hc : 512 ≤ c) (ho : octs p) (hl : p.length = 512) (hg : goodP p = true) (h0 : 0 ≤ lsn) :
    Calls Try.prog 27 #[.slice A 512 c, .int .u64 lsn] w fun e w' => ∃ g, e = .returned (.tuple #[.slice (some ⟨g, 0, none⟩) 512 512, .int .i64 0]) ∧ w.heap.size ≤ g ∧ Blk w' 5 g (sealP p lsn) ∧ Below w.heap.size w w' := by
  have HR := Aside0.mk hr
  have HO := Aside0.mk ho
  have HG := Aside0.mk hg
  have HL := Aside0.mk hl
  clear hr ho hg hl
  go_enter Try.func27, Try.ntmps27
  go_wp2_with fail
  refine (copied_good A c p _ HR.out hc HO.out HL.out HG.out).mono ?_
  rintro e w1 ⟨g, rfl, hg1, hbk, hb⟩
  have HBk := Aside0.mk (hbk.below (below_alloc (Below.refl w1.heap.size w1) (.cells #[.slice (some ⟨g, 0, none⟩) 512 512] 65)))
  have HB := Aside0.mk (below_alloc hb (.cells #[.slice (some ⟨g, 0, none⟩) 512 512] 65))
  have hglt := hbk.lt
  clear hbk hb
  go_wp2_with fail
  refine (put_at g _ 4 8 _ _ _ _ rfl rfl HBk.out HL.out (by decide) (by decide) h0 (by decide)).mono ?_
  rintro e w3 ⟨rfl, hb3, hg3⟩
  have hc3 := cell_grown' hg3 (a := ⟨w1.heap.size, 0, none⟩) (v := .slice (some ⟨g, 0, none⟩) 512 512) (by simp) (by simp; omega)
  have HB3 := Aside0.mk (show Blk w3 5 g (sealB p lsn) from hb3)
  have HG3 := Aside0.mk hg3
  have HL3 := Aside0.mk (show (sealB p lsn).length = 512 from over_len HL.out (by rw [leB_length]; decide))
  have HO3 := Aside0.mk (show octs (sealB p lsn) from over_octs HO.out _ (leB_octs _ _))
  have HM3 := Aside0.mk (more_range (s := 0) (by decide) (octs_drop HO3.out 4))
  have hm1 := HM3.out.1
  have hm2 := HM3.out.2
  clear hb3 hg3
  go_wp2_with fail
  have hcr := (show Calls Try.prog 60 #[.slice (some ⟨g, 4, none⟩) 508 508] w3.drew (fun e w' => e = .returned (.int .u32 (more 0 ((sealB p lsn).drop 4))) ∧ Drawn0 w3.drew w') by
    have h := crc_calls (some ⟨g, 4, none⟩) 508 ((sealB p lsn).drop 4) w3.drew (by rw [List.length_drop, HL3.out]; have h := rb_cut (Kd.C_drew (blk_rb5 HB3.out HL3.out)) 4 508 (by decide); rw [List.take_of_length_le (by rw [List.length_drop, HL3.out]; decide)] at h; exact h) (by rw [List.length_drop, HL3.out]; decide) (octs_drop HO3.out 4) (by rw [List.length_drop, HL3.out]; decide)
    rw [List.length_drop, HL3.out] at h
    exact h)
  have HCR := Aside0.mk hcr
  have hwr : IntKind.u64.wrap (more 0 ((sealB p lsn).drop 4)) = more 0 ((sealB p lsn).drop 4) := by rw [IntKind.wrap_u64]; omega
  clear hcr
  go_region_law (first
    | (go_simp; go_at_call 60; (with_reducible refine (HCR.out).mono ?_); rintro e w4 ⟨rfl, ⟨nd, rfl⟩⟩)
    | (go_simp; go_at_call 53; (with_reducible refine (put_at g (sealB p lsn) 0 4 _ _ _ _ ?_ ?_ ?_ HL3.out (by decide) (by decide) hm1 (by decide)).mono ?_); (rfl); (rfl); (exact HB3.out); rintro e w5 ⟨rfl, hb5, hg5⟩))
  all_goals
    have hc5 := cell_grown' hg5 (a := ⟨w1.heap.size, 0, none⟩) (v := .slice (some ⟨g, 0, none⟩) 512 512) hc3 (by simp; omega)
    have HB5 := Aside0.mk hb5
    have HG5 := Aside0.mk (grown_trans (grown_drewN HG3.out _) hg5)
    clear hb5 hg5 hc3
    go_wp2
    go_ret2
    exact ⟨g, rfl, hg1, HB5.out, below_of_grown_new HB.out HG5.out hg1⟩
end Go.Proofs.Ytpogneedafoiaaa.Pg
