/- Contracts by hand, and plain words about them: PgG, PgH, PgI, PgPl, PgJ, PgN, PgO, PgP, PgQ. -/
import Derived.Test.YtpogneedafoiaaaPgOne
import Derived.Deep.RegionLaw
import Derived.Outline
import Derived.Test.YtpogneedafoiaaaRfA
namespace Go.Proofs.Ytpogneedafoiaaa.Pg
open Go.RowKit Go.Proofs.YtpogneedafoiaaaW.PrintWords Go.Proofs.YtpogneedafoiaaaW.PrintLast Go.Proofs.YtpogneedafoiaaaW.PrintMore Go.Proofs.Ytpogneedafoiaaa.Bw Go.Proofs.Ytpogneedafoiaaa.Crc Go.Proofs.Ytpogneedafoiaaa.Wordy
set_option linter.unusedVariables false
set_option linter.unusedSimpArgs false

theorem over_len {p : List Int} (hl : p.length = 512) {at_ : Nat} {l : List Int} (h : at_ + l.length ≤ 512) : (over p at_ l).length = 512 := by rw [over_length _ _ _ (by omega)]; exact hl
theorem over_octs {p : List Int} (ho : octs p) (at_ : Nat) {l : List Int} (h : octs l) : octs (over p at_ l) := octs_append (octs_take ho _) (octs_append h (octs_drop ho _))
theorem crc_calls (A : Option Addr) (c : Nat) (l : List Int) (w : World) (hr : Kd.C (Kd.int .u8) w A l.length l) (hc : l.length ≤ c) (ho : octs l) (hl : l.length ≤ 140737488351232) :
    Calls Try.prog 60 #[.slice A l.length c] w fun e w' => e = .returned (.int .u32 (more 0 l)) ∧ Drawn0 w w' := by
  obtain ⟨k, hk⟩ : ∃ k, 10 * l.length < k := ⟨_, Nat.lt_succ_self _⟩
  exact sum_Of.calls k A c l _ w hr hc (Of_eq l ho hl k hk)
def setP (p : List Int) (x y : Int) : List Int := over (over p 18 (leB x 4)) 22 (leB y 4)
def sealB (p : List Int) (lsn : Int) : List Int := over p 4 (leB lsn 8)
def sealP (p : List Int) (lsn : Int) : List Int := over (sealB p lsn) 0 (leB (more 0 ((sealB p lsn).drop 4)) 4)
set_option maxHeartbeats 2000000 in
theorem set_no (A : Option Addr) (c : Nat) (p : List Int) (x y : Int) (w : World) (hr : Kd.C (Kd.int .u8) w A 512 p) (hc : 512 ≤ c) (ho : octs p) (hl : p.length = 512) (hg : goodP p = true) (hx : ¬ (0 ≤ x ∧ x ≤ 4294967295 ∧ 0 ≤ y ∧ y ≤ 4294967295)) :
    Calls Try.prog 32 #[.slice A 512 c, .int .i64 x, .int .i64 y] w fun e w' => e = .returned (.tuple #[.slice none 0 0, .int .i64 1]) ∧ Below w.heap.size w w' := by
  have HR := Aside0.mk hr
  have HO := Aside0.mk ho
  have HG := Aside0.mk hg
  have HL := Aside0.mk hl
  clear hr ho hg hl
  go_enter Try.func32, Try.ntmps32
  go_wp2_with fail
  refine (copied_good A c p _ HR.out hc HO.out HL.out HG.out).mono ?_
  rintro e w1 ⟨g, rfl, hg1, hbk, hb⟩
  have HBk := Aside0.mk (hbk.below (below_alloc (Below.refl w1.heap.size w1) (.cells #[.slice (some ⟨g, 0, none⟩) 512 512] 65)))
  have HB := Aside0.mk (below_alloc hb (.cells #[.slice (some ⟨g, 0, none⟩) 512 512] 65))
  have hglt := hbk.lt
  clear hbk hb
  go_wp2_with fail
  all_goals
    go_ret2
    exact ⟨rfl, HB.out⟩
set_option maxHeartbeats 2000000 in
theorem set_good (A : Option Addr) (c : Nat) (p : List Int) (x y : Int) (w : World) (hr : Kd.C (Kd.int .u8) w A 512 p) (hc : 512 ≤ c) (ho : octs p) (hl : p.length = 512) (hg : goodP p = true) (hx : 0 ≤ x ∧ x ≤ 4294967295 ∧ 0 ≤ y ∧ y ≤ 4294967295) :
    Calls Try.prog 32 #[.slice A 512 c, .int .i64 x, .int .i64 y] w fun e w' => ∃ g, e = .returned (.tuple #[.slice (some ⟨g, 0, none⟩) 512 512, .int .i64 0]) ∧ w.heap.size ≤ g ∧ Blk w' 5 g (setP p x y) ∧ Below w.heap.size w w' := by
  obtain ⟨x0, x1, y0, y1⟩ := hx
  have HR := Aside0.mk hr
  have HO := Aside0.mk ho
  have HG := Aside0.mk hg
  have HL := Aside0.mk hl
  clear hr ho hg hl
  go_enter Try.func32, Try.ntmps32
  go_wp2_with fail
  refine (copied_good A c p _ HR.out hc HO.out HL.out HG.out).mono ?_
  rintro e w1 ⟨g, rfl, hg1, hbk, hb⟩
  have HBk := Aside0.mk (hbk.below (below_alloc (Below.refl w1.heap.size w1) (.cells #[.slice (some ⟨g, 0, none⟩) 512 512] 65)))
  have HB := Aside0.mk (below_alloc hb (.cells #[.slice (some ⟨g, 0, none⟩) 512 512] 65))
  have hglt := hbk.lt
  clear hbk hb
  go_wp2_with fail
  refine (put_at g _ 18 4 _ _ _ _ rfl rfl HBk.out HL.out (by decide) (by decide) x0 (by decide)).mono ?_
  rintro e w3 ⟨rfl, hb3, hg3⟩
  have hc3 := cell_grown' hg3 (a := ⟨w1.heap.size, 0, none⟩) (v := .slice (some ⟨g, 0, none⟩) 512 512) (by simp) (by simp; omega)
  have HB3 := Aside0.mk hb3
  have HG3 := Aside0.mk hg3
  clear hb3 hg3
  go_wp2_with fail
  refine (put_at g _ 22 4 _ _ _ _ rfl rfl HB3.out (over_len HL.out (by rw [leB_length]; decide)) (by decide) (by decide) y0 (by decide)).mono ?_
  rintro e w4 ⟨rfl, hb4, hg4⟩
  have hc4 := cell_grown' hg4 hc3 (by simp; omega)
  have HB4 := Aside0.mk hb4
  have HG4 := Aside0.mk (grown_trans HG3.out hg4)
  clear hb4 hg4 hc3
  go_wp2
  go_ret2
  exact ⟨g, rfl, hg1, HB4.out, below_of_grown_new HB.out HG4.out hg1⟩
set_option maxHeartbeats 4000000 in
theorem seal_good (A : Option Addr) (c : Nat) (p : List Int) (lsn : Int) (w : World) (hr : Kd.C (Kd.int .u8) w A 512 p) (hc : 512 ≤ c) (ho : octs p) (hl : p.length = 512) (hg : goodP p = true) (h0 : 0 ≤ lsn) :
    Calls Try.prog 27 #[.slice A 512 c, .int .u64 lsn] w fun e w' => ∃ g, e = .returned (.tuple #[.slice (some ⟨g, 0, none⟩) 512 512, .int .i64 0]) ∧ w.heap.size ≤ g ∧ Blk w' 5 g (sealP p lsn) ∧ Below w.heap.size w w' := by
  have HR := Aside0.mk hr
  have HO := Aside0.mk ho
  have HG := Aside0.mk hg
  have HL := Aside0.mk hl
  clear hr ho hg hl
  go_enter Try.func27, Try.ntmps27
  go_wp2_with fail
  refine (copied_good A c p _ HR.out hc HO.out HL.out HG.out).mono ?_
  rintro e w1 ⟨g, rfl, hg1, hbk, hb⟩
  have HBk := Aside0.mk (hbk.below (below_alloc (Below.refl w1.heap.size w1) (.cells #[.slice (some ⟨g, 0, none⟩) 512 512] 65)))
  have HB := Aside0.mk (below_alloc hb (.cells #[.slice (some ⟨g, 0, none⟩) 512 512] 65))
  have hglt := hbk.lt
  clear hbk hb
  go_wp2_with fail
  refine (put_at g _ 4 8 _ _ _ _ rfl rfl HBk.out HL.out (by decide) (by decide) h0 (by decide)).mono ?_
  rintro e w3 ⟨rfl, hb3, hg3⟩
  have hc3 := cell_grown' hg3 (a := ⟨w1.heap.size, 0, none⟩) (v := .slice (some ⟨g, 0, none⟩) 512 512) (by simp) (by simp; omega)
  have HB3 := Aside0.mk (show Blk w3 5 g (sealB p lsn) from hb3)
  have HG3 := Aside0.mk hg3
  have HL3 := Aside0.mk (show (sealB p lsn).length = 512 from over_len HL.out (by rw [leB_length]; decide))
  have HO3 := Aside0.mk (show octs (sealB p lsn) from over_octs HO.out _ (leB_octs _ _))
  have HM3 := Aside0.mk (more_range (s := 0) (by decide) (octs_drop HO3.out 4))
  have hm1 := HM3.out.1
  have hm2 := HM3.out.2
  clear hb3 hg3
  go_wp2_with fail
  have hcr := (show Calls Try.prog 60 #[.slice (some ⟨g, 4, none⟩) 508 508] w3.drew (fun e w' => e = .returned (.int .u32 (more 0 ((sealB p lsn).drop 4))) ∧ Drawn0 w3.drew w') by
    have h := crc_calls (some ⟨g, 4, none⟩) 508 ((sealB p lsn).drop 4) w3.drew (by rw [List.length_drop, HL3.out]; have h := rb_cut (Kd.C_drew (blk_rb5 HB3.out HL3.out)) 4 508 (by decide); rw [List.take_of_length_le (by rw [List.length_drop, HL3.out]; decide)] at h; exact h) (by rw [List.length_drop, HL3.out]; decide) (octs_drop HO3.out 4) (by rw [List.length_drop, HL3.out]; decide)
    rw [List.length_drop, HL3.out] at h
    exact h)
  have HCR := Aside0.mk hcr
  have hwr : IntKind.u64.wrap (more 0 ((sealB p lsn).drop 4)) = more 0 ((sealB p lsn).drop 4) := by rw [IntKind.wrap_u64]; omega
  clear hcr
  go_region_law (first
    | (go_simp; go_at_call 60; (with_reducible refine (HCR.out).mono ?_); rintro e w4 ⟨rfl, ⟨nd, rfl⟩⟩)
    | (go_simp; go_at_call 53; (with_reducible refine (put_at g (sealB p lsn) 0 4 _ _ _ _ ?_ ?_ ?_ HL3.out (by decide) (by decide) hm1 (by decide)).mono ?_); (rfl); (rfl); (exact HB3.out); rintro e w5 ⟨rfl, hb5, hg5⟩))
  all_goals
    have hc5 := cell_grown' hg5 (a := ⟨w1.heap.size, 0, none⟩) (v := .slice (some ⟨g, 0, none⟩) 512 512) hc3 (by simp; omega)
    have HB5 := Aside0.mk hb5
    have HG5 := Aside0.mk (grown_trans (grown_drewN HG3.out _) hg5)
    clear hb5 hg5 hc3
    go_wp2
    go_ret2
    exact ⟨g, rfl, hg1, HB5.out, below_of_grown_new HB.out HG5.out hg1⟩
end Go.Proofs.Ytpogneedafoiaaa.Pg
namespace Go.Proofs.Ytpogneedafoiaaa.Pg
open Go.RowKit Go.Proofs.YtpogneedafoiaaaW.PrintWords Go.Proofs.YtpogneedafoiaaaW.PrintLast Go.Proofs.YtpogneedafoiaaaW.PrintMore Go.Proofs.Ytpogneedafoiaaa.Bw Go.Proofs.Ytpogneedafoiaaa.Crc Go.Proofs.Ytpogneedafoiaaa.Wordy
set_option linter.unusedVariables false
set_option linter.unusedSimpArgs false

theorem made_zeros (n : Nat) : madeCells #[Value.int .u8 0] n = (nums .u8 (List.replicate n 0)).toArray := by
  apply Array.ext
  · simp [size_madeCells, nums]
  · intro i h1 h2
    simp [madeCells, nums, Nat.mod_one]
/-- make of so many noughts -/
theorem wl_make {ops : Array Oper} {rest : List Oper} {o : Oper} {a : Act} {Q : Exit → Act → World → Prop} {W : World} (hg : o.guard = none) (l c : Operand) (ho : o.op = .makeSlice 22 l c) (n : Nat) (hn : n ≤ 140737488351232)
    (hl : a.eval l = .int .i64 (n : Int)) (hc : a.eval c = .int .i64 (n : Int))
    (h : ∀ w', Blk w' 5 W.heap.size (List.replicate n 0) → Below W.heap.size W w' → wpList Try.prog ops Q rest (a.put o.dst (.slice (some ⟨W.heap.size, 0, none⟩) n n)) w') : wpList Try.prog ops Q (o :: rest) a W := by
  have hrun := run_make_row' (P := Try.prog) 22 5 (.int .u8 0) 1 Try.underlying22 info5 rfl .i64 .i64 n (by omega) (by omega) W
  refine wpList_plain hg fun K hK => ?_
  unfold Oper.wp
  simp [execOp, ho, hl, hc, hrun, Result.andThen]
  refine hK _ _ (h _ ?_ (below_alloc (Below.refl _ _) _))
  unfold Blk
  rw [← made_zeros]
  exact heap_new _ _ _ rfl
set_option maxHeartbeats 2000000 in
theorem new_no (kind : Int) (w : World) (h : ¬ (0 ≤ kind ∧ kind ≤ 255)) :
    Calls Try.prog 30 #[.int .i64 kind] w fun e w' => e = .returned (.tuple #[.slice none 0 0, .int .i64 1]) ∧ Below w.heap.size w w' := by
  go_enter Try.func30, Try.ntmps30
  go_wp2_with fail
  all_goals
    go_ret2
    exact ⟨rfl, Below.refl _ _⟩
def newP (kind : Int) : List Int := over ((List.replicate 512 0).set 12 kind) 16 (leB 512 2)
set_option maxRecDepth 100000 in
set_option maxHeartbeats 4000000 in
theorem new_good (kind : Int) (w : World) (h : 0 ≤ kind ∧ kind ≤ 255) :
    Calls Try.prog 30 #[.int .i64 kind] w fun e w' => ∃ g, e = .returned (.tuple #[.slice (some ⟨g, 0, none⟩) 512 512, .int .i64 0]) ∧ w.heap.size ≤ g ∧ Blk w' 5 g (newP kind) ∧ Below w.heap.size w w' := by
  obtain ⟨h0, h1⟩ := h
  have q1 : decide (kind < 0) = false := decide_eq_false (by omega)
  have q2 : decide (255 < kind) = false := decide_eq_false (by omega)
  have q3 : kind % 256 = kind := by omega
  go_enter Try.func30, Try.ntmps30
  go_wp2_with (refine wl_make rfl _ _ rfl 512 (by decide) rfl rfl ?_; intro w1 hb1 hl1; have hg1 := Blk.lt hb1; have hc12 := Blk.cell hb1 12 (by rw [List.length_replicate]; decide); have hf12 := Blk.free hb1 12; have hcx := cell_old (o := .cells #[.slice (some ⟨w.heap.size, 0, none⟩) 512 512] 65) hc12; have hfx := (frozen_old (W := w1) (a := ⟨w.heap.size, 12, none⟩) hg1 (.cells #[.slice (some ⟨w.heap.size, 0, none⟩) 512 512] 65)).trans hf12; clear hc12 hf12)
  have hz : (w1.setCell ⟨w.heap.size, 12, none⟩ (.int .u8 kind)).heap.size = w1.heap.size := by simp [World.setCell]
  have HB2 := Aside0.mk ((hb1.set 12 kind).below (below_alloc (Below.refl _ _) (.cells #[.slice (some ⟨w.heap.size, 0, none⟩) 512 512] 65)))
  have HL2 := Aside0.mk (below_alloc (hl1.setCell (p := ⟨w.heap.size, 12, none⟩) (Nat.le_refl _) (.int .u8 kind)) (.cells #[.slice (some ⟨w.heap.size, 0, none⟩) 512 512] 65))
  have hcb : ((w1.setCell ⟨w.heap.size, 12, none⟩ (.int .u8 kind)).alloc (.cells #[.slice (some ⟨w.heap.size, 0, none⟩) 512 512] 65)).cell? ⟨w1.heap.size, 0, none⟩ = some (.slice (some ⟨w.heap.size, 0, none⟩) 512 512) := by
    unfold World.cell?
    rw [heap_new _ _ _ hz.symm]
    rfl
  clear hb1 hl1 hcx hfx
  refine (put_at w.heap.size _ 16 2 _ _ _ _ rfl rfl HB2.out (by simp) (by decide) (by decide) (by decide) (by decide)).mono ?_
  rintro e w3 ⟨rfl, hb3, hg3⟩
  have hc3 := cell_grown' hg3 hcb (by simp; omega)
  have HB3 := Aside0.mk hb3
  have HL3 := Aside0.mk (below_of_grown_new HL2.out hg3 (Nat.le_refl _))
  clear hb3 hg3 hcb
  go_wp2
  go_ret2
  exact ⟨w.heap.size, rfl, Nat.le_refl _, HB3.out, HL3.out⟩
set_option maxHeartbeats 2000000 in
theorem countF_good (A : Option Addr) (c : Nat) (p : List Int) (w : World) (hr : Kd.C (Kd.int .u8) w A 512 p) (hc : 512 ≤ c) (ho : octs p) (hl : p.length = 512) (hg : goodP p = true) :
    Calls Try.prog 33 #[.slice A 512 c] w fun e w' => e = .returned (.tuple #[.int .i64 (((cnt p : Nat) : Int)), .int .i64 0]) ∧ Below w.heap.size w w' := by
  have HR := Aside0.mk hr
  have HO := Aside0.mk ho
  have HG := Aside0.mk hg
  have HL := Aside0.mk hl
  clear hr ho hg hl
  go_enter Try.func33, Try.ntmps33
  go_wp2_with fail
  refine (of_good A c p _ HR.out hc HO.out HL.out HG.out).mono ?_
  rintro e w1 ⟨rfl, hb⟩
  have HB := Aside0.mk (below_alloc hb (.cells #[.slice A 512 c] 65))
  have HR1 := Aside0.mk (Kd.C_below HR.out HB.out)
  clear hb
  go_wp2_with fail
  refine (count5 A c p _ HR1.out hc HO.out HL.out).mono ?_
  rintro e w2 ⟨rfl, hb⟩
  have HB2 := Aside0.mk (below_step HB.out hb)
  clear hb
  go_wp2
  go_ret2
  exact ⟨rfl, HB2.out⟩
set_option maxHeartbeats 2000000 in
theorem freeF_good (A : Option Addr) (c : Nat) (p : List Int) (w : World) (hr : Kd.C (Kd.int .u8) w A 512 p) (hc : 512 ≤ c) (ho : octs p) (hl : p.length = 512) (hg : goodP p = true) (hn : 26 + 4 * cnt p ≤ 512) :
    Calls Try.prog 15 #[.slice A 512 c] w fun e w' => e = .returned (.tuple #[.int .i64 (freeP p), .int .i64 0]) ∧ Below w.heap.size w w' := by
  have HR := Aside0.mk hr
  have HO := Aside0.mk ho
  have HG := Aside0.mk hg
  have HL := Aside0.mk hl
  clear hr ho hg hl
  go_enter Try.func15, Try.ntmps15
  go_wp2_with fail
  refine (of_good A c p _ HR.out hc HO.out HL.out HG.out).mono ?_
  rintro e w1 ⟨rfl, hb⟩
  have HB := Aside0.mk (below_alloc hb (.cells #[.slice A 512 c] 65))
  have HR1 := Aside0.mk (Kd.C_below HR.out HB.out)
  clear hb
  go_wp2_with fail
  refine (free5 A c p _ HR1.out hc HO.out HL.out hn).mono ?_
  rintro e w2 ⟨rfl, hb⟩
  have HB2 := Aside0.mk (below_step HB.out hb)
  clear hb
  go_wp2
  go_ret2
  exact ⟨rfl, HB2.out⟩
set_option maxHeartbeats 2000000 in
theorem cellF_no (A : Option Addr) (c : Nat) (p : List Int) (i : Int) (w : World) (hr : Kd.C (Kd.int .u8) w A 512 p) (hc : 512 ≤ c) (ho : octs p) (hl : p.length = 512) (hg : goodP p = true) (hi : ¬ (0 ≤ i ∧ i < cnt p)) :
    Calls Try.prog 34 #[.slice A 512 c, .int .i64 i] w fun e w' => e = .returned (.tuple #[.slice none 0 0, .int .i64 1]) ∧ Below w.heap.size w w' := by
  by_cases h0 : i < 0
  · have q1 : decide (i < 0) = true := decide_eq_true h0
    have HR := Aside0.mk hr
    have HO := Aside0.mk ho
    have HG := Aside0.mk hg
    have HL := Aside0.mk hl
    clear hr ho hg hl
    go_enter Try.func34, Try.ntmps34
    go_wp2_with fail
    refine (of_good A c p _ HR.out hc HO.out HL.out HG.out).mono ?_
    rintro e w1 ⟨rfl, hb⟩
    have HB := Aside0.mk (below_alloc hb (.cells #[.slice A 512 c] 65))
    have HR1 := Aside0.mk (Kd.C_below HR.out HB.out)
    clear hb
    go_wp2
    go_ret2
    exact ⟨rfl, HB.out⟩
  · have q1 : decide (i < 0) = false := decide_eq_false h0
    have q2 : decide ((cnt p : Int) ≤ i) = true := decide_eq_true (by omega)
    have HR := Aside0.mk hr
    have HO := Aside0.mk ho
    have HG := Aside0.mk hg
    have HL := Aside0.mk hl
    clear hr ho hg hl
    go_enter Try.func34, Try.ntmps34
    go_wp2_with fail
    refine (of_good A c p _ HR.out hc HO.out HL.out HG.out).mono ?_
    rintro e w1 ⟨rfl, hb⟩
    have HB := Aside0.mk (below_alloc hb (.cells #[.slice A 512 c] 65))
    have HR1 := Aside0.mk (Kd.C_below HR.out HB.out)
    clear hb
    go_wp2_with fail
    refine (count5 A c p _ HR1.out hc HO.out HL.out).mono ?_
    rintro e w2 ⟨rfl, hb⟩
    have HB2 := Aside0.mk (below_step HB.out hb)
    clear hb
    go_wp2
    go_ret2
    exact ⟨rfl, HB2.out⟩
set_option maxHeartbeats 2000000 in
theorem cellF_good (A : Option Addr) (c : Nat) (p : List Int) (i : Nat) (w : World) (hr : Kd.C (Kd.int .u8) w A 512 p) (hc : 512 ≤ c) (ho : octs p) (hl : p.length = 512) (hg : goodP p = true) (hi : i < cnt p) (hi2 : 30 + 4 * i ≤ 512) (hfit : frm p i + szP p i ≤ 512) :
    Calls Try.prog 34 #[.slice A 512 c, .int .i64 i] w fun e w' => ∃ g, e = .returned (.tuple #[.slice (some ⟨g, 0, none⟩) (szP p i) (szP p i), .int .i64 0]) ∧ w.heap.size ≤ g ∧ Blk w' 5 g (cellP p i) ∧ Below w.heap.size w w' := by
  have q1 : decide ((i : Int) < 0) = false := decide_eq_false (by omega)
  have q2 : decide ((cnt p : Int) ≤ (i : Int)) = false := decide_eq_false (by omega)
  have HCl := Aside0.mk (cellP_length hl hfit)
  have HR := Aside0.mk hr
  have HO := Aside0.mk ho
  have HG := Aside0.mk hg
  have HL := Aside0.mk hl
  clear hr ho hg hl
  go_enter Try.func34, Try.ntmps34
  go_wp2_with fail
  refine (of_good A c p _ HR.out hc HO.out HL.out HG.out).mono ?_
  rintro e w1 ⟨rfl, hb⟩
  have HB := Aside0.mk (below_alloc hb (.cells #[.slice A 512 c] 65))
  have HR1 := Aside0.mk (Kd.C_below HR.out HB.out)
  clear hb
  go_wp2_with fail
  refine (count5 A c p _ HR1.out hc HO.out HL.out).mono ?_
  rintro e w2 ⟨rfl, hb⟩
  have hc2 := pw_cell_below hb (a := ⟨w1.heap.size, 0, none⟩) (v := .slice A 512 c) (by simp)
  have HB2 := Aside0.mk (below_step HB.out hb)
  have HR2 := Aside0.mk (Kd.C_below HR.out HB2.out)
  clear hb
  go_wp2_with fail
  refine (cell5 A c p _ HR2.out hc HO.out HL.out i hi2 hfit).mono ?_
  rintro e w3 ⟨A', rfl, hA, hAb, hb⟩
  have HB3 := Aside0.mk (below_step HB2.out hb)
  have HA := Aside0.mk (hA _ (Kd.C_below HR.out HB3.out))
  clear hb hA hAb hc2
  go_wp2_with fail
  have h := clone_calls (some A') (szP p i) (cellP p i) w3 (by rw [HCl.out]; exact HA.out) (by rw [HCl.out]; exact Nat.le_refl _) (by rw [HCl.out]; omega) (fun h => by cases h)
  rw [HCl.out] at h
  refine h.mono ?_
  rintro e w4 ⟨g, rfl, hg1, hbk, hb⟩
  have HBk := Aside0.mk hbk
  have HB4 := Aside0.mk (below_step HB3.out hb)
  have HS := Aside0.mk (Nat.le_trans HB3.out.size hg1)
  clear h hbk hb
  go_wp2
  go_ret2
  exact ⟨g, rfl, HS.out, HBk.out, HB4.out⟩
end Go.Proofs.Ytpogneedafoiaaa.Pg
namespace Go.Proofs.Ytpogneedafoiaaa.Pg
open Go.RowKit Go.Proofs.YtpogneedafoiaaaW.PrintWords Go.Proofs.YtpogneedafoiaaaW.PrintLast Go.Proofs.YtpogneedafoiaaaW.PrintMore Go.Proofs.Ytpogneedafoiaaa.Bw Go.Proofs.Ytpogneedafoiaaa.Crc Go.Proofs.Ytpogneedafoiaaa.Wordy
set_option linter.unusedVariables false
set_option linter.unusedSimpArgs false

/-- a cell's bytes right below low, and its slot -/
def belowP (p : List Int) (i : Nat) (l : List Int) : List Int :=
  over (over (over (over p (lowP p - l.length) l) 16 (leB ((lowP p - l.length : Nat) : Int) 2)) (26 + 4 * i) (leB ((lowP p - l.length : Nat) : Int) 2)) (28 + 4 * i) (leB (l.length : Int) 2)
set_option maxHeartbeats 4000000 in
theorem below_calls (g : Nat) (p : List Int) (i : Nat) (B : Option Addr) (cc : Nat) (l : List Int) (w : World) (hb : Blk w 5 g p) (hl : p.length = 512) (ho : octs p) (hi : 30 + 4 * i ≤ 512) (hr : Kd.C (Kd.int .u8) w B l.length l) (hc : l.length ≤ cc) (hlow : l.length ≤ lowP p) (hlow2 : lowP p ≤ 512) :
    Calls Try.prog 54 #[.agg #[.slice (some ⟨g, 0, none⟩) 512 512], .int .i64 i, .slice B l.length cc] w fun e w' => e = .returned (.tuple #[]) ∧ Blk w' 5 g (belowP p i l) ∧ w.grownBy w' (some g) := by
  have HB := Aside0.mk (hb.below (below_alloc (Below.refl w.heap.size w) (.cells #[.slice (some ⟨g, 0, none⟩) 512 512] 65)))
  have HG := Aside0.mk (grown_below (below_alloc (Below.refl w.heap.size w) (.cells #[.slice (some ⟨g, 0, none⟩) 512 512] 65)) (some g))
  have HR := Aside0.mk (Kd.C_alloc hr (.cells #[.slice (some ⟨g, 0, none⟩) 512 512] 65))
  have HL := Aside0.mk hl
  have HO := Aside0.mk ho
  have hglt := hb.lt
  clear hb hr hl ho
  go_enter Try.func54, Try.ntmps54
  go_wp2_with fail
  refine (low5 (some ⟨g, 0, none⟩) 512 p _ (blk_rb5 HB.out HL.out) (Nat.le_refl _) HO.out HL.out).mono ?_
  rintro e w1 ⟨rfl, hb1⟩
  have hc1 := pw_cell_below hb1 (a := ⟨w.heap.size, 0, none⟩) (v := .slice (some ⟨g, 0, none⟩) 512 512) (by simp)
  have HB1 := Aside0.mk (HB.out.below hb1)
  have HG1 := Aside0.mk (grown_trans HG.out (grown_below hb1 _))
  have HR1 := Aside0.mk (Kd.C_below HR.out hb1)
  clear hb1
  obtain ⟨lo, hlo⟩ : ∃ lo, lowP p = lo + l.length := ⟨lowP p - l.length, by omega⟩
  have hlo3 : lo + l.length ≤ 512 := by omega
  have HLo := Aside0.mk hlo
  rw [hlo]
  clear hlo hlow hlow2
  by_cases h5 : lo = 512
  · have hq5 : (512 = lo) = True := eq_true (by omega)
    have hq6 : Nat.min l.length (512 - lo) = 0 := by rw [h5]; exact Nat.min_zero _
    have hnil : l.length = 0 := by omega
    have H5 := Aside0.mk h5
    have HN := Aside0.mk hnil
    clear h5 hnil
    go_wp2_with ((with_reducible refine gate_builtin (b := .copy) (xs := #[.tmp 15, .tmp 16]) rfl ?_); go_loud (refine wl_copy rfl (.tmp 15) (.tmp 16) 22 22 5 rfl Try.underlying22 size5 g 0 (512 - lo) (512 - lo) l.length cc B p l rfl rfl HB1.out HR1.out (by rw [hq6]; omega) ?_); intro w5 hb5 hg5; have hc5 := cell_grown' hg5 hc1 (by simp; omega))
    have HBo : Aside0 (Blk w5 5 g (over p lo l)) := by
      have hcn : l = [] := List.eq_nil_of_length_eq_zero HN.out
      constructor
      unfold over
      rw [hcn, List.nil_append, List.length_nil, Nat.add_zero, List.take_append_drop]
      rw [hcn] at hb5
      simpa using hb5
    have HG5 := Aside0.mk (grown_trans HG1.out hg5)
    clear hb5 hg5 hq5 hq6 hc1
    refine (put_at g _ 16 2 _ _ _ _ rfl rfl HBo.out (over_len HL.out hlo3) (by decide) (by decide) (by omega) (by decide)).mono ?_
    rintro e w6 ⟨rfl, hb6, hg6⟩
    have hc6 := cell_grown' hg6 hc5 (by simp; omega)
    have HB6 := Aside0.mk hb6
    have HG6 := Aside0.mk (grown_trans HG5.out hg6)
    clear hb6 hg6 hc5
    go_wp2_with fail
    refine (setSlot_calls g _ i lo l.length _ HB6.out (over_len (over_len HL.out hlo3) (by rw [leB_length]; decide)) hi (by omega) (by omega)).mono ?_
    rintro e w7 ⟨rfl, hb7, hg7⟩
    have HB7 := Aside0.mk hb7
    have HG7 := Aside0.mk (grown_trans HG6.out hg7)
    clear hb7 hg7
    go_wp2
    go_end0
    refine ⟨rfl, ?_, HG7.out⟩
    unfold belowP
    rw [show lowP p - l.length = lo by have := HLo.out; omega]
    exact HB7.out
  · have hq5 : ¬ 512 = lo := by omega
    have hq6 : Nat.min l.length (512 - lo) = l.length := Nat.min_eq_left (by omega)
    go_wp2_with ((with_reducible refine gate_builtin (b := .copy) (xs := #[.tmp 15, .tmp 16]) rfl ?_); go_loud (refine wl_copy rfl (.tmp 15) (.tmp 16) 22 22 5 rfl Try.underlying22 size5 g lo (512 - lo) (512 - lo) l.length cc B p l rfl rfl HB1.out HR1.out (by rw [hq6]; have := HL.out; omega) ?_); intro w5 hb5 hg5; have hc5 := cell_grown' hg5 hc1 (by simp; omega))
    have HBo : Aside0 (Blk w5 5 g (over p lo l)) := by
      constructor
      unfold over
      have ht : l.take (512 - lo) = l := List.take_of_length_le (by omega)
      rw [hq6, ht] at hb5
      exact hb5
    clear h5
    have HG5 := Aside0.mk (grown_trans HG1.out hg5)
    clear hb5 hg5 hq5 hq6 hc1
    refine (put_at g _ 16 2 _ _ _ _ rfl rfl HBo.out (over_len HL.out hlo3) (by decide) (by decide) (by omega) (by decide)).mono ?_
    rintro e w6 ⟨rfl, hb6, hg6⟩
    have hc6 := cell_grown' hg6 hc5 (by simp; omega)
    have HB6 := Aside0.mk hb6
    have HG6 := Aside0.mk (grown_trans HG5.out hg6)
    clear hb6 hg6 hc5
    go_wp2_with fail
    refine (setSlot_calls g _ i lo l.length _ HB6.out (over_len (over_len HL.out hlo3) (by rw [leB_length]; decide)) hi (by omega) (by omega)).mono ?_
    rintro e w7 ⟨rfl, hb7, hg7⟩
    have HB7 := Aside0.mk hb7
    have HG7 := Aside0.mk (grown_trans HG6.out hg7)
    clear hb7 hg7
    go_wp2
    go_end0
    refine ⟨rfl, ?_, HG7.out⟩
    unfold belowP
    rw [show lowP p - l.length = lo by have := HLo.out; omega]
    exact HB7.out
end Go.Proofs.Ytpogneedafoiaaa.Pg
namespace Go.Proofs.Ytpogneedafoiaaa.Pg
open Go.RowKit Go.Proofs.YtpogneedafoiaaaW.PrintWords Go.Proofs.Ytpogneedafoiaaa.Bw Go.Proofs.Ytpogneedafoiaaa.Crc Go.Proofs.Ytpogneedafoiaaa.Wordy
set_option linter.unusedVariables false
set_option linter.unusedSimpArgs false

theorem cut_eq (p : List Int) (b s : Nat) (h : b + s ≤ p.length) : (p.drop b).take s = (List.range s).map fun j => p.getD (b + j) 0 := by
  apply List.ext_getElem
  · rw [List.length_take, List.length_drop, List.length_map, List.length_range]; omega
  · intro j h1 h2
    rw [List.length_map, List.length_range] at h2
    simp only [List.getElem_take, List.getElem_drop, List.getElem_map, List.getElem_range]
    rw [List.getD_eq_getElem?_getD, List.getElem?_eq_getElem (show b + j < p.length by omega)]
    rfl
theorem cut_congr {p q : List Int} {b s : Nat} (hp : b + s ≤ p.length) (hq : b + s ≤ q.length) (h : ∀ j, j < s → p.getD (b + j) 0 = q.getD (b + j) 0) : (p.drop b).take s = (q.drop b).take s := by
  rw [cut_eq p b s hp, cut_eq q b s hq]
  exact List.map_congr_left (fun j hj => h j (List.mem_range.mp hj))
theorem over_getD (p : List Int) (a : Nat) (l : List Int) (h : a + l.length ≤ p.length) (j : Nat) :
    (over p a l).getD j 0 = if a ≤ j ∧ j < a + l.length then l.getD (j - a) 0 else p.getD j 0 := by
  unfold over
  have hta : (p.take a).length = a := by rw [List.length_take]; omega
  simp only [List.getD_eq_getElem?_getD]
  by_cases h1 : j < a
  · rw [if_neg (by omega), List.getElem?_append_left (by omega), List.getElem?_take, if_pos h1]
  · rw [List.getElem?_append_right (by omega), hta]
    by_cases h2 : j < a + l.length
    · rw [if_pos ⟨by omega, h2⟩, List.getElem?_append_left (by omega)]
    · rw [if_neg (by omega), List.getElem?_append_right (by omega), List.getElem?_drop, show a + l.length + (j - a - l.length) = j by omega]
theorem cut_over_ne {p : List Int} {a : Nat} {l : List Int} {b s : Nat} (h : a + l.length ≤ p.length) (hb : b + s ≤ p.length) (hne : b + s ≤ a ∨ a + l.length ≤ b) : ((over p a l).drop b).take s = (p.drop b).take s := by
  refine cut_congr (by rw [over_length _ _ _ h]; exact hb) hb (fun j hj => ?_)
  rw [over_getD _ _ _ h, if_neg (by omega)]
theorem cut_over_eq {p : List Int} {a : Nat} {l : List Int} (h : a + l.length ≤ p.length) : ((over p a l).drop a).take l.length = l := by
  unfold over
  have hta : (p.take a).length = a := by rw [List.length_take]; omega
  rw [List.drop_append_of_le_length (by omega), List.drop_eq_nil_of_le (by omega), List.nil_append, List.take_append_of_le_length (Nat.le_refl _), List.take_of_length_le (Nat.le_refl _)]
theorem numAt_over_ne {p : List Int} {a : Nat} {l : List Int} {b s : Nat} (h : a + l.length ≤ p.length) (hb : b + s ≤ p.length) (hne : b + s ≤ a ∨ a + l.length ≤ b) : numAt (over p a l) b s = numAt p b s := by
  unfold numAt
  rw [cut_over_ne h hb hne]
theorem numAt_over_leB {p : List Int} {a s n : Nat} (h : a + s ≤ p.length) (hn : n < 2 ^ (8 * s)) : numAt (over p a (leB (n : Int) s)) a s = n := by
  unfold numAt
  have := cut_over_eq (p := p) (a := a) (l := leB (n : Int) s) (by rw [leB_length]; exact h)
  rw [leB_length] at this
  rw [this, num_leB, Nat.mod_eq_of_lt hn]

/-- counting marks -/
def cntT : List Bool → Nat
  | [] => 0
  | b :: T => (if b then 1 else 0) + cntT T
theorem cntT_set : ∀ (T : List Bool) (k : Nat), k < T.length → T.getD k false = false → cntT (T.set k true) = cntT T + 1 := by
  intro T
  induction T with
  | nil => intro k h; simp at h
  | cons b T ih =>
    intro k h hf
    cases k with
    | zero =>
      have hb : b = false := by simpa using hf
      subst hb
      simp [cntT, Nat.add_comm]
    | succ k =>
      have := ih k (by simpa using h) (by simpa using hf)
      simp only [List.set_cons_succ, cntT, this]
      omega
theorem cntT_replicate (n : Nat) : cntT (List.replicate n false) = 0 := by
  induction n with
  | zero => rfl
  | succ n ih => simp [List.replicate_succ, cntT, ih]
/-- marks from low on alone: at most that many -/
theorem cntT_le : ∀ (T : List Bool) (low : Nat), (∀ j, j < low → T.getD j false = false) → cntT T ≤ T.length - low := by
  intro T
  induction T with
  | nil => intro low _; simp [cntT]
  | cons b T ih =>
    intro low h
    cases low with
    | zero =>
      have := ih 0 (fun j hj => absurd hj (by omega))
      simp only [cntT, List.length_cons]
      cases b <;> simp <;> omega
    | succ low =>
      have hb : b = false := by simpa using h 0 (by omega)
      have := ih low (fun j hj => by simpa using h (j + 1) (by omega))
      simp only [cntT, List.length_cons, hb]
      simp
      omega
theorem markB_facts : ∀ (m : Nat) (T T' : List Bool) (k : Nat), k + m ≤ T.length → markB T k m = some T' → T'.length = T.length ∧ cntT T' = cntT T + m ∧ ∀ j, j < k → T'.getD j false = T.getD j false := by
  intro m
  induction m with
  | zero => intro T T' k _ h; simp only [markB, Option.some.injEq] at h; subst h; exact ⟨rfl, rfl, fun _ _ => rfl⟩
  | succ m ih =>
    intro T T' k hk h
    rw [markB] at h
    cases hv : T.getD k false with
    | true => rw [if_pos hv] at h; cases h
    | false =>
      rw [if_neg (by rw [hv]; decide)] at h
      obtain ⟨h1, h2, h3⟩ := ih (T.set k true) T' (k + 1) (by rw [List.length_set]; omega) h
      refine ⟨by rw [h1, List.length_set], by rw [h2, cntT_set T k (by omega) hv]; omega, fun j hj => ?_⟩
      rw [h3 j (by omega), List.getD_eq_getElem?_getD, List.getElem?_set_ne (by omega), List.getD_eq_getElem?_getD]
theorem chkB_facts (p : List Int) (hlow : lowP p ≤ 512) : ∀ (d i : Nat) (T : List Bool), T.length = 512 → cntT T = sumSz p i → (∀ j, j < lowP p → T.getD j false = false) → (∀ j, j < i → frm p j + szP p j ≤ 512 ∧ lowP p ≤ frm p j) → chkB p T i d = true →
    lowP p + sumSz p (i + d) ≤ 512 ∧ ∀ j, j < i + d → frm p j + szP p j ≤ 512 ∧ lowP p ≤ frm p j := by
  intro d
  induction d with
  | zero =>
    intro i T hT hc hj hi _
    have := cntT_le T (lowP p) hj
    rw [Nat.add_zero]
    exact ⟨by omega, hi⟩
  | succ d ih =>
    intro i T hT hc hj hi h
    rw [chkB] at h
    by_cases h1 : frm p i < lowP p ∨ 512 < frm p i + szP p i
    · rw [if_pos h1] at h; cases h
    · rw [if_neg h1] at h
      cases hm : markB T (frm p i) (szP p i) with
      | none => rw [hm] at h; cases h
      | some T' =>
        rw [hm] at h
        obtain ⟨f1, f2, f3⟩ := markB_facts _ _ _ _ (by omega) hm
        have := ih (i + 1) T' (by omega) (by rw [f2, hc]; rfl) (fun j hj' => by rw [f3 j (by omega)]; exact hj j hj') (fun j hj' => by
          rcases Nat.lt_or_eq_of_le (Nat.le_of_lt_succ hj') with h2 | h2
          · exact hi j h2
          · subst h2; exact ⟨by omega, by omega⟩) h
        rw [show i + (d + 1) = i + 1 + d by omega]
        exact this
theorem replicate_getD (n j : Nat) : (List.replicate n false).getD j false = false := by
  rw [List.getD_eq_getElem?_getD, List.getElem?_replicate]
  split <;> rfl
theorem good_facts {p : List Int} (h : goodP p = true) : p.length = 512 ∧ p.getD 13 0 = 0 ∧ 26 + 4 * cnt p ≤ lowP p ∧ lowP p ≤ 512 ∧ lowP p + sumSz p (cnt p) ≤ 512 ∧ ∀ j, j < cnt p → frm p j + szP p j ≤ 512 ∧ lowP p ≤ frm p j := by
  unfold goodP at h
  by_cases h1 : p.length = 512
  · rw [if_pos h1] at h
    by_cases h2 : p.getD 13 0 = 0
    · rw [if_pos h2] at h
      by_cases h3 : 26 + 4 * cnt p ≤ lowP p ∧ lowP p ≤ 512
      · rw [if_pos h3] at h
        have := chkB_facts p h3.2 (cnt p) 0 _ List.length_replicate (cntT_replicate 512) (fun j _ => replicate_getD 512 j) (fun j hj => absurd hj (by omega)) h
        rw [Nat.zero_add] at this
        exact ⟨h1, h2, h3.1, h3.2, this.1, this.2⟩
      · rw [if_neg h3] at h; cases h
    · rw [if_neg h2] at h; cases h
  · rw [if_neg h1] at h; cases h
theorem fits_of_good {p : List Int} (h : goodP p = true) : Fits p := by
  obtain ⟨h1, h2, h3, h4, h5, h6⟩ := good_facts h
  exact ⟨by omega, fun i hi => (h6 i hi).1⟩
end Go.Proofs.Ytpogneedafoiaaa.Pg
namespace Go.Proofs.Ytpogneedafoiaaa.Pg
open Go.RowKit Go.Proofs.YtpogneedafoiaaaW.PrintWords Go.Proofs.YtpogneedafoiaaaW.PrintLast Go.Proofs.YtpogneedafoiaaaW.PrintMore Go.Proofs.Ytpogneedafoiaaa.Bw Go.Proofs.Ytpogneedafoiaaa.Crc Go.Proofs.Ytpogneedafoiaaa.Wordy
set_option linter.unusedVariables false
set_option linter.unusedSimpArgs false

theorem anK_head {p : List Int} (hl : p.length = 512) (hf : Fits p) {b s : Nat} (hb : b + s ≤ 26) : ∀ k, k ≤ cnt p → numAt (anK p k) b s = numAt p b s := by
  intro k
  induction k with
  | zero => intro _; rfl
  | succ k ih =>
    intro hk
    have h1 := hf.1
    have h2 := hf.2 k (by omega)
    have h3 := sumSz_mono p (show k + 1 ≤ cnt p from hk)
    have h4 : sumSz p (k + 1) = sumSz p k + szP p k := rfl
    have h5 := anK_length hl hf k (by omega)
    have h6 := cellP_length hl h2
    have e1 : (over (anK p k) (512 - sumSz p (k + 1)) (cellP p k)).length = 512 := by rw [over_length _ _ _ (by omega)]; exact h5
    have e2 : (over (over (anK p k) (512 - sumSz p (k + 1)) (cellP p k)) (26 + 4 * k) (leB ((512 - sumSz p (k + 1) : Nat) : Int) 2)).length = 512 := by rw [over_length _ _ _ (by rw [leB_length]; omega)]; exact e1
    rw [anK, numAt_over_ne (by rw [leB_length]; omega) (by omega) (by omega), numAt_over_ne (by rw [leB_length]; omega) (by omega) (by omega), numAt_over_ne (by omega) (by omega) (by omega)]
    exact ih (by omega)
theorem anew_length {p : List Int} (hl : p.length = 512) (hf : Fits p) : (anewP p).length = 512 := by
  have h1 := hf.1
  unfold anewP
  exact over_len (over_len (anK_length hl hf _ (Nat.le_refl _)) (by rw [List.length_replicate]; omega)) (by rw [leB_length]; decide)
theorem anew_octs {p : List Int} (ho : octs p) : octs (anewP p) := by
  have hk : ∀ k, octs (anK p k) := by
    intro k
    induction k with
    | zero => exact ho
    | succ k ih => exact over_octs (over_octs (over_octs ih _ (octs_take (octs_drop ho _) _)) _ (leB_octs _ _)) _ (leB_octs _ _)
  unfold anewP
  refine over_octs (over_octs (hk _) _ ?_) _ (leB_octs _ _)
  intro x hx
  rw [List.eq_of_mem_replicate hx]
  decide
theorem anew_head {p : List Int} (hl : p.length = 512) (hf : Fits p) {b s : Nat} (hb : b + s ≤ 16 ∨ 18 ≤ b ∧ b + s ≤ 26) : numAt (anewP p) b s = numAt p b s := by
  have h1 := hf.1
  have hk := anK_length hl hf _ (Nat.le_refl _)
  unfold anewP
  rw [numAt_over_ne (by rw [leB_length, over_len hk (by rw [List.length_replicate]; omega)]; omega) (by rw [over_len hk (by rw [List.length_replicate]; omega)]; omega) (by rw [leB_length]; omega), numAt_over_ne (by rw [List.length_replicate]; omega) (by omega) (by omega)]
  exact anK_head hl hf (by omega) _ (Nat.le_refl _)
theorem anew_cnt {p : List Int} (hl : p.length = 512) (hf : Fits p) : cnt (anewP p) = cnt p := anew_head hl hf (by omega)
theorem anew_low {p : List Int} (hl : p.length = 512) (hf : Fits p) : lowP (anewP p) = 512 - sumSz p (cnt p) := by
  have h1 := hf.1
  have hk := anK_length hl hf _ (Nat.le_refl _)
  unfold anewP lowP
  exact numAt_over_leB (by rw [over_len hk (by rw [List.length_replicate]; omega)]; decide) (by simp; omega)
theorem rb_cutB {w : World} {g : Nat} {p : List Int} (h : Blk w 5 g p) (hl : p.length = 512) (o m : Nat) (hm : o + m ≤ 512) : Kd.C (Kd.int .u8) w (some ⟨g, o, none⟩) m ((p.drop o).take m) := by
  have h1 := rb_cut (blk_rb5 h hl) o m hm
  rwa [add_plain] at h1
def insQ (p l : List Int) : List Int := if lowP p < 26 + 4 * cnt p + (l.length + 4) then anewP p else p
def ins1 (q : List Int) (i n : Nat) : List Int := over q (26 + 4 * (i + 1)) ((q.drop (26 + 4 * i)).take (4 * (n - i)))
def insertP (p : List Int) (i : Nat) (l : List Int) : List Int := belowP (over (ins1 (insQ p l) i (cnt p)) 14 (leB ((cnt p + 1 : Nat) : Int) 2)) i l
set_option maxHeartbeats 4000000 in
theorem insert_no (A B : Option Addr) (c cc : Nat) (p l : List Int) (i : Int) (w : World) (hr : Kd.C (Kd.int .u8) w A 512 p) (hc : 512 ≤ c) (ho : octs p) (hl : p.length = 512) (hg : goodP p = true) (hi : ¬ (0 ≤ i ∧ i ≤ cnt p)) :
    Calls Try.prog 17 #[.slice A 512 c, .int .i64 i, .slice B l.length cc] w fun e w' => e = .returned (.tuple #[.slice none 0 0, .int .i64 1]) ∧ Below w.heap.size w w' := by
  by_cases h0 : i < 0
  · have q1 : decide (i < 0) = true := decide_eq_true h0
    have HR := Aside0.mk hr
    have HO := Aside0.mk ho
    have HG := Aside0.mk hg
    have HL := Aside0.mk hl
    clear hr ho hg hl
    go_enter Try.func17, Try.ntmps17
    go_wp2_with fail
    refine (copied_good A c p _ HR.out hc HO.out HL.out HG.out).mono ?_
    rintro e w1 ⟨g, rfl, hg1, hbk, hb⟩
    have HBk := Aside0.mk (hbk.below (below_alloc (Below.refl w1.heap.size w1) (.cells #[.slice (some ⟨g, 0, none⟩) 512 512] 65)))
    have HB := Aside0.mk (below_alloc hb (.cells #[.slice (some ⟨g, 0, none⟩) 512 512] 65))
    have hglt := hbk.lt
    clear hbk hb
    go_wp2
    go_ret2
    exact ⟨rfl, HB.out⟩
  · have q1 : decide (i < 0) = false := decide_eq_false h0
    have q2 : decide ((cnt p : Int) < i) = true := decide_eq_true (by omega)
    have HR := Aside0.mk hr
    have HO := Aside0.mk ho
    have HG := Aside0.mk hg
    have HL := Aside0.mk hl
    clear hr ho hg hl
    go_enter Try.func17, Try.ntmps17
    go_wp2_with fail
    refine (copied_good A c p _ HR.out hc HO.out HL.out HG.out).mono ?_
    rintro e w1 ⟨g, rfl, hg1, hbk, hb⟩
    have HBk := Aside0.mk (hbk.below (below_alloc (Below.refl w1.heap.size w1) (.cells #[.slice (some ⟨g, 0, none⟩) 512 512] 65)))
    have HB := Aside0.mk (below_alloc hb (.cells #[.slice (some ⟨g, 0, none⟩) 512 512] 65))
    have hglt := hbk.lt
    clear hbk hb
    go_wp2_with fail
    refine (count5 (some ⟨g, 0, none⟩) 512 p _ (blk_rb5 HBk.out HL.out) (Nat.le_refl _) HO.out HL.out).mono ?_
    rintro e w2 ⟨rfl, hb⟩
    have HB2 := Aside0.mk (below_step HB.out hb)
    clear hb
    go_wp2
    go_ret2
    exact ⟨rfl, HB2.out⟩
set_option maxHeartbeats 4000000 in
theorem insert_full (A B : Option Addr) (c cc : Nat) (p l : List Int) (i : Nat) (w : World) (hr : Kd.C (Kd.int .u8) w A 512 p) (hc : 512 ≤ c) (ho : octs p) (hl : p.length = 512) (hg : goodP p = true) (hi : i ≤ cnt p) (hll : l.length ≤ 140737488351232) (hfull : freeP p < (l.length : Int) + 4) :
    Calls Try.prog 17 #[.slice A 512 c, .int .i64 i, .slice B l.length cc] w fun e w' => e = .returned (.tuple #[.slice none 0 0, .int .i64 7]) ∧ Below w.heap.size w w' := by
  have q3 : decide (freeP p < (l.length : Int) + 4) = true := decide_eq_true hfull
  have q1 : decide ((i : Int) < 0) = false := decide_eq_false (by omega)
  have q2 : decide ((cnt p : Int) < (i : Int)) = false := decide_eq_false (by omega)
  have hn5 : 26 + 4 * cnt p ≤ 512 := by have := (good_facts hg).2.2; omega
  have HR := Aside0.mk hr
  have HO := Aside0.mk ho
  have HG := Aside0.mk hg
  have HL := Aside0.mk hl
  clear hr ho hg hl
  go_enter Try.func17, Try.ntmps17
  go_wp2_with fail
  refine (copied_good A c p _ HR.out hc HO.out HL.out HG.out).mono ?_
  rintro e w1 ⟨g, rfl, hg1, hbk, hb⟩
  have HBk := Aside0.mk (hbk.below (below_alloc (Below.refl w1.heap.size w1) (.cells #[.slice (some ⟨g, 0, none⟩) 512 512] 65)))
  have HB := Aside0.mk (below_alloc hb (.cells #[.slice (some ⟨g, 0, none⟩) 512 512] 65))
  have hglt := hbk.lt
  clear hbk hb
  go_wp2_with fail
  refine (count5 (some ⟨g, 0, none⟩) 512 p _ (blk_rb5 HBk.out HL.out) (Nat.le_refl _) HO.out HL.out).mono ?_
  rintro e w2 ⟨rfl, hb⟩
  have hc2 := pw_cell_below hb (a := ⟨w1.heap.size, 0, none⟩) (v := .slice (some ⟨g, 0, none⟩) 512 512) (by simp)
  have HB2 := Aside0.mk (below_step HB.out hb)
  have HBk2 := Aside0.mk (HBk.out.below hb)
  clear hb
  go_wp2_with fail
  refine (free5 (some ⟨g, 0, none⟩) 512 p _ (blk_rb5 HBk2.out HL.out) (Nat.le_refl _) HO.out HL.out hn5).mono ?_
  rintro e w3 ⟨rfl, hb⟩
  have hc3 := pw_cell_below hb hc2
  have HB3 := Aside0.mk (below_step HB2.out hb)
  have HBk3 := Aside0.mk (HBk2.out.below hb)
  clear hb hc2 HBk HBk2 HB HB2
  go_wp2
  go_ret2
  exact ⟨rfl, HB3.out⟩
set_option maxHeartbeats 4000000 in
theorem insert_good (A B : Option Addr) (c cc : Nat) (p l : List Int) (i : Nat) (w : World) (hr : Kd.C (Kd.int .u8) w A 512 p) (hc : 512 ≤ c) (ho : octs p) (hl : p.length = 512) (hg : goodP p = true) (hr2 : Kd.C (Kd.int .u8) w B l.length l) (hc2 : l.length ≤ cc) (hi : i ≤ cnt p) (hll : l.length ≤ 140737488351232) (hfree : (l.length : Int) + 4 ≤ freeP p) :
    Calls Try.prog 17 #[.slice A 512 c, .int .i64 i, .slice B l.length cc] w fun e w' => ∃ g, e = .returned (.tuple #[.slice (some ⟨g, 0, none⟩) 512 512, .int .i64 0]) ∧ w.heap.size ≤ g ∧ Blk w' 5 g (insertP p i l) ∧ Below w.heap.size w w' := by
  have q3 : decide (freeP p < (l.length : Int) + 4) = false := decide_eq_false (by omega)
  have hcc := hc2
  clear hc2
  have HR2 := Aside0.mk hr2
  clear hr2
  have HF := Aside0.mk (fits_of_good hg)
  obtain ⟨_, _, gf1, gf2, gf3, _⟩ := good_facts hg
  have gfr : 26 + 4 * (cnt p + 1) + l.length + sumSz p (cnt p) ≤ 512 := by unfold freeP at hfree; omega
  have q1 : decide ((i : Int) < 0) = false := decide_eq_false (by omega)
  have q2 : decide ((cnt p : Int) < (i : Int)) = false := decide_eq_false (by omega)
  have hn5 : 26 + 4 * cnt p ≤ 512 := by have := (good_facts hg).2.2; omega
  have HR := Aside0.mk hr
  have HO := Aside0.mk ho
  have HG := Aside0.mk hg
  have HL := Aside0.mk hl
  clear hr ho hg hl
  go_enter Try.func17, Try.ntmps17
  go_wp2_with fail
  refine (copied_good A c p _ HR.out hc HO.out HL.out HG.out).mono ?_
  rintro e w1 ⟨g, rfl, hg1, hbk, hb⟩
  have HBk := Aside0.mk (hbk.below (below_alloc (Below.refl w1.heap.size w1) (.cells #[.slice (some ⟨g, 0, none⟩) 512 512] 65)))
  have HB := Aside0.mk (below_alloc hb (.cells #[.slice (some ⟨g, 0, none⟩) 512 512] 65))
  have hglt := hbk.lt
  clear hbk hb
  go_wp2_with fail
  refine (count5 (some ⟨g, 0, none⟩) 512 p _ (blk_rb5 HBk.out HL.out) (Nat.le_refl _) HO.out HL.out).mono ?_
  rintro e w2 ⟨rfl, hb⟩
  have hc2 := pw_cell_below hb (a := ⟨w1.heap.size, 0, none⟩) (v := .slice (some ⟨g, 0, none⟩) 512 512) (by simp)
  have HB2 := Aside0.mk (below_step HB.out hb)
  have HBk2 := Aside0.mk (HBk.out.below hb)
  clear hb
  go_wp2_with fail
  refine (free5 (some ⟨g, 0, none⟩) 512 p _ (blk_rb5 HBk2.out HL.out) (Nat.le_refl _) HO.out HL.out hn5).mono ?_
  rintro e w3 ⟨rfl, hb⟩
  have hc3 := pw_cell_below hb hc2
  have HB3 := Aside0.mk (below_step HB2.out hb)
  have HBk3 := Aside0.mk (HBk2.out.below hb)
  clear hb hc2 HBk HBk2 HB HB2
  go_wp2_with fail
  refine (room5 (some ⟨g, 0, none⟩) 512 p _ (blk_rb5 HBk3.out HL.out) (Nat.le_refl _) HO.out HL.out).mono ?_
  rintro e w4 ⟨rfl, hb⟩
  have hc4 := pw_cell_below hb hc3
  have HB4 := Aside0.mk (below_step HB3.out hb)
  have HBk4 := Aside0.mk (HBk3.out.below hb)
  clear hb hc3 HB3 HBk3
  have HLq := Aside0.mk (show (insQ p l).length = 512 by unfold insQ; split; exact anew_length HL.out HF.out; exact HL.out)
  have HOq := Aside0.mk (show octs (insQ p l) by unfold insQ; split; exact anew_octs HO.out; exact HO.out)
  have HCq := Aside0.mk (show cnt (insQ p l) = cnt p by unfold insQ; split; exact anew_cnt HL.out HF.out; rfl)
  have HWq := Aside0.mk (show 26 + 4 * cnt p + (l.length + 4) ≤ lowP (insQ p l) ∧ lowP (insQ p l) ≤ 512 by
    unfold insQ
    split
    · rw [anew_low HL.out HF.out]; omega
    · omega)
  by_cases hroom : lowP p < 26 + 4 * cnt p + (l.length + 4)
  · have q4 : decide ((lowP p : Int) - 26 - 4 * (cnt p : Int) < (l.length : Int) + 4) = true := decide_eq_true (by omega)
    have HQ := Aside0.mk (show insQ p l = anewP p by unfold insQ; rw [if_pos hroom])
    clear hroom
    go_wp2_with fail
    refine (anew_calls g p _ HBk4.out HL.out HO.out HF.out).mono ?_
    rintro e w5 ⟨rfl, hb5, hg5⟩
    have hc5 := cell_grown' hg5 hc4 (by simp; omega)
    have HB5 := Aside0.mk (below_of_grown_new HB4.out hg5 hg1)
    have HBq := Aside0.mk (show Blk w5 5 g (insQ p l) by rw [HQ.out]; exact hb5)
    clear hb5 hg5 hc4 HB4 HBk4 HQ
    go_wp2_with fail
    refine (count5 (some ⟨g, 0, none⟩) 512 _ _ (blk_rb5 HBq.out HLq.out) (Nat.le_refl _) HOq.out HLq.out).mono ?_
    rintro e w6 ⟨rfl, hb⟩
    have hc6 := pw_cell_below hb hc5
    have HB6 := Aside0.mk (below_step HB5.out hb)
    have HBk6 := Aside0.mk (HBq.out.below hb)
    clear hb hc5 HB5 HBq
    rw [HCq.out]
    have a1 : IntKind.i64.wrap ((i : Int) + 1) = (i : Int) + 1 := IntWalk.i64_in _ (by omega)
    have a2 : IntKind.i64.wrap (4 * ((i : Int) + 1)) = 4 * ((i : Int) + 1) := IntWalk.i64_in _ (by omega)
    have a3 : IntKind.i64.wrap (26 + 4 * ((i : Int) + 1)) = 26 + 4 * ((i : Int) + 1) := IntWalk.i64_in _ (by omega)
    have a4 : IntKind.i64.wrap ((cnt p : Int) + 1) = (cnt p : Int) + 1 := IntWalk.i64_in _ (by omega)
    have a5 : IntKind.i64.wrap (4 * ((cnt p : Int) + 1)) = 4 * ((cnt p : Int) + 1) := IntWalk.i64_in _ (by omega)
    have a6 : IntKind.i64.wrap (26 + 4 * ((cnt p : Int) + 1)) = 26 + 4 * ((cnt p : Int) + 1) := IntWalk.i64_in _ (by omega)
    have a7 : IntKind.i64.wrap (4 * (i : Int)) = 4 * (i : Int) := IntWalk.i64_in _ (by omega)
    have a8 : IntKind.i64.wrap (26 + 4 * (i : Int)) = 26 + 4 * (i : Int) := IntWalk.i64_in _ (by omega)
    have a9 : IntKind.i64.wrap (4 * (cnt p : Int)) = 4 * (cnt p : Int) := IntWalk.i64_in _ (by omega)
    have a10 : IntKind.i64.wrap (26 + 4 * (cnt p : Int)) = 26 + 4 * (cnt p : Int) := IntWalk.i64_in _ (by omega)
    have c1 : (0 : Int) ≤ 26 + 4 * ((cnt p : Int) + 1) := by omega
    have c2 : 26 + 4 * ((cnt p : Int) + 1) ≤ 512 := by omega
    have c3 : (0 : Int) ≤ 26 + 4 * ((i : Int) + 1) := by omega
    have c4 : 26 + 4 * ((i : Int) + 1) ≤ max (26 + 4 * ((cnt p : Int) + 1)) 0 := by omega
    have c5 : (26 + 4 * ((i : Int) + 1)).toNat = 26 + 4 * (i + 1) := by omega
    have c6 : (26 + 4 * ((cnt p : Int) + 1)).toNat = 26 + 4 * (cnt p + 1) := by omega
    have c7 : ¬ (512 = 26 + 4 * (i + 1)) := by omega
    have d1 : (0 : Int) ≤ 26 + 4 * (cnt p : Int) := by omega
    have d2 : 26 + 4 * (cnt p : Int) ≤ 512 := by omega
    have d3 : (0 : Int) ≤ 26 + 4 * (i : Int) := by omega
    have d4 : 26 + 4 * (i : Int) ≤ max (26 + 4 * (cnt p : Int)) 0 := by omega
    have d5 : (26 + 4 * (i : Int)).toNat = 26 + 4 * i := by omega
    have d6 : (26 + 4 * (cnt p : Int)).toNat = 26 + 4 * cnt p := by omega
    have d7 : ¬ (512 = 26 + 4 * i) := by omega
    go_wp2_with fail
    go_region_law (refine st_copy rfl (.tmp 56) (.tmp 65) 22 22 5 rfl Try.underlying22 size5 g (26 + 4 * (i + 1)) (26 + 4 * (cnt p + 1) - (26 + 4 * (i + 1))) (512 - (26 + 4 * (i + 1))) (26 + 4 * cnt p - (26 + 4 * i)) (512 - (26 + 4 * i)) (some ⟨g, 26 + 4 * i, none⟩) (insQ p l) _ rfl rfl HBk6.out (rb_cutB HBk6.out HLq.out (26 + 4 * i) (26 + 4 * cnt p - (26 + 4 * i)) (by omega)) (by have := HLq.out; have h2 : Nat.min (26 + 4 * cnt p - (26 + 4 * i)) (26 + 4 * (cnt p + 1) - (26 + 4 * (i + 1))) ≤ 26 + 4 * (cnt p + 1) - (26 + 4 * (i + 1)) := Nat.min_le_right _ _; omega) ?_; intro w7 hb7 hg7)
    all_goals (
      have hmin : Nat.min (26 + 4 * cnt p - (26 + 4 * i)) (26 + 4 * (cnt p + 1) - (26 + 4 * (i + 1))) = 4 * (cnt p - i) := by
        rw [show 26 + 4 * cnt p - (26 + 4 * i) = 4 * (cnt p - i) by omega, show 26 + 4 * (cnt p + 1) - (26 + 4 * (i + 1)) = 4 * (cnt p - i) by omega]; exact Nat.min_self _
      have hqlen := HLq.out
      have hct : (((insQ p l).drop (26 + 4 * i)).take (26 + 4 * cnt p - (26 + 4 * i))).take (26 + 4 * (cnt p + 1) - (26 + 4 * (i + 1))) = ((insQ p l).drop (26 + 4 * i)).take (4 * (cnt p - i)) := by
        rw [List.take_take, show min (26 + 4 * (cnt p + 1) - (26 + 4 * (i + 1))) (26 + 4 * cnt p - (26 + 4 * i)) = 4 * (cnt p - i) by omega]
      have hll1 : (((insQ p l).drop (26 + 4 * i)).take (4 * (cnt p - i))).length = 4 * (cnt p - i) := by rw [List.length_take, List.length_drop]; omega
      have HB7 : Aside0 (Blk w7 5 g (ins1 (insQ p l) i (cnt p))) := by
        constructor
        unfold ins1 over
        rw [hll1]
        rw [hmin, hct] at hb7
        exact hb7
      have hc7 := cell_grown' hg7 hc6 (by simp; omega)
      have HG7 : Aside0 (w6.grownBy w7 (some g)) := Aside0.mk (grown_trans (by first | exact grown_below (below_drew (Below.refl w6.heap.size w6)) (some g) | exact grown_below (pw_below_drewN (Below.refl w6.heap.size w6) _) (some g) | exact grown_below (Below.refl w6.heap.size w6) (some g)) hg7)
      have H1L := Aside0.mk (show (ins1 (insQ p l) i (cnt p)).length = 512 by unfold ins1; exact over_len hqlen (by rw [hll1]; omega))
      have HLOW1 := Aside0.mk (show lowP (ins1 (insQ p l) i (cnt p)) = lowP (insQ p l) by unfold lowP ins1; exact numAt_over_ne (by rw [hll1]; omega) (by omega) (by omega))
      have HO1 := Aside0.mk (show octs (ins1 (insQ p l) i (cnt p)) by unfold ins1; exact over_octs HOq.out _ (octs_take (octs_drop HOq.out _) _))
      clear hb7 hg7 hct hc6 hll1 hmin hqlen
      go_wp2_with fail
      refine (put_at g _ 14 2 _ _ _ _ rfl rfl HB7.out H1L.out (by decide) (by decide) (by omega) (by decide)).mono ?_
      rintro e w8 ⟨rfl, hb8, hg8⟩
      have hc8 := cell_grown' hg8 hc7 (by simp; omega)
      have HG8 := Aside0.mk (grown_trans HG7.out hg8)
      have HB8 := Aside0.mk hb8
      have H2L := Aside0.mk (over_len H1L.out (show 14 + (leB ((cnt p : Int) + 1) 2).length ≤ 512 by rw [leB_length]; decide))
      have H2LOW := Aside0.mk (show lowP (over (ins1 (insQ p l) i (cnt p)) 14 (leB ((cnt p : Int) + 1) 2)) = lowP (insQ p l) by
        unfold lowP; rw [numAt_over_ne (by rw [leB_length, H1L.out]; decide) (by rw [H1L.out]; decide) (by rw [leB_length]; decide)]; exact HLOW1.out)
      have H2O := Aside0.mk (over_octs HO1.out 14 (leB_octs ((cnt p : Int) + 1) 2))
      clear hb8 hg8 hc7 HG7 HB7
      go_wp2_with fail
      refine (below_calls g _ i B cc l _ HB8.out H2L.out H2O.out (by omega) (Kd.C_below HR2.out (below_of_grown_new HB6.out HG8.out hg1)) hcc (by rw [H2LOW.out]; have := HWq.out.1; omega) (by rw [H2LOW.out]; exact HWq.out.2)).mono ?_
      rintro e w9 ⟨rfl, hb9, hg9⟩
      have hc9 := cell_grown' hg9 hc8 (by simp; omega)
      have HG9 := Aside0.mk (grown_trans HG8.out hg9)
      have HB9 := Aside0.mk hb9
      clear hb9 hg9 hc8
      go_wp2
      go_ret2
      exact ⟨g, rfl, hg1, HB9.out, below_of_grown_new HB6.out HG9.out hg1⟩)
  · have q4 : decide ((lowP p : Int) - 26 - 4 * (cnt p : Int) < (l.length : Int) + 4) = false := decide_eq_false (by omega)
    have HBq := Aside0.mk (show Blk w4 5 g (insQ p l) by unfold insQ; rw [if_neg hroom]; exact HBk4.out)
    obtain ⟨w5, rfl⟩ : ∃ w5, w4 = w5 := ⟨_, rfl⟩
    have hc5 := hc4
    have HB5 := HB4
    clear hc4 HB4 HBk4 hroom
    go_wp2_with fail
    refine (count5 (some ⟨g, 0, none⟩) 512 _ _ (blk_rb5 HBq.out HLq.out) (Nat.le_refl _) HOq.out HLq.out).mono ?_
    rintro e w6 ⟨rfl, hb⟩
    have hc6 := pw_cell_below hb hc5
    have HB6 := Aside0.mk (below_step HB5.out hb)
    have HBk6 := Aside0.mk (HBq.out.below hb)
    clear hb hc5 HB5 HBq
    rw [HCq.out]
    have a1 : IntKind.i64.wrap ((i : Int) + 1) = (i : Int) + 1 := IntWalk.i64_in _ (by omega)
    have a2 : IntKind.i64.wrap (4 * ((i : Int) + 1)) = 4 * ((i : Int) + 1) := IntWalk.i64_in _ (by omega)
    have a3 : IntKind.i64.wrap (26 + 4 * ((i : Int) + 1)) = 26 + 4 * ((i : Int) + 1) := IntWalk.i64_in _ (by omega)
    have a4 : IntKind.i64.wrap ((cnt p : Int) + 1) = (cnt p : Int) + 1 := IntWalk.i64_in _ (by omega)
    have a5 : IntKind.i64.wrap (4 * ((cnt p : Int) + 1)) = 4 * ((cnt p : Int) + 1) := IntWalk.i64_in _ (by omega)
    have a6 : IntKind.i64.wrap (26 + 4 * ((cnt p : Int) + 1)) = 26 + 4 * ((cnt p : Int) + 1) := IntWalk.i64_in _ (by omega)
    have a7 : IntKind.i64.wrap (4 * (i : Int)) = 4 * (i : Int) := IntWalk.i64_in _ (by omega)
    have a8 : IntKind.i64.wrap (26 + 4 * (i : Int)) = 26 + 4 * (i : Int) := IntWalk.i64_in _ (by omega)
    have a9 : IntKind.i64.wrap (4 * (cnt p : Int)) = 4 * (cnt p : Int) := IntWalk.i64_in _ (by omega)
    have a10 : IntKind.i64.wrap (26 + 4 * (cnt p : Int)) = 26 + 4 * (cnt p : Int) := IntWalk.i64_in _ (by omega)
    have c1 : (0 : Int) ≤ 26 + 4 * ((cnt p : Int) + 1) := by omega
    have c2 : 26 + 4 * ((cnt p : Int) + 1) ≤ 512 := by omega
    have c3 : (0 : Int) ≤ 26 + 4 * ((i : Int) + 1) := by omega
    have c4 : 26 + 4 * ((i : Int) + 1) ≤ max (26 + 4 * ((cnt p : Int) + 1)) 0 := by omega
    have c5 : (26 + 4 * ((i : Int) + 1)).toNat = 26 + 4 * (i + 1) := by omega
    have c6 : (26 + 4 * ((cnt p : Int) + 1)).toNat = 26 + 4 * (cnt p + 1) := by omega
    have c7 : ¬ (512 = 26 + 4 * (i + 1)) := by omega
    have d1 : (0 : Int) ≤ 26 + 4 * (cnt p : Int) := by omega
    have d2 : 26 + 4 * (cnt p : Int) ≤ 512 := by omega
    have d3 : (0 : Int) ≤ 26 + 4 * (i : Int) := by omega
    have d4 : 26 + 4 * (i : Int) ≤ max (26 + 4 * (cnt p : Int)) 0 := by omega
    have d5 : (26 + 4 * (i : Int)).toNat = 26 + 4 * i := by omega
    have d6 : (26 + 4 * (cnt p : Int)).toNat = 26 + 4 * cnt p := by omega
    have d7 : ¬ (512 = 26 + 4 * i) := by omega
    go_wp2_with fail
    go_region_law (refine st_copy rfl (.tmp 56) (.tmp 65) 22 22 5 rfl Try.underlying22 size5 g (26 + 4 * (i + 1)) (26 + 4 * (cnt p + 1) - (26 + 4 * (i + 1))) (512 - (26 + 4 * (i + 1))) (26 + 4 * cnt p - (26 + 4 * i)) (512 - (26 + 4 * i)) (some ⟨g, 26 + 4 * i, none⟩) (insQ p l) _ rfl rfl HBk6.out (rb_cutB HBk6.out HLq.out (26 + 4 * i) (26 + 4 * cnt p - (26 + 4 * i)) (by omega)) (by have := HLq.out; have h2 : Nat.min (26 + 4 * cnt p - (26 + 4 * i)) (26 + 4 * (cnt p + 1) - (26 + 4 * (i + 1))) ≤ 26 + 4 * (cnt p + 1) - (26 + 4 * (i + 1)) := Nat.min_le_right _ _; omega) ?_; intro w7 hb7 hg7)
    all_goals (
      have hmin : Nat.min (26 + 4 * cnt p - (26 + 4 * i)) (26 + 4 * (cnt p + 1) - (26 + 4 * (i + 1))) = 4 * (cnt p - i) := by
        rw [show 26 + 4 * cnt p - (26 + 4 * i) = 4 * (cnt p - i) by omega, show 26 + 4 * (cnt p + 1) - (26 + 4 * (i + 1)) = 4 * (cnt p - i) by omega]; exact Nat.min_self _
      have hqlen := HLq.out
      have hct : (((insQ p l).drop (26 + 4 * i)).take (26 + 4 * cnt p - (26 + 4 * i))).take (26 + 4 * (cnt p + 1) - (26 + 4 * (i + 1))) = ((insQ p l).drop (26 + 4 * i)).take (4 * (cnt p - i)) := by
        rw [List.take_take, show min (26 + 4 * (cnt p + 1) - (26 + 4 * (i + 1))) (26 + 4 * cnt p - (26 + 4 * i)) = 4 * (cnt p - i) by omega]
      have hll1 : (((insQ p l).drop (26 + 4 * i)).take (4 * (cnt p - i))).length = 4 * (cnt p - i) := by rw [List.length_take, List.length_drop]; omega
      have HB7 : Aside0 (Blk w7 5 g (ins1 (insQ p l) i (cnt p))) := by
        constructor
        unfold ins1 over
        rw [hll1]
        rw [hmin, hct] at hb7
        exact hb7
      have hc7 := cell_grown' hg7 hc6 (by simp; omega)
      have HG7 : Aside0 (w6.grownBy w7 (some g)) := Aside0.mk (grown_trans (by first | exact grown_below (below_drew (Below.refl w6.heap.size w6)) (some g) | exact grown_below (pw_below_drewN (Below.refl w6.heap.size w6) _) (some g) | exact grown_below (Below.refl w6.heap.size w6) (some g)) hg7)
      have H1L := Aside0.mk (show (ins1 (insQ p l) i (cnt p)).length = 512 by unfold ins1; exact over_len hqlen (by rw [hll1]; omega))
      have HLOW1 := Aside0.mk (show lowP (ins1 (insQ p l) i (cnt p)) = lowP (insQ p l) by unfold lowP ins1; exact numAt_over_ne (by rw [hll1]; omega) (by omega) (by omega))
      have HO1 := Aside0.mk (show octs (ins1 (insQ p l) i (cnt p)) by unfold ins1; exact over_octs HOq.out _ (octs_take (octs_drop HOq.out _) _))
      clear hb7 hg7 hct hc6 hll1 hmin hqlen
      go_wp2_with fail
      refine (put_at g _ 14 2 _ _ _ _ rfl rfl HB7.out H1L.out (by decide) (by decide) (by omega) (by decide)).mono ?_
      rintro e w8 ⟨rfl, hb8, hg8⟩
      have hc8 := cell_grown' hg8 hc7 (by simp; omega)
      have HG8 := Aside0.mk (grown_trans HG7.out hg8)
      have HB8 := Aside0.mk hb8
      have H2L := Aside0.mk (over_len H1L.out (show 14 + (leB ((cnt p : Int) + 1) 2).length ≤ 512 by rw [leB_length]; decide))
      have H2LOW := Aside0.mk (show lowP (over (ins1 (insQ p l) i (cnt p)) 14 (leB ((cnt p : Int) + 1) 2)) = lowP (insQ p l) by
        unfold lowP; rw [numAt_over_ne (by rw [leB_length, H1L.out]; decide) (by rw [H1L.out]; decide) (by rw [leB_length]; decide)]; exact HLOW1.out)
      have H2O := Aside0.mk (over_octs HO1.out 14 (leB_octs ((cnt p : Int) + 1) 2))
      clear hb8 hg8 hc7 HG7 HB7
      go_wp2_with fail
      refine (below_calls g _ i B cc l _ HB8.out H2L.out H2O.out (by omega) (Kd.C_below HR2.out (below_of_grown_new HB6.out HG8.out hg1)) hcc (by rw [H2LOW.out]; have := HWq.out.1; omega) (by rw [H2LOW.out]; exact HWq.out.2)).mono ?_
      rintro e w9 ⟨rfl, hb9, hg9⟩
      have hc9 := cell_grown' hg9 hc8 (by simp; omega)
      have HG9 := Aside0.mk (grown_trans HG8.out hg9)
      have HB9 := Aside0.mk hb9
      clear hb9 hg9 hc8
      go_wp2
      go_ret2
      exact ⟨g, rfl, hg1, HB9.out, below_of_grown_new HB6.out HG9.out hg1⟩)
end Go.Proofs.Ytpogneedafoiaaa.Pg
namespace Go.Proofs.Ytpogneedafoiaaa.Pg
open Go.RowKit Go.Proofs.YtpogneedafoiaaaW.PrintWords Go.Proofs.YtpogneedafoiaaaW.PrintLast Go.Proofs.YtpogneedafoiaaaW.PrintMore Go.Proofs.Ytpogneedafoiaaa.Bw Go.Proofs.Ytpogneedafoiaaa.Crc Go.Proofs.Ytpogneedafoiaaa.Wordy
set_option linter.unusedVariables false
set_option linter.unusedSimpArgs false

def rm1 (p : List Int) (i n : Nat) : List Int := over p (26 + 4 * i) ((p.drop (26 + 4 * (i + 1))).take (4 * (n - 1 - i)))
def rm2 (p : List Int) (i n : Nat) : List Int := over (rm1 p i n) (26 + 4 * (n - 1)) (List.replicate 4 0)
def rm3 (p : List Int) (i n : Nat) : List Int := over (rm2 p i n) 14 (leB ((n : Int) - 1) 2)
def removeP (p : List Int) (i : Nat) : List Int := if cnt p = 1 then over (rm3 p i (cnt p)) 16 (leB 512 2) else rm3 p i (cnt p)
set_option maxHeartbeats 4000000 in
theorem remove_no (A : Option Addr) (c : Nat) (p : List Int) (i : Int) (w : World) (hr : Kd.C (Kd.int .u8) w A 512 p) (hc : 512 ≤ c) (ho : octs p) (hl : p.length = 512) (hg : goodP p = true) (hi : ¬ (0 ≤ i ∧ i < cnt p)) :
    Calls Try.prog 19 #[.slice A 512 c, .int .i64 i] w fun e w' => e = .returned (.tuple #[.slice none 0 0, .int .i64 1]) ∧ Below w.heap.size w w' := by
  by_cases h0 : i < 0
  · have q1 : decide (i < 0) = true := decide_eq_true h0
    have HR := Aside0.mk hr
    have HO := Aside0.mk ho
    have HG := Aside0.mk hg
    have HL := Aside0.mk hl
    clear hr ho hg hl
    go_enter Try.func19, Try.ntmps19
    go_wp2_with fail
    refine (copied_good A c p _ HR.out hc HO.out HL.out HG.out).mono ?_
    rintro e w1 ⟨g, rfl, hg1, hbk, hb⟩
    have HBk := Aside0.mk (hbk.below (below_alloc (Below.refl w1.heap.size w1) (.cells #[.slice (some ⟨g, 0, none⟩) 512 512] 65)))
    have HB := Aside0.mk (below_alloc hb (.cells #[.slice (some ⟨g, 0, none⟩) 512 512] 65))
    have hglt := hbk.lt
    clear hbk hb
    go_wp2
    go_ret2
    exact ⟨rfl, HB.out⟩
  · have q1 : decide (i < 0) = false := decide_eq_false h0
    have q2 : decide ((cnt p : Int) ≤ i) = true := decide_eq_true (by omega)
    have HR := Aside0.mk hr
    have HO := Aside0.mk ho
    have HG := Aside0.mk hg
    have HL := Aside0.mk hl
    clear hr ho hg hl
    go_enter Try.func19, Try.ntmps19
    go_wp2_with fail
    refine (copied_good A c p _ HR.out hc HO.out HL.out HG.out).mono ?_
    rintro e w1 ⟨g, rfl, hg1, hbk, hb⟩
    have HBk := Aside0.mk (hbk.below (below_alloc (Below.refl w1.heap.size w1) (.cells #[.slice (some ⟨g, 0, none⟩) 512 512] 65)))
    have HB := Aside0.mk (below_alloc hb (.cells #[.slice (some ⟨g, 0, none⟩) 512 512] 65))
    have hglt := hbk.lt
    clear hbk hb
    go_wp2_with fail
    refine (count5 (some ⟨g, 0, none⟩) 512 p _ (blk_rb5 HBk.out HL.out) (Nat.le_refl _) HO.out HL.out).mono ?_
    rintro e w2 ⟨rfl, hb⟩
    have HB2 := Aside0.mk (below_step HB.out hb)
    clear hb
    go_wp2
    go_ret2
    exact ⟨rfl, HB2.out⟩
set_option maxHeartbeats 4000000 in
theorem remove_good (A : Option Addr) (c : Nat) (p : List Int) (i : Nat) (w : World) (hr : Kd.C (Kd.int .u8) w A 512 p) (hc : 512 ≤ c) (ho : octs p) (hl : p.length = 512) (hg : goodP p = true) (hi : i < cnt p) :
    Calls Try.prog 19 #[.slice A 512 c, .int .i64 i] w fun e w' => ∃ g, e = .returned (.tuple #[.slice (some ⟨g, 0, none⟩) 512 512, .int .i64 0]) ∧ w.heap.size ≤ g ∧ Blk w' 5 g (removeP p i) ∧ Below w.heap.size w w' := by
  have q1 : decide ((i : Int) < 0) = false := decide_eq_false (by omega)
  have q2 : decide ((cnt p : Int) ≤ (i : Int)) = false := decide_eq_false (by omega)
  have hn5 : 26 + 4 * cnt p ≤ 512 := by have := (good_facts hg).2.2; omega
  have HR := Aside0.mk hr
  have HO := Aside0.mk ho
  have HG := Aside0.mk hg
  have HL := Aside0.mk hl
  clear hr ho hg hl
  go_enter Try.func19, Try.ntmps19
  go_wp2_with fail
  refine (copied_good A c p _ HR.out hc HO.out HL.out HG.out).mono ?_
  rintro e w1 ⟨g, rfl, hg1, hbk, hb⟩
  have HBk := Aside0.mk (hbk.below (below_alloc (Below.refl w1.heap.size w1) (.cells #[.slice (some ⟨g, 0, none⟩) 512 512] 65)))
  have HB := Aside0.mk (below_alloc hb (.cells #[.slice (some ⟨g, 0, none⟩) 512 512] 65))
  have hglt := hbk.lt
  clear hbk hb
  go_wp2_with fail
  refine (count5 (some ⟨g, 0, none⟩) 512 p _ (blk_rb5 HBk.out HL.out) (Nat.le_refl _) HO.out HL.out).mono ?_
  rintro e w2 ⟨rfl, hb⟩
  have hc2 := pw_cell_below hb (a := ⟨w1.heap.size, 0, none⟩) (v := .slice (some ⟨g, 0, none⟩) 512 512) (by simp)
  have HB2 := Aside0.mk (below_step HB.out hb)
  have HBk2 := Aside0.mk (HBk.out.below hb)
  clear hb
  go_wp2_with fail
  refine (count5 (some ⟨g, 0, none⟩) 512 p _ (blk_rb5 HBk2.out HL.out) (Nat.le_refl _) HO.out HL.out).mono ?_
  rintro e w3 ⟨rfl, hb⟩
  have hc3 := pw_cell_below hb hc2
  have HB3 := Aside0.mk (below_step HB2.out hb)
  have HBk3 := Aside0.mk (HBk2.out.below hb)
  clear hb hc2 HBk HBk2 HB HB2
  have a1 : IntKind.i64.wrap ((i : Int) + 1) = (i : Int) + 1 := IntWalk.i64_in _ (by omega)
  have a2 : IntKind.i64.wrap (4 * ((i : Int) + 1)) = 4 * ((i : Int) + 1) := IntWalk.i64_in _ (by omega)
  have a3 : IntKind.i64.wrap (26 + 4 * ((i : Int) + 1)) = 26 + 4 * ((i : Int) + 1) := IntWalk.i64_in _ (by omega)
  have a4 : IntKind.i64.wrap ((cnt p : Int) - 1) = (cnt p : Int) - 1 := IntWalk.i64_in _ (by omega)
  have a5 : IntKind.i64.wrap (4 * ((cnt p : Int) - 1)) = 4 * ((cnt p : Int) - 1) := IntWalk.i64_in _ (by omega)
  have a6 : IntKind.i64.wrap (26 + 4 * ((cnt p : Int) - 1)) = 26 + 4 * ((cnt p : Int) - 1) := IntWalk.i64_in _ (by omega)
  have a7 : IntKind.i64.wrap (4 * (i : Int)) = 4 * (i : Int) := IntWalk.i64_in _ (by omega)
  have a8 : IntKind.i64.wrap (26 + 4 * (i : Int)) = 26 + 4 * (i : Int) := IntWalk.i64_in _ (by omega)
  have a9 : IntKind.i64.wrap (4 * (cnt p : Int)) = 4 * (cnt p : Int) := IntWalk.i64_in _ (by omega)
  have a10 : IntKind.i64.wrap (26 + 4 * (cnt p : Int)) = 26 + 4 * (cnt p : Int) := IntWalk.i64_in _ (by omega)
  have c1 : (0 : Int) ≤ 26 + 4 * ((cnt p : Int) - 1) := by omega
  have c2 : 26 + 4 * ((cnt p : Int) - 1) ≤ 512 := by omega
  have c3 : (0 : Int) ≤ 26 + 4 * ((i : Int) + 1) := by omega
  have c4 : 26 + 4 * ((i : Int) + 1) ≤ max (26 + 4 * (cnt p : Int)) 0 := by omega
  have c5 : (26 + 4 * ((i : Int) + 1)).toNat = 26 + 4 * (i + 1) := by omega
  have c6 : (26 + 4 * ((cnt p : Int) - 1)).toNat = 26 + 4 * (cnt p - 1) := by omega
  have c7 : ¬ (512 = 26 + 4 * (i + 1)) := by omega
  have d1 : (0 : Int) ≤ 26 + 4 * (cnt p : Int) := by omega
  have d2 : 26 + 4 * (cnt p : Int) ≤ 512 := by omega
  have d3 : (0 : Int) ≤ 26 + 4 * (i : Int) := by omega
  have d4 : 26 + 4 * (i : Int) ≤ max (26 + 4 * ((cnt p : Int) - 1)) 0 := by omega
  have d5 : (26 + 4 * (i : Int)).toNat = 26 + 4 * i := by omega
  have d6 : (26 + 4 * (cnt p : Int)).toNat = 26 + 4 * cnt p := by omega
  have d7 : ¬ (512 = 26 + 4 * i) := by omega
  have d8 : ¬ (512 = 26 + 4 * (cnt p - 1)) := by omega
  have d9 : 26 + 4 * ((cnt p : Int) - 1) ≤ max (26 + 4 * (cnt p : Int)) 0 := by omega
  go_wp2_with fail
  have e1 : i ≤ cnt p - 1 := by omega
  have e2 : i + 1 ≤ cnt p := by omega
  have e3 : cnt p - 1 ≤ cnt p := by omega
  have e4 : (i : Int) + 1 ≤ (cnt p : Int) := by omega
  have e5 : (cnt p : Int) - 1 ≤ (cnt p : Int) := by omega
  go_region_law (refine st_copy rfl (.tmp 38) (.tmp 48) 22 22 5 rfl Try.underlying22 size5 g (26 + 4 * i) (26 + 4 * (cnt p - 1) - (26 + 4 * i)) (512 - (26 + 4 * i)) (26 + 4 * cnt p - (26 + 4 * (i + 1))) (512 - (26 + 4 * (i + 1))) (some ⟨g, 26 + 4 * (i + 1), none⟩) p _ rfl rfl HBk3.out (rb_cutB HBk3.out HL.out (26 + 4 * (i + 1)) (26 + 4 * cnt p - (26 + 4 * (i + 1))) (by omega)) (by have := HL.out; have h2 : Nat.min (26 + 4 * cnt p - (26 + 4 * (i + 1))) (26 + 4 * (cnt p - 1) - (26 + 4 * i)) ≤ 26 + 4 * (cnt p - 1) - (26 + 4 * i) := Nat.min_le_right _ _; omega) ?_; intro w7 hb7 hg7)
  all_goals (
    have hmin : Nat.min (26 + 4 * cnt p - (26 + 4 * (i + 1))) (26 + 4 * (cnt p - 1) - (26 + 4 * i)) = 4 * (cnt p - 1 - i) := by
      rw [show 26 + 4 * cnt p - (26 + 4 * (i + 1)) = 4 * (cnt p - 1 - i) by omega, show 26 + 4 * (cnt p - 1) - (26 + 4 * i) = 4 * (cnt p - 1 - i) by omega]; exact Nat.min_self _
    have hqlen := HL.out
    have hct : ((p.drop (26 + 4 * (i + 1))).take (26 + 4 * cnt p - (26 + 4 * (i + 1)))).take (26 + 4 * (cnt p - 1) - (26 + 4 * i)) = (p.drop (26 + 4 * (i + 1))).take (4 * (cnt p - 1 - i)) := by
      rw [List.take_take, show min (26 + 4 * (cnt p - 1) - (26 + 4 * i)) (26 + 4 * cnt p - (26 + 4 * (i + 1))) = 4 * (cnt p - 1 - i) by omega]
    have hll1 : ((p.drop (26 + 4 * (i + 1))).take (4 * (cnt p - 1 - i))).length = 4 * (cnt p - 1 - i) := by rw [List.length_take, List.length_drop]; omega
    have HB7 : Aside0 (Blk w7 5 g (rm1 p i (cnt p))) := by
      constructor
      unfold rm1 over
      rw [hll1]
      rw [hmin, hct] at hb7
      exact hb7
    have hc7 := cell_grown' hg7 hc3 (by simp; omega)
    have HG7 : Aside0 (w3.grownBy w7 (some g)) := Aside0.mk (grown_trans (by first | exact grown_below (below_drew (Below.refl w3.heap.size w3)) (some g) | exact grown_below (pw_below_drewN (Below.refl w3.heap.size w3) _) (some g) | exact grown_below (Below.refl w3.heap.size w3) (some g)) hg7)
    have H1L := Aside0.mk (show (rm1 p i (cnt p)).length = 512 by unfold rm1; exact over_len hqlen (by rw [hll1]; omega))
    clear hb7 hg7 hct hc3 hll1 hmin hqlen
    have a11 : IntKind.u64.wrap ((cnt p : Int) - 1) = (cnt p : Int) - 1 := by rw [IntKind.wrap_u64]; omega
    go_wp2_with ((with_reducible refine gate_builtin (b := .clear) (xs := #[.tmp 59]) rfl ?_); go_loud (refine wl_clear rfl (.tmp 59) 22 5 rfl Try.underlying22 zero5 g (26 + 4 * (cnt p - 1)) (26 + 4 * cnt p - (26 + 4 * (cnt p - 1))) (512 - (26 + 4 * (cnt p - 1))) (rm1 p i (cnt p)) rfl HB7.out (by have := H1L.out; omega) ?_); intro w8 hb8 hg8; have hc8 := cell_grown' hg8 hc7 (by simp; omega))
    have HB8 : Aside0 (Blk w8 5 g (rm2 p i (cnt p))) := by
      constructor
      unfold rm2 over
      rw [List.length_replicate]
      rw [show 26 + 4 * cnt p - (26 + 4 * (cnt p - 1)) = 4 by omega] at hb8
      exact hb8
    have HG8 := Aside0.mk (grown_trans HG7.out hg8)
    have H2L := Aside0.mk (show (rm2 p i (cnt p)).length = 512 by unfold rm2; exact over_len H1L.out (by rw [List.length_replicate]; omega))
    clear hb8 hg8 hc7 HG7 HB7
    refine (put_at g _ 14 2 _ _ _ _ rfl rfl HB8.out H2L.out (by decide) (by decide) (by omega) (by decide)).mono ?_
    rintro e w9 ⟨rfl, hb9, hg9⟩
    have hc9 := cell_grown' hg9 hc8 (by simp; omega)
    have HG9 := Aside0.mk (grown_trans HG8.out hg9)
    have HB9 := Aside0.mk (show Blk w9 5 g (rm3 p i (cnt p)) from hb9)
    have H3L := Aside0.mk (show (rm3 p i (cnt p)).length = 512 by unfold rm3; exact over_len H2L.out (by rw [leB_length]; decide))
    clear hb9 hg9 hc8 HG8 HB8
    by_cases h1 : cnt p = 1
    · have t1 : ((cnt p : Int) == 1) = true := by rw [h1]; rfl
      have t2 : decide ((cnt p : Int) = 1) = true := decide_eq_true (by omega)
      have H1 := Aside0.mk h1
      clear h1
      go_wp2_with fail
      refine (put_at g _ 16 2 _ _ _ _ rfl rfl HB9.out H3L.out (by decide) (by decide) (by decide) (by decide)).mono ?_
      rintro e w10 ⟨rfl, hb10, hg10⟩
      have hc10 := cell_grown' hg10 hc9 (by simp; omega)
      have HG10 := Aside0.mk (grown_trans HG9.out hg10)
      have HB10 := Aside0.mk (show Blk w10 5 g (removeP p i) by unfold removeP; rw [if_pos H1.out]; exact hb10)
      clear hb10 hg10 hc9
      go_wp2
      go_ret2
      exact ⟨g, rfl, hg1, HB10.out, below_of_grown_new HB3.out HG10.out hg1⟩
    · have t1 : ((cnt p : Int) == 1) = false := by rw [beq_eq_false_iff_ne]; omega
      have t2 : decide ((cnt p : Int) = 1) = false := decide_eq_false (by omega)
      have HB10 := Aside0.mk (show Blk w9 5 g (removeP p i) by unfold removeP; rw [if_neg h1]; exact HB9.out)
      go_wp2
      go_ret2
      exact ⟨g, rfl, hg1, HB10.out, below_of_grown_new HB3.out HG9.out hg1⟩)
end Go.Proofs.Ytpogneedafoiaaa.Pg
namespace Go.Proofs.Ytpogneedafoiaaa.Pg
open Go.RowKit Go.Proofs.YtpogneedafoiaaaW.PrintWords Go.Proofs.YtpogneedafoiaaaW.PrintLast Go.Proofs.YtpogneedafoiaaaW.PrintMore Go.Proofs.Ytpogneedafoiaaa.Bw Go.Proofs.Ytpogneedafoiaaa.Crc Go.Proofs.Ytpogneedafoiaaa.Wordy
set_option linter.unusedVariables false
set_option linter.unusedSimpArgs false

def rpS (p : List Int) (i : Nat) (l : List Int) : List Int := over (over (over p (frm p i) l) (26 + 4 * i) (leB (frm p i) 2)) (28 + 4 * i) (leB (l.length : Int) 2)
def rp1 (p : List Int) (i : Nat) : List Int := over (over p (26 + 4 * i) (leB (lowP p) 2)) (28 + 4 * i) (leB ((0 : Nat) : Int) 2)
def rp2 (p : List Int) (i : Nat) (l : List Int) : List Int := if lowP p < 26 + 4 * cnt p + l.length then anewP (rp1 p i) else rp1 p i
def replaceP (p : List Int) (i : Nat) (l : List Int) : List Int := if l.length ≤ szP p i then rpS p i l else belowP (rp2 p i l) i l
set_option maxHeartbeats 4000000 in
theorem replace_no (A B : Option Addr) (c cc n : Nat) (p : List Int) (i : Int) (w : World) (hr : Kd.C (Kd.int .u8) w A 512 p) (hc : 512 ≤ c) (ho : octs p) (hl : p.length = 512) (hg : goodP p = true) (hi : ¬ (0 ≤ i ∧ i < cnt p)) :
    Calls Try.prog 20 #[.slice A 512 c, .int .i64 i, .slice B n cc] w fun e w' => e = .returned (.tuple #[.slice none 0 0, .int .i64 1]) ∧ Below w.heap.size w w' := by
  by_cases h0 : i < 0
  · have q1 : decide (i < 0) = true := decide_eq_true h0
    have HR := Aside0.mk hr
    have HO := Aside0.mk ho
    have HG := Aside0.mk hg
    have HL := Aside0.mk hl
    clear hr ho hg hl
    go_enter Try.func20, Try.ntmps20
    go_wp2_with fail
    refine (copied_good A c p _ HR.out hc HO.out HL.out HG.out).mono ?_
    rintro e w1 ⟨g, rfl, hg1, hbk, hb⟩
    have HBk := Aside0.mk (hbk.below (below_alloc (Below.refl w1.heap.size w1) (.cells #[.slice (some ⟨g, 0, none⟩) 512 512] 65)))
    have HB := Aside0.mk (below_alloc hb (.cells #[.slice (some ⟨g, 0, none⟩) 512 512] 65))
    have hglt := hbk.lt
    clear hbk hb
    go_wp2
    go_ret2
    exact ⟨rfl, HB.out⟩
  · have q1 : decide (i < 0) = false := decide_eq_false h0
    have q2 : decide ((cnt p : Int) ≤ i) = true := decide_eq_true (by omega)
    have HR := Aside0.mk hr
    have HO := Aside0.mk ho
    have HG := Aside0.mk hg
    have HL := Aside0.mk hl
    clear hr ho hg hl
    go_enter Try.func20, Try.ntmps20
    go_wp2_with fail
    refine (copied_good A c p _ HR.out hc HO.out HL.out HG.out).mono ?_
    rintro e w1 ⟨g, rfl, hg1, hbk, hb⟩
    have HBk := Aside0.mk (hbk.below (below_alloc (Below.refl w1.heap.size w1) (.cells #[.slice (some ⟨g, 0, none⟩) 512 512] 65)))
    have HB := Aside0.mk (below_alloc hb (.cells #[.slice (some ⟨g, 0, none⟩) 512 512] 65))
    have hglt := hbk.lt
    clear hbk hb
    go_wp2_with fail
    refine (count5 (some ⟨g, 0, none⟩) 512 p _ (blk_rb5 HBk.out HL.out) (Nat.le_refl _) HO.out HL.out).mono ?_
    rintro e w2 ⟨rfl, hb⟩
    have HB2 := Aside0.mk (below_step HB.out hb)
    clear hb
    go_wp2
    go_ret2
    exact ⟨rfl, HB2.out⟩
set_option maxHeartbeats 4000000 in
theorem replace_full (A B : Option Addr) (c cc : Nat) (p l : List Int) (i : Nat) (w : World) (hr : Kd.C (Kd.int .u8) w A 512 p) (hc : 512 ≤ c) (ho : octs p) (hl : p.length = 512) (hg : goodP p = true) (hi : i < cnt p) (hll : l.length ≤ 140737488351232) (hsz : szP p i < l.length) (hfull : freeP p < (l.length : Int) - szP p i) :
    Calls Try.prog 20 #[.slice A 512 c, .int .i64 i, .slice B l.length cc] w fun e w' => e = .returned (.tuple #[.slice none 0 0, .int .i64 7]) ∧ Below w.heap.size w w' := by
  have q3 : decide (freeP p < (l.length : Int) - (szP p i : Int)) = true := decide_eq_true hfull
  have q4 : decide ((l.length : Int) ≤ (szP p i : Int)) = false := decide_eq_false (by omega)
  have q1 : decide ((i : Int) < 0) = false := decide_eq_false (by omega)
  have q2 : decide ((cnt p : Int) ≤ (i : Int)) = false := decide_eq_false (by omega)
  obtain ⟨_, _, gf1, gf2, gf3, gf4⟩ := good_facts hg
  have hfit := (gf4 i hi).1
  have hfit2 := (gf4 i hi).2
  clear gf4
  have HR := Aside0.mk hr
  have HO := Aside0.mk ho
  have HG := Aside0.mk hg
  have HL := Aside0.mk hl
  clear hr ho hg hl
  go_enter Try.func20, Try.ntmps20
  go_wp2_with fail
  refine (copied_good A c p _ HR.out hc HO.out HL.out HG.out).mono ?_
  rintro e w1 ⟨g, rfl, hg1, hbk, hb⟩
  have HBk := Aside0.mk (hbk.below (below_alloc (Below.refl w1.heap.size w1) (.cells #[.slice (some ⟨g, 0, none⟩) 512 512] 65)))
  have HB := Aside0.mk (below_alloc hb (.cells #[.slice (some ⟨g, 0, none⟩) 512 512] 65))
  have hglt := hbk.lt
  clear hbk hb
  go_wp2_with fail
  refine (count5 (some ⟨g, 0, none⟩) 512 p _ (blk_rb5 HBk.out HL.out) (Nat.le_refl _) HO.out HL.out).mono ?_
  rintro e w2 ⟨rfl, hb⟩
  have hc2 := pw_cell_below hb (a := ⟨w1.heap.size, 0, none⟩) (v := .slice (some ⟨g, 0, none⟩) 512 512) (by simp)
  have HB2 := Aside0.mk (below_step HB.out hb)
  have HBk2 := Aside0.mk (HBk.out.below hb)
  clear hb
  go_wp2_with fail
  refine (slot5 (some ⟨g, 0, none⟩) 512 p _ (blk_rb5 HBk2.out HL.out) (Nat.le_refl _) HO.out HL.out i (by omega)).mono ?_
  rintro e w3 ⟨rfl, hb⟩
  have hc3 := pw_cell_below hb hc2
  have HB3 := Aside0.mk (below_step HB2.out hb)
  have HBk3 := Aside0.mk (HBk2.out.below hb)
  clear hb hc2 HBk HBk2 HB HB2
  go_wp2_with fail
  refine (free5 (some ⟨g, 0, none⟩) 512 p _ (blk_rb5 HBk3.out HL.out) (Nat.le_refl _) HO.out HL.out (by omega)).mono ?_
  rintro e w4 ⟨rfl, hb⟩
  have HB4 := Aside0.mk (below_step HB3.out hb)
  clear hb
  go_wp2
  go_ret2
  exact ⟨rfl, HB4.out⟩
set_option maxHeartbeats 4000000 in
theorem replace_small (A B : Option Addr) (c cc : Nat) (p l : List Int) (i : Nat) (w : World) (hr : Kd.C (Kd.int .u8) w A 512 p) (hc : 512 ≤ c) (ho : octs p) (hl : p.length = 512) (hg : goodP p = true) (hr2 : Kd.C (Kd.int .u8) w B l.length l) (hc2 : l.length ≤ cc) (hi : i < cnt p) (hsz : l.length ≤ szP p i) :
    Calls Try.prog 20 #[.slice A 512 c, .int .i64 i, .slice B l.length cc] w fun e w' => ∃ g, e = .returned (.tuple #[.slice (some ⟨g, 0, none⟩) 512 512, .int .i64 0]) ∧ w.heap.size ≤ g ∧ Blk w' 5 g (replaceP p i l) ∧ Below w.heap.size w w' := by
  have hcc := hc2
  clear hc2
  have HR2 := Aside0.mk hr2
  clear hr2
  have q4 : decide ((l.length : Int) ≤ (szP p i : Int)) = true := decide_eq_true (by omega)
  have q1 : decide ((i : Int) < 0) = false := decide_eq_false (by omega)
  have q2 : decide ((cnt p : Int) ≤ (i : Int)) = false := decide_eq_false (by omega)
  obtain ⟨_, _, gf1, gf2, gf3, gf4⟩ := good_facts hg
  have hfit := (gf4 i hi).1
  have hfit2 := (gf4 i hi).2
  clear gf4
  have HR := Aside0.mk hr
  have HO := Aside0.mk ho
  have HG := Aside0.mk hg
  have HL := Aside0.mk hl
  clear hr ho hg hl
  go_enter Try.func20, Try.ntmps20
  go_wp2_with fail
  refine (copied_good A c p _ HR.out hc HO.out HL.out HG.out).mono ?_
  rintro e w1 ⟨g, rfl, hg1, hbk, hb⟩
  have HBk := Aside0.mk (hbk.below (below_alloc (Below.refl w1.heap.size w1) (.cells #[.slice (some ⟨g, 0, none⟩) 512 512] 65)))
  have HB := Aside0.mk (below_alloc hb (.cells #[.slice (some ⟨g, 0, none⟩) 512 512] 65))
  have hglt := hbk.lt
  clear hbk hb
  go_wp2_with fail
  refine (count5 (some ⟨g, 0, none⟩) 512 p _ (blk_rb5 HBk.out HL.out) (Nat.le_refl _) HO.out HL.out).mono ?_
  rintro e w2 ⟨rfl, hb⟩
  have hc2 := pw_cell_below hb (a := ⟨w1.heap.size, 0, none⟩) (v := .slice (some ⟨g, 0, none⟩) 512 512) (by simp)
  have HB2 := Aside0.mk (below_step HB.out hb)
  have HBk2 := Aside0.mk (HBk.out.below hb)
  clear hb
  go_wp2_with fail
  refine (slot5 (some ⟨g, 0, none⟩) 512 p _ (blk_rb5 HBk2.out HL.out) (Nat.le_refl _) HO.out HL.out i (by omega)).mono ?_
  rintro e w3 ⟨rfl, hb⟩
  have hc3 := pw_cell_below hb hc2
  have HB3 := Aside0.mk (below_step HB2.out hb)
  have HBk3 := Aside0.mk (HBk2.out.below hb)
  clear hb hc2 HBk HBk2 HB HB2
  by_cases h5 : frm p i = 512
  · have hnil : l.length = 0 := by omega
    have hq5 : (512 = frm p i) = True := eq_true (by omega)
    have hq6 : Nat.min l.length (512 - frm p i) = 0 := by rw [h5]; exact Nat.min_zero _
    have H5 := Aside0.mk h5
    have HN := Aside0.mk hnil
    clear h5 hnil
    go_wp2_with ((with_reducible refine gate_builtin (b := .copy) (xs := #[.tmp 43, .tmp 44]) rfl ?_); go_loud (refine wl_copy rfl (.tmp 43) (.tmp 44) 22 22 5 rfl Try.underlying22 size5 g 0 (512 - frm p i) (512 - frm p i) l.length cc B p l rfl rfl HBk3.out (Kd.C_below HR2.out HB3.out) (by rw [hq6]; omega) ?_); intro w5 hb5 hg5; have hc5 := cell_grown' hg5 hc3 (by simp; omega))
    have HBo : Aside0 (Blk w5 5 g (over p (frm p i) l)) := by
      have hcn : l = [] := List.eq_nil_of_length_eq_zero HN.out
      constructor
      unfold over
      rw [hcn, List.nil_append, List.length_nil, Nat.add_zero, List.take_append_drop]
      rw [hcn] at hb5
      simpa using hb5
    have HG5 := Aside0.mk hg5
    clear hb5 hg5 hq5 hq6 hc3
    go_wp2_with fail
    refine (setSlot_calls g _ i (frm p i) l.length _ HBo.out (over_len HL.out (by omega)) (by omega) (by omega) (by omega)).mono ?_
    rintro e w7 ⟨rfl, hb7, hg7⟩
    have hc7 := cell_grown' hg7 hc5 (by simp; omega)
    have HB7 := Aside0.mk (show Blk w7 5 g (replaceP p i l) by unfold replaceP; rw [if_pos hsz]; exact hb7)
    have HG7 := Aside0.mk (grown_trans HG5.out hg7)
    clear hb7 hg7
    go_wp2
    go_ret2
    exact ⟨g, rfl, hg1, HB7.out, below_of_grown_new HB3.out HG7.out hg1⟩
  · have hq5 : ¬ 512 = frm p i := by omega
    have hq6 : Nat.min l.length (512 - frm p i) = l.length := Nat.min_eq_left (by omega)
    go_wp2_with ((with_reducible refine gate_builtin (b := .copy) (xs := #[.tmp 43, .tmp 44]) rfl ?_); go_loud (refine wl_copy rfl (.tmp 43) (.tmp 44) 22 22 5 rfl Try.underlying22 size5 g (frm p i) (512 - frm p i) (512 - frm p i) l.length cc B p l rfl rfl HBk3.out (Kd.C_below HR2.out HB3.out) (by rw [hq6]; have := HL.out; omega) ?_); intro w5 hb5 hg5; have hc5 := cell_grown' hg5 hc3 (by simp; omega))
    have HBo : Aside0 (Blk w5 5 g (over p (frm p i) l)) := by
      constructor
      unfold over
      have ht : l.take (512 - frm p i) = l := List.take_of_length_le (by omega)
      rw [hq6, ht] at hb5
      exact hb5
    have HG5 := Aside0.mk hg5
    clear hb5 hg5 hq5 hq6 hc3
    go_wp2_with fail
    refine (setSlot_calls g _ i (frm p i) l.length _ HBo.out (over_len HL.out (by omega)) (by omega) (by omega) (by omega)).mono ?_
    rintro e w7 ⟨rfl, hb7, hg7⟩
    have hc7 := cell_grown' hg7 hc5 (by simp; omega)
    have HB7 := Aside0.mk (show Blk w7 5 g (replaceP p i l) by unfold replaceP; rw [if_pos hsz]; exact hb7)
    have HG7 := Aside0.mk (grown_trans HG5.out hg7)
    clear hb7 hg7
    go_wp2
    go_ret2
    exact ⟨g, rfl, hg1, HB7.out, below_of_grown_new HB3.out HG7.out hg1⟩
theorem setSlot0 (g : Nat) (p : List Int) (i from_ : Nat) (w : World) (hb : Blk w 5 g p) (hl : p.length = 512) (hi : 30 + 4 * i ≤ 512) (hf : from_ ≤ 512) :
    Calls Try.prog 56 #[.agg #[.slice (some ⟨g, 0, none⟩) 512 512], .int .i64 i, .int .i64 from_, .int .i64 0] w fun e w' => e = .returned (.tuple #[]) ∧ Blk w' 5 g (over (over p (26 + 4 * i) (leB from_ 2)) (28 + 4 * i) (leB ((0 : Nat) : Int) 2)) ∧ w.grownBy w' (some g) :=
  setSlot_calls g p i from_ 0 w hb hl hi hf (by decide)
theorem rp1_len {p : List Int} (hl : p.length = 512) {i : Nat} (hi : 30 + 4 * i ≤ 512) : (rp1 p i).length = 512 := over_len (over_len hl (by rw [leB_length]; omega)) (by rw [leB_length]; omega)
theorem rp1_octs {p : List Int} (ho : octs p) (i : Nat) : octs (rp1 p i) := over_octs (over_octs ho _ (leB_octs _ _)) _ (leB_octs _ _)
theorem rp1_ne {p : List Int} (hl : p.length = 512) {i b s : Nat} (hi : 30 + 4 * i ≤ 512) (hb : b + s ≤ 512) (hne : b + s ≤ 26 + 4 * i ∨ 30 + 4 * i ≤ b) : numAt (rp1 p i) b s = numAt p b s := by
  have h1 : (over p (26 + 4 * i) (leB (lowP p) 2)).length = 512 := over_len hl (by rw [leB_length]; omega)
  unfold rp1
  rw [numAt_over_ne (by rw [leB_length]; omega) (by omega) (by rw [leB_length]; omega), numAt_over_ne (by rw [leB_length]; omega) (by omega) (by rw [leB_length]; omega)]
theorem rp1_frm {p : List Int} (hl : p.length = 512) {i : Nat} (hi : 30 + 4 * i ≤ 512) (hlow : lowP p ≤ 512) : frm (rp1 p i) i = lowP p := by
  have h1 : (over p (26 + 4 * i) (leB (lowP p) 2)).length = 512 := over_len hl (by rw [leB_length]; omega)
  unfold rp1 frm
  rw [numAt_over_ne (by rw [leB_length]; omega) (by omega) (by rw [leB_length]; omega)]
  exact numAt_over_leB (by omega) (by simp; omega)
theorem rp1_sz {p : List Int} (hl : p.length = 512) {i : Nat} (hi : 30 + 4 * i ≤ 512) : szP (rp1 p i) i = 0 := by
  have h1 : (over p (26 + 4 * i) (leB (lowP p) 2)).length = 512 := over_len hl (by rw [leB_length]; omega)
  unfold rp1 szP
  exact numAt_over_leB (by omega) (by simp)
theorem rp1_sum {p : List Int} (hl : p.length = 512) {i : Nat} (hi : 30 + 4 * i ≤ 512) : ∀ k, 26 + 4 * k ≤ 512 → sumSz (rp1 p i) k + (if i < k then szP p i else 0) = sumSz p k := by
  intro k
  induction k with
  | zero => intro _; rw [if_neg (by omega)]; rfl
  | succ k ih =>
    intro hk
    have h := ih (by omega)
    show sumSz (rp1 p i) k + szP (rp1 p i) k + _ = sumSz p k + szP p k
    by_cases hik : k = i
    · subst hik
      rw [rp1_sz hl hi, if_pos (by omega)]
      rw [if_neg (by omega)] at h
      omega
    · have e : szP (rp1 p i) k = szP p k := rp1_ne hl hi (by omega) (by omega)
      rw [e]
      by_cases hlt : i < k
      · rw [if_pos (by omega)]; rw [if_pos hlt] at h; omega
      · rw [if_neg (by omega)]; rw [if_neg hlt] at h; omega
theorem rp1_cnt {p : List Int} (hl : p.length = 512) {i : Nat} (hi : 30 + 4 * i ≤ 512) : cnt (rp1 p i) = cnt p := rp1_ne hl hi (by decide) (by omega)
theorem rp1_low {p : List Int} (hl : p.length = 512) {i : Nat} (hi : 30 + 4 * i ≤ 512) : lowP (rp1 p i) = lowP p := rp1_ne hl hi (by decide) (by omega)
set_option maxHeartbeats 4000000 in
theorem replace_big (A B : Option Addr) (c cc : Nat) (p l : List Int) (i : Nat) (w : World) (hr : Kd.C (Kd.int .u8) w A 512 p) (hc : 512 ≤ c) (ho : octs p) (hl : p.length = 512) (hg : goodP p = true) (hr2 : Kd.C (Kd.int .u8) w B l.length l) (hc2 : l.length ≤ cc) (hi : i < cnt p) (hsz : szP p i < l.length) (hll : l.length ≤ 140737488351232) (hfree : (l.length : Int) - szP p i ≤ freeP p) :
    Calls Try.prog 20 #[.slice A 512 c, .int .i64 i, .slice B l.length cc] w fun e w' => ∃ g, e = .returned (.tuple #[.slice (some ⟨g, 0, none⟩) 512 512, .int .i64 0]) ∧ w.heap.size ≤ g ∧ Blk w' 5 g (replaceP p i l) ∧ Below w.heap.size w w' := by
  have hcc := hc2
  clear hc2
  have HR2 := Aside0.mk hr2
  clear hr2
  have q3 : decide (freeP p < (l.length : Int) - (szP p i : Int)) = false := decide_eq_false (by omega)
  have q4 : decide ((l.length : Int) ≤ (szP p i : Int)) = false := decide_eq_false (by omega)
  have HFp := Aside0.mk (fits_of_good hg)
  have hgf := good_facts hg
  have hi30 : 30 + 4 * i ≤ 512 := by have := hgf.2.2; omega
  have hsum := rp1_sum hl hi30 (cnt p) (by have := hgf.2.2; omega)
  rw [if_pos hi] at hsum
  have HL1 := Aside0.mk (rp1_len hl hi30)
  have HO1 := Aside0.mk (rp1_octs ho i)
  have HC1 := Aside0.mk (rp1_cnt hl hi30)
  have HW1 := Aside0.mk (rp1_low hl hi30)
  have HF1 : Aside0 (Fits (rp1 p i)) := by
    refine ⟨?_, fun k hk => ?_⟩
    · rw [HC1.out]; have := HFp.out.1; omega
    · rw [HC1.out] at hk
      by_cases hik : k = i
      · subst hik; rw [rp1_frm hl hi30 (by have := hgf.2.2; omega), rp1_sz hl hi30]; have := hgf.2.2; omega
      · have e1 : frm (rp1 p i) k = frm p k := rp1_ne hl hi30 (by have := hgf.2.2; omega) (by omega)
        have e2 : szP (rp1 p i) k = szP p k := rp1_ne hl hi30 (by have := hgf.2.2; omega) (by omega)
        rw [e1, e2]; exact HFp.out.2 k hk
  have gfr : 26 + 4 * cnt p + l.length + sumSz (rp1 p i) (cnt p) ≤ 512 := by unfold freeP at hfree; omega
  clear hgf
  have q1 : decide ((i : Int) < 0) = false := decide_eq_false (by omega)
  have q2 : decide ((cnt p : Int) ≤ (i : Int)) = false := decide_eq_false (by omega)
  obtain ⟨_, _, gf1, gf2, gf3, gf4⟩ := good_facts hg
  have hfit := (gf4 i hi).1
  have hfit2 := (gf4 i hi).2
  clear gf4
  have HR := Aside0.mk hr
  have HO := Aside0.mk ho
  have HG := Aside0.mk hg
  have HL := Aside0.mk hl
  clear hr ho hg hl
  go_enter Try.func20, Try.ntmps20
  go_wp2_with fail
  refine (copied_good A c p _ HR.out hc HO.out HL.out HG.out).mono ?_
  rintro e w1 ⟨g, rfl, hg1, hbk, hb⟩
  have HBk := Aside0.mk (hbk.below (below_alloc (Below.refl w1.heap.size w1) (.cells #[.slice (some ⟨g, 0, none⟩) 512 512] 65)))
  have HB := Aside0.mk (below_alloc hb (.cells #[.slice (some ⟨g, 0, none⟩) 512 512] 65))
  have hglt := hbk.lt
  clear hbk hb
  go_wp2_with fail
  refine (count5 (some ⟨g, 0, none⟩) 512 p _ (blk_rb5 HBk.out HL.out) (Nat.le_refl _) HO.out HL.out).mono ?_
  rintro e w2 ⟨rfl, hb⟩
  have hc2 := pw_cell_below hb (a := ⟨w1.heap.size, 0, none⟩) (v := .slice (some ⟨g, 0, none⟩) 512 512) (by simp)
  have HB2 := Aside0.mk (below_step HB.out hb)
  have HBk2 := Aside0.mk (HBk.out.below hb)
  clear hb
  go_wp2_with fail
  refine (slot5 (some ⟨g, 0, none⟩) 512 p _ (blk_rb5 HBk2.out HL.out) (Nat.le_refl _) HO.out HL.out i (by omega)).mono ?_
  rintro e w3 ⟨rfl, hb⟩
  have hc3 := pw_cell_below hb hc2
  have HB3 := Aside0.mk (below_step HB2.out hb)
  have HBk3 := Aside0.mk (HBk2.out.below hb)
  clear hb hc2 HBk HBk2 HB HB2
  go_wp2_with fail
  refine (free5 (some ⟨g, 0, none⟩) 512 p _ (blk_rb5 HBk3.out HL.out) (Nat.le_refl _) HO.out HL.out (by omega)).mono ?_
  rintro e w4 ⟨rfl, hb⟩
  have hc4 := pw_cell_below hb hc3
  have HB4 := Aside0.mk (below_step HB3.out hb)
  have HBk4 := Aside0.mk (HBk3.out.below hb)
  clear hb hc3 HB3 HBk3
  have hcd := hc4
  have HBd := Aside0.mk (HBk4.out.below (below_drew (Below.refl w4.heap.size w4)))
  have hgi2 : 30 + 4 * i ≤ 512 := hi30
  go_wp2_with fail
  go_region_law (first
    | (go_simp; go_at_call 46; (with_reducible refine (low5 (some ⟨g, 0, none⟩) 512 p _ (blk_rb5 HBd.out HL.out) (Nat.le_refl _) HO.out HL.out).mono ?_); rintro e w5 ⟨rfl, hb5⟩; have hc5 := pw_cell_below hb5 (a := ⟨w1.heap.size, 0, none⟩) (v := .slice (some ⟨g, 0, none⟩) 512 512) (by simpa using hcd); have HBk5 := Aside0.mk (HBd.out.below hb5))
    | (go_simp; go_at_call 56; (with_reducible refine (setSlot0 g p i (lowP p) _ HBk5.out HL.out hgi2 (by omega)).mono ?_); rintro e w6 ⟨rfl, hb6, hg6⟩))
  all_goals (
    have HG6 : Aside0 (w4.grownBy w6 (some g)) := Aside0.mk (grown_trans (grown_trans (grown_below (below_drew (Below.refl w4.heap.size w4)) (some g)) (grown_below hb5 (some g))) hg6)
    have hc6 := cell_grown' hg6 hc5 (by simp; omega)
    have HBr := Aside0.mk (show Blk w6 5 g (rp1 p i) from hb6)
    have HBl6 := Aside0.mk (below_of_grown_new HB4.out HG6.out hg1)
    clear hb5 hc5 HBk5 hb6 hg6 hcd HBd
    go_wp2_with fail
    refine (room5 (some ⟨g, 0, none⟩) 512 _ _ (blk_rb5 HBr.out HL1.out) (Nat.le_refl _) HO1.out HL1.out).mono ?_
    rw [HC1.out, HW1.out]
    rintro e w7 ⟨rfl, hb⟩
    have hc7 := pw_cell_below hb hc6
    have HB7 := Aside0.mk (below_step HBl6.out hb)
    have HBr7 := Aside0.mk (HBr.out.below hb)
    clear hb hc6 HBl6 HBr HG6
    by_cases hroom : lowP p < 26 + 4 * cnt p + l.length
    · have q5 : decide ((lowP p : Int) - 26 - 4 * (cnt p : Int) < (l.length : Int)) = true := decide_eq_true (by omega)
      have HQ := Aside0.mk (show rp2 p i l = anewP (rp1 p i) by unfold rp2; rw [if_pos hroom])
      clear hroom
      go_wp2_with fail
      refine (anew_calls g _ _ HBr7.out HL1.out HO1.out HF1.out).mono ?_
      rintro e w8 ⟨rfl, hb8, hg8⟩
      have hc8 := cell_grown' hg8 hc7 (by simp; omega)
      have HB8 := Aside0.mk (below_of_grown_new HB7.out hg8 hg1)
      have HBq := Aside0.mk (show Blk w8 5 g (rp2 p i l) by rw [HQ.out]; exact hb8)
      have HLq := Aside0.mk (show (rp2 p i l).length = 512 by rw [HQ.out]; exact anew_length HL1.out HF1.out)
      have HOq := Aside0.mk (show octs (rp2 p i l) by rw [HQ.out]; exact anew_octs HO1.out)
      have HWq := Aside0.mk (show l.length ≤ lowP (rp2 p i l) ∧ lowP (rp2 p i l) ≤ 512 by rw [HQ.out, anew_low HL1.out HF1.out, HC1.out]; omega)
      clear hb8 hg8 hc7 HB7 HBr7
      go_wp2_with fail
      refine (below_calls g _ i B cc l _ HBq.out HLq.out HOq.out hgi2 (Kd.C_below HR2.out HB8.out) hcc HWq.out.1 HWq.out.2).mono ?_
      rintro e w9 ⟨rfl, hb9, hg9⟩
      have hc9 := cell_grown' hg9 hc8 (by simp; omega)
      have HB9 := Aside0.mk (show Blk w9 5 g (replaceP p i l) by unfold replaceP; rw [if_neg (by omega)]; exact hb9)
      have HBl9 := Aside0.mk (below_of_grown_new HB8.out hg9 hg1)
      clear hb9 hg9 hc8
      go_wp2
      go_ret2
      exact ⟨g, rfl, hg1, HB9.out, HBl9.out⟩
    · have q5 : decide ((lowP p : Int) - 26 - 4 * (cnt p : Int) < (l.length : Int)) = false := decide_eq_false (by omega)
      have HQ := Aside0.mk (show rp2 p i l = rp1 p i by unfold rp2; rw [if_neg hroom])
      have HBq := Aside0.mk (show Blk w7 5 g (rp2 p i l) by rw [HQ.out]; exact HBr7.out)
      have HLq := Aside0.mk (show (rp2 p i l).length = 512 by rw [HQ.out]; exact HL1.out)
      have HOq := Aside0.mk (show octs (rp2 p i l) by rw [HQ.out]; exact HO1.out)
      have HWq := Aside0.mk (show l.length ≤ lowP (rp2 p i l) ∧ lowP (rp2 p i l) ≤ 512 by rw [HQ.out, HW1.out]; omega)
      clear hroom
      go_wp2_with fail
      refine (below_calls g _ i B cc l _ HBq.out HLq.out HOq.out hgi2 (Kd.C_below HR2.out HB7.out) hcc HWq.out.1 HWq.out.2).mono ?_
      rintro e w9 ⟨rfl, hb9, hg9⟩
      have hc9 := cell_grown' hg9 hc7 (by simp; omega)
      have HB9 := Aside0.mk (show Blk w9 5 g (replaceP p i l) by unfold replaceP; rw [if_neg (by omega)]; exact hb9)
      have HBl9 := Aside0.mk (below_of_grown_new HB7.out hg9 hg1)
      clear hb9 hg9 hc7
      go_wp2
      go_ret2
      exact ⟨g, rfl, hg1, HB9.out, HBl9.out⟩)
end Go.Proofs.Ytpogneedafoiaaa.Pg
namespace Go.Proofs.Ytpogneedafoiaaa.Pg
open Go.RowKit Go.Proofs.YtpogneedafoiaaaW.PrintWords Go.Proofs.YtpogneedafoiaaaW.PrintLast Go.Proofs.YtpogneedafoiaaaW.PrintMore Go.Proofs.Ytpogneedafoiaaa.Bw Go.Proofs.Ytpogneedafoiaaa.Crc Go.Proofs.Ytpogneedafoiaaa.Wordy
set_option linter.unusedVariables false
set_option linter.unusedSimpArgs false

theorem info22 : (Try.prog.info? 22).map (fun i => (i.zero, i.size, i.bytes)) = some (some (.slice none 0 0), 1, 24) := by kernel_rfl
/-- a block that is known whole, as a row of one's own -/
theorem R_of_blk {w : World} {g base : Nat} {xs : List Int} {ok : Nat → Prop} (h : Blk w 5 g xs) (hb : base ≤ g) (hm : xs.length ≤ 140737488355328) (hok : ok g) : Kd.R (Kd.int .u8) 5 w base ok (.slice (some ⟨g, 0, none⟩) xs.length xs.length) xs := by
  refine ⟨fun k hk => ?_, nums .u8 xs, h.own hb (by unfold maxLen; omega), ⟨by simp [nums, Kd.int, Kd.scalar], fun j x hj => ?_⟩⟩
  · have : g = k := by simpa [Value.ownBlock] using hk
    exact this ▸ hok
  · obtain ⟨hlt, rfl⟩ := List.getElem?_eq_some_iff.1 hj
    show ((nums .u8 xs).drop (j * 1)).take 1 = [Value.int .u8 xs[j]]
    rw [Nat.mul_one, List.drop_eq_getElem_cons (by simpa [nums] using hlt), List.take_succ_cons, List.take_zero]
    simp [nums]
/-- an empty row of rows -/
theorem S_of_own0 {w : World} {base : Nat} {v : Value} {ok : Nat → Prop} (h : w.ownsRow base 22 1 v 0 []) (hok : ∀ k, v.ownBlock = some k → ok k) : Kd.S (Kd.slice 5 (Kd.int .u8)) 22 w base ok v [] :=
  ⟨fun _ => 0, hok, [], h, ⟨rfl, fun j x hj => by simp at hj⟩⟩
theorem cell0 {w : World} {g t : Nat} {v : Value} (h : w.heap[g]? = some (.cells #[v] t (0, 0))) : w.cell? ⟨g, 0, none⟩ = some v := by
  unfold World.cell?
  rw [h]
  rfl
theorem heap_below {w w' : World} {g : Nat} {o : Obj} (hb : Below w.heap.size w w') (h : w.heap[g]? = some o) : w'.heap[g]? = some o := (hb.block g (Array.getElem?_eq_some_iff.1 h).1).trans h
set_option maxHeartbeats 4000000 in
theorem cells_x (A : Option Addr) (c : Nat) (p : List Int) (w : World) (hr : Kd.C (Kd.int .u8) w A 512 p) (hc : 512 ≤ c) (ho : octs p) (hl : p.length = 512) (hg : goodP p = true) :
    Calls Try.prog 14 #[.slice A 512 c] w fun e w' => ∃ v, e = .returned (.tuple #[v, .int .i64 0]) ∧ Kd.S (Kd.slice 5 (Kd.int .u8)) 22 w' w.heap.size (fun _ => True) v ((List.range (cnt p)).map (cellP p)) ∧ Below w.heap.size w w' := by
  have HR := Aside0.mk hr
  have HO := Aside0.mk ho
  have HG := Aside0.mk hg
  have HL := Aside0.mk hl
  clear hr ho hg hl
  go_enter Try.func14, Try.ntmps14
  go_wp2_with fail
  refine (of_good A c p _ HR.out hc HO.out HL.out HG.out).mono ?_
  rintro e w1 ⟨rfl, hb⟩
  have HB := Aside0.mk (below_alloc hb (.cells #[.slice A 512 c] 65))
  have HR1 := Aside0.mk (Kd.C_below HR.out HB.out)
  clear hb
  go_wp2_with fail
  refine (count5 A c p _ HR1.out hc HO.out HL.out).mono ?_
  rintro e w2 ⟨rfl, hb⟩
  have hh2 := heap_below hb (heap_new w1 (.cells #[.slice A 512 c] 65) _ rfl)
  have hc2 := cell0 hh2
  have HB2 := Aside0.mk (below_step HB.out hb)
  clear hb
  obtain ⟨i22, hi22, hz22, hs22, hb22⟩ := info_parts info22
  have hb2s := HB2.out.size
  have hn5 : 26 + 4 * cnt p ≤ 512 := by have := (good_facts HG.out).2.2; omega
  have HF := Aside0.mk (good_facts HG.out).2.2.2.2.2
  have hcl : ∀ i, i < cnt p → (cellP p i).length = szP p i ∧ szP p i ≤ 512 := fun i hi => ⟨cellP_length HL.out (HF.out i hi).1, by have := (HF.out i hi).1; omega⟩
  have HCL := Aside0.mk hcl
  clear hcl
  go_wp2_with ((with_reducible refine wpList_make_own _ rfl _ _ 28 rfl w.heap.size 22 i22 (.slice none 0 0) 1 Try.underlying28 hi22 hz22 hs22 .i64 .i64 _ (cnt p) rfl rfl rfl ?bytes ?maxLen ?base ?_); (case bytes => (rw [hb22]; omega)); (case maxLen => (unfold maxLen; omega)); (case base => omega); intro w3 ho3 hg3; have hh3 := (hg3.block w1.heap.size (Array.getElem?_eq_some_iff.1 hh2).1 (by simp)).trans hh2; have hc3 := cell0 hh3)
  have HB3 := Aside0.mk (below_grown HB2.out hg3 (by rintro k hk; cases hk))
  have HO3 := Aside0.mk (S_of_own0 (ok := fun _ => True) ho3 (fun _ _ => trivial))
  clear ho3 hg3 hc2 hh2
  refine (count5 A c p _ (Kd.C_below HR.out HB3.out) hc HO.out HL.out).mono ?_
  rintro e w4 ⟨rfl, hb⟩
  have HC4 := Aside0.mk (heap_below hb hh3)
  have HB4 := Aside0.mk (below_step HB3.out hb)
  have HO4 := Aside0.mk (Kd.S_below HO3.out hb)
  clear hb hc3 hh3 HB3 HO3
  have hb1s := HB.out.size
  go_wp2_with fail
  go_loopg [6, 21] (cnt p) (fun d v6 v21 wr => ∃ k : Nat, v21 = .int .i64 k ∧ Aside0 (k + d = cnt p) ∧ Aside0 (wr.heap[w1.heap.size]? = some (.cells #[.slice A 512 c] 65 (0, 0))) ∧ Aside0 (Kd.S (Kd.slice 5 (Kd.int .u8)) 22 wr w.heap.size (fun _ => True) v6 ((List.range k).map (cellP p))) ∧ Aside0 (Below w.heap.size w wr))
  case atStart => exact ⟨0, rfl, ⟨by omega⟩, HC4, HO4, HB4⟩
  case round =>
    clear HC4 HB4 HO4
    obtain ⟨k, rfl, HK, HC, HS, HB⟩ := hrel
    have hk := HK.out
    by_cases hlt : k < cnt p
    · have hcell := cell0 HC.out
      go_wp2_with fail
      refine (cell5 A c p _ (Kd.C_below HR.out HB.out) hc HO.out HL.out k (by omega) (HF.out k hlt).1).mono ?_
      rintro e w5 ⟨A', rfl, hA, hAb, hb⟩
      have HB5 := Aside0.mk (below_step HB.out hb)
      have HA := Aside0.mk (hA _ (Kd.C_below HR.out HB5.out))
      have HC5 := Aside0.mk (heap_below hb HC.out)
      have HS5 := Aside0.mk (Kd.S_below HS.out hb)
      clear hb hA hAb hcell HC HB HS
      go_wp2_with fail
      have hcl := (HCL.out k hlt).1
      have hcs := (HCL.out k hlt).2
      have h := clone_calls (some A') (szP p k) (cellP p k) w5 (by rw [hcl]; exact HA.out) (by rw [hcl]; exact Nat.le_refl _) (by rw [hcl]; omega) (fun h => by cases h)
      rw [hcl] at h
      refine h.mono ?_
      rintro e w6 ⟨g, rfl, hg1, hbk, hb⟩
      have HB6 := Aside0.mk (below_step HB5.out hb)
      have HC6 := Aside0.mk (heap_below hb HC5.out)
      have hR : Kd.R (Kd.int .u8) 5 w6 w.heap.size (fun _ => True) (.slice (some ⟨g, 0, none⟩) (szP p k) (szP p k)) (cellP p k) := by
        have h := R_of_blk (base := w.heap.size) (ok := fun _ => True) hbk (by have := HB5.out.size; omega) (by omega) trivial
        rw [hcl] at h
        exact h
      have HRr := Aside0.mk hR
      obtain ⟨A0, c0, ev⟩ := Kd.S_slice HS5.out
      have HN1 := Aside0.mk (Kd.S_ne HS5.out HC5.out (by decide))
      rw [List.length_map, List.length_range] at ev
      subst ev
      have HSr := Aside0.mk (show Kd.S (Kd.slice 5 (Kd.int .u8)) 22 w6 w.heap.size (fun k_ => True ∧ ¬ some k_ = (Value.slice (some ⟨g, 0, none⟩) (szP p k) (szP p k)).ownBlock) (.slice A0 k c0) ((List.range k).map (cellP p)) from Kd.S_below (Kd.S_mono (Kd.S_elderB HS5.out g hg1) (fun k_ hk_ => ⟨trivial, fun e_ => hk_.2 (by simpa [Value.ownBlock, eq_comm] using e_)⟩)) hb)
      have HNe := Aside0.mk (show ∀ k_, some k_ = (Value.slice (some ⟨g, 0, none⟩) (szP p k) (szP p k)).ownBlock → some k_ ≠ (Value.slice A0 k c0).ownBlock from fun k_ hk_ e_ => by
        have h1 := Kd.S_lt HS5.out k_ e_.symm
        have h2 : k_ = g := by simpa [Value.ownBlock] using hk_
        omega)
      clear h hb hbk hcl hR HS5 HC5 HB5 HA
      go_wp2_with (at_builtin; refine Kd.S_append (Kd.slice 5 (Kd.int .u8)) (w0 := w) w.heap.size rfl (.tmp 24) (.tmp 29) 28 22 (.slice none 0 0) 24 rfl Try.underlying28 info22 rfl (by decide) (by omega) (.slice A0 k c0) ((List.range k).map (cellP p)) (cellP p k) [.slice (some ⟨g, 0, none⟩) (szP p k) (szP p k)] (fun _ => True) (fun k_ => some k_ = (Value.slice (some ⟨g, 0, none⟩) (szP p k) (szP p k)).ownBlock) rfl rfl ?aP ?aK (fun _ _ => trivial) HSr.out HB6.out ?aS ?aL ?_; (case aP => exact Kd.M_row (Kd.R_tight rfl HRr.out)); (case aK => exact fun k_ hk_ => ⟨trivial, HNe.out k_ hk_⟩); (case aS => (have := HB6.out.size; omega)); (case aL => (rw [List.length_map, List.length_range]; omega)); intro v1 w7 hs7 hb7 hg7 hat7)
      have HC7 := Aside0.mk ((hg7.block w1.heap.size (Array.getElem?_eq_some_iff.1 HC6.out).1 HN1.out).trans HC6.out)
      have HS7 := Aside0.mk hs7
      have HB7 := Aside0.mk hb7
      clear hs7 hb7 hg7 hat7
      go_roundg (gk - 1)
      case measure => have := HK.out; omega
      case rel => exact ⟨k + 1, by go_num, ⟨by have := HK.out; omega⟩, HC7, ⟨by rw [List.range_succ, List.map_append]; exact HS7.out⟩, HB7⟩
    · obtain rfl : k = cnt p := by omega
      go_wp2
      go_ret2
      exact ⟨_, rfl, HS.out, HB.out⟩
end Go.Proofs.Ytpogneedafoiaaa.Pg
namespace Go.Proofs.Ytpogneedafoiaaa.Pg
open Go.RowKit Go.Proofs.YtpogneedafoiaaaW.PrintWords Go.Proofs.YtpogneedafoiaaaW.PrintLast Go.Proofs.YtpogneedafoiaaaW.PrintMore Go.Proofs.Ytpogneedafoiaaa.Bw Go.Proofs.Ytpogneedafoiaaa.Crc Go.Proofs.Ytpogneedafoiaaa.Wordy
set_option linter.unusedVariables false
set_option linter.unusedSimpArgs false

def octsL (xs : List (List Int)) : Prop := ∀ l ∈ xs, octs l
theorem octsL_rd {xs : List (List Int)} (h : octsL xs) (i : Int) : octs (Rf.rd_L2 xs i) := by
  unfold Rf.rd_L2
  rw [List.getD_eq_getElem?_getD]
  cases hq : xs[i.toNat]? with
  | none => intro x hx; simp at hx
  | some l => exact h l (List.mem_of_getElem? hq)
/-- the lists are the same up to a place -/
theorem lists_step {xs ys : List (List Int)} (hn : xs.length = ys.length) {k : Nat} (hk : k < xs.length) (hs : xs.take k = ys.take k) (he : Rf.rd_L2 xs k = Rf.rd_L2 ys k) : xs.take (k + 1) = ys.take (k + 1) := by
  rw [List.take_succ_eq_append_getElem hk, List.take_succ_eq_append_getElem (by omega), hs]
  unfold Rf.rd_L2 at he
  rw [Int.toNat_natCast, List.getD_eq_getElem?_getD, List.getD_eq_getElem?_getD, List.getElem?_eq_getElem hk, List.getElem?_eq_getElem (show k < ys.length by omega)] at he
  simp only [Option.getD_some] at he
  rw [he]
set_option maxHeartbeats 4000000 in
theorem lists_x (A B : Option Addr) (c d : Nat) (xs ys : List (List Int)) (w : World) (ha : Kd.C (Kd.slice 5 (Kd.int .u8)) w A xs.length xs) (hb : Kd.C (Kd.slice 5 (Kd.int .u8)) w B ys.length ys) (hc : xs.length ≤ c) (hd : ys.length ≤ d) (ho : octsL xs) (hp : octsL ys) :
    Calls Try.prog 16 #[.slice A xs.length c, .slice B ys.length d] w fun e w' => e = .returned (.bool (decide (xs = ys))) ∧ Below w.heap.size w w' := by
  have hmax : xs.length ≤ 9223372036854775807 := ha.2.1
  have HA := Aside0.mk ha
  have HB := Aside0.mk hb
  have HO := Aside0.mk ho
  have HP := Aside0.mk hp
  clear ha hb ho hp
  by_cases hn : xs.length = ys.length
  · have HN := Aside0.mk hn
    have hln : ((xs.length : Int) != (ys.length : Int)) = false := by rw [hn]; simp
    clear hn
    go_enter Try.func16, Try.ntmps16
    go_wp2_with fail
    go_loopg [5] xs.length (fun m v3 wr => ∃ k : Nat, v3 = .int .i64 k ∧ Aside0 (k + m = xs.length) ∧ Aside0 (xs.take k = ys.take k) ∧ Aside0 (Below w.heap.size w wr))
    case atStart => exact ⟨0, rfl, ⟨by omega⟩, ⟨by simp⟩, ⟨Below.refl _ _⟩⟩
    case round =>
      obtain ⟨k, rfl, HK, HT, HBe⟩ := hrel
      have hk := HK.out
      by_cases hlt : k < xs.length
      · obtain ⟨ad1, A1, c1, e1, hx1, hl1, hr1⟩ := Rf.at_L2 (Kd.C_below HA.out HBe.out) k (by omega) (by omega)
        obtain ⟨ad2, A2, c2, e2, hx2, hl2, hr2⟩ := Rf.at_L2 (Kd.C_below HB.out HBe.out) k (by omega) (by have := HN.out; omega)
        subst e1 e2
        have hky : (k : Int) < (ys.length : Int) := by have := HN.out; omega
        rw [Int.toNat_natCast] at hx1 hx2
        have hcv1 : ∀ n, (convert 22 9 (.slice A1 (Rf.rd_L2 xs k).length c1)).run Try.prog (wr.drewN n) = .ok (.string (strOfNums (Rf.rd_L2 xs k))) (wr.drewN n) := fun n => Kd.C_string (P := Try.prog) (A := A1) (c := c1) Try.underlying22 Try.underlying5 Try.underlying9 (Kd.C_drewN hr1 n)
        have hcv2 : ∀ n, (convert 22 9 (.slice A2 (Rf.rd_L2 ys k).length c2)).run Try.prog (wr.drewN n) = .ok (.string (strOfNums (Rf.rd_L2 ys k))) (wr.drewN n) := fun n => Kd.C_string (P := Try.prog) (A := A2) (c := c2) Try.underlying22 Try.underlying5 Try.underlying9 (Kd.C_drewN hr2 n)
        have hsm := same_str (octsL_rd HO.out k) (octsL_rd HP.out k)
        by_cases he : Rf.rd_L2 xs k = Rf.rd_L2 ys k
        · have hse : ((strOfNums (Rf.rd_L2 xs k)).toList == (strOfNums (Rf.rd_L2 ys k)).toList) = true := by rw [hsm]; exact decide_eq_true he
          have HE := Aside0.mk (lists_step HN.out hlt HT.out he)
          clear hsm he
          go_wp2
          go_quiet (fail)
          go_wp2
          go_roundg (gk - 1)
          case measure => have := HK.out; omega
          case rel => exact ⟨k + 1, by go_num, ⟨by have := HK.out; omega⟩, HE, ⟨pw_below_drewN HBe.out _⟩⟩
        · have hse : ((strOfNums (Rf.rd_L2 xs k)).toList == (strOfNums (Rf.rd_L2 ys k)).toList) = false := by rw [hsm]; exact decide_eq_false he
          have hne : decide (xs = ys) = false := decide_eq_false (fun e => he (by rw [e]))
          have HNe := Aside0.mk hne
          clear hsm he hne
          go_wp2
          go_quiet (fail)
          go_wp2
          go_ret
          refine ⟨?_, pw_below_drewN HBe.out _⟩
          show Ending.returned (.bool false) = _
          rw [HNe.out]
      · obtain rfl : k = xs.length := by omega
        go_wp2
        go_ret
        refine ⟨?_, HBe.out⟩
        show Ending.returned (.bool true) = _
        have h := HT.out
        rw [List.take_of_length_le (Nat.le_refl _), List.take_of_length_le (by have := HN.out; omega)] at h
        rw [decide_eq_true h]
  · have hln : ((xs.length : Int) != (ys.length : Int)) = true := by simp; omega
    have hne : decide (xs = ys) = false := decide_eq_false (fun e => hn (by rw [e]))
    have HNe := Aside0.mk hne
    clear hn hne
    go_enter Try.func16, Try.ntmps16
    go_wp2
    go_ret
    refine ⟨?_, Below.refl _ _⟩
    show Ending.returned (.bool false) = _
    rw [HNe.out]
end Go.Proofs.Ytpogneedafoiaaa.Pg
