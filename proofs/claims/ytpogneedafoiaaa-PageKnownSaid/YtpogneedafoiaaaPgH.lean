/- Contracts by hand: New, Count, Free, Cell, Cells. -/
import Derived.Test.YtpogneedafoiaaaPgG
import Derived.Outline
namespace Go.Proofs.Ytpogneedafoiaaa.Pg
open Go.RowKit Go.Proofs.YtpogneedafoiaaaW.PrintWords Go.Proofs.YtpogneedafoiaaaW.PrintLast Go.Proofs.YtpogneedafoiaaaW.PrintMore Go.Proofs.Ytpogneedafoiaaa.Bw Go.Proofs.Ytpogneedafoiaaa.Crc Go.Proofs.Ytpogneedafoiaaa.Wordy
set_option linter.unusedVariables false
set_option linter.unusedSimpArgs false

theorem made_zeros (n : Nat) : madeCells #[Value.int .u8 0] n = (nums .u8 (List.replicate n 0)).toArray := by
  apply Array.ext
  · simp [size_madeCells, nums]
  · intro i h1 h2
    simp [madeCells, nums, Nat.mod_one]
/-- make of so many noughts -/
theorem wl_make {ops : Array Oper} {rest : List Oper} {o : Oper} {a : Act} {Q : Exit → Act → World → Prop} {W : World} (hg : o.guard = none) (l c : Operand) (ho : o.op = .makeSlice 22 l c) (n : Nat) (hn : n ≤ 140737488351232)
    (hl : a.eval l = .int .i64 (n : Int)) (hc : a.eval c = .int .i64 (n : Int))
    (h : ∀ w', Blk w' 5 W.heap.size (List.replicate n 0) → Below W.heap.size W w' → wpList Try.prog ops Q rest (a.put o.dst (.slice (some ⟨W.heap.size, 0, none⟩) n n)) w') : wpList Try.prog ops Q (o :: rest) a W := by
  have hrun := run_make_row' (P := Try.prog) 22 5 (.int .u8 0) 1 Try.underlying22 info5 rfl .i64 .i64 n (by omega) (by omega) W
  refine wpList_plain hg fun K hK => ?_
  unfold Oper.wp
  simp [execOp, ho, hl, hc, hrun, Result.andThen]
  refine hK _ _ (h _ ?_ (below_alloc (Below.refl _ _) _))
  unfold Blk
  rw [← made_zeros]
  exact heap_new _ _ _ rfl
set_option maxHeartbeats 2000000 in
theorem new_no (kind : Int) (w : World) (h : ¬ (0 ≤ kind ∧ kind ≤ 255)) :
    Calls Try.prog 30 #[.int .i64 kind] w fun e w' => e = .returned (.tuple #[.slice none 0 0, .int .i64 1]) ∧ Below w.heap.size w w' := by
  go_enter Try.func30, Try.ntmps30
  go_wp2_with fail
  all_goals
    go_ret2
    exact ⟨rfl, Below.refl _ _⟩
def newP (kind : Int) : List Int := over ((List.replicate 512 0).set 12 kind) 16 (leB 512 2)
set_option maxRecDepth 100000 in
set_option maxHeartbeats 4000000 in
theorem new_good (kind : Int) (w : World) (h : 0 ≤ kind ∧ kind ≤ 255) :
    Calls Try.prog 30 #[.int .i64 kind] w fun e w' => ∃ g, e = .returned (.tuple #[.slice (some ⟨g, 0, none⟩) 512 512, .int .i64 0]) ∧ w.heap.size ≤ g ∧ Blk w' 5 g (newP kind) ∧ Below w.heap.size w w' := by
  obtain ⟨h0, h1⟩ := h
  have q1 : decide (kind < 0) = false := decide_eq_false (by omega)
  have q2 : decide (255 < kind) = false := decide_eq_false (by omega)
  have q3 : kind % 256 = kind := by omega
  go_enter Try.func30, Try.ntmps30
  go_wp2_with (refine wl_make rfl _ _ rfl 512 (by decide) rfl rfl ?_; intro w1 hb1 hl1; have hg1 := Blk.lt hb1; have hc12 := Blk.cell hb1 12 (by rw [List.length_replicate]; decide); have hf12 := Blk.free hb1 12; have hcx := cell_old (o := .cells #[.slice (some ⟨w.heap.size, 0, none⟩) 512 512] 65) hc12; have hfx := (frozen_old (W := w1) (a := ⟨w.heap.size, 12, none⟩) hg1 (.cells #[.slice (some ⟨w.heap.size, 0, none⟩) 512 512] 65)).trans hf12; clear hc12 hf12)
  have hz : (w1.setCell ⟨w.heap.size, 12, none⟩ (.int .u8 kind)).heap.size = w1.heap.size := by simp [World.setCell]
  have HB2 := Aside0.mk ((hb1.set 12 kind).below (below_alloc (Below.refl _ _) (.cells #[.slice (some ⟨w.heap.size, 0, none⟩) 512 512] 65)))
  have HL2 := Aside0.mk (below_alloc (hl1.setCell (p := ⟨w.heap.size, 12, none⟩) (Nat.le_refl _) (.int .u8 kind)) (.cells #[.slice (some ⟨w.heap.size, 0, none⟩) 512 512] 65))
  have hcb : ((w1.setCell ⟨w.heap.size, 12, none⟩ (.int .u8 kind)).alloc (.cells #[.slice (some ⟨w.heap.size, 0, none⟩) 512 512] 65)).cell? ⟨w1.heap.size, 0, none⟩ = some (.slice (some ⟨w.heap.size, 0, none⟩) 512 512) := by
    unfold World.cell?
    rw [heap_new _ _ _ hz.symm]
    rfl
  clear hb1 hl1 hcx hfx
  refine (put_at w.heap.size _ 16 2 _ _ _ _ rfl rfl HB2.out (by simp) (by decide) (by decide) (by decide) (by decide)).mono ?_
  rintro e w3 ⟨rfl, hb3, hg3⟩
  have hc3 := cell_grown' hg3 hcb (by simp; omega)
  have HB3 := Aside0.mk hb3
  have HL3 := Aside0.mk (below_of_grown_new HL2.out hg3 (Nat.le_refl _))
  clear hb3 hg3 hcb
  go_wp2
  go_ret2
  exact ⟨w.heap.size, rfl, Nat.le_refl _, HB3.out, HL3.out⟩
set_option maxHeartbeats 2000000 in
theorem countF_good (A : Option Addr) (c : Nat) (p : List Int) (w : World) (hr : Kd.C (Kd.int .u8) w A 512 p) (hc : 512 ≤ c) (ho : octs p) (hl : p.length = 512) (hg : goodP p = true) :
    Calls Try.prog 33 #[.slice A 512 c] w fun e w' => e = .returned (.tuple #[.int .i64 (((cnt p : Nat) : Int)), .int .i64 0]) ∧ Below w.heap.size w w' := by
  have HR := Aside0.mk hr
  have HO := Aside0.mk ho
  have HG := Aside0.mk hg
  have HL := Aside0.mk hl
  clear hr ho hg hl
  go_enter Try.func33, Try.ntmps33
  go_wp2_with fail
  refine (of_good A c p _ HR.out hc HO.out HL.out HG.out).mono ?_
  rintro e w1 ⟨rfl, hb⟩
  have HB := Aside0.mk (below_alloc hb (.cells #[.slice A 512 c] 65))
  have HR1 := Aside0.mk (Kd.C_below HR.out HB.out)
  clear hb
  go_wp2_with fail
  refine (count5 A c p _ HR1.out hc HO.out HL.out).mono ?_
  rintro e w2 ⟨rfl, hb⟩
  have HB2 := Aside0.mk (below_step HB.out hb)
  clear hb
  go_wp2
  go_ret2
  exact ⟨rfl, HB2.out⟩
set_option maxHeartbeats 2000000 in
theorem freeF_good (A : Option Addr) (c : Nat) (p : List Int) (w : World) (hr : Kd.C (Kd.int .u8) w A 512 p) (hc : 512 ≤ c) (ho : octs p) (hl : p.length = 512) (hg : goodP p = true) (hn : 26 + 4 * cnt p ≤ 512) :
    Calls Try.prog 15 #[.slice A 512 c] w fun e w' => e = .returned (.tuple #[.int .i64 (freeP p), .int .i64 0]) ∧ Below w.heap.size w w' := by
  have HR := Aside0.mk hr
  have HO := Aside0.mk ho
  have HG := Aside0.mk hg
  have HL := Aside0.mk hl
  clear hr ho hg hl
  go_enter Try.func15, Try.ntmps15
  go_wp2_with fail
  refine (of_good A c p _ HR.out hc HO.out HL.out HG.out).mono ?_
  rintro e w1 ⟨rfl, hb⟩
  have HB := Aside0.mk (below_alloc hb (.cells #[.slice A 512 c] 65))
  have HR1 := Aside0.mk (Kd.C_below HR.out HB.out)
  clear hb
  go_wp2_with fail
  refine (free5 A c p _ HR1.out hc HO.out HL.out hn).mono ?_
  rintro e w2 ⟨rfl, hb⟩
  have HB2 := Aside0.mk (below_step HB.out hb)
  clear hb
  go_wp2
  go_ret2
  exact ⟨rfl, HB2.out⟩
set_option maxHeartbeats 2000000 in
theorem cellF_no (A : Option Addr) (c : Nat) (p : List Int) (i : Int) (w : World) (hr : Kd.C (Kd.int .u8) w A 512 p) (hc : 512 ≤ c) (ho : octs p) (hl : p.length = 512) (hg : goodP p = true) (hi : ¬ (0 ≤ i ∧ i < cnt p)) :
    Calls Try.prog 34 #[.slice A 512 c, .int .i64 i] w fun e w' => e = .returned (.tuple #[.slice none 0 0, .int .i64 1]) ∧ Below w.heap.size w w' := by
  by_cases h0 : i < 0
  · have q1 : decide (i < 0) = true := decide_eq_true h0
    have HR := Aside0.mk hr
    have HO := Aside0.mk ho
    have HG := Aside0.mk hg
    have HL := Aside0.mk hl
    clear hr ho hg hl
    go_enter Try.func34, Try.ntmps34
    go_wp2_with fail
    refine (of_good A c p _ HR.out hc HO.out HL.out HG.out).mono ?_
    rintro e w1 ⟨rfl, hb⟩
    have HB := Aside0.mk (below_alloc hb (.cells #[.slice A 512 c] 65))
    have HR1 := Aside0.mk (Kd.C_below HR.out HB.out)
    clear hb
    go_wp2
    go_ret2
    exact ⟨rfl, HB.out⟩
  · have q1 : decide (i < 0) = false := decide_eq_false h0
    have q2 : decide ((cnt p : Int) ≤ i) = true := decide_eq_true (by omega)
    have HR := Aside0.mk hr
    have HO := Aside0.mk ho
    have HG := Aside0.mk hg
    have HL := Aside0.mk hl
    clear hr ho hg hl
    go_enter Try.func34, Try.ntmps34
    go_wp2_with fail
    refine (of_good A c p _ HR.out hc HO.out HL.out HG.out).mono ?_
    rintro e w1 ⟨rfl, hb⟩
    have HB := Aside0.mk (below_alloc hb (.cells #[.slice A 512 c] 65))
    have HR1 := Aside0.mk (Kd.C_below HR.out HB.out)
    clear hb
    go_wp2_with fail
    refine (count5 A c p _ HR1.out hc HO.out HL.out).mono ?_
    rintro e w2 ⟨rfl, hb⟩
    have HB2 := Aside0.mk (below_step HB.out hb)
    clear hb
    go_wp2
    go_ret2
    exact ⟨rfl, HB2.out⟩
set_option maxHeartbeats 2000000 in
theorem cellF_good (A : Option Addr) (c : Nat) (p : List Int) (i : Nat) (w : World) (hr : Kd.C (Kd.int .u8) w A 512 p) (hc : 512 ≤ c) (ho : octs p) (hl : p.length = 512) (hg : goodP p = true) (hi : i < cnt p) (hi2 : 30 + 4 * i ≤ 512) (hfit : frm p i + szP p i ≤ 512) :
    Calls Try.prog 34 #[.slice A 512 c, .int .i64 i] w fun e w' => ∃ g, e = .returned (.tuple #[.slice (some ⟨g, 0, none⟩) (szP p i) (szP p i), .int .i64 0]) ∧ w.heap.size ≤ g ∧ Blk w' 5 g (cellP p i) ∧ Below w.heap.size w w' := by
  have q1 : decide ((i : Int) < 0) = false := decide_eq_false (by omega)
  have q2 : decide ((cnt p : Int) ≤ (i : Int)) = false := decide_eq_false (by omega)
  have HCl := Aside0.mk (cellP_length hl hfit)
  have HR := Aside0.mk hr
  have HO := Aside0.mk ho
  have HG := Aside0.mk hg
  have HL := Aside0.mk hl
  clear hr ho hg hl
  go_enter Try.func34, Try.ntmps34
  go_wp2_with fail
  refine (of_good A c p _ HR.out hc HO.out HL.out HG.out).mono ?_
  rintro e w1 ⟨rfl, hb⟩
  have HB := Aside0.mk (below_alloc hb (.cells #[.slice A 512 c] 65))
  have HR1 := Aside0.mk (Kd.C_below HR.out HB.out)
  clear hb
  go_wp2_with fail
  refine (count5 A c p _ HR1.out hc HO.out HL.out).mono ?_
  rintro e w2 ⟨rfl, hb⟩
  have hc2 := pw_cell_below hb (a := ⟨w1.heap.size, 0, none⟩) (v := .slice A 512 c) (by simp)
  have HB2 := Aside0.mk (below_step HB.out hb)
  have HR2 := Aside0.mk (Kd.C_below HR.out HB2.out)
  clear hb
  go_wp2_with fail
  refine (cell5 A c p _ HR2.out hc HO.out HL.out i hi2 hfit).mono ?_
  rintro e w3 ⟨A', rfl, hA, hAb, hb⟩
  have HB3 := Aside0.mk (below_step HB2.out hb)
  have HA := Aside0.mk (hA _ (Kd.C_below HR.out HB3.out))
  clear hb hA hAb hc2
  go_wp2_with fail
  have h := clone_calls (some A') (szP p i) (cellP p i) w3 (by rw [HCl.out]; exact HA.out) (by rw [HCl.out]; exact Nat.le_refl _) (by rw [HCl.out]; omega) (fun h => by cases h)
  rw [HCl.out] at h
  refine h.mono ?_
  rintro e w4 ⟨g, rfl, hg1, hbk, hb⟩
  have HBk := Aside0.mk hbk
  have HB4 := Aside0.mk (below_step HB3.out hb)
  have HS := Aside0.mk (Nat.le_trans HB3.out.size hg1)
  clear h hbk hb
  go_wp2
  go_ret2
  exact ⟨g, rfl, HS.out, HBk.out, HB4.out⟩
end Go.Proofs.Ytpogneedafoiaaa.Pg
