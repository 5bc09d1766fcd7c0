/- Contracts by hand: of, copied. -/
import Derived.Test.YtpogneedafoiaaaPgD
namespace Go.Proofs.Ytpogneedafoiaaa.Pg
open Go.RowKit Go.Proofs.YtpogneedafoiaaaW.PrintWords Go.Proofs.YtpogneedafoiaaaW.PrintLast Go.Proofs.YtpogneedafoiaaaW.PrintMore Go.Proofs.Ytpogneedafoiaaa.Bw Go.Proofs.Ytpogneedafoiaaa.Crc Go.Proofs.Ytpogneedafoiaaa.Wordy
set_option linter.unusedVariables false
set_option linter.unusedSimpArgs false

theorem goodP_len {p : List Int} (h : goodP p = true) : p.length = 512 := by
  unfold goodP at h
  by_cases h1 : p.length = 512
  · exact h1
  · rw [if_neg h1] at h; cases h
set_option maxHeartbeats 2000000 in
theorem of_bad (A : Option Addr) (c : Nat) (p : List Int) (w : World) (hr : Kd.C (Kd.int .u8) w A p.length p) (hc : p.length ≤ c) (ho : octs p) (hl : p.length ≤ 140737488351232) (hg : goodP p = false) :
    Calls Try.prog 48 #[.slice A p.length c] w fun e w' => e = .returned (.tuple #[.agg #[.slice none 0 0], .int .i64 4]) ∧ Below w.heap.size w w' := by
  have HR := Aside0.mk hr
  have HO := Aside0.mk ho
  have HG := Aside0.mk hg
  clear hr ho hg
  go_enter Try.func48, Try.ntmps48
  go_wp2_with fail
  have h := good_calls A c p (w.alloc (.cells #[.slice none 0 0] 65)) (Kd.C_alloc HR.out _) hc HO.out hl
  rw [HG.out] at h
  refine h.mono ?_
  rintro e w1 ⟨rfl, hb⟩
  have hc1 := pw_cell_below hb (a := ⟨w.heap.size, 0, none⟩) (v := .slice none 0 0) (by simp)
  have hf1 : w1.frozen? ⟨w.heap.size, 0, none⟩ = false := (Below.frozen hb (p := ⟨w.heap.size, 0, none⟩) (by simp)).trans (by simp)
  have HB := Aside0.mk (below_step (below_alloc (Below.refl w.heap.size w) (.cells #[.slice none 0 0] 65)) hb)
  clear h hb
  go_wp2
  exact bodyPost_ret (v := .tuple #[.agg #[.slice none 0 0], .int .i64 4]) (by simp [results, Try.results48, go_sem, hc1]) rfl ⟨rfl, HB.out.setCell (Nat.le_refl _) _⟩
set_option maxHeartbeats 2000000 in
theorem of_good (A : Option Addr) (c : Nat) (p : List Int) (w : World) (hr : Kd.C (Kd.int .u8) w A 512 p) (hc : 512 ≤ c) (ho : octs p) (hl : p.length = 512) (hg : goodP p = true) :
    Calls Try.prog 48 #[.slice A 512 c] w fun e w' => e = .returned (.tuple #[.agg #[.slice A 512 c], .int .i64 0]) ∧ Below w.heap.size w w' := by
  have HR := Aside0.mk hr
  have HO := Aside0.mk ho
  have HG := Aside0.mk hg
  have HL := Aside0.mk hl
  clear hr ho hg hl
  go_enter Try.func48, Try.ntmps48
  go_wp2_with fail
  have h := good5 A c p (w.alloc (.cells #[.slice none 0 0] 65)) (Kd.C_alloc HR.out _) hc HO.out HL.out
  rw [HG.out] at h
  refine h.mono ?_
  rintro e w1 ⟨rfl, hb⟩
  have hc1 := pw_cell_below hb (a := ⟨w.heap.size, 0, none⟩) (v := .slice none 0 0) (by simp)
  have hf1 : w1.frozen? ⟨w.heap.size, 0, none⟩ = false := (Below.frozen hb (p := ⟨w.heap.size, 0, none⟩) (by simp)).trans (by simp)
  have HB := Aside0.mk (below_step (below_alloc (Below.refl w.heap.size w) (.cells #[.slice none 0 0] 65)) hb)
  clear h hb
  go_wp2
  exact bodyPost_ret (v := .tuple #[.agg #[.slice A 512 c], .int .i64 0]) (by simp [results, Try.results48, go_sem, hc1]) rfl ⟨rfl, HB.out.setCell (Nat.le_refl _) _⟩
theorem hmk512 (w : World) : (Instr.makeSlice 22 (.int .i64 0) (.int .i64 512)).run Try.prog w = .ok (.slice (some ⟨w.heap.size, 0, none⟩) 0 512) (w.alloc (.cells (madeCells #[.int .u8 0] 512) 5)) := hmk 512 (by decide) w
set_option maxHeartbeats 2000000 in
theorem copied_bad (A : Option Addr) (c : Nat) (p : List Int) (w : World) (hr : Kd.C (Kd.int .u8) w A p.length p) (hc : p.length ≤ c) (ho : octs p) (hl : p.length ≤ 140737488351232) (hg : goodP p = false) :
    Calls Try.prog 43 #[.slice A p.length c] w fun e w' => e = .returned (.tuple #[.agg #[.slice none 0 0], .int .i64 4]) ∧ Below w.heap.size w w' := by
  have HR := Aside0.mk hr
  have HO := Aside0.mk ho
  have HG := Aside0.mk hg
  clear hr ho hg
  go_enter Try.func43, Try.ntmps43
  go_wp2_with fail
  refine (of_bad A c p (w.alloc (.cells #[.slice none 0 0] 65)) (Kd.C_alloc HR.out _) hc HO.out hl HG.out).mono ?_
  rintro e w1 ⟨rfl, hb⟩
  have hc1 := pw_cell_below hb (a := ⟨w.heap.size, 0, none⟩) (v := .slice none 0 0) (by simp)
  have hf1 : w1.frozen? ⟨w.heap.size, 0, none⟩ = false := (Below.frozen hb (p := ⟨w.heap.size, 0, none⟩) (by simp)).trans (by simp)
  have hs1 : w.heap.size < w1.heap.size := by have := hb.size; simp at this; omega
  have HB := Aside0.mk (below_step (below_alloc (Below.refl w.heap.size w) (.cells #[.slice none 0 0] 65)) hb)
  clear hb
  go_wp2
  exact bodyPost_ret (v := .tuple #[.agg #[.slice none 0 0], .int .i64 4]) (by simp [results, Try.results43, go_sem, hc1, hs1]) rfl ⟨rfl, below_alloc (HB.out.setCell (Nat.le_refl _) _) _⟩
theorem cell_old {W : World} {a : Addr} {v : Value} (h : W.cell? a = some v) (o : Obj) : (W.alloc o).cell? a = some v := (World.cell?_alloc_lt _ _ _ (World.block_lt_of_cell? W a h)).trans h
theorem frozen_old {W : World} {a : Addr} (hlt : a.block < W.heap.size) (o : Obj) : (W.alloc o).frozen? a = W.frozen? a := World.frozen?_of_block (w := W) (Below.heap_alloc W o a.block hlt)
theorem frozen_grown' {W w1 : World} {row : Option Nat} (hg : W.grownBy w1 row) {a : Addr} (hlt : a.block < W.heap.size) (hne : some a.block ≠ row) : w1.frozen? a = W.frozen? a :=
  World.frozen?_of_block (w := W) (hg.block a.block hlt hne)
set_option maxHeartbeats 2000000 in
theorem copied_good (A : Option Addr) (c : Nat) (p : List Int) (w : World) (hr : Kd.C (Kd.int .u8) w A 512 p) (hc : 512 ≤ c) (ho : octs p) (hl : p.length = 512) (hg : goodP p = true) :
    Calls Try.prog 43 #[.slice A 512 c] w fun e w' => ∃ g, e = .returned (.tuple #[.agg #[.slice (some ⟨g, 0, none⟩) 512 512], .int .i64 0]) ∧ w.heap.size ≤ g ∧ Blk w' 5 g p ∧ Below w.heap.size w w' := by
  obtain ⟨ad, rfl⟩ := rb_some hr (by decide)
  have HR := Aside0.mk hr
  have HO := Aside0.mk ho
  have HG := Aside0.mk hg
  have HL := Aside0.mk hl
  clear hr ho hg hl
  have hmk' := hmk512
  go_enter Try.func43, Try.ntmps43
  go_wp2_with fail
  refine (of_good (some ad) c p (w.alloc (.cells #[.slice none 0 0] 65)) (Kd.C_alloc HR.out _) hc HO.out HL.out HG.out).mono ?_
  rintro e w1 ⟨rfl, hb⟩
  have hc1 := pw_cell_below hb (a := ⟨w.heap.size, 0, none⟩) (v := .slice none 0 0) (by simp)
  have hf1 : w1.frozen? ⟨w.heap.size, 0, none⟩ = false := (Below.frozen hb (p := ⟨w.heap.size, 0, none⟩) (by simp)).trans (by simp)
  have hs1 : w.heap.size < w1.heap.size := by have := hb.size; simp at this; omega
  have HB := Aside0.mk (below_step (below_alloc (Below.refl w.heap.size w) (.cells #[.slice none 0 0] 65)) hb)
  have HR1 := Aside0.mk (Kd.C_below HR.out HB.out)
  clear hb
  go_wp2_with fail
  have hca : (w1.alloc (.cells #[.slice (some ad) 512 c] 65)).cell? ⟨w1.heap.size, 0, none⟩ = some (.slice (some ad) 512 c) := by simp
  have hcr : (w1.alloc (.cells #[.slice (some ad) 512 c] 65)).cell? ⟨w.heap.size, 0, none⟩ = some (.slice none 0 0) := cell_old hc1 _
  have hfr : (w1.alloc (.cells #[.slice (some ad) 512 c] 65)).frozen? ⟨w.heap.size, 0, none⟩ = false := (frozen_old (by show w.heap.size < w1.heap.size; omega) _).trans hf1
  have HRz := Aside0.mk (Kd.C_alloc HR1.out (.cells #[.slice (some ad) 512 c] 65))
  have HBz := Aside0.mk (below_alloc HB.out (.cells #[.slice (some ad) 512 c] 65))
  have hsz : (w1.alloc (.cells #[.slice (some ad) 512 c] 65)).heap.size = w1.heap.size + 1 := by simp
  have hs2 : w.heap.size < (w1.alloc (.cells #[.slice (some ad) 512 c] 65)).heap.size := by rw [hsz]; omega
  have hs3 : w1.heap.size < (w1.alloc (.cells #[.slice (some ad) 512 c] 65)).heap.size := by rw [hsz]; omega
  generalize w1.alloc (.cells #[.slice (some ad) 512 c] 65) = wz at *
  clear hc1 hf1 hsz
  have F1 := Aside0.mk (show (wz.drew.alloc (.cells (madeCells #[.int .u8 0] 512) 5)).cell? ⟨w.heap.size, 0, none⟩ = some (.slice none 0 0) from cell_old (W := wz.drew) hcr _)
  have F2 := Aside0.mk (show (wz.drew.alloc (.cells (madeCells #[.int .u8 0] 512) 5)).frozen? ⟨w.heap.size, 0, none⟩ = false from (frozen_old (W := wz.drew) (by show w.heap.size < wz.heap.size; omega) _).trans hfr)
  have F3 := Aside0.mk (show (wz.drew.alloc (.cells (madeCells #[.int .u8 0] 512) 5)).cell? ⟨w1.heap.size, 0, none⟩ = some (.slice (some ad) 512 c) from cell_old (W := wz.drew) hca _)
  have F4 := Aside0.mk (show (wz.drew.alloc (.cells (madeCells #[.int .u8 0] 512) 5)).heap.size = wz.heap.size + 1 by simp)
  go_region_law (refine st_clone rfl (.tmp 18) (.tmp 20) 22 5 rfl Try.underlying22 info5 wz.heap.size 512 c ad p rfl rfl (heap_new wz.drew _ _ rfl) (Kd.C_alloc (Kd.C_drew HRz.out) _) (by decide) ?_; intro w5 hb5 hg5; have hc5 := cell_grown' hg5 F1.out (by simp; omega); have hf5 : w5.frozen? ⟨w.heap.size, 0, none⟩ = false := (frozen_grown' hg5 (by have := F4.out; show w.heap.size < (wz.drew.alloc (.cells (madeCells #[.int .u8 0] 512) 5)).heap.size; omega) (by simp; omega)).trans F2.out; have hc6 := cell_grown' hg5 F3.out (by simp; omega))
  all_goals
    have HB5 := Aside0.mk hb5
    have HG5 := Aside0.mk hg5
    clear hb5 hg5
    go_wp2
    refine bodyPost_ret (v := .tuple #[.agg #[.slice (some ⟨wz.heap.size, 0, none⟩) 512 512], .int .i64 0]) (by simp [results, Try.results43, go_sem, hc5]) rfl ⟨wz.heap.size, rfl, by omega, ?_, ?_⟩
    · exact (Below.heap_setCell _ _ _ _ (by simp; omega)).trans HB5.out
    · exact (below_of_grown_new (below_alloc (show Below w.heap.size w wz.drew from HBz.out.drew) _) HG5.out (by omega)).setCell (Nat.le_refl _) _
end Go.Proofs.Ytpogneedafoiaaa.Pg
