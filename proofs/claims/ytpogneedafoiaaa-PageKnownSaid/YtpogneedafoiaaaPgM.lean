/- Contracts by hand: awake. -/
import Derived.Test.YtpogneedafoiaaaPgL
namespace Go.Proofs.Ytpogneedafoiaaa.Pg
open Go.RowKit Go.Proofs.YtpogneedafoiaaaW.PrintWords Go.Proofs.YtpogneedafoiaaaW.PrintLast Go.Proofs.YtpogneedafoiaaaW.PrintMore Go.Proofs.Ytpogneedafoiaaa.Bw Go.Proofs.Ytpogneedafoiaaa.Crc Go.Proofs.Ytpogneedafoiaaa.Wordy
set_option linter.unusedVariables false
set_option linter.unusedSimpArgs false

theorem conv_const (w : World) (C : Array Value) (g n c : Nat) (hg : g = w.heap.size) :
    (convert 22 22 (.slice (some ⟨g, 0, none⟩) n c)).run Try.prog (w.alloc (.cells C 5)) = .ok (.slice (some ⟨g, 0, none⟩) n c) (w.alloc (.cells C 5 (C.size, C.size + 1))) := by
  subst hg
  exact Lib.run_convert_bytes_const (P := Try.prog) w 22 5 C n c Try.underlying22 Try.underlying5
/-- A slice over a block that is known whole. -/
theorem C_block {w : World} {g e : Nat} {fz : Nat × Nat} {xs : List Int} (h : w.heap[g]? = some (.cells (nums .u8 xs).toArray e fz)) (hl : xs.length ≤ 9223372036854775807) : Kd.C (Kd.int .u8) w (some ⟨g, 0, none⟩) xs.length xs := by
  refine Kd.C_of_reads (d := (0 : Int)) ⟨rfl, hl, fun _ => ⟨_, rfl, fun j hj => ?_⟩⟩
  have : (⟨g, 0, none⟩ : Addr).add j = ⟨g, j, none⟩ := add_plain g j
  rw [this]
  unfold World.cell?
  simp only [h]
  simp [nums, List.getElem?_eq_getElem hj, List.getD_eq_getElem?_getD]
def q1 : List Int := insertP (newP 1) 0 [97, 98]
set_option maxRecDepth 100000 in
theorem new1_facts : octs (newP 1) ∧ (newP 1).length = 512 ∧ goodP (newP 1) = true ∧ cnt (newP 1) = 0 ∧ freeP (newP 1) = 486 := by
  refine ⟨?_, ?_, ?_, ?_, ?_⟩
  · unfold octs; decide +kernel
  all_goals decide +kernel
set_option maxRecDepth 100000 in
theorem q1_facts : octs q1 ∧ q1.length = 512 ∧ goodP q1 = true ∧ cnt q1 = 1 ∧ frm q1 0 = 510 ∧ szP q1 0 = 2 ∧ cellP q1 0 = [97, 98] := by
  refine ⟨?_, ?_, ?_, ?_, ?_, ?_, ?_⟩
  · unfold octs; decide +kernel
  all_goals decide +kernel
theorem insert_at (A B : Option Addr) (c cc n : Nat) (p l : List Int) (i : Nat) (i' : Int) (w : World) (hi' : i' = (i : Int)) (hn : n = l.length) (hr : Kd.C (Kd.int .u8) w A 512 p) (hc : 512 ≤ c) (ho : octs p) (hl : p.length = 512) (hg : goodP p = true) (hr2 : Kd.C (Kd.int .u8) w B l.length l) (hc2 : l.length ≤ cc) (hi : i ≤ cnt p) (hll : l.length ≤ 140737488351232) (hfree : (l.length : Int) + 4 ≤ freeP p) :
    Calls Try.prog 17 #[.slice A 512 c, .int .i64 i', .slice B n cc] w fun e w' => ∃ g, e = .returned (.tuple #[.slice (some ⟨g, 0, none⟩) 512 512, .int .i64 0]) ∧ w.heap.size ≤ g ∧ Blk w' 5 g (insertP p i l) ∧ Below w.heap.size w w' := by
  subst hi' hn
  exact insert_good A B c cc p l i w hr hc ho hl hg hr2 hc2 hi hll hfree
theorem cell_at (A : Option Addr) (c : Nat) (p : List Int) (i : Nat) (i' : Int) (w : World) (hi' : i' = (i : Int)) (hr : Kd.C (Kd.int .u8) w A 512 p) (hc : 512 ≤ c) (ho : octs p) (hl : p.length = 512) (hg : goodP p = true) (hi : i < cnt p) (hi2 : 30 + 4 * i ≤ 512) (hfit : frm p i + szP p i ≤ 512) :
    Calls Try.prog 34 #[.slice A 512 c, .int .i64 i'] w fun e w' => ∃ g, e = .returned (.tuple #[.slice (some ⟨g, 0, none⟩) (szP p i) (szP p i), .int .i64 0]) ∧ w.heap.size ≤ g ∧ Blk w' 5 g (cellP p i) ∧ Below w.heap.size w w' := by
  subst hi'
  exact cellF_good A c p i w hr hc ho hl hg hi hi2 hfit
set_option maxHeartbeats 4000000 in
theorem awake_x (w : World) : Calls Try.prog 11 #[] w fun e w' => e = .returned (.bool true) ∧ Below w.heap.size w w' := by
  obtain ⟨ho, hl, hg, hcn, hf⟩ := new1_facts
  obtain ⟨ho2, hl2, hg2, hcn2, hf2, hs2, hce2⟩ := q1_facts
  have HO := Aside0.mk ho
  have HL := Aside0.mk hl
  have HG := Aside0.mk hg
  have HCN := Aside0.mk hcn
  have HF := Aside0.mk hf
  have HO2 := Aside0.mk ho2
  have HL2 := Aside0.mk hl2
  have HG2 := Aside0.mk hg2
  have HCN2 := Aside0.mk hcn2
  have HF2 := Aside0.mk hf2
  have HS2 := Aside0.mk hs2
  have HCE2 := Aside0.mk hce2
  clear ho hl hg hcn hf ho2 hl2 hg2 hcn2 hf2 hs2 hce2
  go_enter Try.func11, Try.ntmps11
  go_wp2_with fail
  refine (new_good 1 _ (by decide)).mono ?_
  rintro e w1 ⟨g, rfl, hg1, hbk, hb⟩
  have HBk := Aside0.mk hbk
  have HB := Aside0.mk hb
  clear hbk hb
  have kc := conv_const w1 #[Value.int IntKind.u8 97, Value.int IntKind.u8 98] w1.heap.size 2 2 rfl
  go_wp2_with (first | (simp only [kc]))
  have HBa := Aside0.mk (below_alloc HB.out (.cells #[Value.int IntKind.u8 97, Value.int IntKind.u8 98] 5 (2, 3)))
  refine (insert_at (some ⟨g, 0, none⟩) (some ⟨w1.heap.size, 0, none⟩) 512 2 2 (newP 1) [97, 98] 0 _ _ rfl rfl (blk_rb5 (HBk.out.below (below_alloc (Below.refl _ _) _)) HL.out) (Nat.le_refl _) HO.out HL.out HG.out (C_block (xs := [97, 98]) (heap_new _ _ _ rfl) (by decide)) (Nat.le_refl _) (Nat.zero_le _) (by decide) (by rw [HF.out]; decide)).mono ?_
  rintro e w2 ⟨g2, rfl, hg2, hbk2, hb2⟩
  have HBk2 := Aside0.mk (show Blk w2 5 g2 q1 from hbk2)
  have HB2 := Aside0.mk (below_step HBa.out hb2)
  clear hbk2 hb2
  go_wp2_with fail
  refine (cell_at (some ⟨g2, 0, none⟩) 512 q1 0 _ _ rfl (blk_rb5 HBk2.out HL2.out) (Nat.le_refl _) HO2.out HL2.out HG2.out (by rw [HCN2.out]; decide) (by decide) (by rw [HF2.out, HS2.out]; decide)).mono ?_
  rw [HS2.out, HCE2.out]
  rintro e w3 ⟨g3, rfl, hg3, hbk3, hb3⟩
  have HBk3 := Aside0.mk hbk3
  have HB3 := Aside0.mk (below_step HB2.out hb3)
  clear hbk3 hb3
  have hstr : (convert 22 9 (.slice (some ⟨g3, 0, none⟩) 2 2)).run Try.prog w3 = .ok (.string (strOfNums [97, 98])) w3 := Kd.C_string Try.underlying22 Try.underlying5 Try.underlying9 (HBk3.out.rb (by decide))
  go_wp2_with (first | (simp only [hstr]))
  go_ret
  refine ⟨?_, HB3.out⟩
  show Ending.returned (.bool ((strOfNums [97, 98]).toList == [97, 98])) = _
  rw [show ((strOfNums [97, 98]).toList == [97, 98]) = true by decide +kernel]
end Go.Proofs.Ytpogneedafoiaaa.Pg
