/- Plain: pages that agree but for their sum, LSN, link and extra. -/
import Derived.Test.YtpogneedafoiaaaPgQ
import Derived.Test.YtpogneedafoiaaaPgS
namespace Go.Proofs.Ytpogneedafoiaaa.Pg
open Go.RowKit Go.Proofs.YtpogneedafoiaaaW.PrintWords Go.Proofs.Ytpogneedafoiaaa.Bw Go.Proofs.Ytpogneedafoiaaa.Crc Go.Proofs.Ytpogneedafoiaaa.Wordy
set_option linter.unusedVariables false
set_option linter.unusedSimpArgs false

def Agree (p q : List Int) : Prop := p.length = 512 ∧ q.length = 512 ∧ ∀ j, (12 ≤ j ∧ j < 18 ∨ 26 ≤ j ∧ j < 512) → p.getD j 0 = q.getD j 0
theorem Agree.trans {p q r : List Int} (h : Agree p q) (k : Agree q r) : Agree p r := ⟨h.1, k.2.1, fun j hj => (h.2.2 j hj).trans (k.2.2 j hj)⟩
theorem Agree.cut {p q : List Int} (h : Agree p q) {b s : Nat} (hb : 12 ≤ b ∧ b + s ≤ 18 ∨ 26 ≤ b ∧ b + s ≤ 512) : (p.drop b).take s = (q.drop b).take s :=
  cut_congr (by have := h.1; omega) (by have := h.2.1; omega) (fun j hj => h.2.2 (b + j) (by omega))
theorem Agree.num {p q : List Int} (h : Agree p q) {b s : Nat} (hb : 12 ≤ b ∧ b + s ≤ 18 ∨ 26 ≤ b ∧ b + s ≤ 512) : numAt p b s = numAt q b s := by
  unfold numAt
  rw [h.cut hb]
theorem Agree.cnt {p q : List Int} (h : Agree p q) : cnt p = cnt q := h.num (by omega)
theorem Agree.low {p q : List Int} (h : Agree p q) : lowP p = lowP q := h.num (by omega)
theorem Agree.frm {p q : List Int} (h : Agree p q) {i : Nat} (hi : 30 + 4 * i ≤ 512) : frm p i = frm q i := h.num (by omega)
theorem Agree.sz {p q : List Int} (h : Agree p q) {i : Nat} (hi : 30 + 4 * i ≤ 512) : szP p i = szP q i := h.num (by omega)
theorem Agree.chk {p q : List Int} (h : Agree p q) : ∀ (d i : Nat) (T : List Bool), 26 + 4 * (i + d) ≤ 512 → chkB p T i d = chkB q T i d := by
  intro d
  induction d with
  | zero => intro i T _; rfl
  | succ d ih =>
    intro i T hi
    simp only [chkB, h.frm (show 30 + 4 * i ≤ 512 by omega), h.sz (show 30 + 4 * i ≤ 512 by omega), h.low]
    rw [show (fun T' => chkB p T' (i + 1) d) = (fun T' => chkB q T' (i + 1) d) from funext fun T' => ih (i + 1) T' (by omega)]
theorem Agree.good {p q : List Int} (h : Agree p q) : goodP p = goodP q := by
  have e13 := h.2.2 13 (by omega)
  unfold goodP
  rw [h.1, h.2.1, h.cnt, h.low, e13]
  simp only [if_true]
  by_cases h1 : q.getD 13 0 = 0
  · rw [if_pos h1, if_pos h1]
    by_cases h2 : 26 + 4 * Pg.cnt q ≤ lowP q ∧ lowP q ≤ 512
    · rw [if_pos h2, if_pos h2, h.chk _ _ _ (by omega)]
    · rw [if_neg h2, if_neg h2]
  · rw [if_neg h1, if_neg h1]
def cellsP (p : List Int) : List (List Int) := (List.range (cnt p)).map (cellP p)
theorem cellsP_length (p : List Int) : (cellsP p).length = cnt p := by unfold cellsP; rw [List.length_map, List.length_range]
theorem Agree.cells {p q : List Int} (h : Agree p q) (hg : goodP p = true) : cellsP p = cellsP q := by
  obtain ⟨h1, h2, h3, h4, h5, h6⟩ := good_facts hg
  unfold cellsP
  rw [← h.cnt]
  refine List.map_congr_left (fun i hi => ?_)
  have hi := List.mem_range.mp hi
  have h7 := h6 i hi
  unfold cellP
  rw [← h.frm (by omega), ← h.sz (by omega)]
  exact h.cut (by omega)
theorem agree_over {p : List Int} (hl : p.length = 512) {a : Nat} {l : List Int} (h : a + l.length ≤ 12 ∨ 18 ≤ a ∧ a + l.length ≤ 26) : Agree p (over p a l) := by
  refine ⟨hl, over_len hl (by omega), fun j hj => ?_⟩
  rw [over_getD _ _ _ (by omega), if_neg (by omega)]
theorem agree_set {p : List Int} (hl : p.length = 512) (x y : Int) : Agree p (setP p x y) := by
  have h1 : Agree p (over p 18 (leB x 4)) := agree_over hl (by rw [leB_length]; omega)
  exact h1.trans (agree_over h1.2.1 (by rw [leB_length]; omega))
theorem agree_seal {p : List Int} (hl : p.length = 512) (lsn : Int) : Agree p (sealP p lsn) := by
  have h1 : Agree p (sealB p lsn) := agree_over hl (by rw [leB_length]; omega)
  exact h1.trans (agree_over h1.2.1 (by rw [leB_length]; omega))
theorem setP_len {p : List Int} (hl : p.length = 512) (x y : Int) : (setP p x y).length = 512 := (agree_set hl x y).2.1
theorem setP_octs {p : List Int} (ho : octs p) (x y : Int) : octs (setP p x y) := over_octs (over_octs ho _ (leB_octs _ _)) _ (leB_octs _ _)
theorem setP_link {p : List Int} (hl : p.length = 512) (x : Nat) (y : Int) (hx : x < 4294967296) : numAt (setP p (x : Int) y) 18 4 = x := by
  have h32 : (2 : Nat) ^ (8 * 4) = 4294967296 := by decide
  unfold setP
  rw [numAt_over_ne (by rw [leB_length, over_len hl (by rw [leB_length]; decide)]; decide) (by rw [over_len hl (by rw [leB_length]; decide)]; decide) (by omega)]
  exact numAt_over_leB (by rw [hl]; decide) (by rw [h32]; exact hx)
theorem setP_extra {p : List Int} (hl : p.length = 512) (x : Int) (y : Nat) (hy : y < 4294967296) : numAt (setP p x (y : Int)) 22 4 = y := by
  have h32 : (2 : Nat) ^ (8 * 4) = 4294967296 := by decide
  unfold setP
  exact numAt_over_leB (by rw [over_len hl (by rw [leB_length]; decide)]; decide) (by rw [h32]; exact hy)
theorem setP_lsn {p : List Int} (hl : p.length = 512) (x y : Int) : numAt (setP p x y) 4 8 = numAt p 4 8 := by
  unfold setP
  rw [numAt_over_ne (by rw [leB_length, over_len hl (by rw [leB_length]; decide)]; decide) (by rw [over_len hl (by rw [leB_length]; decide)]; decide) (by omega), numAt_over_ne (by rw [leB_length, hl]; decide) (by rw [hl]; decide) (by omega)]
theorem sealP_num {p : List Int} (hl : p.length = 512) (lsn : Int) {b s : Nat} (hb : 12 ≤ b) (hs : b + s ≤ 512) : numAt (sealP p lsn) b s = numAt p b s := numAt_tail (sealP_tail hl lsn) s hb
theorem octs_cells {p : List Int} (ho : octs p) : octsL (cellsP p) := by
  intro l hl
  unfold cellsP at hl
  obtain ⟨i, _, rfl⟩ := List.mem_map.mp hl
  exact octs_take (octs_drop ho _) _
theorem agree_kind {p q : List Int} (h : Agree p q) : p.getD 12 0 = q.getD 12 0 := h.2.2 12 (by omega)
end Go.Proofs.Ytpogneedafoiaaa.Pg
