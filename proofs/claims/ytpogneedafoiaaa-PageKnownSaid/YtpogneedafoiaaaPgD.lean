/- Contract by hand: anew. -/
import Derived.Test.YtpogneedafoiaaaPgC
namespace Go.Proofs.Ytpogneedafoiaaa.Pg
open Go.RowKit Go.Proofs.YtpogneedafoiaaaW.PrintWords Go.Proofs.YtpogneedafoiaaaW.PrintLast Go.Proofs.YtpogneedafoiaaaW.PrintMore Go.Proofs.Ytpogneedafoiaaa.Bw Go.Proofs.Ytpogneedafoiaaa.Crc Go.Proofs.Ytpogneedafoiaaa.Wordy
set_option linter.unusedVariables false
set_option linter.unusedSimpArgs false

section
variable (A : Option Addr) (c : Nat) (p : List Int) (w : World) (hr : Kd.C (Kd.int .u8) w A 512 p) (hc : 512 ≤ c) (ho : octs p) (hl : p.length = 512)
include hr hc ho hl
theorem count5 : Calls Try.prog 45 #[.agg #[.slice A 512 c]] w fun e w' => e = .returned (.int .i64 ((cnt p : Nat) : Int)) ∧ Below w.heap.size w w' := by
  have h := count_calls A c p w (by rw [hl]; exact hr) (by omega) ho hl
  rw [hl] at h
  exact h
theorem low5 : Calls Try.prog 46 #[.agg #[.slice A 512 c]] w fun e w' => e = .returned (.int .i64 ((lowP p : Nat) : Int)) ∧ Below w.heap.size w w' := by
  have h := low_calls A c p w (by rw [hl]; exact hr) (by omega) ho hl
  rw [hl] at h
  exact h
theorem slot5 (i : Nat) (hi : 30 + 4 * i ≤ 512) : Calls Try.prog 47 #[.agg #[.slice A 512 c], .int .i64 i] w fun e w' => e = .returned (.tuple #[.int .i64 ((frm p i : Nat) : Int), .int .i64 ((szP p i : Nat) : Int)]) ∧ Below w.heap.size w w' := by
  have h := slot_calls A c p i w (by rw [hl]; exact hr) (by omega) ho hl hi
  rw [hl] at h
  exact h
theorem room5 : Calls Try.prog 52 #[.agg #[.slice A 512 c]] w fun e w' => e = .returned (.int .i64 ((lowP p : Int) - 26 - 4 * (cnt p : Int))) ∧ Below w.heap.size w w' := by
  have h := room_calls A c p w (by rw [hl]; exact hr) (by omega) ho hl
  rw [hl] at h
  exact h
theorem free5 (hn : 26 + 4 * cnt p ≤ 512) : Calls Try.prog 51 #[.agg #[.slice A 512 c]] w fun e w' => e = .returned (.int .i64 (freeP p)) ∧ Below w.heap.size w w' := by
  have h := free_calls A c p w (by rw [hl]; exact hr) (by omega) ho hl hn
  rw [hl] at h
  exact h
theorem cell5 (i : Nat) (hi : 30 + 4 * i ≤ 512) (hfit : frm p i + szP p i ≤ 512) : Calls Try.prog 50 #[.agg #[.slice A 512 c], .int .i64 i] w fun e w' => ∃ A' : Addr, e = .returned (.slice (some A') (szP p i) (szP p i)) ∧ (∀ W, Kd.C (Kd.int .u8) W A 512 p → Kd.C (Kd.int .u8) W (some A') (szP p i) (cellP p i)) ∧ (∀ ad, A = some ad → A'.block = ad.block) ∧ Below w.heap.size w w' := by
  have h := cell_calls A c p i w (by rw [hl]; exact hr) (by omega) ho hl hi hfit
  rw [hl] at h
  exact h
theorem get5 (a s : Int) (ha : 0 ≤ a) (h1 : 1 ≤ s) (h4 : s ≤ 4) (hs : a + s ≤ 512) : Calls Try.prog 62 #[.agg #[.slice A 512 c], .int .i64 a, .int .i64 s] w fun e w' => e = .returned (.int .i64 (gI p a s)) ∧ Below w.heap.size w w' := by
  have h := get_any A c p a s w (by rw [hl]; exact hr) (by omega) ho (by omega) ha h1 h4 (by omega)
  rw [hl] at h
  exact h
theorem good5 : Calls Try.prog 13 #[.slice A 512 c] w fun e w' => e = .returned (.bool (goodP p)) ∧ Below w.heap.size w w' := by
  have h := good_calls A c p w (by rw [hl]; exact hr) (by omega) ho (by omega)
  rw [hl] at h
  exact h
end
theorem blk_rb5 {w : World} {g : Nat} {p : List Int} (h : Blk w 5 g p) (hl : p.length = 512) : Kd.C (Kd.int .u8) w (some ⟨g, 0, none⟩) 512 p := by
  have h := h.rb (by omega)
  unfold Rb at h
  rw [hl] at h
  exact h
theorem own_rb {w : World} {base g e n cap : Nat} {xs : List Int} (h : w.ownsRow base e 1 (.slice (some ⟨g, 0, none⟩) n cap) n (nums .u8 xs)) (hl : n ≤ 9223372036854775807) : Kd.C (Kd.int .u8) w (some ⟨g, 0, none⟩) n xs := by
  have hx : xs.length = n := by have := h.1; simp [nums] at this; exact this
  have h := rb_head h n (Nat.le_refl _) hl
  rwa [List.take_of_length_le (by omega)] at h
theorem own_cap {w : World} {base g e n cap : Nat} {xs : List Value} (h : w.ownsRow base e 1 (.slice (some ⟨g, 0, none⟩) n cap) n xs) : n ≤ cap ∧ cap ≤ 9223372036854775807 := by
  rcases h.2 with ⟨h', _⟩ | ⟨g', cap', cur, h', hb, hg, hnc, hcm, hcs, htake⟩
  · simp at h'
  · simp only [Value.slice.injEq, Option.some.injEq, Addr.mk.injEq, and_true, true_and] at h'
    obtain ⟨rfl, rfl⟩ := h'
    unfold maxLen at hcm
    exact ⟨hnc, hcm⟩
/-- a page that can be laid out anew -/
def Fits (p : List Int) : Prop := 26 + 4 * cnt p + sumSz p (cnt p) ≤ 512 ∧ ∀ i, i < cnt p → frm p i + szP p i ≤ 512
/-- the page behind k rounds; low is 512 less the first k sizes -/
def anK (p : List Int) : Nat → List Int
  | 0 => p
  | k + 1 => over (over (over (anK p k) (512 - sumSz p (k + 1)) (cellP p k)) (26 + 4 * k) (leB ((512 - sumSz p (k + 1) : Nat) : Int) 2)) (28 + 4 * k) (leB ((szP p k : Nat) : Int) 2)
def anewP (p : List Int) : List Int :=
  over (over (anK p (cnt p)) (26 + 4 * cnt p) (List.replicate (512 - sumSz p (cnt p) - (26 + 4 * cnt p)) 0)) 16 (leB ((512 - sumSz p (cnt p) : Nat) : Int) 2)
theorem sumSz_mono (p : List Int) {i k : Nat} (h : i ≤ k) : sumSz p i ≤ sumSz p k := by
  induction k with
  | zero => rw [Nat.le_zero.mp h]; exact Nat.le_refl _
  | succ k ih =>
    rcases Nat.lt_or_eq_of_le h with h1 | h1
    · rw [sumSz]
      have := ih (by omega)
      omega
    · rw [h1]; exact Nat.le_refl _
theorem cellP_length {p : List Int} (hl : p.length = 512) {i : Nat} (h : frm p i + szP p i ≤ 512) : (cellP p i).length = szP p i := by
  unfold cellP
  rw [List.length_take, List.length_drop]
  omega
theorem anK_length {p : List Int} (hl : p.length = 512) (hf : Fits p) : ∀ k, k ≤ cnt p → (anK p k).length = 512 := by
  intro k
  induction k with
  | zero => intro _; exact hl
  | succ k ih =>
    intro hk
    have h1 := hf.1
    have h2 := hf.2 k (by omega)
    have h3 := sumSz_mono p (show k + 1 ≤ cnt p from hk)
    have h4 : sumSz p (k + 1) = sumSz p k + szP p k := rfl
    have h5 := ih (by omega)
    have h6 := cellP_length hl h2
    rw [anK]
    have e1 : (over (anK p k) (512 - sumSz p (k + 1)) (cellP p k)).length = 512 := by rw [over_length _ _ _ (by omega)]; exact h5
    have e2 : (over (over (anK p k) (512 - sumSz p (k + 1)) (cellP p k)) (26 + 4 * k) (leB ((512 - sumSz p (k + 1) : Nat) : Int) 2)).length = 512 := by rw [over_length _ _ _ (by rw [leB_length]; omega)]; exact e1
    rw [over_length _ _ _ (by rw [leB_length]; omega)]
    exact e2
theorem zero5 : (Try.prog.info? 5).bind (·.zero) = some (.int .u8 0) := by kernel_rfl
theorem below_len {p : List Int} (ho : octs p) (hl : p.length = 512) {i : Nat} (h : frm p i + szP p i ≤ 512) : octs (cellP p i) := octs_take (octs_drop ho _) _

set_option maxRecDepth 100000 in
set_option maxHeartbeats 4000000 in
theorem anew_calls (g : Nat) (p : List Int) (w : World) (hb : Blk w 5 g p) (hl : p.length = 512) (ho : octs p) (hf : Fits p) :
    Calls Try.prog 44 #[.agg #[.slice (some ⟨g, 0, none⟩) 512 512]] w fun e w' => e = .returned (.tuple #[]) ∧ Blk w' 5 g (anewP p) ∧ w.grownBy w' (some g) := by
  have HB := Aside0.mk hb
  have HL := Aside0.mk hl
  have HO := Aside0.mk ho
  have HF := Aside0.mk hf
  have hglt := hb.lt
  have b1 : cnt p < 65536 := numAt2_lt ho _
  have hf1 := hf.1
  clear hb hl ho hf
  have HB0 := Aside0.mk (Blk.below HB.out (below_alloc (Below.refl w.heap.size w) (.cells #[.slice (some ⟨g, 0, none⟩) 512 512] 65)))
  have HR0 := Aside0.mk (blk_rb5 HB0.out HL.out)
  go_enter Try.func44, Try.ntmps44
  go_wp2_with (at_builtin; go_loud (refine print_append_row (w0 := (w.alloc (.cells #[.slice (some ⟨g, 0, none⟩) 512 512] 65))) (w.heap.size + 1) rfl _ _ 22 5 .u8 1 rfl Try.underlying22 info5 (by decide) (.slice none 0 0) [] p (some ⟨g, 0, none⟩) 512 512 rfl rfl (own_nil _ _ _ _) (rb_reads HR0.out) (Below.refl _ _) (by simp) (by simp) ?_); intro v1 w1 ho1 hb1 hg1 hn1; rw [List.nil_append] at ho1; obtain ⟨go, co, e1, hgo1, hgo2⟩ := ho1.form (by have := HL.out; omega); rw [HL.out] at e1 ho1; subst e1; clear hg1 hn1; have hcb := (Below.cell hb1 (p := ⟨w.heap.size, 0, none⟩) (by simp)).trans (show (w.alloc (.cells #[.slice (some ⟨g, 0, none⟩) 512 512] 65)).cell? ⟨w.heap.size, 0, none⟩ = some (.slice (some ⟨g, 0, none⟩) 512 512) by simp); go_loud (have hs1 : w.heap.size + 1 ≤ w1.heap.size := by (have := hb1.size; simpa using this)); go_loud (have hcb1 := (World.cell?_of_block (w := w1) (w' := w1.alloc (.cells #[.slice (some ⟨go, 0, none⟩) 512 co] 65)) (a := ⟨w.heap.size, 0, none⟩) (Below.heap_alloc w1 _ _ (by show w.heap.size < w1.heap.size; omega))).trans hcb))
  have HO1 := Aside0.mk (own_alloc ho1 (.cells #[.slice (some ⟨go, 0, none⟩) 512 co] 65))
  obtain ⟨hco, hco2⟩ := own_cap ho1
  have HG1 := Aside0.mk (grown_trans (grown_trans (grown_below (below_alloc (Below.refl w.heap.size w) (.cells #[.slice (some ⟨g, 0, none⟩) 512 512] 65)) (some g)) (grown_below (hb1.mono (by simp)) (some g))) (grown_below (below_alloc (Below.refl w1.heap.size w1) (.cells #[.slice (some ⟨go, 0, none⟩) 512 co] 65)) (some g)))
  have HBp := Aside0.mk (Blk.below (Blk.below HB0.out (hb1.mono (by simp))) (below_alloc (Below.refl w1.heap.size w1) (.cells #[.slice (some ⟨go, 0, none⟩) 512 co] 65)))
  have hcb2 : (w1.alloc (.cells #[.slice (some ⟨go, 0, none⟩) 512 co] 65)).cell? ⟨w1.heap.size, 0, none⟩ = some (.slice (some ⟨go, 0, none⟩) 512 co) := by simp
  generalize hw2 : w1.alloc (.cells #[.slice (some ⟨go, 0, none⟩) 512 co] 65) = w2 at *
  have HOr := Aside0.mk (own_rb HO1.out (by decide))
  have hgo : g ≠ go := by omega
  clear hw2 ho1 hcb hb1 HO1
  refine (count5 (some ⟨g, 0, none⟩) 512 p _ (blk_rb5 HBp.out HL.out) (Nat.le_refl _) HO.out HL.out).mono ?_
  rintro e w3 ⟨rfl, hb⟩
  have hcb1' := pw_cell_below hb hcb1
  have hcb2' := pw_cell_below hb hcb2
  have HC1 := Aside0.mk hcb1'
  have HC2 := Aside0.mk hcb2'
  have HBp3 := Aside0.mk (HBp.out.below hb)
  have HOr3 := Aside0.mk (Kd.C_below HOr.out hb)
  have HG3 := Aside0.mk (grown_trans HG1.out (grown_below hb (some g)))
  clear hb hcb1 hcb2 hcb1' hcb2' HBp HOr HG1
  have hn1 : w1.heap.size ≠ g := by omega
  have hn2 : w.heap.size ≠ g := by omega
  have hn3 : w1.heap.size ≠ g := by omega
  go_wp2_with fail
  go_loopg [3, 14] (cnt p) (fun d v3 v14 wr => ∃ k lo : Nat, v14 = .int .i64 k ∧ v3 = .int .i64 lo ∧ Aside0 (lo + sumSz p k = 512) ∧ Aside0 (k + d = cnt p) ∧ Aside0 (wr.cell? ⟨w.heap.size, 0, none⟩ = some (.slice (some ⟨g, 0, none⟩) 512 512)) ∧ Aside0 (wr.cell? ⟨w1.heap.size, 0, none⟩ = some (.slice (some ⟨go, 0, none⟩) 512 co)) ∧ Aside0 (Blk wr 5 g (anK p k)) ∧ Aside0 (Kd.C (Kd.int .u8) wr (some ⟨go, 0, none⟩) 512 p) ∧ Aside0 (w.grownBy wr (some g)))
  case atStart => exact ⟨0, 512, rfl, rfl, ⟨rfl⟩, ⟨by omega⟩, HC1, HC2, HBp3, HOr3, HG3⟩
  case round =>
    clear HC1 HC2 HBp3 HOr3 HG3
    obtain ⟨k, lo, rfl, rfl, HLo, HK, HC1, HC2, HBp, HOr, HG⟩ := hrel
    have hk := HK.out
    have hsm := sumSz_mono p (show k ≤ cnt p by omega)
    by_cases hlt : k < cnt p
    · obtain ⟨d, rfl⟩ : ∃ d, gk = d + 1 := ⟨gk - 1, by omega⟩
      have hc1 := HC1.out
      have hc2 := HC2.out
      have hfit := HF.out.2 k hlt
      have hss : sumSz p (k + 1) = sumSz p k + szP p k := rfl
      have hsm2 := sumSz_mono p (show k + 1 ≤ cnt p by omega)
      have HSS := Aside0.mk hss
      clear hss
      obtain ⟨l2, rfl⟩ : ∃ l2, lo = l2 + szP p k := ⟨lo - szP p k, by have := HSS.out; have := HLo.out; omega⟩
      have hq : l2 + szP p k ≤ 512 := by have := HLo.out; omega
      go_wp2_with fail
      refine (cell5 (some ⟨go, 0, none⟩) co p _ HOr.out hco HO.out HL.out k (by omega) hfit).mono ?_
      rintro e w4 ⟨A', rfl, hA, hAb, hb⟩
      have HA := Aside0.mk (hA w4 (Kd.C_below HOr.out hb))
      have HAg := Aside0.mk (hAb _ rfl)
      have hc1' := pw_cell_below hb hc1
      have hc2' := pw_cell_below hb hc2
      have HC2' := Aside0.mk hc2'
      have HBp4 := Aside0.mk (HBp.out.below hb)
      have HOr4 := Aside0.mk (Kd.C_below HOr.out hb)
      have HG4 := Aside0.mk (grown_trans HG.out (grown_below hb (some g)))
      clear hb hc1 hc2 hc2' HC1 HC2 HBp HOr HG hA hAb
      have HCl := Aside0.mk (cellP_length HL.out hfit)
      have HAl := Aside0.mk (anK_length HL.out HF.out k (by omega))
      by_cases h5 : l2 = 512
      · have hq5 : (512 = l2) = True := eq_true (by omega)
        have hq6 : Nat.min (szP p k) (512 - l2) = 0 := by rw [h5]; exact Nat.min_zero _
        have H5 := Aside0.mk h5
        clear h5
        go_wp2_with ((with_reducible refine gate_builtin (b := .copy) (xs := #[.tmp 27, .tmp 28]) rfl ?_); go_loud (refine wl_copy rfl (.tmp 27) (.tmp 28) 22 22 5 rfl Try.underlying22 size5 g 0 (512 - l2) (512 - l2) (szP p k) (szP p k) (some A') (anK p k) (cellP p k) rfl rfl HBp4.out HA.out (by rw [hq6]; omega) ?_); intro w5 hb5 hg5; have hc5 := cell_grown' hg5 hc1' (by simp; omega))
        have HBo : Aside0 (Blk w5 5 g (over (anK p k) l2 (cellP p k))) := by
          have hz : szP p k = 0 := by have := H5.out; omega
          have hcn : cellP p k = [] := List.eq_nil_of_length_eq_zero (by rw [HCl.out, hz])
          constructor
          unfold over
          rw [hcn, List.nil_append, List.length_nil, Nat.add_zero, List.take_append_drop]
          rw [hcn, show Nat.min (szP p k) (512 - l2) = 0 by rw [H5.out]; exact Nat.min_zero _] at hb5
          simpa using hb5
        have HG5' := Aside0.mk hg5
        have HG5 := Aside0.mk (grown_trans HG4.out hg5)
        clear hb5 hg5 hq5 hq6
        refine (setSlot_calls g _ k l2 (szP p k) _ HBo.out (by rw [over_length _ _ _ (by have := HCl.out; have := HAl.out; omega)]; exact HAl.out) (by omega) (by omega) (by omega)).mono ?_
        rintro e w6 ⟨rfl, hb6, hg6⟩
        have HB6 := Aside0.mk hb6
        have HG6 := Aside0.mk (grown_trans HG5.out hg6)
        have HC6 := Aside0.mk (cell_grown' hg6 hc5 (by simp; omega))
        have HC6' := Aside0.mk (cell_grown' hg6 (cell_grown' HG5'.out HC2'.out (by simp; omega)) (by simp; omega))
        have HO6 := Aside0.mk (rb_grown (rb_grown HOr4.out HG5'.out (by rintro ad h _; cases h; simp; omega)) hg6 (by rintro ad h _; cases h; simp; omega))
        clear hb6 hg6 hc5 hc1'
        go_wp2
        go_roundg d
        case measure => omega
        case rel => exact ⟨k + 1, l2, by go_num, rfl, ⟨by have := HSS.out; have := HLo.out; omega⟩, ⟨by have := HK.out; omega⟩, HC6, HC6', ⟨by rw [anK, show 512 - sumSz p (k + 1) = l2 by have := HSS.out; have := HLo.out; omega]; exact HB6.out⟩, HO6, HG6⟩
      · have hq5 : ¬ 512 = l2 := by omega
        have hq6 : Nat.min (szP p k) (512 - l2) = szP p k := Nat.min_eq_left (by omega)
        go_wp2_with ((with_reducible refine gate_builtin (b := .copy) (xs := #[.tmp 27, .tmp 28]) rfl ?_); go_loud (refine wl_copy rfl (.tmp 27) (.tmp 28) 22 22 5 rfl Try.underlying22 size5 g l2 (512 - l2) (512 - l2) (szP p k) (szP p k) (some A') (anK p k) (cellP p k) rfl rfl HBp4.out HA.out (by rw [hq6]; have := HAl.out; omega) ?_); intro w5 hb5 hg5; have hc5 := cell_grown' hg5 hc1' (by simp; omega))
        have HBo : Aside0 (Blk w5 5 g (over (anK p k) l2 (cellP p k))) := by
          constructor
          unfold over
          have ht : (cellP p k).take (512 - l2) = cellP p k := List.take_of_length_le (by rw [HCl.out]; omega)
          rw [hq6, ht] at hb5
          rw [HCl.out]
          exact hb5
        have HG5' := Aside0.mk hg5
        have HG5 := Aside0.mk (grown_trans HG4.out hg5)
        clear hb5 hg5 hq5 hq6 h5
        refine (setSlot_calls g _ k l2 (szP p k) _ HBo.out (by rw [over_length _ _ _ (by have := HCl.out; have := HAl.out; omega)]; exact HAl.out) (by omega) (by omega) (by omega)).mono ?_
        rintro e w6 ⟨rfl, hb6, hg6⟩
        have HB6 := Aside0.mk hb6
        have HG6 := Aside0.mk (grown_trans HG5.out hg6)
        have HC6 := Aside0.mk (cell_grown' hg6 hc5 (by simp; omega))
        have HC6' := Aside0.mk (cell_grown' hg6 (cell_grown' HG5'.out HC2'.out (by simp; omega)) (by simp; omega))
        have HO6 := Aside0.mk (rb_grown (rb_grown HOr4.out HG5'.out (by rintro ad h _; cases h; simp; omega)) hg6 (by rintro ad h _; cases h; simp; omega))
        clear hb6 hg6 hc5 hc1'
        go_wp2
        go_roundg d
        case measure => omega
        case rel => exact ⟨k + 1, l2, by go_num, rfl, ⟨by have := HSS.out; have := HLo.out; omega⟩, ⟨by have := HK.out; omega⟩, HC6, HC6', ⟨by rw [anK, show 512 - sumSz p (k + 1) = l2 by have := HSS.out; have := HLo.out; omega]; exact HB6.out⟩, HO6, HG6⟩
    · obtain rfl : k = cnt p := by omega
      have hc1 := HC1.out
      have hne : ¬ (512 = 26 + 4 * cnt p) := by omega
      have hlo : 26 + 4 * cnt p ≤ lo := by have := HLo.out; omega
      have hlo2 : lo ≤ 512 := by have := HLo.out; omega
      have HAl := Aside0.mk (anK_length HL.out HF.out (cnt p) (Nat.le_refl _))
      clear hsm hlt hk
      go_wp2_with ((with_reducible refine gate_builtin (b := .clear) (xs := #[.tmp 43]) rfl ?_); go_loud (refine wl_clear rfl (.tmp 43) 22 5 rfl Try.underlying22 zero5 g (26 + 4 * cnt p) (lo - (26 + 4 * cnt p)) (512 - (26 + 4 * cnt p)) (anK p (cnt p)) rfl HBp.out (by have := HAl.out; omega) ?_); intro w5 hb5 hg5; have hc5 := cell_grown' hg5 hc1 (by simp; omega))
      have HB5 : Aside0 (Blk w5 5 g (over (anK p (cnt p)) (26 + 4 * cnt p) (List.replicate (512 - sumSz p (cnt p) - (26 + 4 * cnt p)) 0))) := by
        constructor
        unfold over
        rw [List.length_replicate, show 512 - sumSz p (cnt p) = lo by have := HLo.out; omega]
        exact hb5
      have HG5 := Aside0.mk (grown_trans HG.out hg5)
      clear hb5 hg5 hc5 hc1
      refine (put_at g _ 16 2 _ _ _ _ rfl rfl HB5.out (by rw [over_length _ _ _ (by rw [List.length_replicate]; have := HAl.out; omega)]; exact HAl.out) (by decide) (by decide) (by omega) (by omega)).mono ?_
      rintro e w6 ⟨rfl, hb6, hg6⟩
      have HB6 := Aside0.mk hb6
      have HG6 := Aside0.mk (grown_trans HG5.out hg6)
      clear hb6 hg6
      go_wp2
      go_end0
      refine ⟨rfl, ?_, HG6.out⟩
      unfold anewP
      have e := HB6.out
      rw [show (lo : Int) = ((512 - sumSz p (cnt p) : Nat) : Int) by have := HLo.out; omega] at e
      exact e
end Go.Proofs.Ytpogneedafoiaaa.Pg
