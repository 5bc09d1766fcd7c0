/- Contract by hand: Good. -/
import Derived.Test.YtpogneedafoiaaaPgB
import Derived.Outline
namespace Go.Proofs.Ytpogneedafoiaaa.Pg
open Go.RowKit Go.Proofs.YtpogneedafoiaaaW.PrintWords Go.Proofs.YtpogneedafoiaaaW.PrintLast Go.Proofs.YtpogneedafoiaaaW.PrintMore Go.Proofs.Ytpogneedafoiaaa.Bw Go.Proofs.Ytpogneedafoiaaa.Crc Go.Proofs.Ytpogneedafoiaaa.Wordy
set_option linter.unusedVariables false
set_option linter.unusedSimpArgs false

def markB (T : List Bool) (k : Nat) : Nat → Option (List Bool)
  | 0 => some T
  | m + 1 => if T.getD k false = true then none else markB (T.set k true) (k + 1) m
def contB (x : Option (List Bool)) (f : List Bool → Bool) : Bool := match x with | none => false | some T => f T
def chkB (p : List Int) (T : List Bool) (i : Nat) : Nat → Bool
  | 0 => true
  | d + 1 => if frm p i < lowP p ∨ 512 < frm p i + szP p i then false else contB (markB T (frm p i) (szP p i)) (fun T' => chkB p T' (i + 1) d)
def goodP (p : List Int) : Bool :=
  if p.length = 512 then (if p.getD 13 0 = 0 then (if 26 + 4 * cnt p ≤ lowP p ∧ lowP p ≤ 512 then chkB p (List.replicate 512 false) 0 (cnt p) else false) else false) else false
def Tk (w : World) (g : Nat) (T : List Bool) : Prop := w.heap[g]? = some (.cells (bools T).toArray 69 (0, 0))
theorem Tk.cell {w : World} {g : Nat} {T : List Bool} (h : Tk w g T) (j : Nat) (hj : j < T.length) : w.cell? ⟨g, j, none⟩ = some (.bool (T.getD j false)) := by
  unfold World.cell?
  rw [h]
  simp [bools, List.getElem?_eq_getElem hj, List.getD_eq_getElem?_getD]
theorem Tk.free {w : World} {g : Nat} {T : List Bool} (h : Tk w g T) (j : Nat) : w.frozen? ⟨g, j, none⟩ = false := by
  unfold World.frozen?
  rw [h]
  simp
theorem Tk.set {w : World} {g : Nat} {T : List Bool} (h : Tk w g T) (j : Nat) (v : Bool) : Tk (w.setCell ⟨g, j, none⟩ (.bool v)) g (T.set j v) := by
  unfold Tk at *
  show (w.setCell ⟨g, j, none⟩ (.bool v)).heap[g]? = _
  simp only [World.setCell, Array.getElem?_modify, h]
  simp [bools, List.map_set]
theorem Tk.lt {w : World} {g : Nat} {T : List Bool} (h : Tk w g T) : g < w.heap.size := (Array.getElem?_eq_some_iff.1 h).1
theorem Tk.below {w w' : World} {g : Nat} {T : List Bool} (h : Tk w g T) (hb : Below w.heap.size w w') : Tk w' g T := (hb.block g h.lt).trans h
theorem zero69 : (Try.prog.info? 69).bind (·.zero) = some (.agg ((List.replicate 512 (Value.bool false)).toArray)) := by kernel_rfl
theorem zero69c : (Value.agg ((List.replicate 512 (Value.bool false)).toArray)).cells = (bools (List.replicate 512 false)).toArray := by kernel_rfl
theorem ret_bool {a b : Bool} (h : a = b) : Ending.returned (.bool a) = .returned (.bool b) := by rw [h]
set_option maxRecDepth 100000 in
set_option maxHeartbeats 4000000 in
theorem good_calls (A : Option Addr) (c : Nat) (p : List Int) (w : World) (hr : Kd.C (Kd.int .u8) w A p.length p) (hc : p.length ≤ c) (ho : octs p) (hl : p.length ≤ 140737488351232) :
    Calls Try.prog 13 #[.slice A p.length c] w fun e w' => e = .returned (.bool (goodP p)) ∧ Below w.heap.size w w' := by
  have HR := Aside0.mk hr
  have HO := Aside0.mk ho
  clear hr ho
  by_cases h1 : p.length = 512
  · obtain ⟨ad, rfl⟩ := rb_some HR.out (by omega)
    have hc13 : w.cell? ⟨ad.block, ad.off + 13, none⟩ = some (.int .u8 (p.getD 13 0)) := by
      obtain ⟨ad', e, h⟩ := Kd.at_int HR.out 13 (by decide) (by omega)
      cases e
      exact h
    have hln : ((p.length : Int) != 512) = false := by rw [h1]; decide
    have h13 : (13 : Int) < (p.length : Int) := by omega
    have H1 := Aside0.mk h1
    by_cases h2 : p.getD 13 0 = 0
    · have hq2 : (p.getD 13 0 != 0) = false := by rw [h2]; rfl
      have HG0 : goodP p = (if 26 + 4 * cnt p ≤ lowP p ∧ lowP p ≤ 512 then chkB p (List.replicate 512 false) 0 (cnt p) else false) := by unfold goodP; rw [if_pos h1, if_pos h2]
      have HG := Aside0.mk HG0
      clear HG0
      rw [List.getD_eq_getElem?_getD] at hc13 hq2
      clear h1 h2
      have b1 : cnt p < 65536 := numAt2_lt HO.out _
      have b2 : lowP p < 65536 := numAt2_lt HO.out _
      have HB0 := Aside0.mk (below_alloc (Below.refl w.heap.size w) (.cells #[.slice (some ad) p.length c] 65))
      go_enter Try.func13, Try.ntmps13
      go_wp2_with fail
      go_region_held3 (fun w' => w'.cell? ⟨w.heap.size, 0, none⟩ = some (.slice (some ad) p.length c) ∧ Below w.heap.size w w')
        (first | (exact ⟨by simp, HB0.out.drew⟩) | (go_split_ands; exact ⟨pw_cell_below hb (by assumption), below_step (by assumption) hb⟩))
        (first | (go_at_call 46; (with_reducible refine (low_calls (some ad) c p _ ?_ hc HO.out H1.out).mono ?_); (go_split_ands; exact Kd.C_below HR.out (by assumption)); rintro e w2 ⟨rfl, hb⟩) | (go_at_call 45; (with_reducible refine (count_calls (some ad) c p _ ?_ hc HO.out H1.out).mono ?_); (go_split_ands; exact Kd.C_below HR.out (by assumption)); rintro e w2 ⟨rfl, hb⟩))
      go_split_ands
      have HC0 := Aside0.mk (show w2.cell? ⟨w.heap.size, 0, none⟩ = some (Value.slice (some ad) p.length c) by assumption)
      have HB1 := Aside0.mk (show Below w.heap.size w w2 by assumption)
      clear HB0
      by_cases h3 : 26 + 4 * cnt p ≤ lowP p ∧ lowP p ≤ 512
      · obtain ⟨h4, h5⟩ := h3
        rw [if_pos ⟨h4, h5⟩] at HG
        have HG := Aside0.mk HG.out.symm
        have q3 : decide ((lowP p : Int) < 26 + 4 * (cnt p : Int)) = false := decide_eq_false (by omega)
        have q4 : decide (512 < (lowP p : Int)) = false := decide_eq_false (by omega)
        go_wp2_with (refine wl_alloc rfl 69 rfl _ _ zero69 zero69c ?_; intro wt hbt hbl)
        have HT := Aside0.mk (show Tk wt w2.heap.size (List.replicate 512 false) from hbt)
        have HC0' := Aside0.mk HC0.out
        have HC1 := Aside0.mk (pw_cell_below hbl HC0.out)
        have HB2 := Aside0.mk (below_step HB1.out hbl)
        have HS := Aside0.mk HB1.out.size
        clear hbt hbl HC0 HB1
        have gN := Aside0.mk (show 26 + 4 * cnt p ≤ 512 by omega)
        go_loopg [36] (cnt p) (fun d v36 wr => ∃ (k : Nat) (T : List Bool), v36 = .int .i64 k ∧ Aside0 (k + d = cnt p) ∧ Aside0 (T.length = 512) ∧ Aside0 (Tk wr w2.heap.size T) ∧ Aside0 (wr.cell? ⟨w.heap.size, 0, none⟩ = some (.slice (some ad) p.length c)) ∧ Aside0 (Below w.heap.size w wr) ∧ Aside0 (chkB p T k d = goodP p))
        case atStart => exact ⟨0, _, rfl, ⟨by omega⟩, ⟨List.length_replicate⟩, HT, HC1, HB2, HG⟩
        case round =>
          clear HT HC1 HB2 HG
          obtain ⟨k, T, rfl, HK, HTl, HT, HC, HB, HG⟩ := hrel
          have hk := HK.out
          by_cases hlt : k < cnt p
          · obtain ⟨d, rfl⟩ : ∃ d, gk = d + 1 := ⟨gk - 1, by omega⟩
            have hg := HG.out
            rw [chkB] at hg
            have hcell := HC.out
            go_wp2_with fail
            refine (slot_calls (some ad) c p k _ (Kd.C_below HR.out HB.out) hc HO.out H1.out (by have := gN.out; omega)).mono ?_
            rintro e w3 ⟨rfl, hb⟩
            have HC3 := Aside0.mk (pw_cell_below hb hcell)
            have HB3 := Aside0.mk (below_step HB.out hb)
            have HT3 := Aside0.mk (HT.out.below hb)
            clear hb hcell HC HB HT
            have f1 : frm p k < 65536 := numAt2_lt HO.out _
            have f2 : szP p k < 65536 := numAt2_lt HO.out _
            by_cases h6 : frm p k < lowP p ∨ 512 < frm p k + szP p k
            · rw [if_pos h6] at hg
              have HGf := Aside0.mk hg
              clear hg
              by_cases h7 : frm p k < lowP p
              · go_wp2
                go_ret
                exact ⟨ret_bool HGf.out, HB3.out⟩
              · have h8 : 512 < frm p k + szP p k := by omega
                clear h6
                go_wp2
                go_ret
                exact ⟨ret_bool HGf.out, HB3.out⟩
            · rw [if_neg h6] at hg
              have h7 : lowP p ≤ frm p k := by omega
              have h8 : frm p k + szP p k ≤ 512 := by omega
              clear h6
              have HG2 := Aside0.mk hg
              clear hg
              go_wp2_with fail
              go_loopg [10] (szP p k) (fun m v10 ws => ∃ (j : Nat) (T : List Bool), v10 = .int .i64 j ∧ Aside0 (j + m = frm p k + szP p k) ∧ Aside0 (T.length = 512) ∧ Aside0 (Tk ws w2.heap.size T) ∧ Aside0 (ws.cell? ⟨w.heap.size, 0, none⟩ = some (.slice (some ad) p.length c)) ∧ Aside0 (Below w.heap.size w ws) ∧ Aside0 (contB (markB T j m) (fun T' => chkB p T' (k + 1) d) = goodP p))
              case atStart => exact ⟨frm p k, T, rfl, ⟨rfl⟩, HTl, HT3, HC3, HB3, HG2⟩
              case round =>
                clear HTl HT3 HC3 HB3 HG2
                obtain ⟨j, T, rfl, HJ, HTl, HT, HC, HB, HG⟩ := hrel
                have hj := HJ.out
                by_cases hlt2 : j < frm p k + szP p k
                · obtain ⟨m, rfl⟩ : ∃ m, gk = m + 1 := ⟨gk - 1, by omega⟩
                  have hg := HG.out
                  rw [markB] at hg
                  have hcj := HT.out.cell j (by have := HTl.out; omega)
                  have hfj := HT.out.free j
                  have hj5 : (j : Int) < 512 := by omega
                  cases hv : T.getD j false with
                  | true =>
                    rw [hv] at hcj
                    rw [if_pos hv] at hg
                    have HGf := Aside0.mk hg
                    clear hg hv
                    go_wp2
                    go_ret
                    exact ⟨ret_bool HGf.out, HB.out⟩
                  | false =>
                    rw [hv] at hcj
                    rw [if_neg (by rw [hv]; decide)] at hg
                    have HG2 := Aside0.mk hg
                    clear hg hv
                    go_wp2
                    go_roundg m
                    case measure => omega
                    case rel => exact ⟨j + 1, _, by go_num, ⟨by have := HJ.out; omega⟩, ⟨by rw [List.length_set]; exact HTl.out⟩, ⟨HT.out.set j true⟩, ⟨by rw [cell_set_ne (by have := HS.out; have := World.block_lt_of_cell? _ _ HC0'.out; simp only at *; omega)]; exact HC.out⟩, ⟨HB.out.setCell HS.out _⟩, HG2⟩
                · obtain rfl : gk = 0 := by omega
                  have hg := HG.out
                  rw [markB, contB] at hg
                  have HG2 := Aside0.mk hg
                  clear hg
                  go_wp2
                  go_roundg d
                  case measure => omega
                  case rel => exact ⟨k + 1, T, by go_num, ⟨by have := HK.out; omega⟩, HTl, HT, HC, HB, HG2⟩
          · obtain rfl : gk = 0 := by omega
            have hg := HG.out
            rw [chkB] at hg
            have HGf := Aside0.mk hg
            clear hg
            go_wp2
            go_ret
            exact ⟨ret_bool HGf.out, HB.out⟩
      · rw [if_neg h3] at HG
        have HGf := Aside0.mk HG.out.symm
        clear HG
        by_cases h4 : 26 + 4 * cnt p ≤ lowP p
        · have h5 : 512 < lowP p := by omega
          clear h3
          go_wp2
          go_ret
          exact ⟨ret_bool HGf.out, HB1.out⟩
        · go_wp2
          go_ret
          exact ⟨ret_bool HGf.out, HB1.out⟩
    · have hq2 : (p.getD 13 0 != 0) = true := by simpa using h2
      have HG : goodP p = false := by unfold goodP; rw [if_pos h1, if_neg h2]
      rw [HG]
      rw [List.getD_eq_getElem?_getD] at hc13 hq2
      clear h1 h2 HG
      go_enter Try.func13, Try.ntmps13
      go_wp2
      go_ret
      exact ⟨rfl, Below.refl _ _⟩
  · have hln : ((p.length : Int) != 512) = true := by simp; omega
    have HG : goodP p = false := by unfold goodP; rw [if_neg h1]
    rw [HG]
    clear HG h1
    go_enter Try.func13, Try.ntmps13
    go_wp2
    go_ret
    exact ⟨rfl, Below.refl _ _⟩
end Go.Proofs.Ytpogneedafoiaaa.Pg
