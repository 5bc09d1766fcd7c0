/- Contracts by hand: power.of, power.twice, Join. -/
import Derived.Test.YtlcididlnfclgaaNumsOk
namespace Go.Proofs.Ytlcididlnfclgaa.Sums
open Go.RowKit Go.Proofs.YtlcididlnfclgaaW.PrintWords Go.Proofs.YtlcididlnfclgaaW.PrintLast Go.Proofs.YtlcididlnfclgaaW.PrintMore Go.Proofs.Ytlcididlnfclgaa.Bw Go.Proofs.Ytlcididlnfclgaa.Crc
set_option linter.unusedVariables false
set_option linter.unusedSimpArgs false

/-- what becomes of a register, behind k rounds -/
def ofP (M : List Int) (r : Int) : Nat → Int
  | 0 => 0
  | k + 1 => if (Go.bits .and .u32 (r / 2 ^ k) 1 == 1) = true then Go.bits .xor .u32 (ofP M r k) (M.getD k 0) else ofP M r k
/-- A block of 32 words. -/
def Pw (w : World) (e g : Nat) (M : List Int) : Prop := w.heap[g]? = some (.cells (nums .u32 M).toArray e (0, 0)) ∧ M.length = 32
theorem Pw.cell {w : World} {e g : Nat} {M : List Int} (h : Pw w e g M) (j : Nat) (hj : j < 32) : w.cell? ⟨g, j, none⟩ = some (.int .u32 (M.getD j 0)) := by
  unfold World.cell?
  rw [h.1]
  have := h.2
  simp [nums, List.getElem?_eq_getElem (show j < M.length by omega), List.getD_eq_getElem?_getD]
theorem Pw.free {w : World} {e g : Nat} {M : List Int} (h : Pw w e g M) (j : Nat) : w.frozen? ⟨g, j, none⟩ = false := by
  unfold World.frozen?
  rw [h.1]
  simp
theorem Pw.set {w : World} {e g : Nat} {M : List Int} (h : Pw w e g M) (j : Nat) (v : Int) : Pw (w.setCell ⟨g, j, none⟩ (.int .u32 v)) e g (M.set j v) := by
  refine ⟨?_, by rw [List.length_set]; exact h.2⟩
  have h1 := h.1
  show (w.setCell ⟨g, j, none⟩ (.int .u32 v)).heap[g]? = _
  simp only [World.setCell, Array.getElem?_modify, h1]
  simp [nums, List.map_set]
theorem Pw.lt {w : World} {g e : Nat} {M : List Int} (h : Pw w e g M) : g < w.heap.size := (Array.getElem?_eq_some_iff.1 h.1).1
theorem Pw.grown {w w' : World} {g e : Nat} {M : List Int} (h : Pw w e g M) {row : Option Nat} (hg : w.grownBy w' row) (hne : some g ≠ row) : Pw w' e g M := ⟨(hg.block g h.lt hne).trans h.1, h.2⟩
theorem Pw.below {w w' : World} {g e : Nat} {M : List Int} (h : Pw w e g M) (hb : Below w.heap.size w w') : Pw w' e g M := ⟨(hb.block g h.lt).trans h.1, h.2⟩
theorem Pw.below0 {B : Nat} {w w' : World} {g e : Nat} {M : List Int} (h : Pw w e g M) (hb : Below B w w') (hg : g < B) : Pw w' e g M := ⟨(hb.block g hg).trans h.1, h.2⟩

set_option maxHeartbeats 1000000 in
theorem of_calls (g e : Nat) (M : List Int) (r : Int) (w : World) (hp : Pw w e g M) :
    Calls Try.prog 18 #[.pointer (some ⟨g, 0, none⟩), .int .u32 r] w fun e w' => e = .returned (.int .u32 (ofP M r 32)) ∧ w = w' := by
  have HP := Aside0.mk hp
  clear hp
  go_enter Try.func18, Try.ntmps18
  go_wp2
  go_loopg [5, 7] 32 (fun d v5 v7 wr => ∃ k : Nat, v7 = .int .i64 k ∧ v5 = .int .u32 (ofP M r k) ∧ Aside0 (k + d = 32) ∧ w = wr)
  case atStart => exact ⟨0, rfl, rfl, ⟨rfl⟩, rfl⟩
  case round =>
    obtain ⟨k, rfl, rfl, HK, rfl⟩ := hrel
    have hk := HK.out
    by_cases hlt : k < 32
    · have hc := HP.out.cell k hlt
      cases hb : (Go.bits .and .u32 (r / 2 ^ k) 1 == 1) with
      | true =>
        have HB := Aside0.mk hb
        go_wp2
        go_roundg (gk - 1)
        case measure => have := HK.out; omega
        case rel => exact ⟨k + 1, by go_num, by rw [ofP, if_pos HB.out, List.getD_eq_getElem?_getD], ⟨by have := HK.out; omega⟩, rfl⟩
      | false =>
        have HB := Aside0.mk hb
        go_wp2
        go_roundg (gk - 1)
        case measure => have := HK.out; omega
        case rel => exact ⟨k + 1, by go_num, by rw [ofP, if_neg (by rw [HB.out]; decide)], ⟨by have := HK.out; omega⟩, rfl⟩
    · go_wp2
      go_ret
      obtain rfl : k = 32 := by omega
      exact ⟨rfl, rfl⟩
def twiceP (M : List Int) : List Int := (List.range 32).map fun i => ofP M (M.getD i 0) 32
/-- the first k are done -/
def twiceK (M : List Int) : Nat → List Int
  | 0 => List.replicate 32 0
  | k + 1 => (twiceK M k).set k (ofP M (M.getD k 0) 32)
set_option maxHeartbeats 1000000 in
theorem twice_calls (g e : Nat) (M : List Int) (w : World) (hp : Pw w e g M) :
    Calls Try.prog 17 #[.pointer (some ⟨g, 0, none⟩)] w fun e w' => ∃ g', e = .returned (.pointer (some ⟨g', 0, none⟩)) ∧ w.heap.size ≤ g' ∧ Pw w' 44 g' (twiceK M 32) ∧ Below w.heap.size w w' := by
  have HP := Aside0.mk hp
  clear hp
  go_enter Try.func17, Try.ntmps17
  go_wp2_with fail
  go_loopg [5] 32 (fun d v5 wr => ∃ k : Nat, v5 = .int .i64 k ∧ Aside0 (k + d = 32) ∧ Aside0 (Pw wr 44 w.heap.size (twiceK M k)) ∧ Aside0 (Below w.heap.size w wr))
  case atStart => exact ⟨0, rfl, ⟨rfl⟩, ⟨heap_new _ _ _ rfl, rfl⟩, ⟨below_alloc (Below.refl _ _) _⟩⟩
  case round =>
    obtain ⟨k, rfl, HK, HW, HB⟩ := hrel
    have hk := HK.out
    by_cases hlt : k < 32
    · have HP2 := Aside0.mk (HP.out.below HB.out)
      have hc := HP2.out.cell k hlt
      have hc2 := HW.out.cell k hlt
      have hf2 := HW.out.free k
      go_wp2_with fail
      refine (of_calls g e M _ _ HP2.out).mono ?_
      rintro e2 w2 ⟨rfl, rfl⟩
      go_wp2
      go_roundg (gk - 1)
      case measure => have := HK.out; omega
      case rel => exact ⟨k + 1, by go_num, ⟨by have := HK.out; omega⟩, ⟨by rw [twiceK, List.getD_eq_getElem?_getD]; exact HW.out.set k _⟩, ⟨HB.out.setCell (Nat.le_refl _) _⟩⟩
    · go_wp2
      go_ret
      obtain rfl : k = 32 := by omega
      exact ⟨_, rfl, Nat.le_refl _, HW.out, HB.out⟩
/-- the first powers -/
def pow0 : Nat → List Int
  | 0 => 3988292384 :: List.replicate 31 0
  | k + 1 => (pow0 k).set (k + 1) (2 ^ k % 4294967296)
def iterT : Nat → List Int → List Int
  | 0, M => M
  | k + 1, M => twiceK (iterT k M) 32
/-- fuel, the number, the register, the powers -/
def joinL : Nat → Nat → Int → List Int → Int
  | 0, _, a, _ => a
  | f + 1, n, a, M => if 0 < n then joinL f (n / 2) (if (Go.bits .and .i64 (n : Int) 1 == 1) = true then ofP M a 32 else a) (twiceK M 32) else a
def joinP (a b : Int) (n : Nat) : Int := Go.bits .xor .u32 (joinL 31 n a (iterT 3 (pow0 31))) b
set_option maxHeartbeats 4000000 in
theorem join_calls (a b : Int) (n : Nat) (hn : n ≤ 1073741824) (w : World) :
    Calls Try.prog 13 #[.int .u32 a, .int .u32 b, .int .i64 n] w fun e w' => e = .returned (.tuple #[.int .u32 (joinP a b n), .int .i64 0]) ∧ Below w.heap.size w w' := by
  have hJ : Aside0 (joinL 31 n a (iterT 3 (pow0 31)) = joinL 31 n a (iterT 3 (pow0 31))) := ⟨rfl⟩
  have q1 : decide ((n : Int) < 0) = false := decide_eq_false (by omega)
  have q2 : decide (1073741824 < (n : Int)) = false := decide_eq_false (by omega)
  have hN : Aside0 (n < 2 ^ 31) := ⟨by simp; omega⟩
  unfold joinP
  generalize hR : joinL 31 n a (iterT 3 (pow0 31)) = R at *
  have HR := Aside0.mk hR
  clear hR hJ
  go_enter Try.func13, Try.ntmps13
  go_wp2_with fail
  go_loopg [9] 31 (fun d v9 wr => ∃ k : Nat, v9 = .int .i64 (k + 1) ∧ Aside0 (k + d = 31) ∧ Aside0 (Pw wr 44 w.heap.size (pow0 k)) ∧ Aside0 (Below w.heap.size w wr))
  case atStart => exact ⟨0, rfl, ⟨rfl⟩, ⟨heap_new _ _ _ rfl, rfl⟩, ⟨below_alloc (Below.refl _ _) _⟩⟩
  case round =>
    obtain ⟨k, rfl, HK, HW, HB⟩ := hrel
    have hk := HK.out
    by_cases hlt : k < 31
    · have hc := HW.out.cell (k + 1) (by omega)
      have hf := HW.out.free (k + 1)
      have q3 : decide ((k : Int) + 1 < 32) = true := decide_eq_true (by omega)
      go_wp2
      go_region
      all_goals
        go_wp2
        go_roundg (gk - 1)
        case measure => have := HK.out; omega
        case rel => exact ⟨k + 1, by go_num, ⟨by have := HK.out; omega⟩, ⟨HW.out.set (k + 1) _⟩, ⟨(HB.out.setCell (Nat.le_refl _) _).drew⟩⟩
    · obtain rfl : k = 31 := by omega
      clear hlt hk HK
      go_wp2_with fail
      go_loopg [8, 29] 3 (fun d v8 v29 ws => ∃ (k g : Nat), v29 = .int .i64 k ∧ v8 = .pointer (some ⟨g, 0, none⟩) ∧ Aside0 (k + d = 3) ∧ Aside0 (Pw ws 44 g (iterT k (pow0 31))) ∧ Aside0 (Below w.heap.size w ws))
      case atStart => exact ⟨0, _, rfl, rfl, ⟨rfl⟩, HW, HB⟩
      case round =>
        clear HW HB
        obtain ⟨k, g, rfl, rfl, HK, HW, HB⟩ := hrel
        have hk := HK.out
        by_cases hlt : k < 3
        · go_wp2_with fail
          refine (twice_calls g 44 _ _ HW.out).mono ?_
          rintro e w2 ⟨g2, rfl, hg2, hp2, hb2⟩
          have HW2 := Aside0.mk hp2
          have HB2 := Aside0.mk (below_step HB.out hb2)
          clear hp2 hb2
          go_wp2
          go_roundg (gk - 1)
          case measure => have := HK.out; omega
          case rel => exact ⟨k + 1, g2, by go_num, rfl, ⟨by have := HK.out; omega⟩, HW2, HB2⟩
        · obtain rfl : k = 3 := by omega
          clear hlt hk HK
          go_wp2_with fail
          go_loopg [0, 2, 8] 31 (fun d v0 v2 v8 ws => ∃ (a1 : Int) (n1 g : Nat) (M : List Int), v0 = .int .u32 a1 ∧ v2 = .int .i64 n1 ∧ v8 = .pointer (some ⟨g, 0, none⟩) ∧ Aside0 (n1 < 2 ^ d) ∧ Aside0 (n1 ≤ 1073741824) ∧ Aside0 (joinL d n1 a1 M = R) ∧ Aside0 (Pw ws 44 g M) ∧ Aside0 (Below w.heap.size w ws))
          case atStart => exact ⟨a, n, g, _, rfl, rfl, rfl, hN, ⟨hn⟩, HR, HW, HB⟩
          case round =>
            clear HW HB HR
            obtain ⟨a1, n1, g, M, rfl, rfl, rfl, HN, HL, HR, HW, HB⟩ := hrel
            have hl := HL.out
            by_cases hpos : 0 < n1
            · obtain ⟨d, rfl⟩ : ∃ d, gk = d + 1 := by
                cases gk with
                | zero => have := HN.out; simp at this; omega
                | succ d => exact ⟨d, rfl⟩
              have hJ := HR.out
              rw [joinL, if_pos hpos] at hJ
              have hn2 : n1 / 2 < 2 ^ d := by have := HN.out; rw [Nat.pow_succ] at this; omega
              have HN2 := Aside0.mk hn2
              clear hn2
              cases hb : (Go.bits .and .i64 (n1 : Int) 1 == 1) with
              | true =>
                rw [if_pos hb] at hJ
                have HJ := Aside0.mk hJ
                clear hJ
                go_wp2_with fail
                refine (of_calls g 44 M a1 _ HW.out).mono ?_
                rintro e w2 ⟨rfl, rfl⟩
                go_wp2_with fail
                refine (twice_calls g 44 M _ HW.out).mono ?_
                rintro e w2 ⟨g2, rfl, hg2, hp2, hb2⟩
                have HW2 := Aside0.mk hp2
                have HB2 := Aside0.mk (below_step HB.out hb2)
                clear hp2 hb2
                go_wp2
                go_roundg d
                case measure => omega
                case rel => exact ⟨_, n1 / 2, g2, _, rfl, by go_num, rfl, HN2, ⟨by omega⟩, HJ, HW2, HB2⟩
              | false =>
                rw [if_neg (by rw [hb]; decide)] at hJ
                have HJ := Aside0.mk hJ
                clear hJ
                go_wp2_with fail
                refine (twice_calls g 44 M _ HW.out).mono ?_
                rintro e w2 ⟨g2, rfl, hg2, hp2, hb2⟩
                have HW2 := Aside0.mk hp2
                have HB2 := Aside0.mk (below_step HB.out hb2)
                clear hp2 hb2
                go_wp2
                go_roundg d
                case measure => omega
                case rel => exact ⟨_, n1 / 2, g2, _, rfl, by go_num, rfl, HN2, ⟨by omega⟩, HJ, HW2, HB2⟩
            · obtain rfl : n1 = 0 := by omega
              have hJ : a1 = R := by
                have := HR.out
                cases gk with
                | zero => exact this
                | succ d => rw [joinL, if_neg (by omega)] at this; exact this
              subst hJ
              clear hpos hl
              go_wp2
              go_ret2
              exact ⟨rfl, HB.out⟩
end Go.Proofs.Ytlcididlnfclgaa.Sums
