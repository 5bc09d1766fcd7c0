/- Contracts by hand: Put. -/
import Derived.Test.YtlcididlnfclgaaSums2
import Derived.Test.YtlcididlnfclgaaBw
import Derived.Test.YtlcididlnfclgaaNum
namespace Go.Proofs.Ytlcididlnfclgaa.Sums
open Go.RowKit Go.Proofs.YtlcididlnfclgaaW.PrintWords Go.Proofs.YtlcididlnfclgaaW.PrintLast Go.Proofs.YtlcididlnfclgaaW.PrintMore Go.Proofs.Ytlcididlnfclgaa.Bw Go.Proofs.Ytlcididlnfclgaa.Crc
set_option linter.unusedVariables false
set_option linter.unusedSimpArgs false

def liesB (n : Nat) (at_ size : Int) : Bool := decide ((size = 1 ∨ size = 2 ∨ size = 4 ∨ size = 8) ∧ 0 ≤ at_ ∧ size ≤ n ∧ at_ ≤ n - size)
theorem lies_eq (b : List Int) (at_ size : Int) (hl : b.length ≤ 140737488351232) : sum_lies.f b at_ size = some (liesB b.length at_ size) := by
  unfold sum_lies.f liesB wrap64
  by_cases h1 : size = 1
  · subst h1
    simp only [if_true]
    by_cases h2 : at_ ≥ 0 <;> by_cases h3 : (b.length : Int) ≥ 1 <;> simp [h2, h3] <;> omega
  · by_cases h2 : size = 2
    · subst h2
      simp only [if_true]
      by_cases h2 : at_ ≥ 0 <;> by_cases h3 : (b.length : Int) ≥ 2 <;> simp [h2, h3] <;> omega
    · by_cases h4 : size = 4
      · subst h4
        simp only [if_true]
        by_cases h2 : at_ ≥ 0 <;> by_cases h3 : (b.length : Int) ≥ 4 <;> simp [h2, h3] <;> omega
      · by_cases h8 : size = 8
        · subst h8
          simp only [if_true]
          by_cases h2 : at_ ≥ 0 <;> by_cases h3 : (b.length : Int) ≥ 8 <;> simp [h2, h3] <;> omega
        · simp [h1, h2, h4, h8]
theorem lies_calls (A : Option Addr) (c : Nat) (b : List Int) (at_ size : Int) (w : World) (r : Bool) (hr : Kd.C (Kd.int .u8) w A b.length b) (hc : b.length ≤ c) (hl : b.length ≤ 140737488351232) (h : liesB b.length at_ size = r) :
    Calls Try.prog 15 #[.slice A b.length c, .int .i64 at_, .int .i64 size] w fun e w' => e = .returned (.bool r) ∧ Drawn0 w w' :=
  sum_lies.calls A c b at_ size r w hr hc (by rw [lies_eq b at_ size hl, h])

set_option maxHeartbeats 1000000 in
theorem put_no (A : Option Addr) (c : Nat) (b : List Int) (at_ size n : Int) (w : World) (hr : Kd.C (Kd.int .u8) w A b.length b) (hc : b.length ≤ c) (hl : b.length ≤ 140737488351232)
    (h : liesB b.length at_ size = false) :
    Calls Try.prog 9 #[.slice A b.length c, .int .i64 at_, .int .i64 size, .int .u64 n] w fun e w' => e = .returned (.tuple #[.slice none 0 0, .int .i64 1]) ∧ Drawn0 w w' := by
  have HR := Aside0.mk hr
  have HH := Aside0.mk h
  clear hr h
  go_enter Try.func9, Try.ntmps9
  go_wp2_with fail
  refine (lies_calls A c b at_ size _ false HR.out hc hl HH.out).mono ?_
  rintro e w' ⟨rfl, ⟨nd, rfl⟩⟩
  go_wp2_with fail
  go_ret2
  exact ⟨rfl, by repeat (first | exact Drawn0.refl _ | apply Drawn0.step)⟩
set_option maxHeartbeats 1000000 in
theorem put_big (A : Option Addr) (c : Nat) (b : List Int) (at_ : Int) (size : Nat) (n : Int) (w : World) (hr : Kd.C (Kd.int .u8) w A b.length b) (hc : b.length ≤ c) (hl : b.length ≤ 140737488351232)
    (h : liesB b.length at_ size = true) (h8 : size < 8) (hn : (n / 2 ^ (8 * size) != 0) = true) :
    Calls Try.prog 9 #[.slice A b.length c, .int .i64 at_, .int .i64 size, .int .u64 n] w fun e w' => e = .returned (.tuple #[.slice none 0 0, .int .i64 2]) ∧ Drawn0 w w' := by
  have HR := Aside0.mk hr
  have HH := Aside0.mk h
  clear hr h
  go_enter Try.func9, Try.ntmps9
  go_wp2_with fail
  refine (lies_calls A c b at_ size _ true HR.out hc hl HH.out).mono ?_
  rintro e w' ⟨rfl, ⟨nd, rfl⟩⟩
  go_wp2_with fail
  go_ret2
  exact ⟨rfl, by repeat (first | exact Drawn0.refl _ | apply Drawn0.step)⟩
theorem hmk (n : Nat) (hn : n ≤ 140737488351232) (w : World) : (Instr.makeSlice 22 (.int .i64 0) (.int .i64 (n : Int))).run Try.prog w = .ok (.slice (some ⟨w.heap.size, 0, none⟩) 0 n) (w.alloc (.cells (madeCells #[.int .u8 0] n) 5)) := by
  obtain ⟨i0, hi, hz0, hz1, hz2⟩ := info_parts info5
  have h := run_make (P := Try.prog) w 22 5 i0 (.int .u8 0) Try.underlying22 hi hz0 .i64 .i64 0 n (by omega) (by omega) (by rw [hz2]; omega) (by omega)
  have e : (Value.int .u8 0).cells = #[.int .u8 0] := rfl
  rw [hz1, e] at h
  simpa using h
set_option maxHeartbeats 1000000 in
theorem put_ok (A : Option Addr) (c : Nat) (b : List Int) (at_ size : Nat) (n : Int) (w : World) (hr : Kd.C (Kd.int .u8) w A b.length b) (hc : b.length ≤ c) (hl : b.length ≤ 140737488351232) (hA : A = none → c = 0)
    (h : liesB b.length at_ size = true) (h1 : 1 ≤ size) (h2 : size ≤ 8) (h3 : at_ + size ≤ b.length) (hn : size < 8 → (n / 2 ^ (8 * size) != 0) = false) (hn0 : 0 ≤ n) :
    Calls Try.prog 9 #[.slice A b.length c, .int .i64 at_, .int .i64 size, .int .u64 n] w fun e w' => ∃ g, e = .returned (.tuple #[.slice (some ⟨g, 0, none⟩) b.length b.length, .int .i64 0]) ∧ w.heap.size ≤ g ∧ Blk w' 5 g (layN b at_ n size) ∧ Below w.heap.size w w' := by
  have HR := Aside0.mk hr
  have HH := Aside0.mk h
  have HN := Aside0.mk hn
  clear hr h hn
  have HA := Aside0.mk hA
  clear hA
  by_cases h8 : size < 8
  all_goals
    have hn8 := fun hx => HN.out hx
    try replace hn8 := hn8 h8
    go_enter Try.func9, Try.ntmps9
    go_wp2_with fail
    refine (lies_calls A c b at_ size _ true HR.out hc hl HH.out).mono ?_
    rintro e w' ⟨rfl, ⟨nd, rfl⟩⟩
    have hmk' := hmk b.length hl
    go_wp2_with (at_builtin; go_loud (refine wl_clone rfl _ _ 22 5 rfl Try.underlying22 info5 w.heap.size b.length c A b rfl rfl (heap_new _ _ _ (by simp)) (Kd.C_alloc (Kd.C_drewN HR.out _) _) hc (by omega) HA.out ?_); intro w1 hb1 hg1)
    have hb1' := Aside0.mk (below_grown (w0 := w) (by repeat (first | exact Below.refl _ _ | apply below_alloc | apply pw_below_drewN | apply below_drew1)) hg1 (by rintro k hk; cases hk; exact Nat.le_refl _))
    have hbk := Aside0.mk hb1
    clear hb1 hg1
    go_loopg [34] size (fun d v34 wr => ∃ k : Nat, v34 = .int .i64 k ∧ Aside0 (k + d = size) ∧ Aside0 (Blk wr 5 w.heap.size (layN b at_ n k)) ∧ Aside0 (Below w.heap.size w wr))
    case atStart => exact ⟨0, rfl, ⟨by omega⟩, hbk, hb1'⟩
    case round =>
      clear hbk hb1' hmk'
      obtain ⟨k, rfl, HK, HB, HL⟩ := hrel
      have hk := HK.out
      by_cases hlt : k < size
      · have hc1 := HB.out.cell (at_ + k) (by rw [layN_length]; omega)
        have hf1 := HB.out.free (at_ + k)
        go_wp2
        go_roundg (gk - 1)
        case measure => have := HK.out; omega
        case rel => exact ⟨k + 1, by go_num, ⟨by have := HK.out; omega⟩, ⟨HB.out.set (at_ + k) _⟩, ⟨HL.out.setCell (Nat.le_refl _) _⟩⟩
      · go_wp2
        go_ret2
        obtain rfl : k = size := by omega
        exact ⟨_, rfl, Nat.le_refl _, HB.out, HL.out⟩
end Go.Proofs.Ytlcididlnfclgaa.Sums
