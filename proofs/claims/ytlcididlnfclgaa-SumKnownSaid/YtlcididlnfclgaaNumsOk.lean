/- SumNumbers: the walk where a number is laid. -/
import Derived.Test.YtlcididlnfclgaaNums
namespace Go.Proofs.Ytlcididlnfclgaa.Sums
open Go.RowKit Go.Proofs.YtlcididlnfclgaaW.PrintWords Go.Proofs.YtlcididlnfclgaaW.PrintLast Go.Proofs.YtlcididlnfclgaaW.PrintMore Go.Proofs.Ytlcididlnfclgaa.Bw Go.Proofs.Ytlcididlnfclgaa.Crc
set_option linter.unusedVariables false
set_option linter.unusedSimpArgs false

theorem nums_getElem {k : IntKind} {l : List Int} {j : Nat} (h : j < l.length) : (nums k l)[j]? = some (.int k (l.getD j 0)) := by
  simp [nums, List.getElem?_eq_getElem h, List.getD_eq_getElem?_getD]
theorem leB_getD {n : Int} {size k : Nat} (h : k < size) : (leB n size).getD k 0 = octOf n k := by
  rw [List.getD_eq_getElem?_getD]
  simp [leB, h]
theorem nums_set (k : IntKind) (l : List Int) (j : Nat) (v : Int) : (nums k l).set j (.int k v) = nums k (l.set j v) := by simp [nums, List.map_set]

theorem size_ways8 {size : Nat} (h : (size : Int) = 1 ∨ (size : Int) = 2 ∨ (size : Int) = 4 ∨ (size : Int) = 8) :
    ((((size : Int) != 1) = false) ∧ size < 8) ∨ ((((size : Int) != 1) = true) ∧ (((size : Int) != 2) = false) ∧ size < 8) ∨ ((((size : Int) != 1) = true) ∧ (((size : Int) != 2) = true) ∧ (((size : Int) != 4) = false) ∧ size < 8) ∨
    ((((size : Int) != 1) = true) ∧ (((size : Int) != 2) = true) ∧ (((size : Int) != 4) = true) ∧ (((size : Int) != 8) = false) ∧ ¬ size < 8) := by
  rcases h with h | h | h | h
  · exact .inl ⟨by rw [h]; decide, by omega⟩
  · exact .inr (.inl ⟨by rw [h]; decide, by rw [h]; decide, by omega⟩)
  · exact .inr (.inr (.inl ⟨by rw [h]; decide, by rw [h]; decide, by rw [h]; decide, by omega⟩))
  · exact .inr (.inr (.inr ⟨by rw [h]; decide, by rw [h]; decide, by rw [h]; decide, by rw [h]; decide, by omega⟩))
set_option maxHeartbeats 4000000 in
theorem numbers_ok (A : Option Addr) (c : Nat) (b : List Int) (at_ size : Nat) (n : Int) (w : World) (hr : Kd.C (Kd.int .u8) w A b.length b) (hc : b.length ≤ c) (hl : b.length ≤ 140737488351232) (ho : octs b) (hA : A = none → c = 0)
    (h : liesB b.length at_ size = true) (hn0 : 0 ≤ n) (hn : size < 8 → n / 2 ^ (8 * size) = 0) :
    Calls Try.prog 4 #[.slice A b.length c, .int .i64 at_, .int .i64 size, .int .u64 n] w fun e w' => e = .returned (.bool true) ∧ Below w.heap.size w w' := by
  have HR := Aside0.mk hr
  have HH := Aside0.mk h
  have HO := Aside0.mk ho
  have HA := Aside0.mk hA
  obtain ⟨f1, f2, f3, f4⟩ := lies_facts h
  have HW := size_ways8 f1
  have g1 : at_ + size ≤ b.length := by omega
  have g2 : 1 ≤ size := by omega
  have g3 : size ≤ 8 := by omega
  have hn' : size < 8 → (n / 2 ^ (8 * size) != 0) = false := fun h => by rw [hn h]; rfl
  have HN := Aside0.mk hn'
  have HN3 := Aside0.mk (show size < 8 → decide (0 < n / 2 ^ (8 * size)) = false from fun h => by rw [hn h]; rfl)
  clear hr h ho f1 f2 f3 f4 hn hA hn'
  rcases HW with ⟨q1, q⟩ | ⟨q1, q2, q⟩ | ⟨q1, q2, q4, q⟩ | ⟨q1, q2, q4, q8, q⟩
  all_goals
    try have hn4 := HN3.out q
    have q9 : decide ((at_ : Int) < 0) = false := decide_eq_false (by omega)
    have q10 : decide ((b.length : Int) - (at_ : Int) < (size : Int)) = false := decide_eq_false (by omega)
    go_enter Try.func4, Try.ntmps4
    go_wp2_with fail
    refine (put_ok A c b at_ size n _ HR.out hc hl HA.out HH.out g2 g3 g1 HN.out hn0).mono ?_
    rintro e wp ⟨gp, rfl, hgp, hbp, hbl⟩
    have HP := Aside0.mk hbp
    have HBp := Aside0.mk hbl
    clear hbp hbl
    go_wp2_with fail
    refine (get_ok A c b at_ size _ (Kd.C_below HR.out HBp.out) hc HO.out hl HH.out).mono ?_
    rintro e w' ⟨rfl, ⟨nd2, rfl⟩⟩
    go_wp2_with fail
    refine (awake_calls _).mono ?_
    rintro e w1 ⟨rfl, hb⟩
    have HPb := Aside0.mk (below_step (w := wp) (by repeat (first | exact Below.refl _ _ | apply below_alloc | apply pw_below_drewN | apply below_drew1)) hb)
    have HB := Aside0.mk (below_step HBp.out HPb.out)
    have HP1 := Aside0.mk (HP.out.below HPb.out)
    clear hb HPb HP
    go_wp2_with fail
    refine (refGet_calls A c b at_ size _ (Kd.C_below HR.out HB.out) hc HO.out hl (by omega) g1).mono ?_
    rintro e w2 ⟨rfl, rfl⟩
    go_wp2_with (at_builtin; go_loud (refine print_append_row (w0 := w1) w1.heap.size rfl _ _ 22 5 .u8 1 rfl Try.underlying22 info5 (by decide) _ [] b A b.length c rfl rfl (own_nil _ _ _ _) (rb_reads (Kd.C_below HR.out HB.out)) (Below.refl _ _) (Nat.le_refl _) (by simp; omega) ?_); intro v1 w3 ho1 hb1 hg1 hn1)
    rw [List.nil_append] at ho1
    obtain ⟨gw, cw, rfl, _, _⟩ := ho1.form (by omega)
    have HOW := Aside0.mk ho1
    have HBW := Aside0.mk hb1
    clear ho1 hb1 hg1 hn1
    go_loopg [14] size (fun d v14 wr => ∃ k : Nat, v14 = .int .i64 k ∧ Aside0 (k + d = size) ∧ Aside0 (wr.ownsRow w1.heap.size 5 1 (.slice (some ⟨gw, 0, none⟩) b.length cw) b.length (nums .u8 (layN b at_ n k))) ∧ Aside0 (Below w1.heap.size w1 wr))
    case atStart => exact ⟨0, rfl, ⟨by omega⟩, HOW, HBW⟩
    case round =>
      clear HOW HBW
      obtain ⟨k, rfl, HK, HO1, HL⟩ := hrel
      have hk := HK.out
      by_cases hlt : k < size
      · go_wp2_with fail
        refine (refPut_calls n size _ (by omega) hn0).mono ?_
        rintro e w4 ⟨v4, rfl, hv4, hb4⟩
        obtain ⟨g4, c4, rfl, _, _⟩ := hv4.form (by omega)
        have hc4 := hv4.cellAt k (by omega)
        rw [nums_getElem (by rw [leB_length]; exact hlt), leB_getD hlt] at hc4
        have HO2 := Aside0.mk (pw_own_below HO1.out hb4)
        have HB4 := Aside0.mk (below_step (w := w1) HL.out hb4)
        have hc5 := HO2.out.cellAt (at_ + k) (by omega)
        rw [nums_getElem (by rw [layN_length]; omega)] at hc5
        have hf5 := HO2.out.frozenAt (at_ + k)
        clear hv4 hb4
        go_wp2
        go_roundg (gk - 1)
        case measure => have := HK.out; omega
        case rel =>
          have hst := HO2.out.stored (at_ + k) (.int .u8 (octOf n k))
          rw [nums_set] at hst
          refine ⟨k + 1, by go_num, ⟨by have := HK.out; omega⟩, ⟨hst.1⟩, ⟨HB4.out.setCell ?_ _⟩⟩
          have := own_base HO2.out gw rfl
          exact this
      · obtain rfl : k = size := by omega
        have HPr := Aside0.mk (HP1.out.below HL.out)
        have hcv1 := Kd.C_string (P := Try.prog) (A := some ⟨gp, 0, none⟩) (c := b.length) Try.underlying22 Try.underlying5 Try.underlying9 (HPr.out.rb (by rw [layN_length]; omega))
        rw [layN_length] at hcv1
        have hcv2 := own_string (P := Try.prog) Try.underlying22 Try.underlying5 Try.underlying9 HO1.out
        go_wp2
        go_ret
        exact ⟨by simp, below_step HB.out HL.out⟩
end Go.Proofs.Ytlcididlnfclgaa.Sums

namespace Go.Proofs.Ytlcididlnfclgaa.Sums
open Go.RowKit Go.Proofs.YtlcididlnfclgaaW.PrintWords Go.Proofs.Ytlcididlnfclgaa.Bw Go.Proofs.Ytlcididlnfclgaa.Crc
theorem row_nil {a0 : Option Addr} {len0 cap0 : Nat} {z0 : List Int} {w : World} {k : IntKind} (w0 : (a0 = none ∧ len0 = 0 ∧ cap0 = 0 ∧ z0 = []) ∨ ∃ x, a0 = some x ∧ len0 ≤ cap0 ∧ cap0 ≤ maxLen ∧ z0.length = cap0 ∧ (∀ i, i < z0.length → w.cell? (x.add i) = some (.int k (z0.getD i 0))) ∧ ∀ n ∈ z0, (Lit.int k n).wf = true) : a0 = none → cap0 = 0 := by
  intro h
  rcases w0 with ⟨_, _, h2, _⟩ | ⟨x, h2, _⟩
  · exact h2
  · rw [h] at h2; cases h2
theorem wf_i64 {n : Int} (h : (Lit.int .i64 n).wf = true) : -9223372036854775808 ≤ n ∧ n ≤ 9223372036854775807 := by
  simp [Lit.wf, IntKind.min, IntKind.max, IntKind.bits, IntKind.signed] at h
  omega
theorem wf_u64 {n : Int} (h : (Lit.int .u64 n).wf = true) : 0 ≤ n ∧ n < 18446744073709551616 := by
  simp [Lit.wf, IntKind.min, IntKind.max, IntKind.bits, IntKind.signed] at h
  omega
theorem numbers_walk (a0 : Option Addr) (len0 cap0 : Nat) (z0 : List Int) (a1 a2 a3 : Int) (w : World) (w0 : (a0 = none ∧ len0 = 0 ∧ cap0 = 0 ∧ z0 = []) ∨ ∃ x, a0 = some x ∧ len0 ≤ cap0 ∧ cap0 ≤ maxLen ∧ z0.length = cap0 ∧ (∀ i, i < z0.length → w.cell? (x.add i) = some (.int .u8 (z0.getD i 0))) ∧ ∀ n ∈ z0, (Lit.int .u8 n).wf = true) (y0 : len0 * 1 ≤ 140737488351232) (w1 : (Lit.int .i64 a1).wf = true) (w2 : (Lit.int .i64 a2).wf = true) (w3 : (Lit.int .u64 a3).wf = true) :
    Calls Try.prog 4 #[.slice a0 len0 cap0, .int .i64 a1, .int .i64 a2, .int .u64 a3] w fun e w' => e = .returned (.bool true) ∧ Below w.heap.size w w' := by
  have hA := row_nil w0
  obtain ⟨l0, rfl, hr0, hm0, hw0, hc0⟩ := ReadsInt.ofRowC w0
  have hr := rb_of_reads hr0
  have ho := Pure.octs_wf hw0
  have h1 := wf_i64 w1
  have h2 := wf_i64 w2
  have h3 := wf_u64 w3
  have hl : l0.length ≤ 140737488351232 := by omega
  cases hq : liesB l0.length a1 a2 with
  | false => exact numbers_no a0 cap0 l0 a1 a2 a3 w hr hc0 hl h2 h1 hq
  | true =>
    obtain ⟨f1, f2, f3, f4⟩ := lies_facts hq
    obtain ⟨at_, rfl⟩ : ∃ x : Nat, a1 = (x : Int) := ⟨a1.toNat, by omega⟩
    obtain ⟨size, rfl⟩ : ∃ x : Nat, a2 = (x : Int) := ⟨a2.toNat, by omega⟩
    by_cases hb : size < 8 ∧ 0 < a3 / 2 ^ (8 * size)
    · exact numbers_big a0 cap0 l0 at_ size a3 w hr hc0 hl ho hq hb.1 h3.1 hb.2
    · refine numbers_ok a0 cap0 l0 at_ size a3 w hr hc0 hl ho hA hq h3.1 (fun h8 => ?_)
      have hnn : 0 ≤ a3 / 2 ^ (8 * size) := Int.ediv_nonneg h3.1 (Int.pow_nonneg (by decide))
      have : ¬ 0 < a3 / 2 ^ (8 * size) := fun h => hb ⟨h8, h⟩
      omega
end Go.Proofs.Ytlcididlnfclgaa.Sums
