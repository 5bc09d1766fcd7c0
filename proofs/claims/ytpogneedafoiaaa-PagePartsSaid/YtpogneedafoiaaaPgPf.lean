/- Contracts by hand: the walk of PageParts, joined. -/
import Derived.Test.YtpogneedafoiaaaPgPc
import Derived.Test.YtpogneedafoiaaaPgPd
import Derived.Test.YtpogneedafoiaaaPgPe
namespace Go.Proofs.Ytpogneedafoiaaa.Pg
open Go.RowKit Go.Proofs.YtpogneedafoiaaaW.PrintWords Go.Proofs.YtpogneedafoiaaaW.PrintLast Go.Proofs.YtpogneedafoiaaaW.PrintMore Go.Proofs.Ytpogneedafoiaaa.Bw Go.Proofs.Ytpogneedafoiaaa.Crc Go.Proofs.Ytpogneedafoiaaa.Wordy
set_option linter.unusedVariables false
set_option linter.unusedSimpArgs false

theorem parts_walk (a0 : Option Addr) (len0 cap0 : Nat) (z0 : List Int) (a1 a2 a3 a4 a5 : Int) (w : World) (w0 : (a0 = none ∧ len0 = 0 ∧ cap0 = 0 ∧ z0 = []) ∨ ∃ x, a0 = some x ∧ len0 ≤ cap0 ∧ cap0 ≤ maxLen ∧ z0.length = cap0 ∧ (∀ i, i < z0.length → w.cell? (x.add i) = some (.int .u8 (z0.getD i 0))) ∧ ∀ n ∈ z0, (Lit.int .u8 n).wf = true) (y0 : len0 * 1 ≤ 140737488351232) (w1 : (Lit.int .i64 a1).wf = true) (w2 : (Lit.int .i64 a2).wf = true) (w3 : (Lit.int .i64 a3).wf = true) (w4 : (Lit.int .i64 a4).wf = true) (w5 : (Lit.int .u64 a5).wf = true) :
    Calls Try.prog 9 #[.slice a0 len0 cap0, .int .i64 a1, .int .i64 a2, .int .i64 a3, .int .i64 a4, .int .u64 a5] w fun e w' => e = .returned (.bool true) ∧ Below w.heap.size w w' := by
  obtain ⟨l0, rfl, hr0, hm0, hw0, hc0⟩ := ReadsInt.ofRowC w0
  have hr := rb_of_reads hr0
  have ho := octs_wf hw0
  have h5 := (wf_u64 w5).1
  have hl : l0.length ≤ 140737488351232 := by omega
  cases hg : goodP l0 with
  | false =>
    by_cases hk : 0 ≤ a1 ∧ a1 ≤ 255
    · exact parts_bad_ok a0 cap0 l0 a1 a2 a3 a4 a5 w hr hc0 ho hl hg hk
    · exact parts_bad_no a0 cap0 l0 a1 a2 a3 a4 a5 w hr hc0 ho hl hg hk
  | true =>
    have hl5 := (good_facts hg).1
    have hr5 : Kd.C (Kd.int .u8) w a0 512 l0 := by rw [← hl5]; exact hr
    have hc5 : 512 ≤ cap0 := by omega
    rw [hl5]
    by_cases hk : 0 ≤ a1 ∧ a1 ≤ 255
    · by_cases hi : 0 ≤ a2 ∧ a2 < cnt l0
      · by_cases hlk : 0 ≤ a3 ∧ a3 ≤ 4294967295 ∧ 0 ≤ a4 ∧ a4 ≤ 4294967295
        · exact parts_ok_ok_ok a0 cap0 l0 a1 a2 a3 a4 a5 w hr5 hc5 ho hl5 hg hk hi hlk h5
        · exact parts_ok_ok_no a0 cap0 l0 a1 a2 a3 a4 a5 w hr5 hc5 ho hl5 hg hk hi hlk h5
      · by_cases hlk : 0 ≤ a3 ∧ a3 ≤ 4294967295 ∧ 0 ≤ a4 ∧ a4 ≤ 4294967295
        · exact parts_ok_no_ok a0 cap0 l0 a1 a2 a3 a4 a5 w hr5 hc5 ho hl5 hg hk hi hlk h5
        · exact parts_ok_no_no a0 cap0 l0 a1 a2 a3 a4 a5 w hr5 hc5 ho hl5 hg hk hi hlk h5
    · by_cases hi : 0 ≤ a2 ∧ a2 < cnt l0
      · by_cases hlk : 0 ≤ a3 ∧ a3 ≤ 4294967295 ∧ 0 ≤ a4 ∧ a4 ≤ 4294967295
        · exact parts_no_ok_ok a0 cap0 l0 a1 a2 a3 a4 a5 w hr5 hc5 ho hl5 hg hk hi hlk h5
        · exact parts_no_ok_no a0 cap0 l0 a1 a2 a3 a4 a5 w hr5 hc5 ho hl5 hg hk hi hlk h5
      · by_cases hlk : 0 ≤ a3 ∧ a3 ≤ 4294967295 ∧ 0 ≤ a4 ∧ a4 ≤ 4294967295
        · exact parts_no_no_ok a0 cap0 l0 a1 a2 a3 a4 a5 w hr5 hc5 ho hl5 hg hk hi hlk h5
        · exact parts_no_no_no a0 cap0 l0 a1 a2 a3 a4 a5 w hr5 hc5 ho hl5 hg hk hi hlk h5
end Go.Proofs.Ytpogneedafoiaaa.Pg
