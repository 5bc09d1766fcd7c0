/- Contract by hand: the reference's Put. -/
import Derived.Test.YtlcididlnfclgaaGets
import Derived.Outline
namespace Go.Proofs.Ytlcididlnfclgaa.Sums
open Go.RowKit Go.Proofs.YtlcididlnfclgaaW.PrintWords Go.Proofs.YtlcididlnfclgaaW.PrintLast Go.Proofs.YtlcididlnfclgaaW.PrintMore Go.Proofs.Ytlcididlnfclgaa.Bw Go.Proofs.Ytlcididlnfclgaa.Crc
set_option linter.unusedVariables false
set_option linter.unusedSimpArgs false

theorem reads_new (w : World) (x : Int) (g : Nat) (h : g = w.heap.size) : ReadsInt (w.alloc (.cells #[.int .u8 x] 5)) .u8 (some ⟨g, 0, none⟩) 1 [x] :=
  rb_reads (rb_block (xs := [x]) (e := 5) (fz := (0, 0)) (heap_new _ _ _ h) (by simp))
set_option maxHeartbeats 1000000 in
theorem refPut_calls (n : Int) (size : Nat) (w : World) (h1 : size ≤ 8) (hn0 : 0 ≤ n) :
    Calls Try.prog 12 #[.int .u64 n, .int .i64 size] w fun e w' => ∃ v, e = .returned v ∧ w'.ownsRow w.heap.size 5 1 v size (nums .u8 (leB n size)) ∧ Below w.heap.size w w' := by
  go_enter Try.func12, Try.ntmps12
  go_wp2
  go_loopg [5, 6] size (fun d v5 v6 wr => ∃ k : Nat, v6 = .int .i64 k ∧ Aside0 (k + d = size) ∧ Aside0 (wr.ownsRow w.heap.size 5 1 v5 k (nums .u8 (leB n k))) ∧ Aside0 (Below w.heap.size w wr))
  case atStart => exact ⟨0, rfl, ⟨by omega⟩, ⟨own_nil _ _ _ _⟩, ⟨Below.refl _ _⟩⟩
  case round =>
    obtain ⟨k, rfl, HK, HO, HB⟩ := hrel
    have hk := HK.out
    by_cases hlt : k < size
    · obtain ⟨Ao, co, eo⟩ := own_slice HO.out
      subst eo
      go_wp2_with (at_builtin; go_loud (refine print_append_row (w0 := w) w.heap.size rfl _ _ 22 5 .u8 1 rfl Try.underlying22 info5 (by decide) _ (leB n k) [octOf n k] (some ⟨wr.heap.size, 0, none⟩) 1 1 rfl rfl (own_alloc (by rw [leB_length]; exact HO.out) _) (reads_new _ _ _ rfl) (below_alloc HB.out _) (by have := HB.out.size; simp; omega) (by rw [leB_length]; omega) ?_); intro v1 w1 ho1 hb1 hg1 hn1)
      go_wp2
      go_roundg (gk - 1)
      case measure => have := HK.out; omega
      case rel =>
        refine ⟨k + 1, by go_num, ⟨by have := HK.out; omega⟩, ⟨?_⟩, ⟨hb1⟩⟩
        rw [← leB_succ, leB_length] at ho1
        exact ho1
    · go_wp2
      go_ret
      obtain rfl : k = size := by omega
      exact ⟨_, rfl, HO.out, HB.out⟩
end Go.Proofs.Ytlcididlnfclgaa.Sums
