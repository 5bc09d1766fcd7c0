/- SumNumbers: the walk. -/
import Derived.Test.YtlcididlnfclgaaRefPut
import Derived.Test.YtlcididlnfclgaaSumsPure
import Derived.Outline
namespace Go.Proofs.Ytlcididlnfclgaa.Sums
open Go.RowKit Go.Proofs.YtlcididlnfclgaaW.PrintWords Go.Proofs.YtlcididlnfclgaaW.PrintLast Go.Proofs.YtlcididlnfclgaaW.PrintMore Go.Proofs.Ytlcididlnfclgaa.Bw Go.Proofs.Ytlcididlnfclgaa.Crc
set_option linter.unusedVariables false
set_option linter.unusedSimpArgs false

theorem awake_calls (w : World) : Calls Try.prog 7 #[] w fun e w' => e = .returned (.bool true) ∧ Below w.heap.size w w' := by
  obtain ⟨k, hk⟩ : ∃ k, 40 ≤ k := ⟨40, Nat.le_refl _⟩
  exact munimentlaw1_awake.calls k true w (Pure.awake_some k hk)
/-- A run of draws and blocks: nothing that was is changed. -/
theorem lies_false {n : Nat} {at_ size : Int} (h : liesB n at_ size = false) : ¬ ((size = 1 ∨ size = 2 ∨ size = 4 ∨ size = 8) ∧ 0 ≤ at_ ∧ size ≤ n ∧ at_ ≤ n - size) := by
  unfold liesB at h
  exact of_decide_eq_false h
set_option maxHeartbeats 2000000 in
theorem numbers_no (A : Option Addr) (c : Nat) (b : List Int) (at_ size n : Int) (w : World) (hr : Kd.C (Kd.int .u8) w A b.length b) (hc : b.length ≤ c) (hl : b.length ≤ 140737488351232)
    (hsz : -9223372036854775808 ≤ size ∧ size ≤ 9223372036854775807) (hat : -9223372036854775808 ≤ at_ ∧ at_ ≤ 9223372036854775807) (h : liesB b.length at_ size = false) :
    Calls Try.prog 4 #[.slice A b.length c, .int .i64 at_, .int .i64 size, .int .u64 n] w fun e w' => e = .returned (.bool true) ∧ Below w.heap.size w w' := by
  have HR := Aside0.mk hr
  have HH := Aside0.mk h
  have HF := lies_false h
  clear hr h
  go_enter Try.func4, Try.ntmps4
  go_wp2_with fail
  refine (put_no A c b at_ size n _ HR.out hc hl HH.out).mono ?_
  rintro e w' ⟨rfl, ⟨nd, rfl⟩⟩
  go_wp2_with fail
  refine (get_no A c b at_ size _ (Kd.C_drewN HR.out _) hc hl HH.out).mono ?_
  rintro e w' ⟨rfl, ⟨nd2, rfl⟩⟩
  go_wp2_with fail
  refine (awake_calls _).mono ?_
  rintro e w1 ⟨rfl, hb⟩
  have HB := Aside0.mk (below_step (w := w) (by repeat (first | exact Below.refl _ _ | apply below_alloc | apply pw_below_drewN | apply below_drew1)) hb)
  clear hb
  go_wp2_with fail
  all_goals
    go_ret
    exact ⟨rfl, HB.out⟩

theorem size_ways {size : Nat} (h : (size : Int) = 1 ∨ (size : Int) = 2 ∨ (size : Int) = 4 ∨ (size : Int) = 8) :
    (((size : Int) != 1) = false) ∨ ((((size : Int) != 1) = true) ∧ (((size : Int) != 2) = false)) ∨ ((((size : Int) != 1) = true) ∧ (((size : Int) != 2) = true) ∧ (((size : Int) != 4) = false)) ∨
    ((((size : Int) != 1) = true) ∧ (((size : Int) != 2) = true) ∧ (((size : Int) != 4) = true) ∧ (((size : Int) != 8) = false)) := by
  rcases h with h | h | h | h <;> rw [h] <;> decide
set_option maxHeartbeats 2000000 in
theorem numbers_big (A : Option Addr) (c : Nat) (b : List Int) (at_ size : Nat) (n : Int) (w : World) (hr : Kd.C (Kd.int .u8) w A b.length b) (hc : b.length ≤ c) (hl : b.length ≤ 140737488351232) (ho : octs b)
    (h : liesB b.length at_ size = true) (h8 : size < 8) (hn0 : 0 ≤ n) (hn : 0 < n / 2 ^ (8 * size)) :
    Calls Try.prog 4 #[.slice A b.length c, .int .i64 at_, .int .i64 size, .int .u64 n] w fun e w' => e = .returned (.bool true) ∧ Below w.heap.size w w' := by
  have HR := Aside0.mk hr
  have HH := Aside0.mk h
  have HO := Aside0.mk ho
  obtain ⟨f1, f2, f3, f4⟩ := lies_facts h
  have HW := size_ways f1
  have g1 : at_ + size ≤ b.length := by omega
  have hn' : (n / 2 ^ (8 * size) != 0) = true := by simp; omega
  have hn2 : decide (0 < n / 2 ^ (8 * size)) = true := by simpa using hn
  clear hr h ho f1 f2 f3 f4 hn
  rcases HW with q1 | ⟨q1, q2⟩ | ⟨q1, q2, q4⟩ | ⟨q1, q2, q4, q8⟩
  all_goals
    go_enter Try.func4, Try.ntmps4
    go_wp2_with fail
    refine (put_big A c b at_ size n _ HR.out hc hl HH.out h8 hn').mono ?_
    rintro e w' ⟨rfl, ⟨nd, rfl⟩⟩
    go_wp2_with fail
    refine (get_ok A c b at_ size _ (Kd.C_drewN HR.out _) hc HO.out hl HH.out).mono ?_
    rintro e w' ⟨rfl, ⟨nd2, rfl⟩⟩
    go_wp2_with fail
    refine (awake_calls _).mono ?_
    rintro e w1 ⟨rfl, hb⟩
    have HB := Aside0.mk (below_step (w := w) (by repeat (first | exact Below.refl _ _ | apply below_alloc | apply pw_below_drewN | apply below_drew1)) hb)
    clear hb
    go_wp2_with fail
    refine (refGet_calls A c b at_ size _ (Kd.C_below HR.out HB.out) hc HO.out hl (by omega) g1).mono ?_
    rintro e w2 ⟨rfl, rfl⟩
    go_wp2_with fail
    go_ret
    exact ⟨rfl, HB.out⟩
end Go.Proofs.Ytlcididlnfclgaa.Sums
