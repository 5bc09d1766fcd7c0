/- Contracts by hand: the reference's Lists. -/
import Derived.Test.YtpogneedafoiaaaPgP
import Derived.Test.YtpogneedafoiaaaRfA
namespace Go.Proofs.Ytpogneedafoiaaa.Pg
open Go.RowKit Go.Proofs.YtpogneedafoiaaaW.PrintWords Go.Proofs.YtpogneedafoiaaaW.PrintLast Go.Proofs.YtpogneedafoiaaaW.PrintMore Go.Proofs.Ytpogneedafoiaaa.Bw Go.Proofs.Ytpogneedafoiaaa.Crc Go.Proofs.Ytpogneedafoiaaa.Wordy
set_option linter.unusedVariables false
set_option linter.unusedSimpArgs false

def octsL (xs : List (List Int)) : Prop := ∀ l ∈ xs, octs l
theorem octsL_rd {xs : List (List Int)} (h : octsL xs) (i : Int) : octs (Rf.rd_L2 xs i) := by
  unfold Rf.rd_L2
  rw [List.getD_eq_getElem?_getD]
  cases hq : xs[i.toNat]? with
  | none => intro x hx; simp at hx
  | some l => exact h l (List.mem_of_getElem? hq)
/-- the lists are the same up to a place -/
theorem lists_step {xs ys : List (List Int)} (hn : xs.length = ys.length) {k : Nat} (hk : k < xs.length) (hs : xs.take k = ys.take k) (he : Rf.rd_L2 xs k = Rf.rd_L2 ys k) : xs.take (k + 1) = ys.take (k + 1) := by
  rw [List.take_succ_eq_append_getElem hk, List.take_succ_eq_append_getElem (by omega), hs]
  unfold Rf.rd_L2 at he
  rw [Int.toNat_natCast, List.getD_eq_getElem?_getD, List.getD_eq_getElem?_getD, List.getElem?_eq_getElem hk, List.getElem?_eq_getElem (show k < ys.length by omega)] at he
  simp only [Option.getD_some] at he
  rw [he]
set_option maxHeartbeats 4000000 in
theorem lists_x (A B : Option Addr) (c d : Nat) (xs ys : List (List Int)) (w : World) (ha : Kd.C (Kd.slice 5 (Kd.int .u8)) w A xs.length xs) (hb : Kd.C (Kd.slice 5 (Kd.int .u8)) w B ys.length ys) (hc : xs.length ≤ c) (hd : ys.length ≤ d) (ho : octsL xs) (hp : octsL ys) :
    Calls Try.prog 16 #[.slice A xs.length c, .slice B ys.length d] w fun e w' => e = .returned (.bool (decide (xs = ys))) ∧ Below w.heap.size w w' := by
  have hmax : xs.length ≤ 9223372036854775807 := ha.2.1
  have HA := Aside0.mk ha
  have HB := Aside0.mk hb
  have HO := Aside0.mk ho
  have HP := Aside0.mk hp
  clear ha hb ho hp
  by_cases hn : xs.length = ys.length
  · have HN := Aside0.mk hn
    have hln : ((xs.length : Int) != (ys.length : Int)) = false := by rw [hn]; simp
    clear hn
    go_enter Try.func16, Try.ntmps16
    go_wp2_with fail
    go_loopg [5] xs.length (fun m v3 wr => ∃ k : Nat, v3 = .int .i64 k ∧ Aside0 (k + m = xs.length) ∧ Aside0 (xs.take k = ys.take k) ∧ Aside0 (Below w.heap.size w wr))
    case atStart => exact ⟨0, rfl, ⟨by omega⟩, ⟨by simp⟩, ⟨Below.refl _ _⟩⟩
    case round =>
      obtain ⟨k, rfl, HK, HT, HBe⟩ := hrel
      have hk := HK.out
      by_cases hlt : k < xs.length
      · obtain ⟨ad1, A1, c1, e1, hx1, hl1, hr1⟩ := Rf.at_L2 (Kd.C_below HA.out HBe.out) k (by omega) (by omega)
        obtain ⟨ad2, A2, c2, e2, hx2, hl2, hr2⟩ := Rf.at_L2 (Kd.C_below HB.out HBe.out) k (by omega) (by have := HN.out; omega)
        subst e1 e2
        have hky : (k : Int) < (ys.length : Int) := by have := HN.out; omega
        rw [Int.toNat_natCast] at hx1 hx2
        have hcv1 : ∀ n, (convert 22 9 (.slice A1 (Rf.rd_L2 xs k).length c1)).run Try.prog (wr.drewN n) = .ok (.string (strOfNums (Rf.rd_L2 xs k))) (wr.drewN n) := fun n => Kd.C_string (P := Try.prog) (A := A1) (c := c1) Try.underlying22 Try.underlying5 Try.underlying9 (Kd.C_drewN hr1 n)
        have hcv2 : ∀ n, (convert 22 9 (.slice A2 (Rf.rd_L2 ys k).length c2)).run Try.prog (wr.drewN n) = .ok (.string (strOfNums (Rf.rd_L2 ys k))) (wr.drewN n) := fun n => Kd.C_string (P := Try.prog) (A := A2) (c := c2) Try.underlying22 Try.underlying5 Try.underlying9 (Kd.C_drewN hr2 n)
        have hsm := same_str (octsL_rd HO.out k) (octsL_rd HP.out k)
        by_cases he : Rf.rd_L2 xs k = Rf.rd_L2 ys k
        · have hse : ((strOfNums (Rf.rd_L2 xs k)).toList == (strOfNums (Rf.rd_L2 ys k)).toList) = true := by rw [hsm]; exact decide_eq_true he
          have HE := Aside0.mk (lists_step HN.out hlt HT.out he)
          clear hsm he
          go_wp2
          go_quiet (fail)
          go_wp2
          go_roundg (gk - 1)
          case measure => have := HK.out; omega
          case rel => exact ⟨k + 1, by go_num, ⟨by have := HK.out; omega⟩, HE, ⟨pw_below_drewN HBe.out _⟩⟩
        · have hse : ((strOfNums (Rf.rd_L2 xs k)).toList == (strOfNums (Rf.rd_L2 ys k)).toList) = false := by rw [hsm]; exact decide_eq_false he
          have hne : decide (xs = ys) = false := decide_eq_false (fun e => he (by rw [e]))
          have HNe := Aside0.mk hne
          clear hsm he hne
          go_wp2
          go_quiet (fail)
          go_wp2
          go_ret
          refine ⟨?_, pw_below_drewN HBe.out _⟩
          show Ending.returned (.bool false) = _
          rw [HNe.out]
      · obtain rfl : k = xs.length := by omega
        go_wp2
        go_ret
        refine ⟨?_, HBe.out⟩
        show Ending.returned (.bool true) = _
        have h := HT.out
        rw [List.take_of_length_le (Nat.le_refl _), List.take_of_length_le (by have := HN.out; omega)] at h
        rw [decide_eq_true h]
  · have hln : ((xs.length : Int) != (ys.length : Int)) = true := by simp; omega
    have hne : decide (xs = ys) = false := decide_eq_false (fun e => hn (by rw [e]))
    have HNe := Aside0.mk hne
    clear hn hne
    go_enter Try.func16, Try.ntmps16
    go_wp2
    go_ret
    refine ⟨?_, Below.refl _ _⟩
    show Ending.returned (.bool false) = _
    rw [HNe.out]
end Go.Proofs.Ytpogneedafoiaaa.Pg
