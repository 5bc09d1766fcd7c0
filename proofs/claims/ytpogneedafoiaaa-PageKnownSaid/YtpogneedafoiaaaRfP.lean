/- Plain: what the reference's numbers tell. -/
import Derived.Test.YtpogneedafoiaaaRfA
import Derived.Test.YtpogneedafoiaaaPgR
namespace Go.Proofs.Ytpogneedafoiaaa.Pg
open Go.RowKit Go.Proofs.YtpogneedafoiaaaW.PrintWords Go.Proofs.Ytpogneedafoiaaa.Bw Go.Proofs.Ytpogneedafoiaaa.Crc Go.Proofs.Ytpogneedafoiaaa.Wordy Go.Proofs.Ytpogneedafoiaaa.Rf
set_option linter.unusedVariables false
set_option linter.unusedSimpArgs false

theorem Get_l0 (b : List Int) (ho : octs b) (hb : b.length ≤ 9223372036854775807) (at_ size : Nat) (h : at_ + size ≤ b.length) (hs : size ≤ 8) : ∀ (d j : Nat), d ≤ size →
    munimentref1_Get.l0 (j + d + 1) b (at_ : Int) ((numAt b (at_ + d) (size - d) : Nat) : Int) ((d : Int) - 1) = some ((numAt b at_ size : Nat) : Int) := by
  intro d
  induction d with
  | zero =>
    intro j _
    simp only [munimentref1_Get.l0]
    rw [if_neg (by omega)]
    simp
  | succ d ih =>
    intro j hd
    have e : j + (d + 1) + 1 = (j + d + 1) + 1 := by omega
    rw [e]
    simp only [munimentref1_Get.l0]
    have e1 : (((d + 1 : Nat) : Int) - 1) = (d : Int) := by omega
    rw [e1, w64 (n := (at_ : Int) + (d : Int)) (by omega) (by omega), w64 (n := (d : Int) - 1) (by omega) (by omega)]
    rw [if_pos (by omega), if_pos (by omega), if_pos (by omega)]
    have e2 : size - d = (size - (d + 1)) + 1 := by omega
    have hs2 := shift_or b ho at_ d (size - (d + 1)) (by omega) (by omega)
    rw [hs2, ← e2]
    exact ih j (by omega)
theorem Get_eq (b : List Int) (ho : octs b) (hb : b.length ≤ 9223372036854775807) (at_ size k : Nat) (h : at_ + size ≤ b.length) (hs : size ≤ 8) (hk : 9 ≤ k) : munimentref1_Get.f k b (at_ : Int) (size : Int) = some ((numAt b at_ size : Nat) : Int) := by
  obtain ⟨j, rfl⟩ : ∃ j, k = j + size + 1 := ⟨k - size - 1, by omega⟩
  have := Get_l0 b ho hb at_ size h hs size j (Nat.le_refl _)
  unfold munimentref1_Get.f
  rw [w64 (n := (size : Int) - 1) (by omega) (by omega)]
  rw [Nat.sub_self] at this
  have e0 : numAt b (at_ + size) 0 = 0 := by simp [numAt, num]
  rw [e0] at this
  exact this
theorem rget_eq (b : List Int) (ho : octs b) (hb : b.length ≤ 9223372036854775807) (at_ size k : Nat) (h : at_ + size ≤ b.length) (hs : size ≤ 4) (hk : 9 ≤ k) : munimentref5_get.f k b (at_ : Int) (size : Int) = some ((numAt b at_ size : Nat) : Int) := by
  unfold munimentref5_get.f
  rw [Get_eq b ho hb at_ size k h (by omega) hk]
  have hlt := numAt_lt b ho at_ size
  have : 2 ^ (8 * size) ≤ 2 ^ 32 := Nat.pow_le_pow_right (by decide) (by omega)
  simp only [Option.bind_some, Nat.reducePow] at *
  rw [w64 (by omega) (by omega)]
section
variable (p : List Int) (ho : octs p) (hl : p.length = 512) (k : Nat) (hk : 9 ≤ k)
include ho hl hk
theorem rlow_eq : munimentref5_Low.f k p = some ((lowP p : Nat) : Int) := by
  unfold munimentref5_Low.f
  have := rget_eq p ho (by omega) 16 2 k (by omega) (by omega) hk
  rw [show ((16 : Nat) : Int) = 16 from rfl, show ((2 : Nat) : Int) = 2 from rfl] at this
  rw [this]
  rfl
theorem rcnt_eq : munimentref5_Count.f k p = some ((cnt p : Nat) : Int) := by
  unfold munimentref5_Count.f
  have := rget_eq p ho (by omega) 14 2 k (by omega) (by omega) hk
  rw [show ((14 : Nat) : Int) = 14 from rfl, show ((2 : Nat) : Int) = 2 from rfl] at this
  rw [this]
  rfl
theorem rslot_eq (i : Nat) (hi : 30 + 4 * i ≤ 512) : munimentref5_slot.f k p (i : Int) = some (((frm p i : Nat) : Int), ((szP p i : Nat) : Int)) := by
  unfold munimentref5_slot.f
  have h1 := rget_eq p ho (by omega) (26 + 4 * i) 2 k (by omega) (by omega) hk
  have h2 := rget_eq p ho (by omega) (28 + 4 * i) 2 k (by omega) (by omega) hk
  rw [w64 (n := 4 * (i : Int)) (by omega) (by omega), w64 (n := 26 + 4 * (i : Int)) (by omega) (by omega), w64 (n := 28 + 4 * (i : Int)) (by omega) (by omega)]
  rw [show ((26 + 4 * i : Nat) : Int) = 26 + 4 * (i : Int) by omega, show ((2 : Nat) : Int) = 2 from rfl] at h1
  rw [show ((28 + 4 * i : Nat) : Int) = 28 + 4 * (i : Int) by omega, show ((2 : Nat) : Int) = 2 from rfl] at h2
  rw [h1, h2]
  rfl
end
end Go.Proofs.Ytpogneedafoiaaa.Pg
