/-
  Plain: bytes and numbers.
-/
import Derived.Test.YtpogneedafoiaaaCrc
import Derived.Laws.BitsAllLaws
namespace Go.Proofs.Ytpogneedafoiaaa.Crc
set_option linter.unusedVariables false
set_option linter.unusedSimpArgs false

/-- byte i of a number -/
def octOf (n : Int) (i : Nat) : Int := (n / 2 ^ (8 * i)) % 256
/-- i bytes of a number laid into a list -/
def layN (b : List Int) (at_ : Nat) (n : Int) : Nat → List Int
  | 0 => b
  | i + 1 => (layN b at_ n i).set (at_ + i) (octOf n i)
/-- the bytes of a number -/
def leB (n : Int) (size : Nat) : List Int := (List.range size).map (octOf n)
theorem layN_length (b : List Int) (at_ : Nat) (n : Int) (k : Nat) : (layN b at_ n k).length = b.length := by
  induction k with
  | zero => rfl
  | succ k ih => rw [layN, List.length_set, ih]
theorem leB_length (n : Int) (k : Nat) : (leB n k).length = k := by simp [leB]
theorem octOf_range (n : Int) (i : Nat) : 0 ≤ octOf n i ∧ octOf n i < 256 := by unfold octOf; omega
theorem leB_octs (n : Int) (k : Nat) : octs (leB n k) := by
  intro x hx
  simp only [leB, List.mem_map] at hx
  obtain ⟨i, _, rfl⟩ := hx
  exact octOf_range n i
theorem leB_succ (n : Int) (k : Nat) : leB n (k + 1) = leB n k ++ [octOf n k] := by simp [leB, List.range_succ]
theorem or_add {a k : Nat} (b : Nat) (h : a < 2 ^ k) : a ||| (2 ^ k * b) = a + 2 ^ k * b := by
  apply Nat.eq_of_testBit_eq
  intro i
  rw [Nat.testBit_or, Nat.add_comm, Nat.testBit_two_pow_mul_add _ h, Nat.testBit_two_pow_mul]
  by_cases hi : i < k
  · rw [if_pos hi]
    have : decide (k ≤ i) = false := by simp; omega
    rw [this]
    simp
  · rw [if_neg hi]
    have : a.testBit i = false := Nat.testBit_lt_two_pow (Nat.lt_of_lt_of_le h (Nat.pow_le_pow_right (by decide) (by omega)))
    have h2 : decide (k ≤ i) = true := by simp; omega
    rw [this, h2]
    simp
theorem num_append (a b : List Int) : num (a ++ b) = num a + 2 ^ (8 * a.length) * num b := by
  induction a with
  | nil => simp [num]
  | cons x a ih =>
    rw [List.cons_append, num_cons, num_cons, ih, List.length_cons]
    have : 2 ^ (8 * (a.length + 1)) = 256 * 2 ^ (8 * a.length) := by rw [show 8 * (a.length + 1) = 8 + 8 * a.length by omega, Nat.pow_add]
    rw [this, Nat.mul_add, Nat.mul_assoc, Nat.add_assoc]
theorem num_lt : ∀ {l : List Int}, octs l → num l < 2 ^ (8 * l.length) := by
  intro l
  induction l with
  | nil => intro _; simp [num]
  | cons x l ih =>
    intro h
    have hx := h x (by simp)
    have := ih (fun y hy => h y (by simp [hy]))
    rw [num_cons, List.length_cons]
    have e : 2 ^ (8 * (l.length + 1)) = 256 * 2 ^ (8 * l.length) := by rw [show 8 * (l.length + 1) = 8 + 8 * l.length by omega, Nat.pow_add]
    rw [e]
    generalize 2 ^ (8 * l.length) = p at *
    omega
theorem num_leB (n : Nat) : ∀ k, num (leB (n : Int) k) = n % 2 ^ (8 * k) := by
  intro k
  induction k with
  | zero => simp [leB, num, Nat.mod_one]
  | succ k ih =>
    rw [leB_succ, num_append, ih, leB_length]
    have hb : octOf (n : Int) k = ((n / 2 ^ (8 * k) % 256 : Nat) : Int) := by
      unfold octOf
      have : ((2 : Int) ^ (8 * k)) = ((2 ^ (8 * k) : Nat) : Int) := (Int.natCast_pow 2 (8 * k)).symm
      rw [this]
      generalize 2 ^ (8 * k) = p
      rfl
    have h1 : num [octOf (n : Int) k] = n / 2 ^ (8 * k) % 256 := by
      rw [num_cons, hb, Int.toNat_natCast]; rfl
    rw [h1]
    have e : 2 ^ (8 * (k + 1)) = 2 ^ (8 * k) * 256 := by rw [show 8 * (k + 1) = 8 * k + 8 by omega, Nat.pow_add]
    rw [e, Nat.mod_mul]
theorem octs_take {l : List Int} (h : octs l) (n : Nat) : octs (l.take n) := fun x hx => h x (List.mem_of_mem_take hx)
theorem octs_drop {l : List Int} (h : octs l) (n : Nat) : octs (l.drop n) := fun x hx => h x (List.mem_of_mem_drop hx)
theorem octs_append {a b : List Int} (ha : octs a) (hb : octs b) : octs (a ++ b) := fun x hx => (List.mem_append.mp hx).elim (ha x) (hb x)
/-- laid into a list: the bytes stand there, all else as it was -/
theorem layN_eq (b : List Int) (at_ : Nat) (n : Int) : ∀ k, at_ + k ≤ b.length → layN b at_ n k = b.take at_ ++ (leB n k ++ b.drop (at_ + k)) := by
  intro k
  induction k with
  | zero => intro _; simp [layN, leB]
  | succ k ih =>
    intro h
    rw [layN, ih (by omega), leB_succ]
    have hlen : (b.take at_).length = at_ := by rw [List.length_take]; omega
    have hd : b.drop (at_ + k) = b[at_ + k] :: b.drop (at_ + k + 1) := List.drop_eq_getElem_cons (by omega)
    rw [List.set_append_right _ _ (by omega), hlen, Nat.add_sub_cancel_left, List.set_append_right _ _ (by rw [leB_length]; omega), leB_length, Nat.sub_self, hd, List.set_cons_zero]
    simp [Nat.add_assoc]
end Go.Proofs.Ytpogneedafoiaaa.Crc
