/-
  Plain: the register of the sum, as a linear map on numbers.
-/
import Derived.Laws.BitsAllLaws
namespace Go.Proofs.Ytpogneedafoiaaa.Crc
set_option linter.unusedVariables false
set_option linter.unusedSimpArgs false

/-- one step of the register -/
def stp (r : Nat) : Nat := if r % 2 = 1 then (r / 2) ^^^ 3988292384 else r / 2
def itr : Nat → Nat → Nat
  | 0, r => r
  | n + 1, r => itr n (stp r)
/-- a list's octs as one number, the first the lowest -/
def num : List Int → Nat
  | [] => 0
  | x :: l => x.toNat + 256 * num l
/-- the register behind octs -/
def reg (r : Nat) : List Int → Nat
  | [] => r
  | x :: l => reg (itr 8 (r ^^^ x.toNat)) l
def octs (l : List Int) : Prop := ∀ x ∈ l, 0 ≤ x ∧ x < 256
def more (s : Int) (l : List Int) : Int := ((reg (s.toNat ^^^ 4294967295) l ^^^ 4294967295 : Nat) : Int)

theorem reg_cons (r : Nat) (x : Int) (l : List Int) : reg r (x :: l) = reg (itr 8 (r ^^^ x.toNat)) l := rfl
theorem num_cons (x : Int) (l : List Int) : num (x :: l) = x.toNat + 256 * num l := rfl
theorem xor_left_cancel {a b c : Nat} (h : a ^^^ b = a ^^^ c) : b = c := by
  have : a ^^^ (a ^^^ b) = a ^^^ (a ^^^ c) := by rw [h]
  simpa [← Nat.xor_assoc, Nat.xor_self] using this
theorem xor_zero_iff {a b : Nat} (h : a ^^^ b = 0) : a = b := by
  have : a ^^^ (a ^^^ b) = a ^^^ 0 := by rw [h]
  have h2 : b = a := by simpa [← Nat.xor_assoc, Nat.xor_self] using this
  exact h2.symm
theorem xor_mod2 (a b : Nat) : (a ^^^ b) % 2 = (a % 2 + b % 2) % 2 := by
  have h : (a ^^^ b) % 2 = (a % 2) ^^^ (b % 2) := by simpa using Nat.xor_mod_two_pow (a := a) (b := b) (n := 1)
  rw [h]
  rcases Nat.mod_two_eq_zero_or_one a with ha | ha <;> rcases Nat.mod_two_eq_zero_or_one b with hb | hb <;> rw [ha, hb] <;> rfl
theorem xor_div2 (a b : Nat) : (a ^^^ b) / 2 = a / 2 ^^^ b / 2 := by
  have h := Nat.shiftRight_xor_distrib (a := a) (b := b) (i := 1)
  simpa [Nat.shiftRight_eq_div_pow] using h
theorem xor_swap (a b c d : Nat) : (a ^^^ b) ^^^ (c ^^^ d) = (a ^^^ c) ^^^ (b ^^^ d) := by
  rw [Nat.xor_assoc, ← Nat.xor_assoc b c d, Nat.xor_comm b c, Nat.xor_assoc c b d, ← Nat.xor_assoc]
theorem stp_xor (a b : Nat) : stp (a ^^^ b) = stp a ^^^ stp b := by
  unfold stp
  rw [xor_mod2, xor_div2]
  rcases Nat.mod_two_eq_zero_or_one a with ha | ha <;> rcases Nat.mod_two_eq_zero_or_one b with hb | hb <;> simp only [ha, hb]
  · rfl
  · simp [Nat.xor_assoc]
  · simp only [Nat.add_zero, Nat.reduceMod, if_true, Nat.zero_ne_one, if_false]
    rw [Nat.xor_assoc, Nat.xor_comm (b / 2), ← Nat.xor_assoc]
  · simp
    rw [xor_swap]
    simp [Nat.xor_self]
theorem stp_zero : stp 0 = 0 := rfl
theorem stp_double (a : Nat) : stp (2 * a) = a := by
  unfold stp
  rw [if_neg (by omega)]
  omega
theorem poly_lt : 3988292384 < 2 ^ 32 := by decide
theorem stp_lt {a : Nat} (h : a < 2 ^ 32) : stp a < 2 ^ 32 := by
  unfold stp
  split
  · exact Nat.xor_lt_two_pow (by omega) poly_lt
  · omega
theorem stp_eq_zero {a : Nat} (h : a < 2 ^ 32) (h0 : stp a = 0) : a = 0 := by
  unfold stp at h0
  split at h0
  · have := xor_zero_iff h0
    omega
  · omega
theorem itr_xor (n : Nat) : ∀ a b, itr n (a ^^^ b) = itr n a ^^^ itr n b := by
  induction n with
  | zero => intro a b; rfl
  | succ n ih => intro a b; show itr n (stp (a ^^^ b)) = _; rw [stp_xor, ih]; rfl
theorem itr_zero (n : Nat) : itr n 0 = 0 := by
  induction n with
  | zero => rfl
  | succ n ih => exact ih
theorem itr_lt (n : Nat) : ∀ {a}, a < 2 ^ 32 → itr n a < 2 ^ 32 := by
  induction n with
  | zero => intro a h; exact h
  | succ n ih => intro a h; exact ih (stp_lt h)
theorem itr_eq_zero (n : Nat) : ∀ {a}, a < 2 ^ 32 → itr n a = 0 → a = 0 := by
  induction n with
  | zero => intro a _ h; exact h
  | succ n ih => intro a h h0; exact stp_eq_zero h (ih (stp_lt h) h0)
theorem itr_add (m n : Nat) : ∀ a, itr (m + n) a = itr n (itr m a) := by
  induction m with
  | zero => intro a; rw [Nat.zero_add]; rfl
  | succ m ih => intro a; rw [Nat.succ_add]; exact ih (stp a)
theorem itr_shift (k : Nat) : ∀ a, itr k (a * 2 ^ k) = a := by
  induction k with
  | zero => intro a; simp [itr]
  | succ k ih =>
    intro a
    show itr k (stp (a * 2 ^ (k + 1))) = a
    have : a * 2 ^ (k + 1) = 2 * (a * 2 ^ k) := by rw [Nat.pow_succ, ← Nat.mul_assoc, Nat.mul_comm]
    rw [this, stp_double, ih]
theorem add_eq_xor {x k : Nat} (m : Nat) (h : x < 2 ^ k) : x + 2 ^ k * m = x ^^^ (2 ^ k * m) := by
  apply Nat.eq_of_testBit_eq
  intro i
  rw [Nat.testBit_xor, Nat.add_comm, Nat.testBit_two_pow_mul_add _ h, Nat.testBit_two_pow_mul]
  by_cases hi : i < k
  · rw [if_pos hi]
    have : decide (k ≤ i) = false := by simp; omega
    rw [this]
    simp
  · rw [if_neg hi]
    have : x.testBit i = false := Nat.testBit_lt_two_pow (Nat.lt_of_lt_of_le h (Nat.pow_le_pow_right (by decide) (by omega)))
    have h2 : decide (k ≤ i) = true := by simp; omega
    rw [this, h2]
    simp
/-- the register behind octs: the whole number, stepped -/
theorem reg_num : ∀ (l : List Int) (r : Nat), octs l → reg r l = itr (8 * l.length) (r ^^^ num l) := by
  intro l
  induction l with
  | nil =>
    intro r _
    have e : (r ^^^ num []) = r := Nat.xor_zero r
    rw [e]
    rfl
  | cons x l ih =>
    intro r hb
    have hx := hb x (by simp)
    rw [reg_cons, num_cons, ih _ (fun y hy => hb y (by simp [hy]))]
    have e : x.toNat + 2 ^ 8 * num l = x.toNat ^^^ (2 ^ 8 * num l) := add_eq_xor (k := 8) (num l) (by omega)
    simp only [Nat.reducePow] at e
    have e2 : 8 * (x :: l).length = 8 + 8 * l.length := by simp; omega
    have e3 : itr 8 (256 * num l) = num l := by
      have := itr_shift 8 (num l)
      simp only [Nat.reducePow] at this
      rw [Nat.mul_comm]; exact this
    rw [e, e2, itr_add, ← Nat.xor_assoc, itr_xor 8 _ (256 * num l), e3]
theorem num_inj : ∀ {a b : List Int}, octs a → octs b → a.length = b.length → num a = num b → a = b := by
  intro a
  induction a with
  | nil => intro b _ _ h _; cases b <;> simp_all
  | cons x a ih =>
    intro b ha hb h hn
    cases b with
    | nil => simp at h
    | cons y b =>
      have hx := ha x (by simp)
      have hy := hb y (by simp)
      simp only [num] at hn
      have h1 : x.toNat = y.toNat := by omega
      have h2 : num a = num b := by omega
      rw [ih (fun z hz => ha z (by simp [hz])) (fun z hz => hb z (by simp [hz])) (by simpa using h) h2]
      congr 1
      omega
theorem more_eq {s : Int} {a b : List Int} : more s a = more s b ↔ reg (s.toNat ^^^ 4294967295) a = reg (s.toNat ^^^ 4294967295) b := by
  unfold more
  constructor
  · intro h
    have h2 : reg (s.toNat ^^^ 4294967295) a ^^^ 4294967295 = reg (s.toNat ^^^ 4294967295) b ^^^ 4294967295 := by exact_mod_cast h
    have h3 : 4294967295 ^^^ reg (s.toNat ^^^ 4294967295) a = 4294967295 ^^^ reg (s.toNat ^^^ 4294967295) b := by
      rw [Nat.xor_comm 4294967295 (reg _ a), Nat.xor_comm 4294967295 (reg _ b)]; exact h2
    exact xor_left_cancel h3
  · intro h; rw [h]
/-- a row of at most 32 bits that are turned is told -/
theorem more_tells {s : Int} {a b : List Int} {row k : Nat} (ha : octs a) (hb : octs b) (hl : b.length = a.length) (hr : row < 2 ^ 32) (hk : k ≤ 8 * a.length)
    (hn : num b = num a ^^^ (row * 2 ^ k)) : more s a = more s b ↔ a = b := by
  refine ⟨fun h => ?_, fun h => by rw [h]⟩
  rw [more_eq, reg_num a _ ha, reg_num b _ hb, hl, hn, ← Nat.xor_assoc, itr_xor _ (_ ^^^ num a)] at h
  have h0 : itr (8 * a.length) (row * 2 ^ k) = 0 := by
    have : itr (8 * a.length) ((s.toNat ^^^ 4294967295) ^^^ num a) ^^^ 0 = itr (8 * a.length) ((s.toNat ^^^ 4294967295) ^^^ num a) ^^^ itr (8 * a.length) (row * 2 ^ k) := by rw [Nat.xor_zero]; exact h
    exact (xor_left_cancel this).symm
  have e : 8 * a.length = k + (8 * a.length - k) := by omega
  rw [e, itr_add, itr_shift] at h0
  have hz := itr_eq_zero _ hr h0
  rw [hz, Nat.zero_mul, Nat.xor_zero] at hn
  exact num_inj ha hb hl.symm hn.symm
theorem num_set : ∀ (l : List Int) (j : Nat) (m : Nat), octs l → j < l.length → m < 8 →
    num (l.set j (((l.getD j 0).toNat ^^^ 2 ^ m : Nat) : Int)) = num l ^^^ 2 ^ (8 * j + m) := by
  intro l
  induction l with
  | nil => intro j m _ h; simp at h
  | cons x l ih =>
    intro j m hb hj hm
    have hx := hb x (by simp)
    have hxn : x.toNat < 2 ^ 8 := by omega
    have hp : 2 ^ m < 2 ^ 8 := Nat.pow_lt_pow_right (by decide) hm
    cases j with
    | zero =>
      simp only [List.set_cons_zero, List.getD_cons_zero, num, Int.toNat_natCast, Nat.mul_zero, Nat.zero_add]
      have e1 := add_eq_xor (k := 8) (num l) (Nat.xor_lt_two_pow hxn hp)
      have e2 := add_eq_xor (k := 8) (num l) hxn
      simp only [Nat.reducePow] at e1 e2
      rw [e1, e2, Nat.xor_assoc, Nat.xor_comm (2 ^ m), ← Nat.xor_assoc]
    | succ j =>
      have h := ih j m (fun y hy => hb y (by simp [hy])) (by simpa using hj) hm
      simp only [List.set_cons_succ, List.getD_cons_succ, num]
      rw [h]
      have e1 := add_eq_xor (k := 8) (num l ^^^ 2 ^ (8 * j + m)) hxn
      have e2 := add_eq_xor (k := 8) (num l) hxn
      simp only [Nat.reducePow] at e1 e2
      have e3 : 256 * (num l ^^^ 2 ^ (8 * j + m)) = 256 * num l ^^^ 2 ^ (8 * (j + 1) + m) := by
        have : 2 ^ (8 * (j + 1) + m) = 256 * 2 ^ (8 * j + m) := by
          rw [show 8 * (j + 1) + m = 8 + (8 * j + m) by omega, Nat.pow_add]
        rw [this]
        have h4 := Nat.shiftLeft_xor_distrib (a := num l) (b := 2 ^ (8 * j + m)) (i := 8)
        simp only [Nat.shiftLeft_eq, Nat.reducePow] at h4
        rw [Nat.mul_comm 256, h4, Nat.mul_comm 256, Nat.mul_comm 256]
      rw [e1, e2, e3, Nat.xor_assoc]
theorem octs_set {l : List Int} (h : octs l) (j : Nat) {v : Int} (hv : 0 ≤ v ∧ v < 256) : octs (l.set j v) := by
  intro x hx
  rcases List.mem_or_eq_of_mem_set hx with h1 | h1
  · exact h x h1
  · rw [h1]; exact hv
theorem octs_getD {l : List Int} (h : octs l) (j : Nat) : 0 ≤ l.getD j 0 ∧ l.getD j 0 < 256 := by
  rw [List.getD_eq_getElem?_getD]
  by_cases hj : j < l.length
  · rw [List.getElem?_eq_getElem hj]
    exact h _ (List.getElem_mem hj)
  · rw [List.getElem?_eq_none (by omega)]
    simp
theorem reg_lt : ∀ (l : List Int) {r : Nat}, octs l → r < 2 ^ 32 → reg r l < 2 ^ 32 := by
  intro l
  induction l with
  | nil => intro r _ h; exact h
  | cons x l ih =>
    intro r hb h
    have hx := hb x (by simp)
    exact ih (fun y hy => hb y (by simp [hy])) (itr_lt 8 (Nat.xor_lt_two_pow h (by omega)))
theorem reg_append : ∀ (a b : List Int) (r : Nat), reg r (a ++ b) = reg (reg r a) b := by
  intro a
  induction a with
  | nil => intro b r; rfl
  | cons x a ih => intro b r; exact ih b _
theorem more_range {s : Int} {l : List Int} (hs : s < 4294967296) (hb : octs l) : 0 ≤ more s l ∧ more s l < 4294967296 := by
  have h := reg_lt l (r := s.toNat ^^^ 4294967295) hb (Nat.xor_lt_two_pow (by omega) (by decide))
  have h2 := Nat.xor_lt_two_pow (n := 32) h (show 4294967295 < 2 ^ 32 by decide)
  unfold more
  constructor
  · exact Int.natCast_nonneg _
  · simp only [Nat.reducePow] at h2
    generalize reg (s.toNat ^^^ 4294967295) l ^^^ 4294967295 = x at h2
    omega
theorem more_append (s : Int) (hs : 0 ≤ s ∧ s < 4294967296) (a b : List Int) (ha : octs a) : more s (a ++ b) = more (more s a) b := by
  unfold more
  rw [reg_append, Int.toNat_natCast, Nat.xor_assoc, Nat.xor_self, Nat.xor_zero]

end Go.Proofs.Ytpogneedafoiaaa.Crc
