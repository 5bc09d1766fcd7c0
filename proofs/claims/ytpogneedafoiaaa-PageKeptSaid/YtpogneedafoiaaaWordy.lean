/-
  Plain: what Word, More and Of (as printed) tell.
-/
import Derived.Test.YtpogneedafoiaaaPgSum
import Derived.Test.YtpogneedafoiaaaNum
import Derived.Test.YtpogneedafoiaaaBw
import Derived.Lib.Bytes
namespace Go.Proofs.Ytpogneedafoiaaa.Wordy
open Go.RowKit Go.Proofs.YtpogneedafoiaaaW.PrintWords Go.Proofs.YtpogneedafoiaaaW.PrintLast Go.Proofs.YtpogneedafoiaaaW.PrintMore Go.Proofs.Ytpogneedafoiaaa.Bw Go.Proofs.Ytpogneedafoiaaa.Crc Go.Proofs.Ytpogneedafoiaaa.Pg
set_option linter.unusedVariables false
set_option linter.unusedSimpArgs false

theorem w64 {n : Int} (h0 : -9223372036854775808 ≤ n) (h1 : n ≤ 9223372036854775807) : wrap64 n = n := by unfold wrap64; omega
theorem pow_le56 {i : Nat} (h : i ≤ 7) : 2 ^ (8 * i) ≤ 72057594037927936 := by
  have : 2 ^ (8 * i) ≤ 2 ^ 56 := Nat.pow_le_pow_right (by decide) (by omega)
  simpa using this
theorem or_byte {a x i : Nat} (ha : a < 2 ^ (8 * i)) (hx : x < 256) (hi : i ≤ 7) :
    Go.bits .or .u64 (a : Int) (shl .u64 (IntKind.u64.wrap (x : Int)) ((8 * i : Nat) : Int)) = ((a + 2 ^ (8 * i) * x : Nat) : Int) := by
  have hp := pow_le56 hi
  have h1 : IntKind.u64.wrap (x : Int) = (x : Int) := by rw [IntKind.wrap_u64]; omega
  have hb : x * 2 ^ (8 * i) < 18446744073709551616 := Nat.lt_of_le_of_lt (Nat.mul_le_mul (show x ≤ 255 by omega) hp) (by decide)
  have h2 : shl .u64 (x : Int) ((8 * i : Nat) : Int) = ((x * 2 ^ (8 * i) : Nat) : Int) := by
    unfold shl
    rw [Int.toNat_natCast, Nat.min_eq_left (by show _ ≤ 64; omega), IntKind.wrap_u64]
    have e : ((2 : Int) ^ (8 * i)) = ((2 ^ (8 * i) : Nat) : Int) := (Int.natCast_pow 2 (8 * i)).symm
    rw [e, ← Int.natCast_mul]
    generalize x * 2 ^ (8 * i) = y at hb
    omega
  rw [h1, h2, u64_or_nat a _ (by generalize 2 ^ (8 * i) = q at *; omega) hb, Nat.mul_comm x, or_add x ha]
theorem Word_l0 (l : List Int) (ho : octs l) (hl : l.length ≤ 8) : ∀ (m j i : Nat), i + m = l.length → sum_Word.l0 (j + m + 1) ((num (l.take i) : Nat) : Int) l (l.length : Int) (i : Int) = some ((num l : Nat) : Int) := by
  intro m
  induction m with
  | zero =>
    intro j i hi
    simp only [Nat.add_zero, sum_Word.l0]
    rw [if_neg (by omega), List.take_of_length_le (by omega)]
  | succ m ih =>
    intro j i hi
    have e : j + (m + 1) + 1 = (j + m + 1) + 1 := by omega
    rw [e]
    simp only [sum_Word.l0]
    rw [if_pos (by omega), if_pos (by omega), if_pos (by omega), w64 (n := 8 * (i : Int)) (by omega) (by omega), if_pos (by omega), w64 (n := (i : Int) + 1) (by omega) (by omega)]
    have hx := octs_getD ho i
    obtain ⟨x, hxe⟩ : ∃ x : Nat, l.getD i 0 = (x : Int) := ⟨(l.getD i 0).toNat, by omega⟩
    have hrd : rd l (i : Int) = (x : Int) := by unfold rd; rw [Int.toNat_natCast]; exact hxe
    have h8 : (8 * (i : Int)) = ((8 * i : Nat) : Int) := by omega
    have hlt := num_lt (octs_take ho i)
    rw [List.length_take, Nat.min_eq_left (by omega)] at hlt
    rw [hrd, h8, or_byte hlt (by omega) (by omega)]
    have hi2 : i < l.length := by omega
    have hg : l[i] = (x : Int) := by
      rw [← hxe, List.getD_eq_getElem?_getD, List.getElem?_eq_getElem hi2]; rfl
    have ht : l.take (i + 1) = l.take i ++ [(x : Int)] := by rw [List.take_succ_eq_append_getElem hi2, hg]
    have hn : num (l.take i) + 2 ^ (8 * i) * x = num (l.take (i + 1)) := by
      rw [ht, num_append, List.length_take, Nat.min_eq_left (by omega)]
      simp [num]
    rw [hn, show ((i : Int) + 1) = ((i + 1 : Nat) : Int) by omega]
    exact ih j (i + 1) (by omega)
theorem Word_eq (l : List Int) (ho : octs l) (hl : l.length ≤ 8) (k : Nat) (hk : l.length < k) : sum_Word.f k l = some ((num l : Nat) : Int) := by
  obtain ⟨j, rfl⟩ : ∃ j, k = j + l.length + 1 := ⟨k - l.length - 1, by omega⟩
  have := Word_l0 l ho hl l.length j 0 (by omega)
  unfold sum_Word.f
  simpa [num] using this
/-- size bytes from a place on, as a number -/
def numAt (b : List Int) (at_ size : Nat) : Nat := num ((b.drop at_).take size)
theorem numAt_step (b : List Int) (ho : octs b) (at_ d m : Nat) (hd : at_ + d < b.length) : numAt b (at_ + d) (m + 1) = numAt b (at_ + (d + 1)) m * 256 + (b.getD (at_ + d) 0).toNat := by
  unfold numAt
  rw [List.drop_eq_getElem_cons hd, List.take_succ_cons, num_cons, List.getD_eq_getElem?_getD, List.getElem?_eq_getElem hd, Nat.add_assoc at_ d 1]
  simp only [Option.getD_some]
  omega
theorem numAt_lt (b : List Int) (ho : octs b) (at_ m : Nat) : numAt b at_ m < 2 ^ (8 * m) := by
  have h := num_lt (octs_take (octs_drop ho at_) m)
  have : 2 ^ (8 * ((b.drop at_).take m).length) ≤ 2 ^ (8 * m) := Nat.pow_le_pow_right (by decide) (by rw [List.length_take]; omega)
  exact Nat.lt_of_lt_of_le h this
theorem shift_or (b : List Int) (ho : octs b) (at_ d m : Nat) (hd : at_ + d < b.length) (hm : m ≤ 7) :
    Go.bits .or .u64 (IntKind.u64.wrap ((numAt b (at_ + (d + 1)) m : Nat) * 256 : Int)) (IntKind.u64.wrap (rd b ((at_ : Int) + (d : Int)))) = ((numAt b (at_ + d) (m + 1) : Nat) : Int) := by
  have hx := octs_getD ho (at_ + d)
  have hrd : rd b ((at_ : Int) + (d : Int)) = (((b.getD (at_ + d) 0).toNat : Nat) : Int) := by
    unfold rd
    rw [show ((at_ : Int) + (d : Int)).toNat = at_ + d by omega]
    omega
  have hlt := numAt_lt b ho (at_ + (d + 1)) m
  have hp := pow_le56 hm
  rw [numAt_step b ho at_ d m hd, hrd]
  generalize numAt b (at_ + (d + 1)) m = a at *
  generalize hx0 : (b.getD (at_ + d) 0).toNat = x at *
  have hx256 : x < 256 := by omega
  have ha : a < 72057594037927936 := Nat.lt_of_lt_of_le hlt hp
  have e1 : IntKind.u64.wrap ((a : Int) * 256) = ((a * 256 : Nat) : Int) := by rw [IntKind.wrap_u64]; omega
  have e2 : IntKind.u64.wrap (x : Int) = (x : Int) := by rw [IntKind.wrap_u64]; omega
  rw [e1, e2, u64_or_nat _ _ (by omega) (by omega), Nat.or_comm]
  have := or_add (a := x) (k := 8) a (by omega)
  simp only [Nat.reducePow] at this
  rw [Nat.mul_comm a, this, Nat.add_comm]

theorem l1_run (l : List Int) (n i : Int) : ∀ (d k r j : Nat), j + d = 8 → r < 4294967296 →
    sum_More.l1 (k + d + 1) (r : Int) l n i (j : Int) = sum_More.l0 k ((itr d r : Nat) : Int) l n (wrap64 (i + 1)) := by
  intro d
  induction d with
  | zero =>
    intro k r j hj hr
    simp only [Nat.add_zero, sum_More.l1]
    rw [if_neg (by omega)]
    rfl
  | succ d ih =>
    intro k r j hj hr
    have e : k + (d + 1) + 1 = (k + d + 1) + 1 := by omega
    rw [e]
    simp only [sum_More.l1]
    rw [if_pos (by omega), w64 (by omega) (by omega)]
    have ha : Go.bits .and .u32 (r : Int) 1 = ((r % 2 : Nat) : Int) := by
      have := u32_and_nat r 1 hr (by decide)
      rw [Nat.and_one_is_mod] at this
      exact this
    have hj1 : ((j : Int) + 1) = ((j + 1 : Nat) : Int) := by omega
    have hd2 : ((r : Int) / 2) = ((r / 2 : Nat) : Int) := by omega
    have hs := stp_lt (a := r) (by simpa using hr)
    simp only [Nat.reducePow] at hs
    rw [ha, hj1, hd2]
    by_cases h1 : r % 2 = 1
    · rw [if_pos (by omega)]
      have hx := u32_xor_nat (r / 2) 3988292384 (by omega) (by decide)
      have hst : stp r = r / 2 ^^^ 3988292384 := by unfold stp; rw [if_pos h1]
      have hx2 : Go.bits .xor .u32 ((r / 2 : Nat) : Int) 3988292384 = ((stp r : Nat) : Int) := by rw [hst]; exact hx
      rw [hx2]
      exact ih k (stp r) (j + 1) (by omega) hs
    · rw [if_neg (by omega)]
      have hst : stp r = r / 2 := by unfold stp; rw [if_neg h1]
      rw [← hst]
      exact ih k (stp r) (j + 1) (by omega) hs
theorem l0_run (l : List Int) (hb : octs l) (hl : l.length ≤ 140737488351232) : ∀ (m k r i : Nat), i + m = l.length → r < 4294967296 →
    sum_More.l0 (k + 10 * m + 1) (r : Int) l (l.length : Int) (i : Int) = some ((reg r (l.drop i) ^^^ 4294967295 : Nat) : Int) := by
  intro m
  induction m with
  | zero =>
    intro k r i hi hr
    simp only [Nat.mul_zero, Nat.add_zero, sum_More.l0]
    rw [if_neg (by omega), List.drop_eq_nil_of_le (by omega)]
    have hx := u32_xor_nat r 4294967295 hr (by decide)
    exact congrArg some hx
  | succ m ih =>
    intro k r i hi hr
    have e : k + 10 * (m + 1) + 1 = ((k + 10 * m + 1) + 8 + 1) + 1 := by omega
    rw [e]
    simp only [sum_More.l0]
    have hlt : i < l.length := by omega
    rw [if_pos (by omega), if_pos (by omega), if_pos (by omega)]
    have hx := octs_getD hb i
    obtain ⟨x, hxe⟩ : ∃ x : Nat, l.getD i 0 = (x : Int) := ⟨(l.getD i 0).toNat, by omega⟩
    have hrd : rd l (i : Int) = (x : Int) := by unfold rd; rw [Int.toNat_natCast]; exact hxe
    have hxl : x < 256 := by omega
    have hm : ((x : Int) % 4294967296) = (x : Int) := by omega
    rw [hrd, hm, u32_xor_nat r x hr (by omega)]
    have hrx : r ^^^ x < 4294967296 := by
      have := Nat.xor_lt_two_pow (n := 32) (x := r) (y := x) (by simpa using hr) (by omega)
      simpa using this
    have h1 := l1_run l (l.length : Int) (i : Int) 8 (k + 10 * m + 1) (r ^^^ x) 0 rfl hrx
    rw [show ((0 : Nat) : Int) = 0 from rfl] at h1
    rw [h1, w64 (by omega) (by omega), show ((i : Int) + 1) = ((i + 1 : Nat) : Int) by omega]
    have h8 := itr_lt 8 (a := r ^^^ x) (by simpa using hrx)
    simp only [Nat.reducePow] at h8
    rw [ih k _ (i + 1) (by omega) h8]
    have hd : l.drop i = (x : Int) :: l.drop (i + 1) := by
      rw [List.drop_eq_getElem_cons hlt]
      congr 1
      rw [← hxe, List.getD_eq_getElem?_getD, List.getElem?_eq_getElem hlt]; rfl
    rw [hd, reg_cons, Int.toNat_natCast]
theorem More_eq (l : List Int) (hb : octs l) (hl : l.length ≤ 140737488351232) (s : Int) (hs0 : 0 ≤ s) (hs : s < 4294967296) (k : Nat) (hk : 10 * l.length < k) :
    sum_More.f k s l = some (more s l) := by
  obtain ⟨j, rfl⟩ : ∃ j, k = j + 10 * l.length + 1 := ⟨k - 10 * l.length - 1, by omega⟩
  obtain ⟨r, rfl⟩ : ∃ r : Nat, s = (r : Int) := ⟨s.toNat, by omega⟩
  unfold sum_More.f
  have hx : Go.bits .xor .u32 (r : Int) 4294967295 = ((r ^^^ 4294967295 : Nat) : Int) := u32_xor_nat r 4294967295 (by omega) (by decide)
  rw [hx]
  have hlt : r ^^^ 4294967295 < 4294967296 := by
    have := Nat.xor_lt_two_pow (n := 32) (x := r) (y := 4294967295) (by simp; omega) (by decide)
    simpa using this
  have := l0_run l hb hl l.length j (r ^^^ 4294967295) 0 (by omega) hlt
  rw [show ((0 : Nat) : Int) = 0 from rfl, List.drop_zero] at this
  rw [this]
  rfl
theorem Of_eq (l : List Int) (hb : octs l) (hl : l.length ≤ 140737488351232) (k : Nat) (hk : 10 * l.length < k) : sum_Of.f k l = some (more 0 l) := by
  unfold sum_Of.f
  rw [More_eq l hb hl 0 (by omega) (by omega) k hk]
  rfl
theorem bytesOf_inj : ∀ {a b : List Int}, octs a → octs b → Go.Lib.bytesOf a = Go.Lib.bytesOf b → a = b := by
  intro a
  induction a with
  | nil => intro b _ _ h; cases b <;> simp_all [Go.Lib.bytesOf]
  | cons x a ih =>
    intro b ha hb h
    cases b with
    | nil => simp [Go.Lib.bytesOf] at h
    | cons y b =>
      have hx := ha x (by simp)
      have hy := hb y (by simp)
      simp only [Go.Lib.bytesOf, List.map_cons, List.cons.injEq] at h
      obtain ⟨h1, h2⟩ := h
      have e := congrArg UInt8.toNat h1
      rw [UInt8.toNat_ofNat', UInt8.toNat_ofNat'] at e
      simp only [Nat.reducePow] at e
      rw [ih (fun z hz => ha z (by simp [hz])) (fun z hz => hb z (by simp [hz])) h2]
      congr 1
      omega
theorem same_str {a b : List Int} (ha : octs a) (hb : octs b) : ((strOfNums a).toList == (strOfNums b).toList) = decide (a = b) := by
  rw [Go.Lib.strOfNums_toList, Go.Lib.strOfNums_toList]
  by_cases h : a = b
  · rw [h]; simp
  · have : ¬ (Go.Lib.bytesOf a = Go.Lib.bytesOf b) := fun e => h (bytesOf_inj ha hb e)
    simp [h, this]
theorem octs_wf {l : List Int} (h : ∀ x ∈ l, (Lit.int .u8 x).wf = true) : octs l := by
  intro x hx
  have := h x hx
  simp [Lit.wf, IntKind.min, IntKind.max, IntKind.bits, IntKind.signed] at this
  omega

end Go.Proofs.Ytpogneedafoiaaa.Wordy
