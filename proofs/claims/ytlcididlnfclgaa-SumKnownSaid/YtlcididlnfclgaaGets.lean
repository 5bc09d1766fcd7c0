/- Contracts by hand: Word, Get, the reference's Get and Put. -/
import Derived.Test.YtlcididlnfclgaaPut1
import Derived.Outline
namespace Go.Proofs.Ytlcididlnfclgaa.Sums
open Go.RowKit Go.Proofs.YtlcididlnfclgaaW.PrintWords Go.Proofs.YtlcididlnfclgaaW.PrintLast Go.Proofs.YtlcididlnfclgaaW.PrintMore Go.Proofs.Ytlcididlnfclgaa.Bw Go.Proofs.Ytlcididlnfclgaa.Crc
set_option linter.unusedVariables false
set_option linter.unusedSimpArgs false

theorem w64 {n : Int} (h0 : -9223372036854775808 ≤ n) (h1 : n ≤ 9223372036854775807) : wrap64 n = n := by unfold wrap64; omega
theorem pow_le56 {i : Nat} (h : i ≤ 7) : 2 ^ (8 * i) ≤ 72057594037927936 := by
  have : 2 ^ (8 * i) ≤ 2 ^ 56 := Nat.pow_le_pow_right (by decide) (by omega)
  simpa using this
theorem or_byte {a x i : Nat} (ha : a < 2 ^ (8 * i)) (hx : x < 256) (hi : i ≤ 7) :
    Go.bits .or .u64 (a : Int) (shl .u64 (IntKind.u64.wrap (x : Int)) ((8 * i : Nat) : Int)) = ((a + 2 ^ (8 * i) * x : Nat) : Int) := by
  have hp := pow_le56 hi
  have h1 : IntKind.u64.wrap (x : Int) = (x : Int) := by rw [IntKind.wrap_u64]; omega
  have hb : x * 2 ^ (8 * i) < 18446744073709551616 := Nat.lt_of_le_of_lt (Nat.mul_le_mul (show x ≤ 255 by omega) hp) (by decide)
  have h2 : shl .u64 (x : Int) ((8 * i : Nat) : Int) = ((x * 2 ^ (8 * i) : Nat) : Int) := by
    unfold shl
    rw [Int.toNat_natCast, Nat.min_eq_left (by show _ ≤ 64; omega), IntKind.wrap_u64]
    have e : ((2 : Int) ^ (8 * i)) = ((2 ^ (8 * i) : Nat) : Int) := (Int.natCast_pow 2 (8 * i)).symm
    rw [e, ← Int.natCast_mul]
    generalize x * 2 ^ (8 * i) = y at hb
    omega
  rw [h1, h2, u64_or_nat a _ (by generalize 2 ^ (8 * i) = q at *; omega) hb, Nat.mul_comm x, or_add x ha]
theorem Word_l0 (l : List Int) (ho : octs l) (hl : l.length ≤ 8) : ∀ (m j i : Nat), i + m = l.length → sum_Word.l0 (j + m + 1) ((num (l.take i) : Nat) : Int) l (l.length : Int) (i : Int) = some ((num l : Nat) : Int) := by
  intro m
  induction m with
  | zero =>
    intro j i hi
    simp only [Nat.add_zero, sum_Word.l0]
    rw [if_neg (by omega), List.take_of_length_le (by omega)]
  | succ m ih =>
    intro j i hi
    have e : j + (m + 1) + 1 = (j + m + 1) + 1 := by omega
    rw [e]
    simp only [sum_Word.l0]
    rw [if_pos (by omega), if_pos (by omega), if_pos (by omega), w64 (n := 8 * (i : Int)) (by omega) (by omega), if_pos (by omega), w64 (n := (i : Int) + 1) (by omega) (by omega)]
    have hx := octs_getD ho i
    obtain ⟨x, hxe⟩ : ∃ x : Nat, l.getD i 0 = (x : Int) := ⟨(l.getD i 0).toNat, by omega⟩
    have hrd : rd l (i : Int) = (x : Int) := by unfold rd; rw [Int.toNat_natCast]; exact hxe
    have h8 : (8 * (i : Int)) = ((8 * i : Nat) : Int) := by omega
    have hlt := num_lt (octs_take ho i)
    rw [List.length_take, Nat.min_eq_left (by omega)] at hlt
    rw [hrd, h8, or_byte hlt (by omega) (by omega)]
    have hi2 : i < l.length := by omega
    have hg : l[i] = (x : Int) := by
      rw [← hxe, List.getD_eq_getElem?_getD, List.getElem?_eq_getElem hi2]; rfl
    have ht : l.take (i + 1) = l.take i ++ [(x : Int)] := by rw [List.take_succ_eq_append_getElem hi2, hg]
    have hn : num (l.take i) + 2 ^ (8 * i) * x = num (l.take (i + 1)) := by
      rw [ht, num_append, List.length_take, Nat.min_eq_left (by omega)]
      simp [num]
    rw [hn, show ((i : Int) + 1) = ((i + 1 : Nat) : Int) by omega]
    exact ih j (i + 1) (by omega)
theorem Word_eq (l : List Int) (ho : octs l) (hl : l.length ≤ 8) (k : Nat) (hk : l.length < k) : sum_Word.f k l = some ((num l : Nat) : Int) := by
  obtain ⟨j, rfl⟩ : ∃ j, k = j + l.length + 1 := ⟨k - l.length - 1, by omega⟩
  have := Word_l0 l ho hl l.length j 0 (by omega)
  unfold sum_Word.f
  simpa [num] using this
theorem lies_facts {n : Nat} {at_ size : Int} (h : liesB n at_ size = true) : (size = 1 ∨ size = 2 ∨ size = 4 ∨ size = 8) ∧ 0 ≤ at_ ∧ size ≤ n ∧ at_ ≤ n - size := by
  unfold liesB at h
  exact of_decide_eq_true h
/-- size bytes from a place on, as a number -/
def numAt (b : List Int) (at_ size : Nat) : Nat := num ((b.drop at_).take size)
theorem Get_cut (b : List Int) (at_ size : Nat) : (b.take ((at_ : Int) + (size : Int)).toNat).drop (at_ : Int).toNat = (b.drop at_).take size := by
  rw [show ((at_ : Int) + (size : Int)).toNat = at_ + size by omega, Int.toNat_natCast, List.drop_take, Nat.add_sub_cancel_left]
theorem Get_part (n : Nat) (at_ size : Nat) (L : List Int) (h1 : at_ + size ≤ n) (hl : n ≤ 140737488351232) (x : Option Int) (y : Int → Int × Int) (z : Option (Int × Int)) (hx : x.bind (fun t => some (y t)) = z) :
    (if (0 : Int) ≤ (at_ : Int) then (if (at_ : Int) ≤ (wrap64 ((at_ : Int) + (size : Int))) then (if (wrap64 ((at_ : Int) + (size : Int))) ≤ (n : Int) then x.bind (fun t => some (y t)) else none) else none) else none) = z := by
  rw [w64 (by omega) (by omega), if_pos (by omega), if_pos (by omega), if_pos (by omega)]
  exact hx
theorem Get_ok (b : List Int) (ho : octs b) (hl : b.length ≤ 140737488351232) (at_ size : Nat) (h : liesB b.length at_ size = true) (k : Nat) (hk : 8 < k) : sum_Get.f k b at_ size = some (((numAt b at_ size : Nat) : Int), 0) := by
  obtain ⟨h1, h2, h3, h4⟩ := lies_facts h
  unfold sum_Get.f
  rw [lies_eq b _ _ hl, h, Option.bind_some, if_pos rfl]
  refine Get_part b.length at_ size b (by omega) hl _ _ _ ?_
  rw [w64 (n := (at_ : Int) + size) (by omega) (by omega), Get_cut, Word_eq _ (octs_take (octs_drop ho _) _) (by rw [List.length_take]; omega) k (by rw [List.length_take]; omega), Option.bind_some]
  unfold numAt
  exact rfl
theorem Get_no (b : List Int) (hl : b.length ≤ 140737488351232) (at_ size : Int) (h : liesB b.length at_ size = false) (k : Nat) : sum_Get.f k b at_ size = some (0, 1) := by
  unfold sum_Get.f
  rw [lies_eq b _ _ hl, h]
  rfl
theorem get_ok (A : Option Addr) (c : Nat) (b : List Int) (at_ size : Nat) (w : World) (hr : Kd.C (Kd.int .u8) w A b.length b) (hc : b.length ≤ c) (ho : octs b) (hl : b.length ≤ 140737488351232) (h : liesB b.length at_ size = true) :
    Calls Try.prog 10 #[.slice A b.length c, .int .i64 at_, .int .i64 size] w fun e w' => e = .returned (.tuple #[.int .u64 ((numAt b at_ size : Nat) : Int), .int .i64 0]) ∧ Drawn0 w w' := by
  obtain ⟨k, hk⟩ : ∃ k, 8 < k := ⟨9, by decide⟩
  exact sum_Get.calls k A c b at_ size _ _ w hr hc (Get_ok b ho hl at_ size h k hk)
theorem get_no (A : Option Addr) (c : Nat) (b : List Int) (at_ size : Int) (w : World) (hr : Kd.C (Kd.int .u8) w A b.length b) (hc : b.length ≤ c) (hl : b.length ≤ 140737488351232) (h : liesB b.length at_ size = false) :
    Calls Try.prog 10 #[.slice A b.length c, .int .i64 at_, .int .i64 size] w fun e w' => e = .returned (.tuple #[.int .u64 0, .int .i64 1]) ∧ Drawn0 w w' :=
  sum_Get.calls 0 A c b at_ size _ _ w hr hc (Get_no b hl at_ size h 0)
theorem numAt_step (b : List Int) (ho : octs b) (at_ d m : Nat) (hd : at_ + d < b.length) : numAt b (at_ + d) (m + 1) = numAt b (at_ + (d + 1)) m * 256 + (b.getD (at_ + d) 0).toNat := by
  unfold numAt
  rw [List.drop_eq_getElem_cons hd, List.take_succ_cons, num_cons, List.getD_eq_getElem?_getD, List.getElem?_eq_getElem hd, Nat.add_assoc at_ d 1]
  simp only [Option.getD_some]
  omega
theorem numAt_lt (b : List Int) (ho : octs b) (at_ m : Nat) : numAt b at_ m < 2 ^ (8 * m) := by
  have h := num_lt (octs_take (octs_drop ho at_) m)
  have : 2 ^ (8 * ((b.drop at_).take m).length) ≤ 2 ^ (8 * m) := Nat.pow_le_pow_right (by decide) (by rw [List.length_take]; omega)
  exact Nat.lt_of_lt_of_le h this
theorem shift_or (b : List Int) (ho : octs b) (at_ d m : Nat) (hd : at_ + d < b.length) (hm : m ≤ 7) :
    Go.bits .or .u64 (IntKind.u64.wrap ((numAt b (at_ + (d + 1)) m : Nat) * 256 : Int)) (IntKind.u64.wrap (rd b ((at_ : Int) + (d : Int)))) = ((numAt b (at_ + d) (m + 1) : Nat) : Int) := by
  have hx := octs_getD ho (at_ + d)
  have hrd : rd b ((at_ : Int) + (d : Int)) = (((b.getD (at_ + d) 0).toNat : Nat) : Int) := by
    unfold rd
    rw [show ((at_ : Int) + (d : Int)).toNat = at_ + d by omega]
    omega
  have hlt := numAt_lt b ho (at_ + (d + 1)) m
  have hp := pow_le56 hm
  rw [numAt_step b ho at_ d m hd, hrd]
  generalize numAt b (at_ + (d + 1)) m = a at *
  generalize hx0 : (b.getD (at_ + d) 0).toNat = x at *
  have hx256 : x < 256 := by omega
  have ha : a < 72057594037927936 := Nat.lt_of_lt_of_le hlt hp
  have e1 : IntKind.u64.wrap ((a : Int) * 256) = ((a * 256 : Nat) : Int) := by rw [IntKind.wrap_u64]; omega
  have e2 : IntKind.u64.wrap (x : Int) = (x : Int) := by rw [IntKind.wrap_u64]; omega
  rw [e1, e2, u64_or_nat _ _ (by omega) (by omega), Nat.or_comm]
  have := or_add (a := x) (k := 8) a (by omega)
  simp only [Nat.reducePow] at this
  rw [Nat.mul_comm a, this, Nat.add_comm]

set_option maxHeartbeats 1000000 in
theorem refGet_calls (A : Option Addr) (c : Nat) (b : List Int) (at_ size : Nat) (w : World) (hr : Kd.C (Kd.int .u8) w A b.length b) (hc : b.length ≤ c) (ho : octs b) (hl : b.length ≤ 140737488351232) (h1 : size ≤ 8) (h2 : at_ + size ≤ b.length) :
    Calls Try.prog 11 #[.slice A b.length c, .int .i64 at_, .int .i64 size] w fun e w' => e = .returned (.int .u64 ((numAt b at_ size : Nat) : Int)) ∧ w = w' := by
  have HR := Aside0.mk hr
  clear hr
  have HO := Aside0.mk ho
  clear ho
  go_enter Try.func11, Try.ntmps11
  go_wp2
  go_loopg [7, 8] size (fun d v7 v8 wr => Aside0 (d ≤ size) ∧ v7 = .int .u64 ((numAt b (at_ + d) (size - d) : Nat) : Int) ∧ v8 = .int .i64 ((d : Int) - 1) ∧ w = wr)
  case atStart => exact ⟨⟨Nat.le_refl _⟩, by simp [numAt, num], rfl, rfl⟩
  case round =>
    obtain ⟨HK, rfl, rfl, rfl⟩ := hrel
    have hk := HK.out
    cases gk with
    | zero =>
      go_wp2
      go_ret
      exact ⟨by simp, rfl⟩
    | succ d =>
      have e1 : (((d + 1 : Nat) : Int) - 1) = (d : Int) := by omega
      rw [e1]
      obtain ⟨ad, eA, hcell⟩ := Kd.at_int HR.out ((at_ + d : Nat) : Int) (by omega) (by omega)
      subst eA
      rw [Int.toNat_natCast] at hcell
      have HS := Aside0.mk (shift_or b HO.out at_ d (size - (d + 1)) (by omega) (by omega))
      go_wp2
      go_roundg d
      case measure => omega
      case rel => exact ⟨⟨by omega⟩, by rw [HS.out, show size - (d + 1) + 1 = size - d by omega], rfl, rfl⟩
end Go.Proofs.Ytlcididlnfclgaa.Sums
