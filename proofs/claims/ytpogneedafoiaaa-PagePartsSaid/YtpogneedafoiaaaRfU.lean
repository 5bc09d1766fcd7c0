/- Plain: the reference's New, Set, Seal, sum are the page's own. -/
import Derived.Test.YtpogneedafoiaaaRfE
import Derived.Test.YtpogneedafoiaaaRfQ
import Derived.Test.YtpogneedafoiaaaPgAns
namespace Go.Proofs.Ytpogneedafoiaaa.Pg
open Go.RowKit Go.Proofs.YtpogneedafoiaaaW.PrintWords Go.Proofs.YtpogneedafoiaaaW.PrintLast Go.Proofs.YtpogneedafoiaaaW.PrintMore Go.Proofs.Ytpogneedafoiaaa.Bw Go.Proofs.Ytpogneedafoiaaa.Crc Go.Proofs.Ytpogneedafoiaaa.Wordy Go.Proofs.Ytpogneedafoiaaa.Rf
set_option linter.unusedVariables false
set_option linter.unusedSimpArgs false

theorem rmore_l1 (l : List Int) (i : Nat) (hi : i < 140737488351232) : ∀ (d k r j : Nat), j + d = 8 → r < 4294967296 →
    munimentref1_More.l1 (k + d + 1) l (r : Int) (i : Int) (j : Int) = munimentref1_More.l0 k l ((itr d r : Nat) : Int) ((i + 1 : Nat) : Int) := by
  intro d
  induction d with
  | zero =>
    intro k r j hj hr
    rw [Nat.add_zero, munimentref1_More.l1, if_neg (by omega), w64 (n := (i : Int) + 1) (by omega) (by omega)]
    rfl
  | succ d ih =>
    intro k r j hj hr
    rw [show k + (d + 1) + 1 = (k + d + 1) + 1 by omega, munimentref1_More.l1, if_pos (by omega), w64 (n := (j : Int) + 1) (by omega) (by omega)]
    have ha : Go.bits .and .u32 (r : Int) 1 = ((r % 2 : Nat) : Int) := by
      have := u32_and_nat r 1 hr (by decide)
      rw [Nat.and_one_is_mod] at this
      exact this
    have hd2 : ((r : Int) / 2) = ((r / 2 : Nat) : Int) := by omega
    have hs := stp_lt (a := r) (by simpa using hr)
    simp only [Nat.reducePow] at hs
    rw [ha, show (j : Int) + 1 = ((j + 1 : Nat) : Int) by omega, hd2]
    by_cases h1 : r % 2 = 1
    · rw [if_pos (by omega)]
      have hx := u32_xor_nat (r / 2) 3988292384 (by omega) (by decide)
      have hst : stp r = r / 2 ^^^ 3988292384 := by unfold stp; rw [if_pos h1]
      have hx2 : Go.bits .xor .u32 ((r / 2 : Nat) : Int) 3988292384 = ((stp r : Nat) : Int) := by rw [hst]; exact hx
      rw [hx2]
      exact ih k (stp r) (j + 1) (by omega) hs
    · rw [if_neg (by omega)]
      have hst : stp r = r / 2 := by unfold stp; rw [if_neg h1]
      rw [← hst]
      exact ih k (stp r) (j + 1) (by omega) hs
theorem rmore_l0 (l : List Int) (hb : octs l) (hl : l.length ≤ 140737488351232) : ∀ (m k r i : Nat), i + m = l.length → r < 4294967296 →
    munimentref1_More.l0 (k + 10 * m + 1) l (r : Int) (i : Int) = some ((reg r (l.drop i) ^^^ 4294967295 : Nat) : Int) := by
  intro m
  induction m with
  | zero =>
    intro k r i hi hr
    rw [Nat.mul_zero, Nat.add_zero, munimentref1_More.l0, if_neg (by omega), List.drop_eq_nil_of_le (by omega)]
    have hx := u32_xor_nat r 4294967295 hr (by decide)
    exact congrArg some hx
  | succ m ih =>
    intro k r i hi hr
    have hlt : i < l.length := by omega
    rw [show k + 10 * (m + 1) + 1 = ((k + 10 * m + 1) + 8 + 1) + 1 by omega, munimentref1_More.l0, if_pos (by omega), if_pos (by omega)]
    have hx := octs_getD hb i
    obtain ⟨x, hxe⟩ : ∃ x : Nat, l.getD i 0 = (x : Int) := ⟨(l.getD i 0).toNat, by omega⟩
    have hrd : rd l (i : Int) = (x : Int) := by unfold rd; rw [Int.toNat_natCast]; exact hxe
    have hxl : x < 256 := by omega
    have hm : ((x : Int) % 4294967296) = (x : Int) := by omega
    rw [hrd, hm, u32_xor_nat r x hr (by omega)]
    have hrx : r ^^^ x < 4294967296 := by
      have := Nat.xor_lt_two_pow (n := 32) (x := r) (y := x) (by simpa using hr) (by omega)
      simpa using this
    have h1 := rmore_l1 l i (by omega) 8 (k + 10 * m + 1) (r ^^^ x) 0 rfl hrx
    rw [show ((0 : Nat) : Int) = 0 from rfl] at h1
    rw [h1]
    have h8 := itr_lt 8 (a := r ^^^ x) (by simpa using hrx)
    simp only [Nat.reducePow] at h8
    rw [ih k _ (i + 1) (by omega) h8]
    have hd : l.drop i = (x : Int) :: l.drop (i + 1) := by
      rw [List.drop_eq_getElem_cons hlt]
      congr 1
      rw [← hxe, List.getD_eq_getElem?_getD, List.getElem?_eq_getElem hlt]; rfl
    rw [hd, reg_cons, Int.toNat_natCast]
theorem rOf_eq (l : List Int) (hb : octs l) (hl : l.length ≤ 140737488351232) (k : Nat) (hk : 10 * l.length < k) : munimentref1_Of.f k l = some (more 0 l) := by
  obtain ⟨j, rfl⟩ : ∃ j, k = j + 10 * l.length + 1 := ⟨k - 10 * l.length - 1, by omega⟩
  unfold munimentref1_Of.f munimentref1_More.f
  have hx : Go.bits .xor .u32 0 4294967295 = ((0 ^^^ 4294967295 : Nat) : Int) := u32_xor_nat 0 4294967295 (by decide) (by decide)
  rw [hx]
  have := rmore_l0 l hb hl l.length j (0 ^^^ 4294967295) 0 (by omega) (by decide)
  rw [show ((0 : Nat) : Int) = 0 from rfl, List.drop_zero] at this
  rw [this]
  rfl
theorem rnew_eq (kind : Int) (h : 0 ≤ kind ∧ kind ≤ 255) (k : Nat) (hk : 10 ≤ k) : munimentref5_New.f k kind = some (newP kind) := by
  unfold munimentref5_New.f
  rw [if_pos (Nat.le_of_ble_eq_true rfl), Option.bind_some, if_pos (by rw [List.length_replicate]; decide), show kind % 256 = kind by omega]
  have hl : ((List.replicate 512 (0 : Int)).set (12 : Int).toNat kind).length = 512 := by rw [List.length_set, List.length_replicate]
  rw [rput_at _ 16 2 16 2 512 rfl rfl hl (by decide) (by decide) (by decide) k hk, Option.bind_some]
  rfl
theorem rset_eq (p : List Int) (hl : p.length = 512) (x y : Int) (hx : 0 ≤ x ∧ x ≤ 4294967295 ∧ 0 ≤ y ∧ y ≤ 4294967295) (k : Nat) (hk : 10 ≤ k) : munimentref5_Set.f k p x y = some (setP p x y) := by
  have wx : IntKind.u64.wrap x = x := by rw [IntKind.wrap_u64]; omega
  have wy : IntKind.u64.wrap y = y := by rw [IntKind.wrap_u64]; omega
  unfold munimentref5_Set.f
  rw [rcopy_eq p (by omega), Option.bind_some, wx, wy, rput_at p 18 4 18 4 x rfl rfl hl hx.1 (by decide) (by decide) k hk, Option.bind_some, rput_at _ 22 4 22 4 y rfl rfl (over_len hl (by rw [leB_length]; decide)) hx.2.2.1 (by decide) (by decide) k hk, Option.bind_some]
  rfl
theorem rseal_eq (p : List Int) (ho : octs p) (hl : p.length = 512) (lsn : Int) (h0 : 0 ≤ lsn) (k : Nat) (hk : 6000 ≤ k) : munimentref5_Seal.f k p lsn = some (sealP p lsn) := by
  have ho2 : octs (sealB p lsn) := over_octs ho _ (leB_octs _ _)
  have hm := more_range (s := 0) (l := (sealB p lsn).drop 4) (by decide) (octs_drop ho2 4)
  have wm : IntKind.u64.wrap (more 0 ((sealB p lsn).drop 4)) = more 0 ((sealB p lsn).drop 4) := by rw [IntKind.wrap_u64]; omega
  have hd : ((sealB p lsn).drop 4).length = 508 := by rw [List.length_drop, sealB_len hl]
  unfold munimentref5_Seal.f
  rw [rcopy_eq p (by omega), Option.bind_some, rput_at p 4 8 4 8 lsn rfl rfl hl h0 (by decide) (by decide) k (by omega), Option.bind_some, if_pos (by omega)]
  have e : over p 4 (leB lsn 8) = sealB p lsn := rfl
  rw [e, rOf_eq _ (octs_drop ho2 4) (by omega) k (by omega), Option.bind_some, wm, rput_at _ 0 4 0 4 _ rfl rfl (sealB_len hl lsn) hm.1 (by decide) (by decide) k (by omega), Option.bind_some]
  rfl
end Go.Proofs.Ytpogneedafoiaaa.Pg
