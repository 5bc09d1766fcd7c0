/- Contracts by hand: the walk of PageSeals. -/
import Derived.Test.YtpogneedafoiaaaPgS
namespace Go.Proofs.Ytpogneedafoiaaa.Pg
open Go.RowKit Go.Proofs.YtpogneedafoiaaaW.PrintWords Go.Proofs.YtpogneedafoiaaaW.PrintLast Go.Proofs.YtpogneedafoiaaaW.PrintMore Go.Proofs.Ytpogneedafoiaaa.Bw Go.Proofs.Ytpogneedafoiaaa.Crc Go.Proofs.Ytpogneedafoiaaa.Wordy
set_option linter.unusedVariables false
set_option linter.unusedSimpArgs false

theorem i64_and4095 (n : Int) : bits .and .i64 n 4095 = n % 4096 := by
  have h127 : (BitVec.ofInt 64 4095).toNat = 2 ^ 12 - 1 := by decide
  have key : (BitVec.ofInt 64 n &&& BitVec.ofInt 64 4095).toNat = (n % ((2 ^ 64 : Nat) : Int)).toNat % 2 ^ 12 := by
    rw [BitVec.toNat_and, BitVec.toNat_ofInt, h127, Nat.and_two_pow_sub_one_eq_mod]
  show IntKind.i64.wrap ((BitVec.ofInt 64 n &&& BitVec.ofInt 64 4095).toNat : Nat) = n % 4096
  rw [key, IntKind.wrap_i64]
  omega
theorem and4095 (n : Int) : ∃ k : Nat, bits .and .i64 n 4095 = (k : Int) ∧ k < 4096 :=
  ⟨(n % 4096).toNat, by rw [i64_and4095]; omega, by omega⟩
theorem shl_u8 (m : Nat) (hm8 : m < 8) : shl .u8 1 ((m : Nat) : Int) = ((2 ^ m : Nat) : Int) := by
  unfold shl
  rw [Int.toNat_natCast, Nat.min_eq_left (by show _ ≤ 8; omega), IntKind.wrap_u8, Int.one_mul]
  have : 2 ^ m < 2 ^ 8 := Nat.pow_lt_pow_right (by decide) hm8
  simp only [Nat.reducePow] at this
  have h2 : ((2 : Int) ^ m) = ((2 ^ m : Nat) : Int) := by exact_mod_cast rfl
  rw [h2]
  generalize 2 ^ m = q at this
  omega
theorem xor_u8 (v : Int) (m : Nat) (hv : 0 ≤ v ∧ v < 256) (hm8 : m < 8) : Go.bits .xor .u8 v ((2 ^ m : Nat) : Int) = ((v.toNat ^^^ 2 ^ m : Nat) : Int) := by
  have hp8 : 2 ^ m < 256 := by
    have : 2 ^ m < 2 ^ 8 := Nat.pow_lt_pow_right (by decide) hm8
    simpa using this
  have := u8_xor_nat v.toNat (2 ^ m) (by omega) hp8
  rw [← this]
  congr 1
  omega
set_option maxHeartbeats 4000000 in
theorem seals_good (A : Option Addr) (c : Nat) (p : List Int) (lsn bit : Int) (w : World) (hr : Kd.C (Kd.int .u8) w A 512 p) (hc : 512 ≤ c) (ho : octs p) (hl : p.length = 512) (hg : goodP p = true) (h0 : 0 ≤ lsn ∧ lsn < 18446744073709551616) (hb : -9223372036854775808 ≤ bit ∧ bit ≤ 9223372036854775807) :
    Calls Try.prog 5 #[.slice A 512 c, .int .u64 lsn, .int .i64 bit] w fun e w' => e = .returned (.bool true) ∧ Below w.heap.size w w' := by
  obtain ⟨ad, rfl⟩ := rb_some hr (by omega)
  obtain ⟨n, rfl⟩ : ∃ n : Nat, lsn = (n : Int) := ⟨lsn.toNat, by omega⟩
  have HS := Aside0.mk (sealP_len hl (n : Int))
  have HSO := Aside0.mk (sealP_octs ho (n : Int))
  have HSG := Aside0.mk (show goodP (sealP p n) = true by rw [sealP_good hl]; exact hg)
  have HSC := Aside0.mk (checkP_seal hl ho hg (n : Int))
  have HSL := Aside0.mk (sealP_lsn hl n (by omega))
  have HSK := Aside0.mk (sealP_kind hl (n : Int))
  have HSS := Aside0.mk (sealP_sum hl ho (n : Int))
  have HR := Aside0.mk hr
  have HO := Aside0.mk ho
  have HG := Aside0.mk hg
  have HL := Aside0.mk hl
  have k12 : p.getD 12 0 = p[12]?.getD 0 := List.getD_eq_getElem?_getD ..
  have hw12 : IntKind.i64.wrap (p[12]?.getD 0) = p[12]?.getD 0 := by
    have := octs_getD ho 12
    rw [k12] at this
    exact IntWalk.i64_in _ (by omega)
  obtain ⟨k, hk, hk2⟩ := and4095 bit
  clear hr ho hg hl
  go_enter Try.func5, Try.ntmps5
  go_wp2_with fail
  refine (awake_x _).mono ?_
  rintro e w1 ⟨rfl, hb1⟩
  have HB1 := Aside0.mk hb1
  clear hb1
  go_wp2_with fail
  refine (seal_good (some ad) c p (n : Int) _ (Kd.C_below HR.out HB1.out) hc HO.out HL.out HG.out h0.1).mono ?_
  rintro e w2 ⟨g, rfl, hg1, hbk, hb2⟩
  have HB2 := Aside0.mk (below_step HB1.out hb2)
  have HBk := Aside0.mk hbk
  have hgw : w.heap.size ≤ g := by have := HB1.out.size; omega
  clear hbk hb2
  go_wp2_with fail
  refine (headF_good (some ⟨g, 0, none⟩) 512 (sealP p n) _ (blk_rb5 HBk.out HS.out) (Nat.le_refl _) HSO.out HS.out HSG.out).mono ?_
  rw [HSL.out, HSK.out, k12]
  rintro e w3 ⟨rfl, hb3⟩
  have HB3 := Aside0.mk (below_step HB2.out hb3)
  have HBk3 := Aside0.mk (HBk.out.below hb3)
  clear hb3
  have hc12 := cellK (Kd.C_below HR.out HB3.out) 11 (by decide)
  rw [show 11 + 1 = 12 from rfl, k12] at hc12
  go_wp2_with fail
  refine (checkF ⟨g, 0, none⟩ 512 (sealP p n) _ (blk_rb5 HBk3.out HS.out) (Nat.le_refl _) HSO.out HS.out).mono ?_
  rw [HSC.out]
  rintro e w4 ⟨rfl, hb4⟩
  have HB4 := Aside0.mk (below_step HB3.out hb4)
  have HBk4 := Aside0.mk (HBk3.out.below hb4)
  have hc12 := cellK (Kd.C_below HR.out HB4.out) 11 (by decide)
  rw [show 11 + 1 = 12 from rfl, k12] at hc12
  clear hb4
  have hcj := Blk.cell HBk4.out (k / 8) (by rw [HS.out]; omega)
  have hfj := Blk.free HBk4.out (k / 8)
  go_wp2_with fail
  have hx : bits BinOp.xor IntKind.u8 ((sealP p (n : Int))[k / 8]?.getD 0) (2 ^ (k % 8) % 256) = ((((sealP p (n : Int)).getD (k / 8) 0).toNat ^^^ 2 ^ (k % 8) : Nat) : Int) := by
    have hm8 : k % 8 < 8 := by omega
    have e2 : (2 : Int) ^ (k % 8) % 256 = ((2 ^ (k % 8) : Nat) : Int) := by
      have : 2 ^ (k % 8) < 2 ^ 8 := Nat.pow_lt_pow_right (by decide) hm8
      simp only [Nat.reducePow] at this
      have h2 : ((2 : Int) ^ (k % 8)) = ((2 ^ (k % 8) : Nat) : Int) := by exact_mod_cast rfl
      rw [h2]
      generalize 2 ^ (k % 8) = q at this
      omega
    rw [e2, ← List.getD_eq_getElem?_getD]
    exact xor_u8 _ _ (octs_getD HSO.out _) hm8
  rw [hx]
  have hfl := flip_tells HSO.out HS.out HSG.out HSS.out (k / 8) (k % 8) (by omega) (by omega)
  have hv : (0 : Int) ≤ ((((sealP p (n : Int)).getD (k / 8) 0).toNat ^^^ 2 ^ (k % 8) : Nat) : Int) ∧ ((((sealP p (n : Int)).getD (k / 8) 0).toNat ^^^ 2 ^ (k % 8) : Nat) : Int) < 256 := by
    refine ⟨Int.natCast_nonneg _, ?_⟩
    have h8 : ((sealP p (n : Int)).getD (k / 8) 0).toNat < 2 ^ 8 := by have := octs_getD HSO.out (k / 8); omega
    have hp : 2 ^ (k % 8) < 2 ^ 8 := Nat.pow_lt_pow_right (by decide) (by omega)
    have := Nat.xor_lt_two_pow h8 hp
    simp only [Nat.reducePow] at this
    omega
  generalize ((((sealP p (n : Int)).getD (k / 8) 0).toNat ^^^ 2 ^ (k % 8) : Nat) : Int) = V at hfl hv
  have HB5 := Aside0.mk (Blk.set HBk4.out (k / 8) V)
  have HBl5 := Aside0.mk (HB4.out.setCell (p := ⟨g, k / 8, none⟩) hgw (.int .u8 V))
  have HSr := Aside0.mk (show ((sealP p (n : Int)).set (k / 8) V).length = 512 by rw [List.length_set]; exact HS.out)
  refine (checkF ⟨g, 0, none⟩ 512 _ _ (blk_rb5 HB5.out HSr.out) (Nat.le_refl _) (octs_set HSO.out _ hv) HSr.out).mono ?_
  rintro e w6 ⟨rfl, hb6⟩
  have HB6 := Aside0.mk (below_step HBl5.out hb6)
  have hne : (checkP ((sealP p (n : Int)).set (k / 8) V) != 0) = true := by simp [bne, hfl]
  clear hb6
  go_wp2
  go_ret
  exact ⟨rfl, HB6.out⟩
set_option maxHeartbeats 4000000 in
theorem seals_bad (A : Option Addr) (c : Nat) (p : List Int) (lsn bit : Int) (w : World) (hr : Kd.C (Kd.int .u8) w A p.length p) (hc : p.length ≤ c) (ho : octs p) (hl : p.length ≤ 140737488351232) (hg : goodP p = false) :
    Calls Try.prog 5 #[.slice A p.length c, .int .u64 lsn, .int .i64 bit] w fun e w' => e = .returned (.bool true) ∧ Below w.heap.size w w' := by
  have HR := Aside0.mk hr
  have HO := Aside0.mk ho
  have HG := Aside0.mk hg
  clear hr ho hg
  go_enter Try.func5, Try.ntmps5
  go_wp2_with fail
  refine (awake_x _).mono ?_
  rintro e w1 ⟨rfl, hb1⟩
  have HB1 := Aside0.mk hb1
  clear hb1
  go_wp2_with fail
  refine (seal_bad A c p lsn _ (Kd.C_below HR.out HB1.out) hc HO.out hl HG.out).mono ?_
  rintro e w2 ⟨rfl, hb2⟩
  have HB2 := Aside0.mk (below_step HB1.out hb2)
  clear hb2
  go_wp2_with fail
  refine (good_calls A c p _ (Kd.C_below HR.out HB2.out) hc HO.out hl).mono ?_
  rw [HG.out]
  rintro e w3 ⟨rfl, hb3⟩
  have HB3 := Aside0.mk (below_step HB2.out hb3)
  clear hb3
  go_wp2
  go_ret
  exact ⟨rfl, HB3.out⟩
theorem octs_wf {l : List Int} (h : ∀ x ∈ l, (Lit.int .u8 x).wf = true) : octs l := by
  intro x hx
  have := h x hx
  simp [Lit.wf, IntKind.min, IntKind.max, IntKind.bits, IntKind.signed] at this
  omega
theorem wf_i64 {n : Int} (h : (Lit.int .i64 n).wf = true) : -9223372036854775808 ≤ n ∧ n ≤ 9223372036854775807 := by
  simp [Lit.wf, IntKind.min, IntKind.max, IntKind.bits, IntKind.signed] at h
  omega
theorem wf_u64 {n : Int} (h : (Lit.int .u64 n).wf = true) : 0 ≤ n ∧ n < 18446744073709551616 := by
  simp [Lit.wf, IntKind.min, IntKind.max, IntKind.bits, IntKind.signed] at h
  omega
theorem seals_walk (a0 : Option Addr) (len0 cap0 : Nat) (z0 : List Int) (a1 a2 : Int) (w : World) (w0 : (a0 = none ∧ len0 = 0 ∧ cap0 = 0 ∧ z0 = []) ∨ ∃ x, a0 = some x ∧ len0 ≤ cap0 ∧ cap0 ≤ maxLen ∧ z0.length = cap0 ∧ (∀ i, i < z0.length → w.cell? (x.add i) = some (.int .u8 (z0.getD i 0))) ∧ ∀ n ∈ z0, (Lit.int .u8 n).wf = true) (y0 : len0 * 1 ≤ 140737488351232) (w1 : (Lit.int .u64 a1).wf = true) (w2 : (Lit.int .i64 a2).wf = true) :
    Calls Try.prog 5 #[.slice a0 len0 cap0, .int .u64 a1, .int .i64 a2] w fun e w' => e = .returned (.bool true) ∧ Below w.heap.size w w' := by
  obtain ⟨l0, rfl, hr0, hm0, hw0, hc0⟩ := ReadsInt.ofRowC w0
  have hr := rb_of_reads hr0
  have ho := octs_wf hw0
  have h1 := wf_u64 w1
  have h2 := wf_i64 w2
  have hl : l0.length ≤ 140737488351232 := by omega
  cases hg : goodP l0 with
  | false => exact seals_bad a0 cap0 l0 a1 a2 w hr hc0 ho hl hg
  | true =>
    have hl5 := (good_facts hg).1
    have h := seals_good a0 cap0 l0 a1 a2 w (by rw [← hl5]; exact hr) (by omega) ho hl5 hg (by omega) (by omega)
    rw [← hl5] at h
    exact h
end Go.Proofs.Ytpogneedafoiaaa.Pg
