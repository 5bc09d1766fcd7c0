/- The plain law of SumTells: a row of at most 32 bits that are turned in any bytes is told by the sum, for every input. -/
import Derived.Test.YtlcididlnfclgaaSumsTells
import Derived.Test.YtlcididlnfclgaaCrc
import Derived.Lib.Bytes
namespace Go.Proofs.Ytlcididlnfclgaa.Pure
open Go.RowKit Go.Proofs.Ytlcididlnfclgaa.Sums Go.Proofs.YtlcididlnfclgaaW.PrintWords Go.Proofs.YtlcididlnfclgaaW.PrintLast
open Go.Proofs.Ytlcididlnfclgaa.Crc
set_option linter.unusedVariables false
set_option linter.unusedSimpArgs false

theorem w64 {n : Int} (h0 : -9223372036854775808 ≤ n) (h1 : n ≤ 9223372036854775807) : wrap64 n = n := by unfold wrap64; omega
theorem l1_run (l : List Int) (n i : Int) : ∀ (d k r j : Nat), j + d = 8 → r < 4294967296 →
    sum_More.l1 (k + d + 1) (r : Int) l n i (j : Int) = sum_More.l0 k ((itr d r : Nat) : Int) l n (wrap64 (i + 1)) := by
  intro d
  induction d with
  | zero =>
    intro k r j hj hr
    simp only [Nat.add_zero, sum_More.l1]
    rw [if_neg (by omega)]
    rfl
  | succ d ih =>
    intro k r j hj hr
    have e : k + (d + 1) + 1 = (k + d + 1) + 1 := by omega
    rw [e]
    simp only [sum_More.l1]
    rw [if_pos (by omega), w64 (by omega) (by omega)]
    have ha : Go.bits .and .u32 (r : Int) 1 = ((r % 2 : Nat) : Int) := by
      have := u32_and_nat r 1 hr (by decide)
      rw [Nat.and_one_is_mod] at this
      exact this
    have hj1 : ((j : Int) + 1) = ((j + 1 : Nat) : Int) := by omega
    have hd2 : ((r : Int) / 2) = ((r / 2 : Nat) : Int) := by omega
    have hs := stp_lt (a := r) (by simpa using hr)
    simp only [Nat.reducePow] at hs
    rw [ha, hj1, hd2]
    by_cases h1 : r % 2 = 1
    · rw [if_pos (by omega)]
      have hx := u32_xor_nat (r / 2) 3988292384 (by omega) (by decide)
      have hst : stp r = r / 2 ^^^ 3988292384 := by unfold stp; rw [if_pos h1]
      have hx2 : Go.bits .xor .u32 ((r / 2 : Nat) : Int) 3988292384 = ((stp r : Nat) : Int) := by rw [hst]; exact hx
      rw [hx2]
      exact ih k (stp r) (j + 1) (by omega) hs
    · rw [if_neg (by omega)]
      have hst : stp r = r / 2 := by unfold stp; rw [if_neg h1]
      rw [← hst]
      exact ih k (stp r) (j + 1) (by omega) hs
theorem l0_run (l : List Int) (hb : octs l) (hl : l.length ≤ 140737488351232) : ∀ (m k r i : Nat), i + m = l.length → r < 4294967296 →
    sum_More.l0 (k + 10 * m + 1) (r : Int) l (l.length : Int) (i : Int) = some ((reg r (l.drop i) ^^^ 4294967295 : Nat) : Int) := by
  intro m
  induction m with
  | zero =>
    intro k r i hi hr
    simp only [Nat.mul_zero, Nat.add_zero, sum_More.l0]
    rw [if_neg (by omega), List.drop_eq_nil_of_le (by omega)]
    have hx := u32_xor_nat r 4294967295 hr (by decide)
    exact congrArg some hx
  | succ m ih =>
    intro k r i hi hr
    have e : k + 10 * (m + 1) + 1 = ((k + 10 * m + 1) + 8 + 1) + 1 := by omega
    rw [e]
    simp only [sum_More.l0]
    have hlt : i < l.length := by omega
    rw [if_pos (by omega), if_pos (by omega), if_pos (by omega)]
    have hx := octs_getD hb i
    obtain ⟨x, hxe⟩ : ∃ x : Nat, l.getD i 0 = (x : Int) := ⟨(l.getD i 0).toNat, by omega⟩
    have hrd : rd l (i : Int) = (x : Int) := by unfold rd; rw [Int.toNat_natCast]; exact hxe
    have hxl : x < 256 := by omega
    have hm : ((x : Int) % 4294967296) = (x : Int) := by omega
    rw [hrd, hm, u32_xor_nat r x hr (by omega)]
    have hrx : r ^^^ x < 4294967296 := by
      have := Nat.xor_lt_two_pow (n := 32) (x := r) (y := x) (by simpa using hr) (by omega)
      simpa using this
    have h1 := l1_run l (l.length : Int) (i : Int) 8 (k + 10 * m + 1) (r ^^^ x) 0 rfl hrx
    rw [show ((0 : Nat) : Int) = 0 from rfl] at h1
    rw [h1, w64 (by omega) (by omega), show ((i : Int) + 1) = ((i + 1 : Nat) : Int) by omega]
    have h8 := itr_lt 8 (a := r ^^^ x) (by simpa using hrx)
    simp only [Nat.reducePow] at h8
    rw [ih k _ (i + 1) (by omega) h8]
    have hd : l.drop i = (x : Int) :: l.drop (i + 1) := by
      rw [List.drop_eq_getElem_cons hlt]
      congr 1
      rw [← hxe, List.getD_eq_getElem?_getD, List.getElem?_eq_getElem hlt]; rfl
    rw [hd, reg_cons, Int.toNat_natCast]
theorem More_eq (l : List Int) (hb : octs l) (hl : l.length ≤ 140737488351232) (s : Int) (hs0 : 0 ≤ s) (hs : s < 4294967296) (k : Nat) (hk : 10 * l.length < k) :
    sum_More.f k s l = some (more s l) := by
  obtain ⟨j, rfl⟩ : ∃ j, k = j + 10 * l.length + 1 := ⟨k - 10 * l.length - 1, by omega⟩
  obtain ⟨r, rfl⟩ : ∃ r : Nat, s = (r : Int) := ⟨s.toNat, by omega⟩
  unfold sum_More.f
  have hx : Go.bits .xor .u32 (r : Int) 4294967295 = ((r ^^^ 4294967295 : Nat) : Int) := u32_xor_nat r 4294967295 (by omega) (by decide)
  rw [hx]
  have hlt : r ^^^ 4294967295 < 4294967296 := by
    have := Nat.xor_lt_two_pow (n := 32) (x := r) (y := 4294967295) (by simp; omega) (by decide)
    simpa using this
  have := l0_run l hb hl l.length j (r ^^^ 4294967295) 0 (by omega) hlt
  rw [show ((0 : Nat) : Int) = 0 from rfl, List.drop_zero] at this
  rw [this]
  rfl
theorem Of_eq (l : List Int) (hb : octs l) (hl : l.length ≤ 140737488351232) (k : Nat) (hk : 10 * l.length < k) : sum_Of.f k l = some (more 0 l) := by
  unfold sum_Of.f
  rw [More_eq l hb hl 0 (by omega) (by omega) k hk]
  rfl
theorem awake_some (k : Nat) (hk : 40 ≤ k) : munimentlaw1_awake.f k = some true := by
  have h : munimentlaw1_awake.f 40 = some true := by
    unfold munimentlaw1_awake.f
    decide +kernel
  obtain ⟨d, rfl⟩ : ∃ d, k = 40 + d := ⟨k - 40, by omega⟩
  clear hk
  induction d with
  | zero => exact h
  | succ d ih => exact munimentlaw1_awake.mono _ _ ih
theorem bytesOf_inj : ∀ {a b : List Int}, octs a → octs b → Go.Lib.bytesOf a = Go.Lib.bytesOf b → a = b := by
  intro a
  induction a with
  | nil => intro b _ _ h; cases b <;> simp_all [Go.Lib.bytesOf]
  | cons x a ih =>
    intro b ha hb h
    cases b with
    | nil => simp [Go.Lib.bytesOf] at h
    | cons y b =>
      have hx := ha x (by simp)
      have hy := hb y (by simp)
      simp only [Go.Lib.bytesOf, List.map_cons, List.cons.injEq] at h
      obtain ⟨h1, h2⟩ := h
      have e := congrArg UInt8.toNat h1
      rw [UInt8.toNat_ofNat', UInt8.toNat_ofNat'] at e
      simp only [Nat.reducePow] at e
      rw [ih (fun z hz => ha z (by simp [hz])) (fun z hz => hb z (by simp [hz])) h2]
      congr 1
      omega
theorem same_str {a b : List Int} (ha : octs a) (hb : octs b) : ((strOfNums a).toList == (strOfNums b).toList) = decide (a = b) := by
  rw [Go.Lib.strOfNums_toList, Go.Lib.strOfNums_toList]
  by_cases h : a = b
  · rw [h]; simp
  · have : ¬ (Go.Lib.bytesOf a = Go.Lib.bytesOf b) := fun e => h (bytesOf_inj ha hb e)
    simp [h, this]
theorem octs_wf {l : List Int} (h : ∀ x ∈ l, (Lit.int .u8 x).wf = true) : octs l := by
  intro x hx
  have := h x hx
  simp [Lit.wf, IntKind.min, IntKind.max, IntKind.bits, IntKind.signed] at this
  omega

/-- The last part: the sums are compared. -/
theorem tells_end (a b : List Int) (row k0 : Int) (i : Int) (acc n : Nat) (K : Nat) (ha : octs a) (hb : octs b) (hl : b.length = a.length) (hlen : a.length ≤ 140737488351232)
    (hacc : acc < 4294967296) (hn : n ≤ 8 * a.length) (hnum : num b = num a ^^^ (acc * 2 ^ n)) (hK : 10 * a.length < K) :
    munimentlaw1_SumTells.j3 (K + 1) a row k0 b i false = some true := by
  simp only [munimentlaw1_SumTells.j3]
  rw [if_neg (by decide), Of_eq a ha hlen K hK, Of_eq b hb (by omega) K (by omega)]
  simp only [Option.bind_some]
  have h := more_tells (s := 0) ha hb hl (row := acc) (k := n) (by simpa using hacc) hn hnum
  rw [same_str ha hb]
  by_cases e : a = b
  · rw [e]; simp
  · have : ¬ (more 0 a = more 0 b) := fun h2 => e (h.mp h2)
    simp [e, this]
theorem l0_tells (a : List Int) (row : Nat) (k0 : Nat) (ha : octs a) (hlen : a.length ≤ 140737488351232) (hk0 : k0 < 8 * a.length) (hrow : row < 4294967296) :
    ∀ (d i acc K : Nat) (b : List Int), i + d = 32 → octs b → b.length = a.length → acc < 2 ^ i → num b = num a ^^^ (acc * 2 ^ k0) → 10 * a.length < K →
      munimentlaw1_SumTells.l0 (K + 2 * d + 2) a (row : Int) (k0 : Int) b (i : Int) = some true := by
  intro d
  induction d with
  | zero =>
    intro i acc K b hi hb hl hacc hnum hK
    have e : K + 2 * 0 + 2 = (K + 1) + 1 := by omega
    rw [e]
    simp only [munimentlaw1_SumTells.l0]
    rw [if_neg (by omega)]
    have h32 : i = 32 := by omega
    subst h32
    exact tells_end a b _ _ _ acc k0 K ha hb hl hlen (by simpa using hacc) (by omega) hnum hK
  | succ d ih =>
    intro i acc K b hi hb hl hacc hnum hK
    have e : K + 2 * (d + 1) + 2 = ((K + 2 * d + 2) + 1) + 1 := by omega
    rw [e]
    simp only [munimentlaw1_SumTells.l0]
    have hacc32 : acc < 4294967296 := by
      have : 2 ^ i ≤ 2 ^ 32 := Nat.pow_le_pow_right (by decide) (by omega)
      simp only [Nat.reducePow] at this
      omega
    rw [if_pos (by omega), w64 (n := (k0 : Int) + i) (by omega) (by omega), w64 (n := 8 * (b.length : Int)) (by omega) (by omega)]
    by_cases hin : k0 + i < 8 * a.length
    · rw [decide_eq_true (show (k0 : Int) + i < 8 * (b.length : Int) by omega)]
      simp only [munimentlaw1_SumTells.j3]
      have hu : IntKind.u64.wrap (i : Int) = (i : Int) := by rw [IntKind.wrap_u64]; omega
      have hsum : ((k0 : Int) + i) = ((k0 + i : Nat) : Int) := by omega
      have htd : Int.tdiv ((k0 : Int) + i) 8 = (((k0 + i) / 8 : Nat) : Int) := by
        rw [hsum]; exact Int.ofNat_tdiv (k0 + i) 8
      have htm : Int.tmod ((k0 : Int) + i) 8 = (((k0 + i) % 8 : Nat) : Int) := by
        rw [hsum]; exact Int.ofNat_tmod (k0 + i) 8
      have hum : IntKind.u64.wrap (((k0 + i) % 8 : Nat) : Int) = (((k0 + i) % 8 : Nat) : Int) := by rw [IntKind.wrap_u64]; omega
      rw [if_pos trivial, hu, w64 (n := (k0 : Int) + i) (by omega) (by omega), htd, htm, hum, w64 (n := (((k0 + i) / 8 : Nat) : Int)) (by omega) (by omega), w64 (n := (i : Int) + 1) (by omega) (by omega)]
      rw [if_pos (by omega)]
      have hsh : shr .u32 (row : Int) (i : Int) = ((row / 2 ^ i : Nat) : Int) := by
        unfold shr
        rw [Int.toNat_natCast, Nat.min_eq_left (by show i ≤ 32; omega)]
        exact_mod_cast rfl
      have hrl : row / 2 ^ i < 4294967296 := Nat.lt_of_le_of_lt (Nat.div_le_self _ _) hrow
      have hand : Go.bits .and .u32 ((row / 2 ^ i : Nat) : Int) 1 = ((row / 2 ^ i % 2 : Nat) : Int) := by
        have := u32_and_nat (row / 2 ^ i) 1 hrl (by decide)
        rw [Nat.and_one_is_mod] at this
        exact this
      rw [hsh, hand]
      have hi1 : ((i : Int) + 1) = ((i + 1 : Nat) : Int) := by omega
      by_cases hbit : row / 2 ^ i % 2 = 1
      · rw [if_pos (by omega), if_pos (by omega), if_pos (by omega), if_pos (by omega), hi1, Int.toNat_natCast]
        have hj : (k0 + i) / 8 < b.length := by omega
        have hg := octs_getD hb ((k0 + i) / 8)
        have hm8 : (k0 + i) % 8 < 8 := by omega
        have hshl : shl .u8 1 (((k0 + i) % 8 : Nat) : Int) = ((2 ^ ((k0 + i) % 8) : Nat) : Int) := by
          unfold shl
          rw [Int.toNat_natCast, Nat.min_eq_left (by show _ ≤ 8; omega), IntKind.wrap_u8, Int.one_mul]
          have : 2 ^ ((k0 + i) % 8) < 2 ^ 8 := Nat.pow_lt_pow_right (by decide) hm8
          simp only [Nat.reducePow] at this
          have h2 : ((2 : Int) ^ ((k0 + i) % 8)) = ((2 ^ ((k0 + i) % 8) : Nat) : Int) := by exact_mod_cast rfl
          rw [h2]
          generalize 2 ^ ((k0 + i) % 8) = q at this
          omega
        have hrd : rd b (((k0 + i) / 8 : Nat) : Int) = b.getD ((k0 + i) / 8) 0 := by unfold rd; rw [Int.toNat_natCast]
        have hp8 : 2 ^ ((k0 + i) % 8) < 256 := by
          have : 2 ^ ((k0 + i) % 8) < 2 ^ 8 := Nat.pow_lt_pow_right (by decide) hm8
          simpa using this
        have hx : Go.bits .xor .u8 (b.getD ((k0 + i) / 8) 0) ((2 ^ ((k0 + i) % 8) : Nat) : Int) = (((b.getD ((k0 + i) / 8) 0).toNat ^^^ 2 ^ ((k0 + i) % 8) : Nat) : Int) := by
          have := u8_xor_nat (b.getD ((k0 + i) / 8) 0).toNat (2 ^ ((k0 + i) % 8)) (by omega) hp8
          rw [← this]
          congr 1
          omega
        rw [hrd, hshl, hx]
        have hxlt : (b.getD ((k0 + i) / 8) 0).toNat ^^^ 2 ^ ((k0 + i) % 8) < 256 := by
          have := Nat.xor_lt_two_pow (n := 8) (x := (b.getD ((k0 + i) / 8) 0).toNat) (y := 2 ^ ((k0 + i) % 8)) (by omega) (by omega)
          simpa using this
        refine ih (i + 1) (acc ^^^ 2 ^ i) K _ (by omega) (octs_set hb _ ⟨by omega, by omega⟩) (by rw [List.length_set]; exact hl) ?_ ?_ hK
        · exact Nat.xor_lt_two_pow (Nat.lt_of_lt_of_le hacc (Nat.pow_le_pow_right (by decide) (by omega))) (Nat.pow_lt_pow_right (by decide) (by omega))
        · rw [num_set b _ _ hb hj hm8, hnum, Nat.div_add_mod, Nat.xor_assoc]
          congr 1
          have h4 := Nat.shiftLeft_xor_distrib (a := acc) (b := 2 ^ i) (i := k0)
          simp only [Nat.shiftLeft_eq] at h4
          rw [h4, Nat.add_comm k0 i, Nat.pow_add]
      · rw [if_neg (by omega), hi1]
        exact ih (i + 1) acc K b (by omega) hb hl (Nat.lt_of_lt_of_le hacc (Nat.pow_le_pow_right (by decide) (by omega))) hnum hK
    · rw [decide_eq_false (show ¬ ((k0 : Int) + i < 8 * (b.length : Int)) by omega)]
      have e2 : K + 2 * d + 2 + 1 = (K + 2 * d + 2) + 1 := rfl
      exact tells_end a b _ _ _ acc k0 (K + 2 * d + 2) ha hb hl hlen hacc32 (by omega) hnum (by omega)

theorem SumTells : munimentlaw1_SumTells.Pure := by
  intro a bit row hm hlen hw hbw hrw
  have ha := octs_wf hw
  have hrow : 0 ≤ row ∧ row < 4294967296 := by
    simp [Lit.wf, IntKind.min, IntKind.max, IntKind.bits, IntKind.signed] at hrw
    omega
  have hbit : -9223372036854775808 ≤ bit ∧ bit ≤ 9223372036854775807 := by
    simp [Lit.wf, IntKind.min, IntKind.max, IntKind.bits, IntKind.signed] at hbw
    omega
  clear hw hbw hrw hm
  obtain ⟨K, hK⟩ : ∃ K, K = 10 * a.length + 1 + 2 * 32 + 2 := ⟨_, rfl⟩
  refine ⟨K + 1 + 1, ?_⟩
  unfold munimentlaw1_SumTells.f
  rw [awake_some _ (by omega)]
  simp only [Option.bind_some, if_true]
  by_cases h0 : (a.length : Int) = 0
  · rw [if_pos h0]
    simp only [munimentlaw1_SumTells.j0, if_true]
  · rw [if_neg h0]
    simp only [munimentlaw1_SumTells.j0]
    by_cases hr0 : row = 0
    · rw [if_pos (by rw [hr0]; rfl)]
    · rw [if_neg (by simp [hr0]), w64 (n := 8 * (a.length : Int)) (by omega) (by omega), if_neg (by omega)]
      have key : ∀ k0 : Nat, k0 < 8 * a.length → munimentlaw1_SumTells.j1 (K + 1) a row (k0 : Int) = some true := by
        intro k0 hk
        simp only [munimentlaw1_SumTells.j1, Option.bind_some]
        rw [if_pos (by simp; omega), List.nil_append, hK]
        obtain ⟨r, rfl⟩ : ∃ r : Nat, row = (r : Int) := ⟨row.toNat, by omega⟩
        exact l0_tells a r k0 ha (by omega) hk (by omega) 32 0 0 (10 * a.length + 1) a rfl ha rfl (by decide) (by simp) (by omega)
      have hdm := Int.tmod_lt_of_pos bit (show (0 : Int) < 8 * (a.length : Int) by omega)
      have hdm2 : -(8 * (a.length : Int)) < Int.tmod bit (8 * (a.length : Int)) := by
        have := Int.lt_tmod_of_pos bit (show (0 : Int) < 8 * (a.length : Int) by omega)
        exact this
      by_cases hneg : Int.tmod bit (8 * (a.length : Int)) < 0
      · rw [if_pos hneg, w64 (by omega) (by omega)]
        obtain ⟨k0, hk0⟩ : ∃ k0 : Nat, -Int.tmod bit (8 * (a.length : Int)) = (k0 : Int) := ⟨(-Int.tmod bit (8 * (a.length : Int))).toNat, by omega⟩
        rw [hk0]
        exact key k0 (by omega)
      · rw [if_neg hneg]
        obtain ⟨k0, hk0⟩ : ∃ k0 : Nat, Int.tmod bit (8 * (a.length : Int)) = (k0 : Int) := ⟨(Int.tmod bit (8 * (a.length : Int))).toNat, by omega⟩
        rw [hk0]
        exact key k0 (by omega)
end Go.Proofs.Ytlcididlnfclgaa.Pure
