/- Contracts by hand: seal, plainly. -/
import Derived.Test.YtpogneedafoiaaaPgM
namespace Go.Proofs.Ytpogneedafoiaaa.Pg
open Go.RowKit Go.Proofs.YtpogneedafoiaaaW.PrintWords Go.Proofs.YtpogneedafoiaaaW.PrintLast Go.Proofs.YtpogneedafoiaaaW.PrintMore Go.Proofs.Ytpogneedafoiaaa.Bw Go.Proofs.Ytpogneedafoiaaa.Crc Go.Proofs.Ytpogneedafoiaaa.Wordy
set_option linter.unusedVariables false
set_option linter.unusedSimpArgs false

theorem numAt_tail {p q : List Int} (h : p.drop 12 = q.drop 12) {b : Nat} (s : Nat) (hb : 12 ≤ b) : numAt p b s = numAt q b s := by
  unfold numAt
  rw [show b = 12 + (b - 12) by omega, ← List.drop_drop, ← List.drop_drop, h]
theorem chkB_tail {p q : List Int} (h : p.drop 12 = q.drop 12) : ∀ (d i : Nat) (T : List Bool), chkB p T i d = chkB q T i d := by
  intro d
  induction d with
  | zero => intro i T; rfl
  | succ d ih =>
    intro i T
    have e1 : frm p i = frm q i := numAt_tail h 2 (by omega)
    have e2 : szP p i = szP q i := numAt_tail h 2 (by omega)
    have e3 : lowP p = lowP q := numAt_tail h 2 (by omega)
    simp only [chkB, e1, e2, e3]
    rw [show (fun T' => chkB p T' (i + 1) d) = (fun T' => chkB q T' (i + 1) d) from funext fun T' => ih (i + 1) T']
theorem goodP_tail {p q : List Int} (hl : p.length = q.length) (h : p.drop 12 = q.drop 12) : goodP p = goodP q := by
  have e1 : cnt p = cnt q := numAt_tail h 2 (by omega)
  have e3 : lowP p = lowP q := numAt_tail h 2 (by omega)
  have e4 : p.getD 13 0 = q.getD 13 0 := by
    have := congrArg (fun l => l.getD 1 0) h
    simpa [List.getD_eq_getElem?_getD] using this
  unfold goodP
  rw [hl, e1, e3, e4, chkB_tail h]
theorem drop_over {p l : List Int} {a b : Nat} (h : a + l.length ≤ p.length) (hb : a + l.length ≤ b) : (over p a l).drop b = p.drop b := by
  have e : (p.take a ++ l).length = a + l.length := by rw [List.length_append, List.length_take]; omega
  have e2 : over p a l = (p.take a ++ l) ++ p.drop (a + l.length) := by unfold over; rw [List.append_assoc]
  rw [e2, List.drop_append, List.drop_eq_nil_of_le (by omega), List.nil_append, e, List.drop_drop]
  congr 1
  omega
theorem sealB_len {p : List Int} (hl : p.length = 512) (lsn : Int) : (sealB p lsn).length = 512 := over_len hl (by rw [leB_length]; decide)
theorem sealP_len {p : List Int} (hl : p.length = 512) (lsn : Int) : (sealP p lsn).length = 512 := over_len (sealB_len hl lsn) (by rw [leB_length]; decide)
theorem sealP_octs {p : List Int} (ho : octs p) (lsn : Int) : octs (sealP p lsn) := over_octs (over_octs ho _ (leB_octs _ _)) _ (leB_octs _ _)
theorem sealP_tail {p : List Int} (hl : p.length = 512) (lsn : Int) : (sealP p lsn).drop 12 = p.drop 12 := by
  unfold sealP sealB
  rw [drop_over (by rw [leB_length, over_len hl (by rw [leB_length]; decide)]; decide) (by rw [leB_length]; decide), drop_over (by rw [leB_length, hl]; decide) (by rw [leB_length]; decide)]
theorem sealP_drop4 {p : List Int} (hl : p.length = 512) (lsn : Int) : (sealP p lsn).drop 4 = (sealB p lsn).drop 4 := by
  unfold sealP
  exact drop_over (by rw [leB_length, sealB_len hl]; decide) (by rw [leB_length]; decide)
theorem sealP_good {p : List Int} (hl : p.length = 512) (lsn : Int) : goodP (sealP p lsn) = goodP p := goodP_tail (by rw [sealP_len hl, hl]) (sealP_tail hl lsn)
theorem sealP_kind {p : List Int} (hl : p.length = 512) (lsn : Int) : (sealP p lsn).getD 12 0 = p.getD 12 0 := by
  have := congrArg (fun l => l.getD 0 0) (sealP_tail hl lsn)
  simpa [List.getD_eq_getElem?_getD] using this
theorem sealP_sum {p : List Int} (hl : p.length = 512) (ho : octs p) (lsn : Int) : ((numAt (sealP p lsn) 0 4 : Nat) : Int) = more 0 ((sealP p lsn).drop 4) := by
  rw [sealP_drop4 hl]
  have hr := more_range (s := 0) (l := (sealB p lsn).drop 4) (by decide) (octs_drop (over_octs ho _ (leB_octs _ _)) 4)
  obtain ⟨n, hn⟩ : ∃ n : Nat, more 0 ((sealB p lsn).drop 4) = (n : Int) := ⟨(more 0 ((sealB p lsn).drop 4)).toNat, by omega⟩
  unfold sealP
  rw [hn]
  rw [hn] at hr
  have h32 : (2 : Nat) ^ (8 * 4) = 4294967296 := by decide
  rw [numAt_over_leB (by rw [sealB_len hl]; decide) (by rw [h32]; omega)]
theorem sealP_lsn {p : List Int} (hl : p.length = 512) (n : Nat) (hn : n < 18446744073709551616) : numAt (sealP p (n : Int)) 4 8 = n := by
  have h : numAt (sealP p (n : Int)) 4 8 = numAt (sealB p (n : Int)) 4 8 := by
    unfold numAt
    rw [sealP_drop4 hl]
  rw [h]
  unfold sealB
  have h64 : (2 : Nat) ^ (8 * 8) = 18446744073709551616 := by decide
  exact numAt_over_leB (by rw [hl]; decide) (by rw [h64]; omega)
theorem zeroB_iff {p : List Int} : zeroB p = true ↔ ∀ i, i < 512 → p.getD i 0 = 0 := by
  unfold zeroB
  rw [List.all_eq_true]
  have hz : ∀ i, (List.replicate 512 (0 : Int)).getD i 0 = 0 := by
    intro i
    rw [List.getD_eq_getElem?_getD, List.getElem?_replicate]
    split <;> rfl
  constructor
  · intro h i hi
    have := h i (List.mem_range.mpr hi)
    rw [hz] at this
    simpa using this
  · intro h i hi
    rw [h i (List.mem_range.mp hi), hz]
    simp
theorem checkP_seal {p : List Int} (hl : p.length = 512) (ho : octs p) (hg : goodP p = true) (lsn : Int) : checkP (sealP p lsn) = 0 := by
  unfold checkP
  rw [sealP_good hl, hg, sealP_sum hl ho]
  simp
def bitPage (j m : Nat) : List Int := (List.replicate 512 (0 : Int)).set j ((2 ^ m : Nat) : Int)
set_option maxRecDepth 100000 in
theorem bit16 : ∀ m, m < 8 → ((numAt (bitPage 16 m) 0 4 : Nat) : Int) ≠ more 0 ((bitPage 16 m).drop 4) := by decide +kernel
set_option maxRecDepth 100000 in
theorem bit17 : ∀ m, m < 8 → ((numAt (bitPage 17 m) 0 4 : Nat) : Int) ≠ more 0 ((bitPage 17 m).drop 4) := by decide +kernel
theorem getD_set (l : List Int) (j i : Nat) (v : Int) (hj : j < l.length) : (l.set j v).getD i 0 = if i = j then v else l.getD i 0 := by
  rw [List.getD_eq_getElem?_getD, List.getD_eq_getElem?_getD, List.getElem?_set]
  by_cases h : j = i
  · subst h; simp [hj]
  · rw [if_neg h, if_neg (fun e => h e.symm)]
theorem list_ext_getD {a b : List Int} (hl : a.length = b.length) (h : ∀ i, i < a.length → a.getD i 0 = b.getD i 0) : a = b := by
  apply List.ext_getElem hl
  intro i h1 h2
  have := h i h1
  rw [List.getD_eq_getElem?_getD, List.getD_eq_getElem?_getD, List.getElem?_eq_getElem h1, List.getElem?_eq_getElem h2] at this
  exact this
theorem xor_ne (a b : Nat) (hb : b ≠ 0) : a ^^^ b ≠ a := by
  intro h
  have h2 : a ^^^ b = a ^^^ 0 := by rw [Nat.xor_zero]; exact h
  exact hb (xor_left_cancel h2)
theorem flip_tells {q : List Int} (ho : octs q) (hl : q.length = 512) (hg : goodP q = true) (hs : ((numAt q 0 4 : Nat) : Int) = more 0 (q.drop 4)) (j m : Nat) (hj : j < 512) (hm : m < 8) :
    checkP (q.set j (((q.getD j 0).toNat ^^^ 2 ^ m : Nat) : Int)) ≠ 0 := by
  obtain ⟨r, hr⟩ : ∃ r, q.set j (((q.getD j 0).toNat ^^^ 2 ^ m : Nat) : Int) = r := ⟨_, rfl⟩
  rw [hr]
  have hp2 : (2 : Nat) ^ m ≠ 0 := Nat.pos_iff_ne_zero.mp (Nat.two_pow_pos m)
  have hrg : ∀ i, r.getD i 0 = if i = j then (((q.getD j 0).toNat ^^^ 2 ^ m : Nat) : Int) else q.getD i 0 := fun i => by rw [← hr, getD_set _ _ _ _ (by omega)]
  unfold checkP
  cases hz : zeroB r with
  | true =>
    exfalso
    have hz0 := zeroB_iff.mp hz
    have hq0 : ∀ i, i < 512 → i ≠ j → q.getD i 0 = 0 := fun i hi hne => by have := hz0 i hi; rw [hrg, if_neg hne] at this; exact this
    have hqj : q.getD j 0 = ((2 ^ m : Nat) : Int) := by
      have := hz0 j hj
      rw [hrg, if_pos rfl] at this
      have h3 : (q.getD j 0).toNat ^^^ 2 ^ m = 0 := by exact_mod_cast this
      have h4 : (q.getD j 0).toNat = 2 ^ m := by
        have h5 : 2 ^ m ^^^ (q.getD j 0).toNat = 2 ^ m ^^^ 2 ^ m := by rw [Nat.xor_self, Nat.xor_comm]; exact h3
        exact xor_left_cancel h5
      have := octs_getD ho j
      omega
    have hlow : lowP q = (q.getD 16 0).toNat + 256 * (q.getD 17 0).toNat := by
      unfold lowP numAt
      rw [cut_eq q 16 2 (by omega)]
      simp [List.range_succ, num]
    have hgf := (good_facts hg).2.2.1
    have hqe : q = bitPage j m := by
      refine list_ext_getD (by unfold bitPage; rw [List.length_set, List.length_replicate]; exact hl) (fun i hi => ?_)
      unfold bitPage
      rw [getD_set _ _ _ _ (by rw [List.length_replicate]; exact hj)]
      by_cases hij : i = j
      · rw [if_pos hij, hij, hqj]
      · rw [if_neg hij, hq0 i (by omega) hij, List.getD_eq_getElem?_getD, List.getElem?_replicate]
        split <;> rfl
    by_cases h16 : j = 16
    · subst h16; rw [hqe] at hs; exact bit16 m hm hs
    · by_cases h17 : j = 17
      · subst h17; rw [hqe] at hs; exact bit17 m hm hs
      · rw [hlow, hq0 16 (by decide) (fun e => h16 e.symm), hq0 17 (by decide) (fun e => h17 e.symm)] at hgf
        simp at hgf
  | false =>
    cases hgr : goodP r with
    | false => simp
    | true =>
      have hne : ((numAt r 0 4 : Nat) : Int) ≠ more 0 (r.drop 4) := by
        by_cases h4 : j < 4
        · have e1 : r.drop 4 = q.drop 4 := by rw [← hr, List.drop_set]; rw [if_pos h4]
          have e2 : numAt r 0 4 = numAt q 0 4 ^^^ 2 ^ (8 * j + m) := by
            unfold numAt
            rw [← hr, List.drop_zero, List.drop_zero, List.take_set]
            have := num_set (q.take 4) j m (octs_take ho 4) (by rw [List.length_take]; omega) hm
            have e0 : (q.take 4).getD j 0 = q.getD j 0 := by rw [List.getD_eq_getElem?_getD, List.getD_eq_getElem?_getD, List.getElem?_take, if_pos h4]
            rw [e0] at this
            exact this
          rw [e1, ← hs, e2]
          intro h
          exact xor_ne _ _ (Nat.pos_iff_ne_zero.mp (Nat.two_pow_pos _)) (by exact_mod_cast h)
        · have e1 : numAt r 0 4 = numAt q 0 4 := by
            unfold numAt
            rw [← hr, List.drop_zero, List.drop_zero, List.take_set, List.set_eq_of_length_le (by rw [List.length_take]; omega)]
          have e2 : r.drop 4 = (q.drop 4).set (j - 4) ((((q.drop 4).getD (j - 4) 0).toNat ^^^ 2 ^ m : Nat) : Int) := by
            have e0 : (q.drop 4).getD (j - 4) 0 = q.getD j 0 := by rw [List.getD_eq_getElem?_getD, List.getD_eq_getElem?_getD, List.getElem?_drop, show 4 + (j - 4) = j by omega]
            rw [e0, ← hr, List.drop_set, if_neg h4]
          have hn := num_set (q.drop 4) (j - 4) m (octs_drop ho 4) (by rw [List.length_drop]; omega) hm
          rw [← e2] at hn
          intro h
          rw [e1, hs] at h
          have hor : octs (r.drop 4) := by
            rw [e2]
            refine octs_set (octs_drop ho 4) _ ⟨Int.natCast_nonneg _, ?_⟩
            have h8 : ((q.drop 4).getD (j - 4) 0).toNat < 2 ^ 8 := by have := octs_getD (octs_drop ho 4) (j - 4); omega
            have hp : 2 ^ m < 2 ^ 8 := Nat.pow_lt_pow_right (by decide) hm
            have := Nat.xor_lt_two_pow h8 hp
            simp only [Nat.reducePow] at this
            omega
          have ht := (more_tells (s := 0) (a := q.drop 4) (b := r.drop 4) (row := 1) (k := 8 * (j - 4) + m) (octs_drop ho 4) hor (by rw [e2, List.length_set]) (by decide) (by rw [List.length_drop]; omega) (by rw [hn, Nat.one_mul])).mp h
          rw [← ht] at hn
          exact xor_ne _ _ (Nat.pos_iff_ne_zero.mp (Nat.two_pow_pos _)) hn.symm
      simp [hne]
end Go.Proofs.Ytpogneedafoiaaa.Pg
