/- Plain: the reference's Insert, Remove, Replace are the page's own. -/
import Derived.Test.YtpogneedafoiaaaRfR
namespace Go.Proofs.Ytpogneedafoiaaa.Pg
open Go.RowKit Go.Proofs.YtpogneedafoiaaaW.PrintWords Go.Proofs.YtpogneedafoiaaaW.PrintLast Go.Proofs.YtpogneedafoiaaaW.PrintMore Go.Proofs.Ytpogneedafoiaaa.Bw Go.Proofs.Ytpogneedafoiaaa.Crc Go.Proofs.Ytpogneedafoiaaa.Wordy Go.Proofs.Ytpogneedafoiaaa.Rf
set_option linter.unusedVariables false
set_option linter.unusedSimpArgs false

theorem ins1_len {q : List Int} (hq : q.length = 512) {i n : Nat} (h : i ≤ n) (hn : 30 + 4 * n ≤ 512) : (ins1 q i n).length = 512 := by
  unfold ins1
  exact over_len hq (by rw [cut_length (by omega)]; omega)
theorem ins1_octs {q : List Int} (ho : octs q) (i n : Nat) : octs (ins1 q i n) := by
  unfold ins1
  exact over_octs ho _ (octs_take (octs_drop ho _) _)
theorem ins1_ne {q : List Int} (hq : q.length = 512) {i n b s : Nat} (h : i ≤ n) (hn : 30 + 4 * n ≤ 512) (hb : b + s ≤ 512) (hne : b + s ≤ 30 + 4 * i ∨ 30 + 4 * n ≤ b) : numAt (ins1 q i n) b s = numAt q b s := by
  unfold ins1
  exact numAt_over_ne (by rw [cut_length (by omega)]; omega) (by omega) (by rw [cut_length (by omega)]; omega)
/-- one slot more is moved -/
theorem ins1_step {q : List Int} (hq : q.length = 512) (ho : octs q) {m n : Nat} (h : m < n) (hn : 30 + 4 * n ≤ 512) :
    over (over (ins1 q (m + 1) n) (26 + 4 * (m + 1)) (leB ((frm q m : Nat) : Int) 2)) (28 + 4 * (m + 1)) (leB ((szP q m : Nat) : Int) 2) = ins1 q m n := by
  have e1 : leB ((frm q m : Nat) : Int) 2 = (q.drop (26 + 4 * m)).take 2 := leB_cut ho (by omega)
  have e2 : leB ((szP q m : Nat) : Int) 2 = (q.drop (28 + 4 * m)).take 2 := leB_cut ho (by omega)
  have c1 : ((q.drop (26 + 4 * m)).take 2).length = 2 := cut_length (by omega)
  have c2 : ((q.drop (28 + 4 * m)).take 2).length = 2 := cut_length (by omega)
  have c3 : ((q.drop (26 + 4 * (m + 1))).take (4 * (n - (m + 1)))).length = 4 * (n - (m + 1)) := cut_length (by omega)
  have c4 : ((q.drop (26 + 4 * m)).take (4 * (n - m))).length = 4 * (n - m) := cut_length (by omega)
  have gd : ∀ a s j, a + s ≤ 512 → j < s → ((q.drop a).take s).getD j 0 = q.getD (a + j) 0 := by
    intro a s j h1 h2
    rw [cut_eq q a s (by omega), List.getD_eq_getElem?_getD, List.getElem?_map, List.getElem?_range h2]
    rfl
  have l1 := ins1_len hq (show m + 1 ≤ n from h) hn
  have l2 : (over (ins1 q (m + 1) n) (26 + 4 * (m + 1)) (leB ((frm q m : Nat) : Int) 2)).length = 512 := over_len l1 (by rw [leB_length]; omega)
  refine list_ext_getD (by rw [over_len l2 (by rw [leB_length]; omega), ins1_len hq (by omega) hn]) (fun j hj => ?_)
  rw [over_getD _ _ _ (by rw [leB_length]; omega), over_getD _ _ _ (by rw [leB_length]; omega), e1, e2, c1, c2]
  unfold ins1
  rw [over_getD _ _ _ (by omega), over_getD _ _ _ (by omega), c3, c4]
  by_cases d1 : 28 + 4 * (m + 1) ≤ j ∧ j < 28 + 4 * (m + 1) + 2
  · rw [if_pos d1, if_pos (by omega), gd _ _ _ (by omega) (by omega), gd _ _ _ (by omega) (by omega)]
    congr 1
    omega
  · rw [if_neg d1]
    by_cases d2 : 26 + 4 * (m + 1) ≤ j ∧ j < 26 + 4 * (m + 1) + 2
    · rw [if_pos d2, if_pos (by omega), gd _ _ _ (by omega) (by omega), gd _ _ _ (by omega) (by omega)]
    · rw [if_neg d2]
      by_cases d3 : 26 + 4 * (m + 1 + 1) ≤ j ∧ j < 26 + 4 * (m + 1 + 1) + 4 * (n - (m + 1))
      · rw [if_pos d3, if_pos (by omega), gd _ _ _ (by omega) (by omega), gd _ _ _ (by omega) (by omega)]
        congr 1
        omega
      · rw [if_neg d3, if_neg (by omega)]
/-- the bytes of a cell, laid one by one -/
theorem rinsert_l1 {q : List Int} (hq : q.length = 512) (l : List Int) (lo : Nat) (h : lo + l.length ≤ 512) : ∀ (d i k : Nat), i + d = l.length → d < k →
    munimentref5_Insert.l1 k l (over q lo (l.take i)) (lo : Int) (i : Int) = some (over q lo l, true) := by
  intro d
  induction d with
  | zero =>
    intro i k hi hk
    obtain ⟨k, rfl⟩ : ∃ m, k = m + 1 := ⟨k - 1, by omega⟩
    rw [munimentref5_Insert.l1, if_neg (by omega), List.take_of_length_le (by omega)]
  | succ d ih =>
    intro i k hi hk
    obtain ⟨k, rfl⟩ : ∃ m, k = m + 1 := ⟨k - 1, by omega⟩
    have hti : (l.take i).length = i := by rw [List.length_take]; omega
    have hlen : (over q lo (l.take i)).length = 512 := over_len hq (by omega)
    rw [munimentref5_Insert.l1, if_pos (by omega), if_pos (by omega), w64 (n := (lo : Int) + (i : Int)) (by omega) (by omega), if_pos (by omega), if_pos (by rw [hlen]; omega), w64 (n := (i : Int) + 1) (by omega) (by omega)]
    have h := over_set_last q lo (l.take i) (rd l (i : Int)) (by omega)
    rw [hti, ← take_succ_rd l i (by omega)] at h
    rw [show ((lo : Int) + (i : Int)).toNat = lo + i by omega, h]
    exact ih (i + 1) k (by omega) (by omega)
theorem u64_nat {n : Nat} (h : n < 65536) : IntKind.u64.wrap (n : Int) = (n : Int) := by rw [IntKind.wrap_u64]; omega
/-- the page behind Insert's changes, in the reference's order -/
theorem insert_chain {X l : List Int} (hX : X.length = 512) {N L S : List Int} (hN : N.length = 2) (hL : L.length = 2) (hS : S.length = 2) {i lo : Nat} (hi : 30 + 4 * i ≤ lo) (hlo : lo + l.length ≤ 512) :
    over (over (over (over (over X (26 + 4 * i) L) (28 + 4 * i) S) 14 N) 16 L) lo l = over (over (over (over (over X 14 N) lo l) 16 L) (26 + 4 * i) L) (28 + 4 * i) S := by
  have b1 : (over X (26 + 4 * i) L).length = 512 := over_len hX (by omega)
  have b2 : (over X 14 N).length = 512 := over_len hX (by omega)
  have b3 : (over (over X 14 N) (26 + 4 * i) L).length = 512 := over_len b2 (by omega)
  have b4 : (over (over (over X 14 N) (26 + 4 * i) L) (28 + 4 * i) S).length = 512 := over_len b3 (by omega)
  have b5 : (over (over X 14 N) lo l).length = 512 := over_len b2 (by omega)
  have b6 : (over (over (over X 14 N) lo l) (26 + 4 * i) L).length = 512 := over_len b5 (by omega)
  rw [over_comm b1 (a := 28 + 4 * i) (b := 14) (by omega) (by omega) (by omega), over_comm hX (a := 26 + 4 * i) (b := 14) (by omega) (by omega) (by omega), over_comm b4 (a := 16) (b := lo) (by omega) (by omega) (by omega), over_comm b3 (a := 28 + 4 * i) (b := lo) (by omega) (by omega) (by omega), over_comm b2 (a := 26 + 4 * i) (b := lo) (by omega) (by omega) (by omega), over_comm b6 (a := 28 + 4 * i) (b := 16) (by omega) (by omega) (by omega), over_comm b5 (a := 26 + 4 * i) (b := 16) (by omega) (by omega) (by omega)]
theorem rinsert_l0 {q l : List Int} (hq : q.length = 512) (ho : octs q) {i n : Nat} (hi : i ≤ n) (hn : 30 + 4 * n ≤ lowP q - l.length) (hl : l.length ≤ lowP q) (hlow : lowP q ≤ 512) : ∀ (d k : Nat), i + d ≤ n → d + 600 ≤ k →
    munimentref5_Insert.l0 k (i : Int) l (ins1 q (i + d) n) (n : Int) ((lowP q - l.length : Nat) : Int) ((i + d : Nat) : Int) = some (belowP (over (ins1 q i n) 14 (leB ((n + 1 : Nat) : Int) 2)) i l, true) := by
  intro d
  induction d with
  | zero =>
    intro k hd hk
    obtain ⟨k, rfl⟩ : ∃ m, k = m + 1 := ⟨k - 1, by omega⟩
    have l1 := ins1_len hq hi (by omega)
    have hlo : lowP q - l.length < 65536 := by omega
    have a1 : (over (ins1 q i n) (26 + 4 * i) (leB ((lowP q - l.length : Nat) : Int) 2)).length = 512 := over_len l1 (by rw [leB_length]; omega)
    have a2 : (over (over (ins1 q i n) (26 + 4 * i) (leB ((lowP q - l.length : Nat) : Int) 2)) (28 + 4 * i) (leB (l.length : Int) 2)).length = 512 := over_len a1 (by rw [leB_length]; omega)
    have a3 : (over (over (over (ins1 q i n) (26 + 4 * i) (leB ((lowP q - l.length : Nat) : Int) 2)) (28 + 4 * i) (leB (l.length : Int) 2)) 14 (leB ((n + 1 : Nat) : Int) 2)).length = 512 := over_len a2 (by rw [leB_length]; omega)
    have a4 : (over (over (over (over (ins1 q i n) (26 + 4 * i) (leB ((lowP q - l.length : Nat) : Int) 2)) (28 + 4 * i) (leB (l.length : Int) 2)) 14 (leB ((n + 1 : Nat) : Int) 2)) 16 (leB ((lowP q - l.length : Nat) : Int) 2)).length = 512 := over_len a3 (by rw [leB_length]; omega)
    show munimentref5_Insert.l0 (k + 1) (i : Int) l (ins1 q i n) (n : Int) ((lowP q - l.length : Nat) : Int) (i : Int) = _
    rw [munimentref5_Insert.l0, if_neg (by omega), w64 (n := 4 * (i : Int)) (by omega) (by omega), w64 (n := 26 + 4 * (i : Int)) (by omega) (by omega), w64 (n := 28 + 4 * (i : Int)) (by omega) (by omega), w64 (n := (n : Int) + 1) (by omega) (by omega), u64_nat hlo, u64_nat (n := l.length) (by omega), show (n : Int) + 1 = ((n + 1 : Nat) : Int) by omega, u64_nat (n := n + 1) (by omega)]
    rw [rput_at _ (26 + 4 * i) 2 _ 2 _ (by omega) rfl l1 (by omega) (by decide) (by omega) k (by omega), Option.bind_some, rput_at _ (28 + 4 * i) 2 _ 2 _ (by omega) rfl a1 (by omega) (by decide) (by omega) k (by omega), Option.bind_some, rput_at _ 14 2 _ 2 _ (by omega) rfl a2 (by omega) (by decide) (by omega) k (by omega), Option.bind_some, rput_at _ 16 2 _ 2 _ (by omega) rfl a3 (by omega) (by decide) (by omega) k (by omega), Option.bind_some]
    have h := rinsert_l1 a4 l (lowP q - l.length) (by omega) l.length 0 k (by omega) (by omega)
    rw [List.take_zero, over_nil] at h
    rw [show (0 : Int) = ((0 : Nat) : Int) from rfl, h, insert_chain l1 (leB_length _ _) (leB_length _ _) (leB_length _ _) (by omega) (by omega)]
    have hlq : lowP (over (ins1 q i n) 14 (leB ((n + 1 : Nat) : Int) 2)) = lowP q := by
      unfold lowP
      rw [numAt_over_ne (by rw [leB_length]; omega) (by omega) (by rw [leB_length]; omega)]
      exact ins1_ne hq hi (by omega) (by omega) (by omega)
    unfold belowP
    rw [hlq]
  | succ d ih =>
    intro k hd hk
    obtain ⟨k, rfl⟩ : ∃ m, k = m + 1 := ⟨k - 1, by omega⟩
    have l1 := ins1_len hq (show i + (d + 1) ≤ n from hd) (by omega)
    have o1 := ins1_octs ho (i + (d + 1)) n
    have f1 : frm (ins1 q (i + (d + 1)) n) (i + d) = frm q (i + d) := ins1_ne hq hd (by omega) (by omega) (by omega)
    have s1 : szP (ins1 q (i + (d + 1)) n) (i + d) = szP q (i + d) := ins1_ne hq hd (by omega) (by omega) (by omega)
    have hf : frm q (i + d) < 65536 := numAt2_lt ho _
    have hs : szP q (i + d) < 65536 := numAt2_lt ho _
    obtain ⟨r, hr, hr1, hr2⟩ : ∃ r, munimentref5_slot.f k (ins1 q (i + (d + 1)) n) ((i + d : Nat) : Int) = some r ∧ r.1 = ((frm q (i + d) : Nat) : Int) ∧ r.2 = ((szP q (i + d) : Nat) : Int) := ⟨_, rslot_eq _ o1 l1 k (by omega) (i + d) (by omega), by rw [f1], by rw [s1]⟩
    rw [munimentref5_Insert.l0, if_pos (by omega), w64 (n := ((i + (d + 1) : Nat) : Int) - 1) (by omega) (by omega), show ((i + (d + 1) : Nat) : Int) - 1 = ((i + d : Nat) : Int) by omega, hr, Option.bind_some, hr1, hr2, w64 (n := 4 * ((i + (d + 1) : Nat) : Int)) (by omega) (by omega), w64 (n := 26 + 4 * ((i + (d + 1) : Nat) : Int)) (by omega) (by omega), w64 (n := 28 + 4 * ((i + (d + 1) : Nat) : Int)) (by omega) (by omega), u64_nat hf, u64_nat hs]
    rw [rput_at _ (26 + 4 * (i + (d + 1))) 2 _ 2 _ (by omega) rfl l1 (by omega) (by decide) (by omega) k (by omega), Option.bind_some, rput_at _ (28 + 4 * (i + (d + 1))) 2 _ 2 _ (by omega) rfl (over_len l1 (by rw [leB_length]; omega)) (by omega) (by decide) (by omega) k (by omega), Option.bind_some]
    have h := ins1_step hq ho (show i + d < n by omega) (by omega)
    rw [show i + (d + 1) = i + d + 1 from rfl, h]
    exact ih k (by omega) (by omega)
theorem rinsert_full {p l : List Int} (ho : octs p) (hg : goodP p = true) (i : Int) (hll : l.length ≤ 140737488351232) (hfull : freeP p < (l.length : Int) + 4) (k : Nat) (hk : 200 ≤ k) : munimentref5_Insert.f k p i l = some ([], false) := by
  have w := good_iff.mp hg
  have h1 := w.slots
  have h2 := w.low
  unfold munimentref5_Insert.f
  rw [rfree_eq p ho w.len (by omega) k hk, Option.bind_some, w64 (n := (l.length : Int) + 4) (by omega) (by omega), if_pos hfull]
theorem rinsert_eq {p l : List Int} (ho : octs p) (hg : goodP p = true) {i : Nat} (hi : i ≤ cnt p) (hll : l.length ≤ 140737488351232) (hfree : (l.length : Int) + 4 ≤ freeP p) (k : Nat) (hk : 200000 ≤ k) : munimentref5_Insert.f k p (i : Int) l = some (insertP p i l, true) := by
  have w := good_iff.mp hg
  have h1 := w.slots
  have h2 := w.low
  obtain ⟨q1, q2, q3, q4, q5⟩ := insQ_facts (l := l) hg hfree
  have qw := good_iff.mp q1
  have ql := qw.low
  have qo : octs (insQ p l) := insQ_octs ho
  have key : ∀ k, 1000 ≤ k → munimentref5_Insert.j0 k (i : Int) l (insQ p l) ((cnt p : Nat) : Int) = some (insertP p i l, true) := by
    intro k hk
    obtain ⟨k, rfl⟩ : ∃ m, k = m + 1 := ⟨k - 1, by omega⟩
    rw [munimentref5_Insert.j0, rlow_eq _ qo qw.len k (by omega), Option.bind_some, w64 (n := ((lowP (insQ p l) : Nat) : Int) - (l.length : Int)) (by omega) (by omega), show ((lowP (insQ p l) : Nat) : Int) - (l.length : Int) = ((lowP (insQ p l) - l.length : Nat) : Int) by omega]
    have h := rinsert_l0 (l := l) qw.len qo hi (by omega) (by omega) ql (cnt p - i) k (by omega) (by omega)
    rw [show i + (cnt p - i) = cnt p by omega] at h
    have e : ins1 (insQ p l) (cnt p) (cnt p) = insQ p l := by unfold ins1; rw [Nat.sub_self, Nat.mul_zero, List.take_zero, over_nil]
    rw [e] at h
    rw [h]
    rfl
  unfold munimentref5_Insert.f
  rw [rfree_eq p ho w.len (by omega) k (by omega), Option.bind_some, w64 (n := (l.length : Int) + 4) (by omega) (by omega), if_neg (by omega), rcopy_eq p (by rw [w.len]; decide), Option.bind_some, rcnt_eq p ho w.len k (by omega), Option.bind_some, rlow_eq p ho w.len k (by omega), Option.bind_some, w64 (n := ((lowP p : Nat) : Int) - 26) (by omega) (by omega), w64 (n := 4 * ((cnt p : Nat) : Int)) (by omega) (by omega), w64 (n := ((lowP p : Nat) : Int) - 26 - 4 * ((cnt p : Nat) : Int)) (by omega) (by omega)]
  by_cases hroom : lowP p < 26 + 4 * cnt p + (l.length + 4)
  · have e : insQ p l = anewP p := by unfold insQ; rw [if_pos hroom]
    rw [if_pos (by omega), rcompact_eq w.len ho (fits_of_good hg) (by omega) k (by omega), Option.bind_some, ← e]
    exact key k (by omega)
  · have e : insQ p l = p := by unfold insQ; rw [if_neg hroom]
    rw [if_neg (by omega)]
    rw [e] at key
    exact key k (by omega)
theorem rm1_len {p : List Int} (hp : p.length = 512) {i m : Nat} (h : i ≤ m) (hn : 30 + 4 * m ≤ 512) : (over p (26 + 4 * i) ((p.drop (26 + 4 * (i + 1))).take (4 * (m - i)))).length = 512 := over_len hp (by rw [cut_length (by omega)]; omega)
theorem rremove_l0 {p : List Int} (hp : p.length = 512) (ho : octs p) {i n : Nat} (hi : i < n) (hn : 26 + 4 * n ≤ 512) : ∀ (d m k : Nat), m + d + 1 = n → i ≤ m → d + 20 ≤ k →
    munimentref5_Remove.l0 k p (over p (26 + 4 * i) ((p.drop (26 + 4 * (i + 1))).take (4 * (m - i)))) (n : Int) (m : Int) = some (if n = 1 then over (rm3 p i n) 16 (leB 512 2) else rm3 p i n) := by
  intro d
  induction d with
  | zero =>
    intro m k hd him hk
    obtain ⟨k, rfl⟩ : ∃ j, k = j + 1 := ⟨k - 1, by omega⟩
    have l1 := rm1_len hp him (by omega)
    have l2 : (over (over p (26 + 4 * i) ((p.drop (26 + 4 * (i + 1))).take (4 * (m - i)))) (26 + 4 * (n - 1)) (leB 0 4)).length = 512 := over_len l1 (by rw [leB_length]; omega)
    have l3 : (over (over (over p (26 + 4 * i) ((p.drop (26 + 4 * (i + 1))).take (4 * (m - i)))) (26 + 4 * (n - 1)) (leB 0 4)) 14 (leB ((n : Int) - 1) 2)).length = 512 := over_len l2 (by rw [leB_length]; omega)
    have hz : leB 0 4 = List.replicate 4 0 := by decide
    have hu : IntKind.u64.wrap ((n : Int) - 1) = (n : Int) - 1 := by rw [IntKind.wrap_u64]; omega
    have e3 : over (over (over p (26 + 4 * i) ((p.drop (26 + 4 * (i + 1))).take (4 * (m - i)))) (26 + 4 * (n - 1)) (leB 0 4)) 14 (leB ((n : Int) - 1) 2) = rm3 p i n := by
      unfold rm3 rm2 rm1
      rw [hz, show n - 1 - i = m - i by omega]
    rw [munimentref5_Remove.l0, w64 (n := (m : Int) + 1) (by omega) (by omega), if_neg (by omega), w64 (n := (n : Int) - 1) (by omega) (by omega), w64 (n := 4 * ((n : Int) - 1)) (by omega) (by omega), w64 (n := 26 + 4 * ((n : Int) - 1)) (by omega) (by omega), hu]
    rw [rput_at _ (26 + 4 * (n - 1)) 4 _ 4 _ (by omega) rfl l1 (by omega) (by decide) (by omega) k (by omega), Option.bind_some, rput_at _ 14 2 _ 2 _ (by omega) rfl l2 (by omega) (by decide) (by omega) k (by omega), Option.bind_some]
    by_cases h1 : n = 1
    · rw [if_pos (by omega), if_pos h1, rput_at _ 16 2 _ 2 _ (by omega) rfl l3 (by omega) (by decide) (by omega) k (by omega), Option.bind_some, e3]
    · rw [if_neg (by omega), if_neg h1, e3]
  | succ d ih =>
    intro m k hd him hk
    obtain ⟨k, rfl⟩ : ∃ j, k = j + 1 := ⟨k - 1, by omega⟩
    have l1 := rm1_len hp him (by omega)
    have hf : frm p (m + 1) < 65536 := numAt2_lt ho _
    have hs : szP p (m + 1) < 65536 := numAt2_lt ho _
    obtain ⟨r, hr, hr1, hr2⟩ : ∃ r, munimentref5_slot.f k p ((m + 1 : Nat) : Int) = some r ∧ r.1 = ((frm p (m + 1) : Nat) : Int) ∧ r.2 = ((szP p (m + 1) : Nat) : Int) := ⟨_, rslot_eq p ho hp k (by omega) (m + 1) (by omega), rfl, rfl⟩
    rw [munimentref5_Remove.l0, w64 (n := (m : Int) + 1) (by omega) (by omega), if_pos (by omega), show (m : Int) + 1 = ((m + 1 : Nat) : Int) by omega, hr, Option.bind_some, hr1, hr2, w64 (n := 4 * (m : Int)) (by omega) (by omega), w64 (n := 26 + 4 * (m : Int)) (by omega) (by omega), w64 (n := 28 + 4 * (m : Int)) (by omega) (by omega), u64_nat hf, u64_nat hs]
    rw [rput_at _ (26 + 4 * m) 2 _ 2 _ (by omega) rfl l1 (by omega) (by decide) (by omega) k (by omega), Option.bind_some, rput_at _ (28 + 4 * m) 2 _ 2 _ (by omega) rfl (over_len l1 (by rw [leB_length]; omega)) (by omega) (by decide) (by omega) k (by omega), Option.bind_some]
    have e1 : leB ((frm p (m + 1) : Nat) : Int) 2 = (p.drop (26 + 4 * (m + 1))).take 2 := leB_cut ho (by omega)
    have e2 : leB ((szP p (m + 1) : Nat) : Int) 2 = (p.drop (28 + 4 * (m + 1))).take 2 := leB_cut ho (by omega)
    have c1 : ((p.drop (26 + 4 * (m + 1))).take 2).length = 2 := cut_length (by omega)
    have c2 : ((p.drop (28 + 4 * (m + 1))).take 2).length = 2 := cut_length (by omega)
    have c3 : ((p.drop (26 + 4 * (i + 1))).take (4 * (m - i))).length = 4 * (m - i) := cut_length (by omega)
    have h1 := over_append hp (a := 26 + 4 * i) (l := (p.drop (26 + 4 * (i + 1))).take (4 * (m - i))) (m := (p.drop (26 + 4 * (m + 1))).take 2) (by omega)
    rw [c3, show 26 + 4 * i + 4 * (m - i) = 26 + 4 * m by omega] at h1
    have h2 := over_append hp (a := 26 + 4 * i) (l := (p.drop (26 + 4 * (i + 1))).take (4 * (m - i)) ++ (p.drop (26 + 4 * (m + 1))).take 2) (m := (p.drop (28 + 4 * (m + 1))).take 2) (by rw [List.length_append]; omega)
    rw [List.length_append, c3, c1, show 26 + 4 * i + (4 * (m - i) + 2) = 28 + 4 * m by omega] at h2
    have h3 : (p.drop (26 + 4 * (i + 1))).take (4 * (m - i)) ++ (p.drop (26 + 4 * (m + 1))).take 2 ++ (p.drop (28 + 4 * (m + 1))).take 2 = (p.drop (26 + 4 * (i + 1))).take (4 * (m + 1 - i)) := by
      rw [show 4 * (m + 1 - i) = 4 * (m - i) + (2 + 2) by omega, cut_split p _ (4 * (m - i)) (2 + 2), show 26 + 4 * (i + 1) + 4 * (m - i) = 26 + 4 * (m + 1) by omega, cut_split p _ 2 2, show 26 + 4 * (m + 1) + 2 = 28 + 4 * (m + 1) by omega, List.append_assoc]
    rw [e1, e2, h1, h2, h3]
    exact ih (m + 1) k (by omega) (by omega) (by omega)
theorem rremove_eq {p : List Int} (ho : octs p) (hg : goodP p = true) {i : Nat} (hi : i < cnt p) (k : Nat) (hk : 1000 ≤ k) : munimentref5_Remove.f k p (i : Int) = some (removeP p i) := by
  have w := good_iff.mp hg
  have h1 := w.slots
  have h2 := w.low
  unfold munimentref5_Remove.f
  rw [rcopy_eq p (by rw [w.len]; decide), Option.bind_some, rcnt_eq p ho w.len k (by omega), Option.bind_some]
  have h := rremove_l0 w.len ho hi (by omega) (cnt p - 1 - i) i k (by omega) (Nat.le_refl _) (by omega)
  rw [Nat.sub_self, Nat.mul_zero, List.take_zero, over_nil] at h
  rw [h]
  rfl
end Go.Proofs.Ytpogneedafoiaaa.Pg
