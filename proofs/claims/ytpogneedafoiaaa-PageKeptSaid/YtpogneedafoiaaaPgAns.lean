/- Contracts by hand: what each function of the package answers to any bytes. -/
import Derived.Test.YtpogneedafoiaaaPgFour
namespace Go.Proofs.Ytpogneedafoiaaa.Pg
open Go.RowKit Go.Proofs.YtpogneedafoiaaaW.PrintWords Go.Proofs.YtpogneedafoiaaaW.PrintLast Go.Proofs.YtpogneedafoiaaaW.PrintMore Go.Proofs.Ytpogneedafoiaaa.Bw Go.Proofs.Ytpogneedafoiaaa.Crc Go.Proofs.Ytpogneedafoiaaa.Wordy
set_option linter.unusedVariables false
set_option linter.unusedSimpArgs false

/-- bytes of one's own, or none -/
def Mine (w w' : World) (A' : Option Addr) (r : List Int) : Prop := (∃ g, A' = some ⟨g, 0, none⟩ ∧ w.heap.size ≤ g ∧ Blk w' 5 g r) ∨ A' = none ∧ r = []
/-- an answer: bytes and an error -/
def Ans (x : List Int × Int) (w : World) (e : Ending) (w' : World) : Prop := ∃ A', e = .returned (.tuple #[.slice A' x.1.length x.1.length, .int .i64 x.2]) ∧ Mine w w' A' x.1 ∧ Below w.heap.size w w'
theorem Mine.reads {w w' : World} {A' : Option Addr} {r : List Int} (h : Mine w w' A' r) (hl : r.length ≤ 9223372036854775807) : Kd.C (Kd.int .u8) w' A' r.length r := by
  rcases h with ⟨g, rfl, _, hb⟩ | ⟨rfl, rfl⟩
  · exact hb.rb hl
  · exact rb_of_reads ⟨rfl, by decide, fun h => absurd h (by decide)⟩
theorem Mine.below {w w1 w2 : World} {A' : Option Addr} {r : List Int} (h : Mine w w1 A' r) (hb : Below w1.heap.size w1 w2) : Mine w w2 A' r := by
  rcases h with ⟨g, e, h1, h2⟩ | h
  · exact .inl ⟨g, e, h1, h2.below hb⟩
  · exact .inr h
theorem ans_no {w w' : World} {n : Int} (h : Below w.heap.size w w') : Ans ([], n) w (.returned (.tuple #[.slice none 0 0, .int .i64 n])) w' := ⟨none, rfl, .inr ⟨rfl, rfl⟩, h⟩
theorem ans_page {w w' : World} {g : Nat} {r : List Int} (hl : r.length = 512) (hg : w.heap.size ≤ g) (hb : Blk w' 5 g r) (h : Below w.heap.size w w') : Ans (r, 0) w (.returned (.tuple #[.slice (some ⟨g, 0, none⟩) 512 512, .int .i64 0])) w' :=
  ⟨some ⟨g, 0, none⟩, by rw [hl], .inl ⟨g, rfl, hg, hb⟩, h⟩
def insAns (p : List Int) (i : Int) (l : List Int) : List Int × Int :=
  if goodP p then (if 0 ≤ i ∧ i ≤ cnt p then (if (l.length : Int) + 4 ≤ freeP p then (insertP p i.toNat l, 0) else ([], 7)) else ([], 1)) else ([], 4)
def remAns (p : List Int) (i : Int) : List Int × Int :=
  if goodP p then (if 0 ≤ i ∧ i < cnt p then (removeP p i.toNat, 0) else ([], 1)) else ([], 4)
def repAns (p : List Int) (i : Int) (l : List Int) : List Int × Int :=
  if goodP p then (if 0 ≤ i ∧ i < cnt p then (if (l.length : Int) ≤ szP p i.toNat ∨ (l.length : Int) - szP p i.toNat ≤ freeP p then (replaceP p i.toNat l, 0) else ([], 7)) else ([], 1)) else ([], 4)
def cmpAns (p : List Int) : List Int × Int := if goodP p then (anewP p, 0) else ([], 4)
def sealAns (p : List Int) (lsn : Int) : List Int × Int := if goodP p then (sealP p lsn, 0) else ([], 4)
def setAns (p : List Int) (x y : Int) : List Int × Int :=
  if goodP p then (if 0 ≤ x ∧ x ≤ 4294967295 ∧ 0 ≤ y ∧ y ≤ 4294967295 then (setP p x y, 0) else ([], 1)) else ([], 4)
def newAns (k : Int) : List Int × Int := if 0 ≤ k ∧ k ≤ 255 then (newP k, 0) else ([], 1)
def cellAns (p : List Int) (i : Int) : List Int × Int :=
  if goodP p then (if 0 ≤ i ∧ i < cnt p then (cellP p i.toNat, 0) else ([], 1)) else ([], 4)
/-- lengths, octets of what Remove and Replace make -/
theorem removeP_len {p : List Int} (hg : goodP p = true) {i : Nat} (hi : i < cnt p) : (removeP p i).length = 512 := by
  have w := good_iff.mp hg
  have h1 := w.len
  have h2 := w.slots
  have h3 := w.low
  have c : ((p.drop (26 + 4 * (i + 1))).take (4 * (cnt p - 1 - i))).length = 4 * (cnt p - 1 - i) := by rw [List.length_take, List.length_drop]; omega
  have l1 : (rm1 p i (cnt p)).length = 512 := over_len h1 (by omega)
  have l2 : (rm2 p i (cnt p)).length = 512 := over_len l1 (by rw [List.length_replicate]; omega)
  have l3 : (rm3 p i (cnt p)).length = 512 := over_len l2 (by rw [leB_length]; omega)
  unfold removeP
  split
  · exact over_len l3 (by rw [leB_length]; omega)
  · exact l3
theorem removeP_octs {p : List Int} (ho : octs p) (i : Nat) : octs (removeP p i) := by
  have o1 : octs (rm3 p i (cnt p)) := over_octs (over_octs (over_octs ho _ (octs_take (octs_drop ho _) _)) _ (fun x hx => by rw [List.eq_of_mem_replicate hx]; decide)) _ (leB_octs _ _)
  unfold removeP
  split
  · exact over_octs o1 _ (leB_octs _ _)
  · exact o1
theorem rp2_facts {p l : List Int} (hg : goodP p = true) {i : Nat} (hi : i < cnt p) (hs : szP p i < l.length) (hfree : (l.length : Int) - szP p i ≤ freeP p) : (rp2 p i l).length = 512 ∧ 26 + 4 * cnt p + l.length ≤ lowP (rp2 p i l) ∧ lowP (rp2 p i l) ≤ 512 ∧ Fits (rp1 p i) := by
  have w := good_iff.mp hg
  have h1 := w.len
  have h2 := w.slots
  have h3 := w.low
  have hgf := good_facts hg
  have hi5 : 30 + 4 * i ≤ 512 := by omega
  have yl := rp1_len h1 hi5
  have yc := rp1_cnt h1 hi5
  have ylow := rp1_low h1 hi5
  have ysz := rp1_sz h1 hi5
  have ysum := rp1_sum h1 hi5 (cnt p) (by omega)
  rw [if_pos hi] at ysum
  unfold freeP at hfree
  have yfit : Fits (rp1 p i) := by
    refine ⟨by rw [yc]; omega, fun j hj => ?_⟩
    rw [yc] at hj
    by_cases hji : j = i
    · subst hji
      rw [rp1_frm h1 hi5 h3, ysz]
      omega
    · have e1 : frm (rp1 p i) j = frm p j := rp1_ne h1 hi5 (by omega) (by omega)
      have e2 : szP (rp1 p i) j = szP p j := rp1_ne h1 hi5 (by omega) (by omega)
      rw [e1, e2]
      exact (w.fit j hj).2
  unfold rp2
  split
  · refine ⟨anew_length yl yfit, ?_, ?_, yfit⟩
    · rw [anew_low yl yfit, yc]; omega
    · rw [anew_low yl yfit]; omega
  · exact ⟨yl, by rw [ylow]; omega, by rw [ylow]; exact h3, yfit⟩
theorem replaceP_len {p l : List Int} (hg : goodP p = true) {i : Nat} (hi : i < cnt p) (h : l.length ≤ szP p i ∨ (l.length : Int) - szP p i ≤ freeP p) : (replaceP p i l).length = 512 := by
  have w := good_iff.mp hg
  have h1 := w.len
  have h2 := w.slots
  have h3 := w.low
  have h4 := w.fit i hi
  unfold replaceP
  by_cases hs : l.length ≤ szP p i
  · rw [if_pos hs]
    unfold rpS
    exact over_len (over_len (over_len h1 (by omega)) (by rw [leB_length]; omega)) (by rw [leB_length]; omega)
  · rw [if_neg hs]
    obtain ⟨a, b, c, _⟩ := rp2_facts (l := l) hg hi (by omega) (by omega)
    exact below_len2 a (by omega) (by omega) c
theorem replaceP_octs {p l : List Int} (ho : octs p) (hol : octs l) (i : Nat) : octs (replaceP p i l) := by
  unfold replaceP
  split
  · exact over_octs (over_octs (over_octs ho _ hol) _ (leB_octs _ _)) _ (leB_octs _ _)
  · refine below_octs ?_ hol i
    unfold rp2
    split
    · exact anew_octs (rp1_octs ho i)
    · exact rp1_octs ho i
/-- an answer is a page or nothing -/
def fine (x : List Int × Int) : Prop := octs x.1 ∧ x.1.length ≤ 512
theorem octs_nil : octs [] := fun x hx => by cases hx
theorem insAns_fine {p l : List Int} (ho : octs p) (hol : octs l) (i : Int) : fine (insAns p i l) := by
  unfold insAns
  split
  · rename_i hg
    split
    · rename_i hi
      split
      · rename_i hf
        exact ⟨insertP_octs ho hol _, by rw [insertP_len hg (by omega) hf]; exact Nat.le_refl _⟩
      · exact ⟨octs_nil, Nat.zero_le _⟩
    · exact ⟨octs_nil, Nat.zero_le _⟩
  · exact ⟨octs_nil, Nat.zero_le _⟩
theorem remAns_fine {p : List Int} (ho : octs p) (i : Int) : fine (remAns p i) := by
  unfold remAns
  split
  · rename_i hg
    split
    · rename_i hi
      exact ⟨removeP_octs ho _, by rw [removeP_len hg (by omega)]; exact Nat.le_refl _⟩
    · exact ⟨octs_nil, Nat.zero_le _⟩
  · exact ⟨octs_nil, Nat.zero_le _⟩
theorem repAns_fine {p l : List Int} (ho : octs p) (hol : octs l) (i : Int) : fine (repAns p i l) := by
  unfold repAns
  split
  · rename_i hg
    split
    · rename_i hi
      split
      · rename_i hf
        exact ⟨replaceP_octs ho hol _, by rw [replaceP_len hg (by omega) (by omega)]; exact Nat.le_refl _⟩
      · exact ⟨octs_nil, Nat.zero_le _⟩
    · exact ⟨octs_nil, Nat.zero_le _⟩
  · exact ⟨octs_nil, Nat.zero_le _⟩
theorem cmpAns_fine {p : List Int} (ho : octs p) : fine (cmpAns p) := by
  unfold cmpAns
  split
  · rename_i hg
    exact ⟨anew_octs ho, by rw [anew_length (good_facts hg).1 (fits_of_good hg)]; exact Nat.le_refl _⟩
  · exact ⟨octs_nil, Nat.zero_le _⟩
theorem sealAns_fine {p : List Int} (ho : octs p) (n : Int) : fine (sealAns p n) := by
  unfold sealAns
  split
  · rename_i hg
    exact ⟨sealP_octs ho n, by rw [sealP_len (good_facts hg).1]; exact Nat.le_refl _⟩
  · exact ⟨octs_nil, Nat.zero_le _⟩
theorem setAns_fine {p : List Int} (ho : octs p) (x y : Int) : fine (setAns p x y) := by
  unfold setAns
  split
  · rename_i hg
    split
    · exact ⟨setP_octs ho x y, by rw [setP_len (good_facts hg).1]; exact Nat.le_refl _⟩
    · exact ⟨octs_nil, Nat.zero_le _⟩
  · exact ⟨octs_nil, Nat.zero_le _⟩
theorem newP_fine {k : Int} (h : 0 ≤ k ∧ k ≤ 255) : octs (newP k) ∧ (newP k).length = 512 := by
  refine ⟨over_octs ?_ _ (leB_octs _ _), over_len (by rw [List.length_set, List.length_replicate]) (by rw [leB_length]; decide)⟩
  intro x hx
  rcases List.mem_or_eq_of_mem_set hx with h1 | rfl
  · rw [List.eq_of_mem_replicate h1]; decide
  · omega
theorem newAns_fine (k : Int) : fine (newAns k) := by
  unfold newAns
  split
  · rename_i h
    exact ⟨(newP_fine h).1, by rw [(newP_fine h).2]; exact Nat.le_refl _⟩
  · exact ⟨octs_nil, Nat.zero_le _⟩
theorem cellAns_fine {p : List Int} (ho : octs p) (i : Int) : fine (cellAns p i) := by
  unfold cellAns
  split
  · rename_i hg
    split
    · rename_i hi
      have h := (good_facts hg).2.2.2.2.2 i.toNat (by omega)
      exact ⟨octs_take (octs_drop ho _) _, by rw [cellP_length (good_facts hg).1 h.1]; omega⟩
    · exact ⟨octs_nil, Nat.zero_le _⟩
  · exact ⟨octs_nil, Nat.zero_le _⟩
section
variable (A : Option Addr) (c : Nat) (p : List Int) (w : World) (hr : Kd.C (Kd.int .u8) w A p.length p) (hc : p.length ≤ c) (ho : octs p) (hl : p.length ≤ 140737488351232)
include hr hc ho hl
theorem insert_ans (B : Option Addr) (cc : Nat) (l : List Int) (i : Int) (hr2 : Kd.C (Kd.int .u8) w B l.length l) (hc2 : l.length ≤ cc) (hll : l.length ≤ 140737488351232) :
    Calls Try.prog 17 #[.slice A p.length c, .int .i64 i, .slice B l.length cc] w (Ans (insAns p i l) w) := by
  cases hg : goodP p with
  | false =>
    have e : insAns p i l = ([], 4) := by unfold insAns; rw [hg]; rfl
    rw [e]
    exact (insert_bad A c p i _ w hr hc ho hl hg).mono (by rintro e w' ⟨rfl, hb⟩; exact ans_no hb)
  | true =>
    have hl5 := (good_facts hg).1
    rw [hl5] at hr hc ⊢
    by_cases hi : 0 ≤ i ∧ i ≤ cnt p
    · obtain ⟨n, rfl⟩ : ∃ n : Nat, i = (n : Int) := ⟨i.toNat, by omega⟩
      by_cases hf : (l.length : Int) + 4 ≤ freeP p
      · have e : insAns p n l = (insertP p n l, 0) := by unfold insAns; rw [if_pos hg, if_pos hi, if_pos hf]; rfl
        rw [e]
        refine (insert_good A B c cc p l n w hr hc ho hl5 hg hr2 hc2 (by omega) hll hf).mono ?_
        rintro e w' ⟨g, rfl, h1, h2, h3⟩
        exact ans_page (insertP_len hg (by omega) hf) h1 h2 h3
      · have e : insAns p n l = ([], 7) := by unfold insAns; rw [if_pos hg, if_pos hi, if_neg hf]
        rw [e]
        exact (insert_full A B c cc p l n w hr hc ho hl5 hg (by omega) hll (by omega)).mono (by rintro e w' ⟨rfl, hb⟩; exact ans_no hb)
    · have e : insAns p i l = ([], 1) := by unfold insAns; rw [if_pos hg, if_neg hi]
      rw [e]
      exact (insert_no A B c cc p l i w hr hc ho hl5 hg hi).mono (by rintro e w' ⟨rfl, hb⟩; exact ans_no hb)
theorem remove_ans (i : Int) : Calls Try.prog 19 #[.slice A p.length c, .int .i64 i] w (Ans (remAns p i) w) := by
  cases hg : goodP p with
  | false =>
    have e : remAns p i = ([], 4) := by unfold remAns; rw [hg]; rfl
    rw [e]
    exact (remove_bad A c p i w hr hc ho hl hg).mono (by rintro e w' ⟨rfl, hb⟩; exact ans_no hb)
  | true =>
    have hl5 := (good_facts hg).1
    rw [hl5] at hr hc ⊢
    by_cases hi : 0 ≤ i ∧ i < cnt p
    · obtain ⟨n, rfl⟩ : ∃ n : Nat, i = (n : Int) := ⟨i.toNat, by omega⟩
      have e : remAns p n = (removeP p n, 0) := by unfold remAns; rw [if_pos hg, if_pos hi]; rfl
      rw [e]
      refine (remove_good A c p n w hr hc ho hl5 hg (by omega)).mono ?_
      rintro e w' ⟨g, rfl, h1, h2, h3⟩
      exact ans_page (removeP_len hg (by omega)) h1 h2 h3
    · have e : remAns p i = ([], 1) := by unfold remAns; rw [if_pos hg, if_neg hi]
      rw [e]
      exact (remove_no A c p i w hr hc ho hl5 hg hi).mono (by rintro e w' ⟨rfl, hb⟩; exact ans_no hb)
theorem replace_ans (B : Option Addr) (cc : Nat) (l : List Int) (i : Int) (hr2 : Kd.C (Kd.int .u8) w B l.length l) (hc2 : l.length ≤ cc) (hll : l.length ≤ 140737488351232) :
    Calls Try.prog 20 #[.slice A p.length c, .int .i64 i, .slice B l.length cc] w (Ans (repAns p i l) w) := by
  cases hg : goodP p with
  | false =>
    have e : repAns p i l = ([], 4) := by unfold repAns; rw [hg]; rfl
    rw [e]
    exact (replace_bad A c p i _ w hr hc ho hl hg).mono (by rintro e w' ⟨rfl, hb⟩; exact ans_no hb)
  | true =>
    have hl5 := (good_facts hg).1
    rw [hl5] at hr hc ⊢
    by_cases hi : 0 ≤ i ∧ i < cnt p
    · obtain ⟨n, rfl⟩ : ∃ n : Nat, i = (n : Int) := ⟨i.toNat, by omega⟩
      by_cases hs : l.length ≤ szP p n
      · have e : repAns p n l = (replaceP p n l, 0) := by unfold repAns; rw [if_pos hg, if_pos hi, Int.toNat_natCast, if_pos (.inl (by omega))]
        rw [e]
        refine (replace_small A B c cc p l n w hr hc ho hl5 hg hr2 hc2 (by omega) hs).mono ?_
        rintro e w' ⟨g, rfl, h1, h2, h3⟩
        exact ans_page (replaceP_len hg (by omega) (.inl hs)) h1 h2 h3
      · by_cases hf : (l.length : Int) - szP p n ≤ freeP p
        · have e : repAns p n l = (replaceP p n l, 0) := by unfold repAns; rw [if_pos hg, if_pos hi, Int.toNat_natCast, if_pos (.inr hf)]
          rw [e]
          refine (replace_big A B c cc p l n w hr hc ho hl5 hg hr2 hc2 (by omega) (by omega) hll hf).mono ?_
          rintro e w' ⟨g, rfl, h1, h2, h3⟩
          exact ans_page (replaceP_len hg (by omega) (.inr hf)) h1 h2 h3
        · have e : repAns p n l = ([], 7) := by unfold repAns; rw [if_pos hg, if_pos hi, Int.toNat_natCast, if_neg (by omega)]
          rw [e]
          exact (replace_full A B c cc p l n w hr hc ho hl5 hg (by omega) hll (by omega) (by omega)).mono (by rintro e w' ⟨rfl, hb⟩; exact ans_no hb)
    · have e : repAns p i l = ([], 1) := by unfold repAns; rw [if_pos hg, if_neg hi]
      rw [e]
      exact (replace_no A B c cc l.length p i w hr hc ho hl5 hg hi).mono (by rintro e w' ⟨rfl, hb⟩; exact ans_no hb)
theorem compact_ans : Calls Try.prog 12 #[.slice A p.length c] w (Ans (cmpAns p) w) := by
  cases hg : goodP p with
  | false =>
    have e : cmpAns p = ([], 4) := by unfold cmpAns; rw [hg]; rfl
    rw [e]
    exact (compact_bad A c p w hr hc ho hl hg).mono (by rintro e w' ⟨rfl, hb⟩; exact ans_no hb)
  | true =>
    have hl5 := (good_facts hg).1
    rw [hl5] at hr hc ⊢
    have e : cmpAns p = (anewP p, 0) := by unfold cmpAns; rw [if_pos hg]
    rw [e]
    refine (compact_good A c p w hr hc ho hl5 hg (fits_of_good hg)).mono ?_
    rintro e w' ⟨g, rfl, h1, h2, h3⟩
    exact ans_page (anew_length hl5 (fits_of_good hg)) h1 h2 h3
theorem seal_ans (lsn : Int) (h0 : 0 ≤ lsn) : Calls Try.prog 27 #[.slice A p.length c, .int .u64 lsn] w (Ans (sealAns p lsn) w) := by
  cases hg : goodP p with
  | false =>
    have e : sealAns p lsn = ([], 4) := by unfold sealAns; rw [hg]; rfl
    rw [e]
    exact (seal_bad A c p lsn w hr hc ho hl hg).mono (by rintro e w' ⟨rfl, hb⟩; exact ans_no hb)
  | true =>
    have hl5 := (good_facts hg).1
    rw [hl5] at hr hc ⊢
    have e : sealAns p lsn = (sealP p lsn, 0) := by unfold sealAns; rw [if_pos hg]
    rw [e]
    refine (seal_good A c p lsn w hr hc ho hl5 hg h0).mono ?_
    rintro e w' ⟨g, rfl, h1, h2, h3⟩
    exact ans_page (sealP_len hl5 lsn) h1 h2 h3
theorem set_ans (x y : Int) : Calls Try.prog 32 #[.slice A p.length c, .int .i64 x, .int .i64 y] w (Ans (setAns p x y) w) := by
  cases hg : goodP p with
  | false =>
    have e : setAns p x y = ([], 4) := by unfold setAns; rw [hg]; rfl
    rw [e]
    exact (set_bad A c p x y w hr hc ho hl hg).mono (by rintro e w' ⟨rfl, hb⟩; exact ans_no hb)
  | true =>
    have hl5 := (good_facts hg).1
    rw [hl5] at hr hc ⊢
    by_cases hx : 0 ≤ x ∧ x ≤ 4294967295 ∧ 0 ≤ y ∧ y ≤ 4294967295
    · have e : setAns p x y = (setP p x y, 0) := by unfold setAns; rw [if_pos hg, if_pos hx]
      rw [e]
      refine (set_good A c p x y w hr hc ho hl5 hg hx).mono ?_
      rintro e w' ⟨g, rfl, h1, h2, h3⟩
      exact ans_page (setP_len hl5 x y) h1 h2 h3
    · have e : setAns p x y = ([], 1) := by unfold setAns; rw [if_pos hg, if_neg hx]
      rw [e]
      exact (set_no A c p x y w hr hc ho hl5 hg hx).mono (by rintro e w' ⟨rfl, hb⟩; exact ans_no hb)
theorem cell_ans (i : Int) : Calls Try.prog 34 #[.slice A p.length c, .int .i64 i] w (Ans (cellAns p i) w) := by
  cases hg : goodP p with
  | false =>
    have e : cellAns p i = ([], 4) := by unfold cellAns; rw [hg]; rfl
    rw [e]
    exact (cellF_bad A c p i w hr hc ho hl hg).mono (by rintro e w' ⟨rfl, hb⟩; exact ans_no hb)
  | true =>
    have hl5 := (good_facts hg).1
    rw [hl5] at hr hc ⊢
    by_cases hi : 0 ≤ i ∧ i < cnt p
    · obtain ⟨n, rfl⟩ : ∃ n : Nat, i = (n : Int) := ⟨i.toNat, by omega⟩
      have e : cellAns p n = (cellP p n, 0) := by unfold cellAns; rw [if_pos hg, if_pos hi]; rfl
      have hw := good_iff.mp hg
      have h1 := hw.slots
      have h2 := hw.low
      have h3 := (hw.fit n (by omega)).2
      rw [e]
      refine (cellF_good A c p n w hr hc ho hl5 hg (by omega) (by omega) h3).mono ?_
      rintro e w' ⟨g, rfl, h4, h5, h6⟩
      exact ⟨some ⟨g, 0, none⟩, by rw [cellP_length hl5 h3], .inl ⟨g, rfl, h4, h5⟩, h6⟩
    · have e : cellAns p i = ([], 1) := by unfold cellAns; rw [if_pos hg, if_neg hi]
      rw [e]
      exact (cellF_no A c p i w hr hc ho hl5 hg hi).mono (by rintro e w' ⟨rfl, hb⟩; exact ans_no hb)
end
theorem new_ans (k : Int) (w : World) : Calls Try.prog 30 #[.int .i64 k] w (Ans (newAns k) w) := by
  by_cases h : 0 ≤ k ∧ k ≤ 255
  · have e : newAns k = (newP k, 0) := by unfold newAns; rw [if_pos h]
    rw [e]
    refine (new_good k w h).mono ?_
    rintro e w' ⟨g, rfl, h1, h2, h3⟩
    exact ans_page (newP_fine h).2 h1 h2 h3
  · have e : newAns k = ([], 1) := by unfold newAns; rw [if_neg h]
    rw [e]
    exact (new_no k w h).mono (by rintro e w' ⟨rfl, hb⟩; exact ans_no hb)
end Go.Proofs.Ytpogneedafoiaaa.Pg
