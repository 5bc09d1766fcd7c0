/- Contracts: words, sums and numbers of the wire's functions; the frame's head, plainly. -/
import Derived.Test.YtppdblikbdibmaaDoorWordy
import Derived.Test.YtppdblikbdibmaaDoorRfA
import Derived.Outline
import Derived.Deep.RegionLaw
namespace Go.Proofs.YtppdblikbdibmaaDoor.Wi
open Go.RowKit Go.Proofs.YtppdblikbdibmaaDoorW.PrintWords Go.Proofs.YtppdblikbdibmaaDoorW.PrintLast Go.Proofs.YtppdblikbdibmaaDoorW.PrintMore Go.Proofs.YtppdblikbdibmaaDoor.Bw Go.Proofs.YtppdblikbdibmaaDoor.Crc Go.Proofs.YtppdblikbdibmaaDoor.Wordy
set_option linter.unusedVariables false
set_option linter.unusedSimpArgs false

theorem rb_cut {w : World} {ad : Addr} {n : Nat} {p : List Int} (h : Kd.C (Kd.int .u8) w (some ad) n p) (i m : Nat) (hi : i + m ≤ n) : Kd.C (Kd.int .u8) w (some (ad.add i)) m ((p.drop i).take m) := by
  have h := rb_reads h
  have hn := h.1
  refine rb_of_reads ⟨by rw [List.length_take, List.length_drop]; omega, by have := h.2.1; omega, fun hm => ⟨_, rfl, fun j hj => ?_⟩⟩
  obtain ⟨ad', e, hc⟩ := h.2.2 (by omega)
  obtain rfl := Option.some.inj e
  have hadd : (ad.add i).add j = ad.add (i + j) := Addr.add_add ad i j
  rw [hadd, hc (i + j) (by omega), List.getD_eq_getElem?_getD, List.getD_eq_getElem?_getD, List.getElem?_take, if_pos hj, List.getElem?_drop]
theorem rb_some {w : World} {A : Option Addr} {n : Nat} {p : List Int} (h : Kd.C (Kd.int .u8) w A n p) (hn : 0 < n) : ∃ ad, A = some ad := by
  obtain ⟨ad, e, _⟩ := (rb_reads h).2.2 hn
  exact ⟨ad, e⟩
theorem reads_new (w : World) (x : Int) (g : Nat) (h : g = w.heap.size) : ReadsInt (w.alloc (.cells #[.int .u8 x] 5)) .u8 (some ⟨g, 0, none⟩) 1 [x] :=
  rb_reads (rb_block (xs := [x]) (e := 5) (fz := (0, 0)) (heap_new _ _ _ h) (by simp))
theorem below_of_grown_new {w w1 w2 : World} {g : Nat} (hb : Below w.heap.size w w1) (hg : w1.grownBy w2 (some g)) (hle : w.heap.size ≤ g) : Below w.heap.size w w2 :=
  below_grown hb hg (by rintro k hk; cases hk; exact hle)
theorem cell_grown' {W w1 : World} {row : Option Nat} (hg : W.grownBy w1 row) {a : Addr} {v : Value} (h : W.cell? a = some v) (hne : some a.block ≠ row) : w1.cell? a = some v := by
  have := hg.block a.block (World.block_lt_of_cell? W a h) hne
  simpa [World.cell?, this] using h
theorem cell_old {W : World} {a : Addr} {v : Value} (h : W.cell? a = some v) (o : Obj) : (W.alloc o).cell? a = some v := (World.cell?_alloc_lt _ _ _ (World.block_lt_of_cell? W a h)).trans h
theorem frozen_old {W : World} {a : Addr} (hlt : a.block < W.heap.size) (o : Obj) : (W.alloc o).frozen? a = W.frozen? a := World.frozen?_of_block (w := W) (Below.heap_alloc W o a.block hlt)
theorem size5 : (Tryd.prog.info? 5).map (·.size) = some 1 := by kernel_rfl
theorem nums_getElem {k : IntKind} {l : List Int} {j : Nat} (h : j < l.length) : (nums k l)[j]? = some (.int k (l.getD j 0)) := by
  simp [nums, List.getElem?_eq_getElem h, List.getD_eq_getElem?_getD]
theorem rb_head {w : World} {base g e n cap : Nat} {xs : List Int} (h : w.ownsRow base e 1 (.slice (some ⟨g, 0, none⟩) n cap) n (nums .u8 xs)) (m : Nat) (hm : m ≤ n) (hl : n ≤ 9223372036854775807) : Kd.C (Kd.int .u8) w (some ⟨g, 0, none⟩) m (xs.take m) := by
  have hx : xs.length = n := by have := h.1; simp [nums] at this; exact this
  refine rb_of_reads ⟨by rw [List.length_take]; omega, by omega, fun _ => ⟨_, rfl, fun j hj => ?_⟩⟩
  rw [add_plain, h.cellAt j (by omega), nums_getElem (by omega), List.getD_eq_getElem?_getD, List.getD_eq_getElem?_getD, List.getElem?_take, if_pos hj]
theorem own_rb {w : World} {base g e n cap : Nat} {xs : List Int} (h : w.ownsRow base e 1 (.slice (some ⟨g, 0, none⟩) n cap) n (nums .u8 xs)) (hl : n ≤ 9223372036854775807) : Kd.C (Kd.int .u8) w (some ⟨g, 0, none⟩) n xs := by
  have hx : xs.length = n := by have := h.1; simp [nums] at this; exact this
  have h := rb_head h n (Nat.le_refl _) hl
  rwa [List.take_of_length_le (by omega)] at h
theorem own_cap {w : World} {base g e n cap : Nat} {xs : List Value} (h : w.ownsRow base e 1 (.slice (some ⟨g, 0, none⟩) n cap) n xs) : n ≤ cap ∧ cap ≤ 9223372036854775807 := by
  rcases h.2 with ⟨h', _⟩ | ⟨g', cap', cur, h', hb, hg, hnc, hcm, hcs, htake⟩
  · simp at h'
  · simp only [Value.slice.injEq, Option.some.injEq, Addr.mk.injEq, and_true, true_and] at h'
    obtain ⟨rfl, rfl⟩ := h'
    unfold maxLen at hcm
    exact ⟨hnc, hcm⟩
theorem word_calls (A : Option Addr) (c : Nat) (l : List Int) (w : World) (hr : Kd.C (Kd.int .u8) w A l.length l) (hc : l.length ≤ c) (ho : octs l) (hl : l.length ≤ 8) :
    Calls Tryd.prog 65 #[.slice A l.length c] w fun e w' => e = .returned (.int .u64 ((num l : Nat) : Int)) ∧ Drawn0 w w' := by
  obtain ⟨k, hk⟩ : ∃ k, l.length < k := ⟨_, Nat.lt_succ_self _⟩
  exact sum_Word.calls k A c l _ w hr hc (Word_eq l ho hl k hk)
theorem Get_l0 (b : List Int) (ho : octs b) (hb : b.length ≤ 9223372036854775807) (at_ size : Nat) (h : at_ + size ≤ b.length) (hs : size ≤ 8) : ∀ (d j : Nat), d ≤ size →
    Rf.munimentref1_Get.l0 (j + d + 1) b (at_ : Int) ((numAt b (at_ + d) (size - d) : Nat) : Int) ((d : Int) - 1) = some ((numAt b at_ size : Nat) : Int) := by
  intro d
  induction d with
  | zero =>
    intro j _
    simp only [Rf.munimentref1_Get.l0]
    rw [if_neg (by omega)]
    simp
  | succ d ih =>
    intro j hd
    have e : j + (d + 1) + 1 = (j + d + 1) + 1 := by omega
    rw [e]
    simp only [Rf.munimentref1_Get.l0]
    have e1 : (((d + 1 : Nat) : Int) - 1) = (d : Int) := by omega
    rw [e1, w64 (n := (at_ : Int) + (d : Int)) (by omega) (by omega), w64 (n := (d : Int) - 1) (by omega) (by omega)]
    rw [if_pos (by omega), if_pos (by omega), if_pos (by omega)]
    have e2 : size - d = (size - (d + 1)) + 1 := by omega
    have hs2 := shift_or b ho at_ d (size - (d + 1)) (by omega) (by omega)
    rw [hs2, ← e2]
    exact ih j (by omega)
theorem Get_eq (b : List Int) (ho : octs b) (hb : b.length ≤ 9223372036854775807) (at_ size k : Nat) (h : at_ + size ≤ b.length) (hs : size ≤ 8) (hk : 9 ≤ k) : Rf.munimentref1_Get.f k b (at_ : Int) (size : Int) = some ((numAt b at_ size : Nat) : Int) := by
  obtain ⟨j, rfl⟩ : ∃ j, k = j + size + 1 := ⟨k - size - 1, by omega⟩
  have := Get_l0 b ho hb at_ size h hs size j (Nat.le_refl _)
  unfold Rf.munimentref1_Get.f
  rw [w64 (n := (size : Int) - 1) (by omega) (by omega)]
  rw [Nat.sub_self] at this
  have e0 : numAt b (at_ + size) 0 = 0 := by simp [numAt, num]
  rw [e0] at this
  exact this
theorem rmore_l1 (l : List Int) (i : Nat) (hi : i < 140737488351232) : ∀ (d k r j : Nat), j + d = 8 → r < 4294967296 →
    Rf.munimentref1_More.l1 (k + d + 1) l (r : Int) (i : Int) (j : Int) = Rf.munimentref1_More.l0 k l ((itr d r : Nat) : Int) ((i + 1 : Nat) : Int) := by
  intro d
  induction d with
  | zero =>
    intro k r j hj hr
    rw [Nat.add_zero, Rf.munimentref1_More.l1, if_neg (by omega), w64 (n := (i : Int) + 1) (by omega) (by omega)]
    rfl
  | succ d ih =>
    intro k r j hj hr
    rw [show k + (d + 1) + 1 = (k + d + 1) + 1 by omega, Rf.munimentref1_More.l1, if_pos (by omega), w64 (n := (j : Int) + 1) (by omega) (by omega)]
    have ha : Go.bits .and .u32 (r : Int) 1 = ((r % 2 : Nat) : Int) := by
      have := u32_and_nat r 1 hr (by decide)
      rw [Nat.and_one_is_mod] at this
      exact this
    have hd2 : ((r : Int) / 2) = ((r / 2 : Nat) : Int) := by omega
    have hs := stp_lt (a := r) (by simpa using hr)
    simp only [Nat.reducePow] at hs
    rw [ha, show (j : Int) + 1 = ((j + 1 : Nat) : Int) by omega, hd2]
    by_cases h1 : r % 2 = 1
    · rw [if_pos (by omega)]
      have hx := u32_xor_nat (r / 2) 3988292384 (by omega) (by decide)
      have hst : stp r = r / 2 ^^^ 3988292384 := by unfold stp; rw [if_pos h1]
      have hx2 : Go.bits .xor .u32 ((r / 2 : Nat) : Int) 3988292384 = ((stp r : Nat) : Int) := by rw [hst]; exact hx
      rw [hx2]
      exact ih k (stp r) (j + 1) (by omega) hs
    · rw [if_neg (by omega)]
      have hst : stp r = r / 2 := by unfold stp; rw [if_neg h1]
      rw [← hst]
      exact ih k (stp r) (j + 1) (by omega) hs
theorem rmore_l0 (l : List Int) (hb : octs l) (hl : l.length ≤ 140737488351232) : ∀ (m k r i : Nat), i + m = l.length → r < 4294967296 →
    Rf.munimentref1_More.l0 (k + 10 * m + 1) l (r : Int) (i : Int) = some ((reg r (l.drop i) ^^^ 4294967295 : Nat) : Int) := by
  intro m
  induction m with
  | zero =>
    intro k r i hi hr
    rw [Nat.mul_zero, Nat.add_zero, Rf.munimentref1_More.l0, if_neg (by omega), List.drop_eq_nil_of_le (by omega)]
    have hx := u32_xor_nat r 4294967295 hr (by decide)
    exact congrArg some hx
  | succ m ih =>
    intro k r i hi hr
    have hlt : i < l.length := by omega
    rw [show k + 10 * (m + 1) + 1 = ((k + 10 * m + 1) + 8 + 1) + 1 by omega, Rf.munimentref1_More.l0, if_pos (by omega), if_pos (by omega)]
    have hx := octs_getD hb i
    obtain ⟨x, hxe⟩ : ∃ x : Nat, l.getD i 0 = (x : Int) := ⟨(l.getD i 0).toNat, by omega⟩
    have hrd : rd l (i : Int) = (x : Int) := by unfold rd; rw [Int.toNat_natCast]; exact hxe
    have hxl : x < 256 := by omega
    have hm : ((x : Int) % 4294967296) = (x : Int) := by omega
    rw [hrd, hm, u32_xor_nat r x hr (by omega)]
    have hrx : r ^^^ x < 4294967296 := by
      have := Nat.xor_lt_two_pow (n := 32) (x := r) (y := x) (by simpa using hr) (by omega)
      simpa using this
    have h1 := rmore_l1 l i (by omega) 8 (k + 10 * m + 1) (r ^^^ x) 0 rfl hrx
    rw [show ((0 : Nat) : Int) = 0 from rfl] at h1
    rw [h1]
    have h8 := itr_lt 8 (a := r ^^^ x) (by simpa using hrx)
    simp only [Nat.reducePow] at h8
    rw [ih k _ (i + 1) (by omega) h8]
    have hd : l.drop i = (x : Int) :: l.drop (i + 1) := by
      rw [List.drop_eq_getElem_cons hlt]
      congr 1
      rw [← hxe, List.getD_eq_getElem?_getD, List.getElem?_eq_getElem hlt]; rfl
    rw [hd, reg_cons, Int.toNat_natCast]
theorem rOf_eq (l : List Int) (hb : octs l) (hl : l.length ≤ 140737488351232) (k : Nat) (hk : 10 * l.length < k) : Rf.munimentref1_Of.f k l = some (more 0 l) := by
  obtain ⟨j, rfl⟩ : ∃ j, k = j + 10 * l.length + 1 := ⟨k - 10 * l.length - 1, by omega⟩
  unfold Rf.munimentref1_Of.f Rf.munimentref1_More.f
  have hx : Go.bits .xor .u32 0 4294967295 = ((0 ^^^ 4294967295 : Nat) : Int) := u32_xor_nat 0 4294967295 (by decide) (by decide)
  rw [hx]
  have := rmore_l0 l hb hl l.length j (0 ^^^ 4294967295) 0 (by omega) (by decide)
  rw [show ((0 : Nat) : Int) = 0 from rfl, List.drop_zero] at this
  rw [this]
  rfl
theorem of_calls (A : Option Addr) (c : Nat) (l : List Int) (w : World) (hr : Kd.C (Kd.int .u8) w A l.length l) (hc : l.length ≤ c) (ho : octs l) (hl : l.length ≤ 140737488351232) :
    Calls Tryd.prog 51 #[.slice A l.length c] w fun e w' => e = .returned (.int .u32 (more 0 l)) ∧ Drawn0 w w' :=
  sum_Of.calls (10 * l.length + 1) A c l _ w hr hc (Of_eq l ho hl _ (Nat.lt_succ_self _))
theorem rof_calls (A : Option Addr) (c : Nat) (l : List Int) (w : World) (hr : Kd.C (Kd.int .u8) w A l.length l) (hc : l.length ≤ c) (ho : octs l) (hl : l.length ≤ 140737488351232) :
    Calls Tryd.prog 60 #[.slice A l.length c] w fun e w' => e = .returned (.int .u32 (more 0 l)) ∧ Drawn0 w w' :=
  Rf.munimentref1_Of.calls (10 * l.length + 1) A c l _ w hr hc (rOf_eq l ho hl _ (Nat.lt_succ_self _))
theorem rget_calls (A : Option Addr) (c : Nat) (p : List Int) (at_ size : Nat) (a s : Int) (w : World) (hr : Kd.C (Kd.int .u8) w A p.length p) (hc : p.length ≤ c) (ho : octs p) (hl : p.length ≤ 140737488351232) (ha : a = (at_ : Int)) (hz : s = (size : Int)) (h8 : size ≤ 8) (hs : at_ + size ≤ p.length) :
    Calls Tryd.prog 61 #[.slice A p.length c, .int .i64 a, .int .i64 s] w fun e w' => e = .returned (.int .u64 ((numAt p at_ size : Nat) : Int)) ∧ Drawn0 w w' := by
  subst ha hz
  exact Rf.munimentref1_Get.calls 9 A c p _ _ _ w hr hc (Get_eq p ho (by omega) at_ size 9 hs h8 (Nat.le_refl _))

/-! the frame's head -/
def badHead (b : List Int) : Bool := (decide (0 < b.length) && (b.getD 0 0 != 77)) || (decide (1 < b.length) && (b.getD 1 0 != 68))
def sizeH (b : List Int) : Nat := numAt b 2 2
/-- the frame's number of bytes; the error -/
def headP (b : List Int) : Nat × Int :=
  if badHead b then (0, 4) else if b.length < 4 then (0, 17) else if 12000 < sizeH b then (0, 2) else if b.length < sizeH b + 8 then (0, 17)
  else if ((numAt b (sizeH b + 4) 4 : Nat) : Int) ≠ more 0 (b.take (sizeH b + 4)) then (sizeH b + 8, 8) else (sizeH b + 8, 0)
def bodyH (b : List Int) : List Int := if (headP b).2 = 0 then (b.drop 4).take (sizeH b) else []
theorem sizeH_lt {b : List Int} (ho : octs b) : sizeH b < 65536 := by
  have h := numAt_lt b ho 2 2
  unfold sizeH
  simpa using h
theorem numAt4_lt {b : List Int} (ho : octs b) (a : Nat) : numAt b a 4 < 4294967296 := by
  have h := numAt_lt b ho a 4
  simpa using h
end Go.Proofs.YtppdblikbdibmaaDoor.Wi
