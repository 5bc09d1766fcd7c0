/- Contracts by hand, and plain words about them: PgA, PgB, PgGood, PgC, PgD, PgE, PgF. -/
import Derived.Test.YtpogneedafoiaaaWordy
import Derived.Outline
import Derived.Deep.RegionLaw
namespace Go.Proofs.Ytpogneedafoiaaa.Pg
open Go.RowKit Go.Proofs.YtpogneedafoiaaaW.PrintWords Go.Proofs.YtpogneedafoiaaaW.PrintLast Go.Proofs.YtpogneedafoiaaaW.PrintMore Go.Proofs.Ytpogneedafoiaaa.Bw Go.Proofs.Ytpogneedafoiaaa.Crc Go.Proofs.Ytpogneedafoiaaa.Wordy
set_option linter.unusedVariables false
set_option linter.unusedSimpArgs false

theorem word_calls (A : Option Addr) (c : Nat) (l : List Int) (w : World) (hr : Kd.C (Kd.int .u8) w A l.length l) (hc : l.length ≤ c) (ho : octs l) (hl : l.length ≤ 8) :
    Calls Try.prog 61 #[.slice A l.length c] w fun e w' => e = .returned (.int .u64 ((num l : Nat) : Int)) ∧ Drawn0 w w' := by
  obtain ⟨k, hk⟩ : ∃ k, l.length < k := ⟨_, Nat.lt_succ_self _⟩
  exact sum_Word.calls k A c l _ w hr hc (Word_eq l ho hl k hk)
theorem rb_cut {w : World} {ad : Addr} {n : Nat} {p : List Int} (h : Kd.C (Kd.int .u8) w (some ad) n p) (i m : Nat) (hi : i + m ≤ n) : Kd.C (Kd.int .u8) w (some (ad.add i)) m ((p.drop i).take m) := by
  have h := rb_reads h
  have hn := h.1
  refine rb_of_reads ⟨by rw [List.length_take, List.length_drop]; omega, by have := h.2.1; omega, fun hm => ⟨_, rfl, fun j hj => ?_⟩⟩
  obtain ⟨ad', e, hc⟩ := h.2.2 (by omega)
  obtain rfl := Option.some.inj e
  have hadd : (ad.add i).add j = ad.add (i + j) := Addr.add_add ad i j
  rw [hadd, hc (i + j) (by omega), List.getD_eq_getElem?_getD, List.getD_eq_getElem?_getD, List.getElem?_take, if_pos hj, List.getElem?_drop]
theorem rb_some {w : World} {A : Option Addr} {n : Nat} {p : List Int} (h : Kd.C (Kd.int .u8) w A n p) (hn : 0 < n) : ∃ ad, A = some ad := by
  obtain ⟨ad, e, _⟩ := (rb_reads h).2.2 hn
  exact ⟨ad, e⟩
set_option maxHeartbeats 1000000 in
theorem get_calls (A : Option Addr) (c : Nat) (p : List Int) (at_ size : Nat) (w : World) (hr : Kd.C (Kd.int .u8) w A p.length p) (hc : p.length ≤ c) (ho : octs p) (hl : p.length ≤ 140737488351232) (h1 : 1 ≤ size) (h4 : size ≤ 4) (hs : at_ + size ≤ p.length) :
    Calls Try.prog 62 #[.agg #[.slice A p.length c], .int .i64 at_, .int .i64 size] w fun e w' => e = .returned (.int .i64 ((numAt p at_ size : Nat) : Int)) ∧ Below w.heap.size w w' := by
  obtain ⟨ad, rfl⟩ := rb_some hr (by omega)
  have HR := Aside0.mk hr
  have HO := Aside0.mk ho
  clear hr ho
  go_enter Try.func62, Try.ntmps62
  go_wp2_with fail
  have hlen : ((p.drop at_).take size).length = size := by rw [List.length_take, List.length_drop]; omega
  have hw := word_calls (some (ad.add at_)) size ((p.drop at_).take size) (w.alloc (.cells #[.slice (some ad) p.length c] 65)) (by rw [hlen]; exact rb_cut (Kd.C_alloc HR.out _) at_ size hs) (by rw [hlen]; exact Nat.le_refl _) (octs_take (octs_drop HO.out _) _) (by rw [hlen]; omega)
  rw [hlen] at hw
  refine hw.mono ?_
  clear hw hlen
  rintro e w2 ⟨rfl, ⟨nd, rfl⟩⟩
  have hlt : num ((p.drop at_).take size) < 4294967296 := by
    have h := numAt_lt p HO.out at_ size
    have h2 : 2 ^ (8 * size) ≤ 2 ^ 32 := Nat.pow_le_pow_right (by decide) (by omega)
    unfold numAt at h
    simp only [Nat.reducePow] at h2
    omega
  go_wp2
  go_ret
  refine ⟨?_, pw_below_drewN (below_alloc (Below.refl _ _) _) _⟩
  unfold numAt
  rfl

/-- the parts of a page -/
def cnt (p : List Int) : Nat := numAt p 14 2
def lowP (p : List Int) : Nat := numAt p 16 2
def frm (p : List Int) (i : Nat) : Nat := numAt p (26 + 4 * i) 2
def szP (p : List Int) (i : Nat) : Nat := numAt p (28 + 4 * i) 2
theorem numAt2_lt {p : List Int} (ho : octs p) (a : Nat) : numAt p a 2 < 65536 := by
  have h := numAt_lt p ho a 2
  simpa using h
set_option maxHeartbeats 1000000 in
theorem count_calls (A : Option Addr) (c : Nat) (p : List Int) (w : World) (hr : Kd.C (Kd.int .u8) w A p.length p) (hc : p.length ≤ c) (ho : octs p) (hl : p.length = 512) :
    Calls Try.prog 45 #[.agg #[.slice A p.length c]] w fun e w' => e = .returned (.int .i64 ((cnt p : Nat) : Int)) ∧ Below w.heap.size w w' := by
  have HR := Aside0.mk hr
  have HO := Aside0.mk ho
  have HL := Aside0.mk hl
  clear hr ho hl
  go_enter Try.func45, Try.ntmps45
  go_wp2_with fail
  refine (get_calls A c p 14 2 _ (Kd.C_alloc HR.out _) hc HO.out (by have := HL.out; omega) (by decide) (by decide) (by have := HL.out; omega)).mono ?_
  rintro e w2 ⟨rfl, hb⟩
  go_wp2
  go_ret
  exact ⟨rfl, below_step (below_alloc (Below.refl _ _) _) hb⟩
set_option maxHeartbeats 1000000 in
theorem low_calls (A : Option Addr) (c : Nat) (p : List Int) (w : World) (hr : Kd.C (Kd.int .u8) w A p.length p) (hc : p.length ≤ c) (ho : octs p) (hl : p.length = 512) :
    Calls Try.prog 46 #[.agg #[.slice A p.length c]] w fun e w' => e = .returned (.int .i64 ((lowP p : Nat) : Int)) ∧ Below w.heap.size w w' := by
  have HR := Aside0.mk hr
  have HO := Aside0.mk ho
  have HL := Aside0.mk hl
  clear hr ho hl
  go_enter Try.func46, Try.ntmps46
  go_wp2_with fail
  refine (get_calls A c p 16 2 _ (Kd.C_alloc HR.out _) hc HO.out (by have := HL.out; omega) (by decide) (by decide) (by have := HL.out; omega)).mono ?_
  rintro e w2 ⟨rfl, hb⟩
  go_wp2
  go_ret
  exact ⟨rfl, below_step (below_alloc (Below.refl _ _) _) hb⟩
/-- a number at a place -/
def gI (p : List Int) (a s : Int) : Int := ((numAt p a.toNat s.toNat : Nat) : Int)
theorem gI_of (p : List Int) {a s : Int} {at_ size : Nat} (ha : a = (at_ : Int)) (hs : s = (size : Int)) : gI p a s = ((numAt p at_ size : Nat) : Int) := by
  subst ha hs
  rfl
theorem get_any (A : Option Addr) (c : Nat) (p : List Int) (a s : Int) (w : World) (hr : Kd.C (Kd.int .u8) w A p.length p) (hc : p.length ≤ c) (ho : octs p) (hl : p.length ≤ 140737488351232) (ha : 0 ≤ a) (h1 : 1 ≤ s) (h4 : s ≤ 4) (hs : a + s ≤ p.length) :
    Calls Try.prog 62 #[.agg #[.slice A p.length c], .int .i64 a, .int .i64 s] w fun e w' => e = .returned (.int .i64 (gI p a s)) ∧ Below w.heap.size w w' := by
  obtain ⟨at_, rfl⟩ : ∃ x : Nat, a = (x : Int) := ⟨a.toNat, by omega⟩
  obtain ⟨size, rfl⟩ : ∃ x : Nat, s = (x : Int) := ⟨s.toNat, by omega⟩
  exact get_calls A c p at_ size w hr hc ho hl (by omega) (by omega) (by omega)
set_option maxHeartbeats 1000000 in
theorem slot_calls (A : Option Addr) (c : Nat) (p : List Int) (i : Nat) (w : World) (hr : Kd.C (Kd.int .u8) w A p.length p) (hc : p.length ≤ c) (ho : octs p) (hl : p.length = 512) (hi : 30 + 4 * i ≤ 512) :
    Calls Try.prog 47 #[.agg #[.slice A p.length c], .int .i64 i] w fun e w' => e = .returned (.tuple #[.int .i64 ((frm p i : Nat) : Int), .int .i64 ((szP p i : Nat) : Int)]) ∧ Below w.heap.size w w' := by
  have HR := Aside0.mk hr
  have HO := Aside0.mk ho
  have HL := Aside0.mk hl
  have HB0 := Aside0.mk (below_alloc (Below.refl w.heap.size w) (.cells #[.slice A p.length c] 65))
  clear hr ho hl
  have hw1 : IntKind.i64.wrap (26 + 4 * (i : Int) + 2) = 26 + 4 * (i : Int) + 2 := IntWalk.i64_in _ (by omega)
  go_enter Try.func47, Try.ntmps47
  go_wp2_with fail
  go_region_held3 (fun w' => w'.cell? ⟨w.heap.size, 0, none⟩ = some (.slice A p.length c) ∧ Below w.heap.size w w')
    (first | (exact ⟨by simp, HB0.out.drew⟩) | (go_split_ands; exact ⟨pw_cell_below hb (by assumption), below_step (by assumption) hb⟩))
    (first | (go_at_call 62; (with_reducible refine (get_any A c p _ _ _ ?_ hc HO.out (by have := HL.out; omega) (by omega) (by omega) (by omega) (by have := HL.out; omega)).mono ?_); (go_split_ands; exact Kd.C_below HR.out (by assumption)); rintro e w2 ⟨rfl, hb⟩))
  go_split_ands
  have HBz := Aside0.mk (show Below w.heap.size w _ by assumption)
  go_wp2
  go_ret2
  refine ⟨?_, HBz.out⟩
  show Ending.returned (.tuple #[.int .i64 (gI p (26 + 4 * (i : Int)) 2), .int .i64 (gI p (26 + 4 * (i : Int) + 2) 2)]) = _
  have e1 : gI p (26 + 4 * (i : Int)) 2 = ((frm p i : Nat) : Int) := gI_of p (at_ := 26 + 4 * i) (size := 2) (by omega) rfl
  have e2 : gI p (26 + 4 * (i : Int) + 2) 2 = ((szP p i : Nat) : Int) := gI_of p (at_ := 28 + 4 * i) (size := 2) (by omega) rfl
  rw [e1, e2]
set_option maxHeartbeats 1000000 in
theorem room_calls (A : Option Addr) (c : Nat) (p : List Int) (w : World) (hr : Kd.C (Kd.int .u8) w A p.length p) (hc : p.length ≤ c) (ho : octs p) (hl : p.length = 512) :
    Calls Try.prog 52 #[.agg #[.slice A p.length c]] w fun e w' => e = .returned (.int .i64 ((lowP p : Int) - 26 - 4 * (cnt p : Int))) ∧ Below w.heap.size w w' := by
  have HR := Aside0.mk hr
  have HO := Aside0.mk ho
  have HL := Aside0.mk hl
  have HB0 := Aside0.mk (below_alloc (Below.refl w.heap.size w) (.cells #[.slice A p.length c] 65))
  have b1 : lowP p < 65536 := numAt2_lt ho 16
  have b2 : cnt p < 65536 := numAt2_lt ho 14
  clear hr ho hl
  have hw1 : IntKind.i64.wrap ((lowP p : Int) - 26) = (lowP p : Int) - 26 := IntWalk.i64_in _ (by omega)
  have hw2 : IntKind.i64.wrap (4 * (cnt p : Int)) = 4 * (cnt p : Int) := IntWalk.i64_in _ (by omega)
  have hw3 : IntKind.i64.wrap ((lowP p : Int) - 26 - 4 * (cnt p : Int)) = (lowP p : Int) - 26 - 4 * (cnt p : Int) := IntWalk.i64_in _ (by omega)
  go_enter Try.func52, Try.ntmps52
  go_wp2_with fail
  go_region_held3 (fun w' => w'.cell? ⟨w.heap.size, 0, none⟩ = some (.slice A p.length c) ∧ Below w.heap.size w w')
    (first | (exact ⟨by simp, HB0.out.drew⟩) | (go_split_ands; exact ⟨pw_cell_below hb (by assumption), below_step (by assumption) hb⟩))
    (first | (go_at_call 46; (with_reducible refine (low_calls A c p _ ?_ hc HO.out HL.out).mono ?_); (go_split_ands; exact Kd.C_below HR.out (by assumption)); rintro e w2 ⟨rfl, hb⟩) | (go_at_call 45; (with_reducible refine (count_calls A c p _ ?_ hc HO.out HL.out).mono ?_); (go_split_ands; exact Kd.C_below HR.out (by assumption)); rintro e w2 ⟨rfl, hb⟩))
  all_goals
    go_split_ands
    have HBz := Aside0.mk (show Below w.heap.size w _ by assumption)
    go_wp2
    go_ret
    exact ⟨rfl, HBz.out⟩
end Go.Proofs.Ytpogneedafoiaaa.Pg
namespace Go.Proofs.Ytpogneedafoiaaa.Pg
open Go.RowKit Go.Proofs.YtpogneedafoiaaaW.PrintWords Go.Proofs.YtpogneedafoiaaaW.PrintLast Go.Proofs.YtpogneedafoiaaaW.PrintMore Go.Proofs.Ytpogneedafoiaaa.Bw Go.Proofs.Ytpogneedafoiaaa.Crc Go.Proofs.Ytpogneedafoiaaa.Wordy
set_option linter.unusedVariables false
set_option linter.unusedSimpArgs false

/-- the first k sizes -/
def sumSz (p : List Int) : Nat → Nat
  | 0 => 0
  | k + 1 => sumSz p k + szP p k
theorem sumSz_le {p : List Int} (ho : octs p) (k : Nat) : sumSz p k ≤ 65536 * k := by
  induction k with
  | zero => exact Nat.le_refl _
  | succ k ih =>
    have : szP p k < 65536 := numAt2_lt ho _
    rw [sumSz]
    omega
def freeP (p : List Int) : Int := 486 - 4 * (cnt p : Int) - (sumSz p (cnt p) : Int)
set_option maxHeartbeats 2000000 in
theorem free_calls (A : Option Addr) (c : Nat) (p : List Int) (w : World) (hr : Kd.C (Kd.int .u8) w A p.length p) (hc : p.length ≤ c) (ho : octs p) (hl : p.length = 512) (hn : 26 + 4 * cnt p ≤ 512) :
    Calls Try.prog 51 #[.agg #[.slice A p.length c]] w fun e w' => e = .returned (.int .i64 (freeP p)) ∧ Below w.heap.size w w' := by
  have HR := Aside0.mk hr
  have HO := Aside0.mk ho
  have HL := Aside0.mk hl
  have HB0 := Aside0.mk (below_alloc (Below.refl w.heap.size w) (.cells #[.slice A p.length c] 65))
  clear hr ho hl
  go_enter Try.func51, Try.ntmps51
  go_wp2_with fail
  refine (count_calls A c p _ (Kd.C_below HR.out HB0.out) hc HO.out HL.out).mono ?_
  rintro e w1 ⟨rfl, hb⟩
  have hcell1 := pw_cell_below hb (a := ⟨w.heap.size, 0, none⟩) (v := .slice A p.length c) (by simp)
  have HB1 := Aside0.mk (below_step HB0.out hb)
  clear hb
  go_wp2_with fail
  refine (count_calls A c p _ (Kd.C_below HR.out HB1.out) hc HO.out HL.out).mono ?_
  rintro e w2 ⟨rfl, hb⟩
  have hcell2 := pw_cell_below hb hcell1
  have HB2 := Aside0.mk (below_step HB1.out hb)
  clear hb hcell1
  have HC2 := Aside0.mk hcell2
  clear hcell2
  go_wp2_with fail
  go_loopg [3, 13] (cnt p) (fun d v3 v13 wr => ∃ k : Nat, v13 = .int .i64 k ∧ v3 = .int .i64 (486 - 4 * (cnt p : Int) - (sumSz p k : Int)) ∧ Aside0 (k + d = cnt p) ∧ Aside0 (wr.cell? ⟨w.heap.size, 0, none⟩ = some (.slice A p.length c)) ∧ Aside0 (Below w.heap.size w wr))
  case atStart => exact ⟨0, rfl, by simp [sumSz], ⟨by omega⟩, HC2, HB2⟩
  case round =>
    clear HC2 HB2
    obtain ⟨k, rfl, rfl, HK, HC, HB⟩ := hrel
    have hk := HK.out
    have hs := sumSz_le HO.out k
    have hs1 : szP p k < 65536 := numAt2_lt HO.out _
    by_cases hlt : k < cnt p
    · have hcell := HC.out
      go_wp2_with fail
      refine (slot_calls A c p k _ (Kd.C_below HR.out HB.out) hc HO.out HL.out (by omega)).mono ?_
      rintro e w3 ⟨rfl, hb⟩
      have HC3 := Aside0.mk (pw_cell_below hb hcell)
      have HB3 := Aside0.mk (below_step HB.out hb)
      clear hb hcell
      go_wp2
      go_roundg (gk - 1)
      case measure => have := HK.out; omega
      case rel => exact ⟨k + 1, by go_num, by rw [sumSz]; exact congrArg (Value.int .i64) (by omega), ⟨by have := HK.out; omega⟩, HC3, HB3⟩
    · obtain rfl : k = cnt p := by omega
      go_wp2
      go_ret
      exact ⟨rfl, HB.out⟩
/-- a cell's bytes -/
def cellP (p : List Int) (i : Nat) : List Int := (p.drop (frm p i)).take (szP p i)
set_option maxHeartbeats 2000000 in
theorem cell_calls (A : Option Addr) (c : Nat) (p : List Int) (i : Nat) (w : World) (hr : Kd.C (Kd.int .u8) w A p.length p) (hc : p.length ≤ c) (ho : octs p) (hl : p.length = 512) (hi : 30 + 4 * i ≤ 512) (hfit : frm p i + szP p i ≤ 512) :
    Calls Try.prog 50 #[.agg #[.slice A p.length c], .int .i64 i] w fun e w' => ∃ A' : Addr, e = .returned (.slice (some A') (szP p i) (szP p i)) ∧ (∀ W, Kd.C (Kd.int .u8) W A p.length p → Kd.C (Kd.int .u8) W (some A') (szP p i) (cellP p i)) ∧ (∀ ad, A = some ad → A'.block = ad.block) ∧ Below w.heap.size w w' := by
  obtain ⟨ad, rfl⟩ := rb_some hr (by omega)
  have HR := Aside0.mk hr
  have HO := Aside0.mk ho
  have HL := Aside0.mk hl
  have HB0 := Aside0.mk (below_alloc (Below.refl w.heap.size w) (.cells #[.slice (some ad) p.length c] 65))
  have hfit2 : frm p i + szP p i ≤ p.length := by omega
  have hfit3 : frm p i + szP p i ≤ c := by omega
  clear hr ho hl
  go_enter Try.func50, Try.ntmps50
  go_wp2_with fail
  refine (slot_calls (some ad) c p i _ (Kd.C_below HR.out HB0.out) hc HO.out HL.out hi).mono ?_
  rintro e w1 ⟨rfl, hb⟩
  have hcell1 := pw_cell_below hb (a := ⟨w.heap.size, 0, none⟩) (v := .slice (some ad) p.length c) (by simp)
  have HB1 := Aside0.mk (below_step HB0.out hb)
  clear hb
  by_cases hz : szP p i = 0
  · go_wp2
    go_ret
    refine ⟨ad, by rw [hz]; rfl, fun W h => ?_, fun ad1 h => by cases h; rfl, HB1.out⟩
    rw [hz]
    exact rb_of_reads ⟨by unfold cellP; rw [hz]; rfl, by decide, fun h => absurd h (by decide)⟩
  · go_wp2
    go_ret
    refine ⟨ad.add (frm p i), ?_, fun W h => rb_cut h _ _ hfit2, fun ad1 h => ?_, HB1.out⟩
    · show Ending.returned (.slice (some (ad.add (frm p i))) (frm p i + szP p i - frm p i) (frm p i + szP p i - frm p i)) = _
      rw [Nat.add_sub_cancel_left]
    · cases h
      unfold Addr.add
      split <;> rfl
theorem hmk (n : Nat) (hn : n ≤ 140737488351232) (w : World) : (Instr.makeSlice 22 (.int .i64 0) (.int .i64 (n : Int))).run Try.prog w = .ok (.slice (some ⟨w.heap.size, 0, none⟩) 0 n) (w.alloc (.cells (madeCells #[.int .u8 0] n) 5)) := by
  obtain ⟨i0, hi, hz0, hz1, hz2⟩ := info_parts info5
  have h := run_make (P := Try.prog) w 22 5 i0 (.int .u8 0) Try.underlying22 hi hz0 .i64 .i64 0 n (by omega) (by omega) (by rw [hz2]; omega) (by omega)
  have e : (Value.int .u8 0).cells = #[.int .u8 0] := rfl
  rw [hz1, e] at h
  simpa using h
theorem below_of_grown_new {w w1 w2 : World} {g : Nat} (hb : Below w.heap.size w w1) (hg : w1.grownBy w2 (some g)) (hle : w.heap.size ≤ g) : Below w.heap.size w w2 :=
  below_grown hb hg (by rintro k hk; cases hk; exact hle)
set_option maxHeartbeats 2000000 in
theorem clone_calls (A : Option Addr) (c : Nat) (l : List Int) (w : World) (hr : Kd.C (Kd.int .u8) w A l.length l) (hc : l.length ≤ c) (hl : l.length ≤ 140737488351232) (hA : A = none → c = 0) :
    Calls Try.prog 49 #[.slice A l.length c] w fun e w' => ∃ g, e = .returned (.slice (some ⟨g, 0, none⟩) l.length l.length) ∧ w.heap.size ≤ g ∧ Blk w' 5 g l ∧ Below w.heap.size w w' := by
  have HR := Aside0.mk hr
  have HA := Aside0.mk hA
  clear hr hA
  have hmk' := hmk l.length hl
  go_enter Try.func49, Try.ntmps49
  go_wp2_with (at_builtin; go_loud (refine wl_clone rfl _ _ 22 5 rfl Try.underlying22 info5 w.heap.size l.length c A l rfl rfl (heap_new _ _ _ (by simp)) (Kd.C_alloc HR.out _) hc (by omega) HA.out ?_); intro w1 hb1 hg1)
  go_ret
  exact ⟨_, rfl, Nat.le_refl _, hb1, below_of_grown_new (below_alloc (Below.refl _ _) _) hg1 (Nat.le_refl _)⟩
/-- laying of one variable's zero -/
theorem wl_alloc {P : Program} {ops : Array Oper} {rest : List Oper} {o : Oper} {a : Act} {Q : Exit → Act → World → Prop} {W : World} (hg : o.guard = none) (T : TypeId) (ho : o.op = .alloc T) (z : Value) (cs : Array Value)
    (hz : (P.info? T).bind (·.zero) = some z) (hcs : z.cells = cs)
    (h : ∀ w', w'.heap[W.heap.size]? = some (.cells cs T (0, 0)) → Below W.heap.size W w' → wpList P ops Q rest (a.put o.dst (.pointer (some ⟨W.heap.size, 0, none⟩))) w') : wpList P ops Q (o :: rest) a W := by
  refine wpList_plain hg fun K hK => ?_
  obtain ⟨i, hi, hz1⟩ := Option.bind_eq_some_iff.mp hz
  have hrun : (Instr.alloc T true (.tuple #[])).run P W = .ok (.pointer (some ⟨W.heap.size, 0, none⟩)) (W.alloc (.cells z.cells T)) := by
    simp [Instr.alloc, zeroValue, typeInfo, hi, hz1, newVar, newRow]
  unfold Oper.wp
  simp [execOp, ho, hrun, Result.andThen]
  refine hK _ _ (h _ ?_ (below_alloc (Below.refl _ _) _))
  rw [hcs]
  exact heap_new _ _ _ rfl
end Go.Proofs.Ytpogneedafoiaaa.Pg
namespace Go.Proofs.Ytpogneedafoiaaa.Pg
open Go.RowKit Go.Proofs.YtpogneedafoiaaaW.PrintWords Go.Proofs.YtpogneedafoiaaaW.PrintLast Go.Proofs.YtpogneedafoiaaaW.PrintMore Go.Proofs.Ytpogneedafoiaaa.Bw Go.Proofs.Ytpogneedafoiaaa.Crc Go.Proofs.Ytpogneedafoiaaa.Wordy
set_option linter.unusedVariables false
set_option linter.unusedSimpArgs false

def markB (T : List Bool) (k : Nat) : Nat → Option (List Bool)
  | 0 => some T
  | m + 1 => if T.getD k false = true then none else markB (T.set k true) (k + 1) m
def contB (x : Option (List Bool)) (f : List Bool → Bool) : Bool := match x with | none => false | some T => f T
def chkB (p : List Int) (T : List Bool) (i : Nat) : Nat → Bool
  | 0 => true
  | d + 1 => if frm p i < lowP p ∨ 512 < frm p i + szP p i then false else contB (markB T (frm p i) (szP p i)) (fun T' => chkB p T' (i + 1) d)
def goodP (p : List Int) : Bool :=
  if p.length = 512 then (if p.getD 13 0 = 0 then (if 26 + 4 * cnt p ≤ lowP p ∧ lowP p ≤ 512 then chkB p (List.replicate 512 false) 0 (cnt p) else false) else false) else false
def Tk (w : World) (g : Nat) (T : List Bool) : Prop := w.heap[g]? = some (.cells (bools T).toArray 69 (0, 0))
theorem Tk.cell {w : World} {g : Nat} {T : List Bool} (h : Tk w g T) (j : Nat) (hj : j < T.length) : w.cell? ⟨g, j, none⟩ = some (.bool (T.getD j false)) := by
  unfold World.cell?
  rw [h]
  simp [bools, List.getElem?_eq_getElem hj, List.getD_eq_getElem?_getD]
theorem Tk.free {w : World} {g : Nat} {T : List Bool} (h : Tk w g T) (j : Nat) : w.frozen? ⟨g, j, none⟩ = false := by
  unfold World.frozen?
  rw [h]
  simp
theorem Tk.set {w : World} {g : Nat} {T : List Bool} (h : Tk w g T) (j : Nat) (v : Bool) : Tk (w.setCell ⟨g, j, none⟩ (.bool v)) g (T.set j v) := by
  unfold Tk at *
  show (w.setCell ⟨g, j, none⟩ (.bool v)).heap[g]? = _
  simp only [World.setCell, Array.getElem?_modify, h]
  simp [bools, List.map_set]
theorem Tk.lt {w : World} {g : Nat} {T : List Bool} (h : Tk w g T) : g < w.heap.size := (Array.getElem?_eq_some_iff.1 h).1
theorem Tk.below {w w' : World} {g : Nat} {T : List Bool} (h : Tk w g T) (hb : Below w.heap.size w w') : Tk w' g T := (hb.block g h.lt).trans h
theorem zero69 : (Try.prog.info? 69).bind (·.zero) = some (.agg ((List.replicate 512 (Value.bool false)).toArray)) := by kernel_rfl
theorem zero69c : (Value.agg ((List.replicate 512 (Value.bool false)).toArray)).cells = (bools (List.replicate 512 false)).toArray := by kernel_rfl
theorem ret_bool {a b : Bool} (h : a = b) : Ending.returned (.bool a) = .returned (.bool b) := by rw [h]
set_option maxRecDepth 100000 in
set_option maxHeartbeats 4000000 in
theorem good_calls (A : Option Addr) (c : Nat) (p : List Int) (w : World) (hr : Kd.C (Kd.int .u8) w A p.length p) (hc : p.length ≤ c) (ho : octs p) (hl : p.length ≤ 140737488351232) :
    Calls Try.prog 13 #[.slice A p.length c] w fun e w' => e = .returned (.bool (goodP p)) ∧ Below w.heap.size w w' := by
  have HR := Aside0.mk hr
  have HO := Aside0.mk ho
  clear hr ho
  by_cases h1 : p.length = 512
  · obtain ⟨ad, rfl⟩ := rb_some HR.out (by omega)
    have hc13 : w.cell? ⟨ad.block, ad.off + 13, none⟩ = some (.int .u8 (p.getD 13 0)) := by
      obtain ⟨ad', e, h⟩ := Kd.at_int HR.out 13 (by decide) (by omega)
      cases e
      exact h
    have hln : ((p.length : Int) != 512) = false := by rw [h1]; decide
    have h13 : (13 : Int) < (p.length : Int) := by omega
    have H1 := Aside0.mk h1
    by_cases h2 : p.getD 13 0 = 0
    · have hq2 : (p.getD 13 0 != 0) = false := by rw [h2]; rfl
      have HG0 : goodP p = (if 26 + 4 * cnt p ≤ lowP p ∧ lowP p ≤ 512 then chkB p (List.replicate 512 false) 0 (cnt p) else false) := by unfold goodP; rw [if_pos h1, if_pos h2]
      have HG := Aside0.mk HG0
      clear HG0
      rw [List.getD_eq_getElem?_getD] at hc13 hq2
      clear h1 h2
      have b1 : cnt p < 65536 := numAt2_lt HO.out _
      have b2 : lowP p < 65536 := numAt2_lt HO.out _
      have HB0 := Aside0.mk (below_alloc (Below.refl w.heap.size w) (.cells #[.slice (some ad) p.length c] 65))
      go_enter Try.func13, Try.ntmps13
      go_wp2_with fail
      go_region_held3 (fun w' => w'.cell? ⟨w.heap.size, 0, none⟩ = some (.slice (some ad) p.length c) ∧ Below w.heap.size w w')
        (first | (exact ⟨by simp, HB0.out.drew⟩) | (go_split_ands; exact ⟨pw_cell_below hb (by assumption), below_step (by assumption) hb⟩))
        (first | (go_at_call 46; (with_reducible refine (low_calls (some ad) c p _ ?_ hc HO.out H1.out).mono ?_); (go_split_ands; exact Kd.C_below HR.out (by assumption)); rintro e w2 ⟨rfl, hb⟩) | (go_at_call 45; (with_reducible refine (count_calls (some ad) c p _ ?_ hc HO.out H1.out).mono ?_); (go_split_ands; exact Kd.C_below HR.out (by assumption)); rintro e w2 ⟨rfl, hb⟩))
      go_split_ands
      have HC0 := Aside0.mk (show w2.cell? ⟨w.heap.size, 0, none⟩ = some (Value.slice (some ad) p.length c) by assumption)
      have HB1 := Aside0.mk (show Below w.heap.size w w2 by assumption)
      clear HB0
      by_cases h3 : 26 + 4 * cnt p ≤ lowP p ∧ lowP p ≤ 512
      · obtain ⟨h4, h5⟩ := h3
        rw [if_pos ⟨h4, h5⟩] at HG
        have HG := Aside0.mk HG.out.symm
        have q3 : decide ((lowP p : Int) < 26 + 4 * (cnt p : Int)) = false := decide_eq_false (by omega)
        have q4 : decide (512 < (lowP p : Int)) = false := decide_eq_false (by omega)
        go_wp2_with (refine wl_alloc rfl 69 rfl _ _ zero69 zero69c ?_; intro wt hbt hbl)
        have HT := Aside0.mk (show Tk wt w2.heap.size (List.replicate 512 false) from hbt)
        have HC0' := Aside0.mk HC0.out
        have HC1 := Aside0.mk (pw_cell_below hbl HC0.out)
        have HB2 := Aside0.mk (below_step HB1.out hbl)
        have HS := Aside0.mk HB1.out.size
        clear hbt hbl HC0 HB1
        have gN := Aside0.mk (show 26 + 4 * cnt p ≤ 512 by omega)
        go_loopg [36] (cnt p) (fun d v36 wr => ∃ (k : Nat) (T : List Bool), v36 = .int .i64 k ∧ Aside0 (k + d = cnt p) ∧ Aside0 (T.length = 512) ∧ Aside0 (Tk wr w2.heap.size T) ∧ Aside0 (wr.cell? ⟨w.heap.size, 0, none⟩ = some (.slice (some ad) p.length c)) ∧ Aside0 (Below w.heap.size w wr) ∧ Aside0 (chkB p T k d = goodP p))
        case atStart => exact ⟨0, _, rfl, ⟨by omega⟩, ⟨List.length_replicate⟩, HT, HC1, HB2, HG⟩
        case round =>
          clear HT HC1 HB2 HG
          obtain ⟨k, T, rfl, HK, HTl, HT, HC, HB, HG⟩ := hrel
          have hk := HK.out
          by_cases hlt : k < cnt p
          · obtain ⟨d, rfl⟩ : ∃ d, gk = d + 1 := ⟨gk - 1, by omega⟩
            have hg := HG.out
            rw [chkB] at hg
            have hcell := HC.out
            go_wp2_with fail
            refine (slot_calls (some ad) c p k _ (Kd.C_below HR.out HB.out) hc HO.out H1.out (by have := gN.out; omega)).mono ?_
            rintro e w3 ⟨rfl, hb⟩
            have HC3 := Aside0.mk (pw_cell_below hb hcell)
            have HB3 := Aside0.mk (below_step HB.out hb)
            have HT3 := Aside0.mk (HT.out.below hb)
            clear hb hcell HC HB HT
            have f1 : frm p k < 65536 := numAt2_lt HO.out _
            have f2 : szP p k < 65536 := numAt2_lt HO.out _
            by_cases h6 : frm p k < lowP p ∨ 512 < frm p k + szP p k
            · rw [if_pos h6] at hg
              have HGf := Aside0.mk hg
              clear hg
              by_cases h7 : frm p k < lowP p
              · go_wp2
                go_ret
                exact ⟨ret_bool HGf.out, HB3.out⟩
              · have h8 : 512 < frm p k + szP p k := by omega
                clear h6
                go_wp2
                go_ret
                exact ⟨ret_bool HGf.out, HB3.out⟩
            · rw [if_neg h6] at hg
              have h7 : lowP p ≤ frm p k := by omega
              have h8 : frm p k + szP p k ≤ 512 := by omega
              clear h6
              have HG2 := Aside0.mk hg
              clear hg
              go_wp2_with fail
              go_loopg [10] (szP p k) (fun m v10 ws => ∃ (j : Nat) (T : List Bool), v10 = .int .i64 j ∧ Aside0 (j + m = frm p k + szP p k) ∧ Aside0 (T.length = 512) ∧ Aside0 (Tk ws w2.heap.size T) ∧ Aside0 (ws.cell? ⟨w.heap.size, 0, none⟩ = some (.slice (some ad) p.length c)) ∧ Aside0 (Below w.heap.size w ws) ∧ Aside0 (contB (markB T j m) (fun T' => chkB p T' (k + 1) d) = goodP p))
              case atStart => exact ⟨frm p k, T, rfl, ⟨rfl⟩, HTl, HT3, HC3, HB3, HG2⟩
              case round =>
                clear HTl HT3 HC3 HB3 HG2
                obtain ⟨j, T, rfl, HJ, HTl, HT, HC, HB, HG⟩ := hrel
                have hj := HJ.out
                by_cases hlt2 : j < frm p k + szP p k
                · obtain ⟨m, rfl⟩ : ∃ m, gk = m + 1 := ⟨gk - 1, by omega⟩
                  have hg := HG.out
                  rw [markB] at hg
                  have hcj := HT.out.cell j (by have := HTl.out; omega)
                  have hfj := HT.out.free j
                  have hj5 : (j : Int) < 512 := by omega
                  cases hv : T.getD j false with
                  | true =>
                    rw [hv] at hcj
                    rw [if_pos hv] at hg
                    have HGf := Aside0.mk hg
                    clear hg hv
                    go_wp2
                    go_ret
                    exact ⟨ret_bool HGf.out, HB.out⟩
                  | false =>
                    rw [hv] at hcj
                    rw [if_neg (by rw [hv]; decide)] at hg
                    have HG2 := Aside0.mk hg
                    clear hg hv
                    go_wp2
                    go_roundg m
                    case measure => omega
                    case rel => exact ⟨j + 1, _, by go_num, ⟨by have := HJ.out; omega⟩, ⟨by rw [List.length_set]; exact HTl.out⟩, ⟨HT.out.set j true⟩, ⟨by rw [cell_set_ne (by have := HS.out; have := World.block_lt_of_cell? _ _ HC0'.out; simp only at *; omega)]; exact HC.out⟩, ⟨HB.out.setCell HS.out _⟩, HG2⟩
                · obtain rfl : gk = 0 := by omega
                  have hg := HG.out
                  rw [markB, contB] at hg
                  have HG2 := Aside0.mk hg
                  clear hg
                  go_wp2
                  go_roundg d
                  case measure => omega
                  case rel => exact ⟨k + 1, T, by go_num, ⟨by have := HK.out; omega⟩, HTl, HT, HC, HB, HG2⟩
          · obtain rfl : gk = 0 := by omega
            have hg := HG.out
            rw [chkB] at hg
            have HGf := Aside0.mk hg
            clear hg
            go_wp2
            go_ret
            exact ⟨ret_bool HGf.out, HB.out⟩
      · rw [if_neg h3] at HG
        have HGf := Aside0.mk HG.out.symm
        clear HG
        by_cases h4 : 26 + 4 * cnt p ≤ lowP p
        · have h5 : 512 < lowP p := by omega
          clear h3
          go_wp2
          go_ret
          exact ⟨ret_bool HGf.out, HB1.out⟩
        · go_wp2
          go_ret
          exact ⟨ret_bool HGf.out, HB1.out⟩
    · have hq2 : (p.getD 13 0 != 0) = true := by simpa using h2
      have HG : goodP p = false := by unfold goodP; rw [if_pos h1, if_neg h2]
      rw [HG]
      rw [List.getD_eq_getElem?_getD] at hc13 hq2
      clear h1 h2 HG
      go_enter Try.func13, Try.ntmps13
      go_wp2
      go_ret
      exact ⟨rfl, Below.refl _ _⟩
  · have hln : ((p.length : Int) != 512) = true := by simp; omega
    have HG : goodP p = false := by unfold goodP; rw [if_neg h1]
    rw [HG]
    clear HG h1
    go_enter Try.func13, Try.ntmps13
    go_wp2
    go_ret
    exact ⟨rfl, Below.refl _ _⟩
end Go.Proofs.Ytpogneedafoiaaa.Pg
namespace Go.Proofs.Ytpogneedafoiaaa.Pg
open Go.RowKit Go.Proofs.YtpogneedafoiaaaW.PrintWords Go.Proofs.YtpogneedafoiaaaW.PrintLast Go.Proofs.YtpogneedafoiaaaW.PrintMore Go.Proofs.Ytpogneedafoiaaa.Bw Go.Proofs.Ytpogneedafoiaaa.Crc Go.Proofs.Ytpogneedafoiaaa.Wordy
set_option linter.unusedVariables false
set_option linter.unusedSimpArgs false

theorem reads_new (w : World) (x : Int) (g : Nat) (h : g = w.heap.size) : ReadsInt (w.alloc (.cells #[.int .u8 x] 5)) .u8 (some ⟨g, 0, none⟩) 1 [x] :=
  rb_reads (rb_block (xs := [x]) (e := 5) (fz := (0, 0)) (heap_new _ _ _ h) (by simp))
set_option maxHeartbeats 1000000 in
theorem lay_calls (n : Int) (size : Nat) (w : World) (h1 : size ≤ 8) (hn0 : 0 ≤ n) :
    Calls Try.prog 64 #[.slice none 0 0, .int .i64 size, .int .u64 n] w fun e w' => ∃ v, e = .returned v ∧ w'.ownsRow w.heap.size 5 1 v size (nums .u8 (leB n size)) ∧ Below w.heap.size w w' := by
  go_enter Try.func64, Try.ntmps64
  go_wp2
  go_loopg [0, 9] size (fun d v5 v6 wr => ∃ k : Nat, v6 = .int .i64 k ∧ Aside0 (k + d = size) ∧ Aside0 (wr.ownsRow w.heap.size 5 1 v5 k (nums .u8 (leB n k))) ∧ Aside0 (Below w.heap.size w wr))
  case atStart => exact ⟨0, rfl, ⟨by omega⟩, ⟨own_nil _ _ _ _⟩, ⟨Below.refl _ _⟩⟩
  case round =>
    obtain ⟨k, rfl, HK, HO, HB⟩ := hrel
    have hk := HK.out
    by_cases hlt : k < size
    · obtain ⟨Ao, co, eo⟩ := own_slice HO.out
      subst eo
      go_wp2_with (at_builtin; go_loud (refine print_append_row (w0 := w) w.heap.size rfl _ _ 22 5 .u8 1 rfl Try.underlying22 info5 (by decide) _ (leB n k) [octOf n k] (some ⟨wr.heap.size, 0, none⟩) 1 1 rfl rfl (own_alloc (by rw [leB_length]; exact HO.out) _) (reads_new _ _ _ rfl) (below_alloc HB.out _) (by have := HB.out.size; simp; omega) (by rw [leB_length]; omega) ?_); intro v1 w1 ho1 hb1 hg1 hn1)
      go_wp2
      go_roundg (gk - 1)
      case measure => have := HK.out; omega
      case rel =>
        refine ⟨k + 1, by go_num, ⟨by have := HK.out; omega⟩, ⟨?_⟩, ⟨hb1⟩⟩
        rw [← leB_succ, leB_length] at ho1
        exact ho1
    · go_wp2
      go_ret
      obtain rfl : k = size := by omega
      exact ⟨_, rfl, HO.out, HB.out⟩

/-- bytes laid over a page from a place on -/
def over (p : List Int) (at_ : Nat) (l : List Int) : List Int := p.take at_ ++ (l ++ p.drop (at_ + l.length))
theorem over_length (p : List Int) (at_ : Nat) (l : List Int) (h : at_ + l.length ≤ p.length) : (over p at_ l).length = p.length := by
  unfold over
  simp only [List.length_append, List.length_take, List.length_drop]
  omega
theorem size5 : (Try.prog.info? 5).map (·.size) = some 1 := by kernel_rfl
theorem nums_getElem {k : IntKind} {l : List Int} {j : Nat} (h : j < l.length) : (nums k l)[j]? = some (.int k (l.getD j 0)) := by
  simp [nums, List.getElem?_eq_getElem h, List.getD_eq_getElem?_getD]
/-- The head of an own row, read. -/
theorem rb_head {w : World} {base g e n cap : Nat} {xs : List Int} (h : w.ownsRow base e 1 (.slice (some ⟨g, 0, none⟩) n cap) n (nums .u8 xs)) (m : Nat) (hm : m ≤ n) (hl : n ≤ 9223372036854775807) : Kd.C (Kd.int .u8) w (some ⟨g, 0, none⟩) m (xs.take m) := by
  have hx : xs.length = n := by have := h.1; simp [nums] at this; exact this
  refine rb_of_reads ⟨by rw [List.length_take]; omega, by omega, fun _ => ⟨_, rfl, fun j hj => ?_⟩⟩
  rw [add_plain, h.cellAt j (by omega), nums_getElem (by omega), List.getD_eq_getElem?_getD, List.getD_eq_getElem?_getD, List.getElem?_take, if_pos hj]
set_option maxHeartbeats 4000000 in
theorem put_calls (g : Nat) (p : List Int) (at_ size : Nat) (n : Int) (w : World) (hb : Blk w 5 g p) (hl : p.length = 512) (hs1 : 1 ≤ size) (h1 : size ≤ 8) (hn0 : 0 ≤ n) (hfit : at_ + size ≤ 512) :
    Calls Try.prog 53 #[.agg #[.slice (some ⟨g, 0, none⟩) 512 512], .int .i64 at_, .int .i64 size, .int .u64 n] w fun e w' => e = .returned (.tuple #[]) ∧ Blk w' 5 g (over p at_ (leB n size)) ∧ w.grownBy w' (some g) := by
  have HB := Aside0.mk hb
  have HL := Aside0.mk hl
  clear hb hl
  have hw1 : IntKind.i64.wrap ((at_ : Int) + (size : Int)) = (at_ : Int) + (size : Int) := IntWalk.i64_in _ (by omega)
  have hw2 : (0 : Int) ≤ (at_ : Int) + (size : Int) := by omega
  have hw3 : ((at_ : Int) + (size : Int)).toNat = at_ + size := by omega
  have hw4 : (at_ : Int) + (size : Int) ≤ 512 := by omega
  have HB0 := Aside0.mk (Blk.below HB.out (below_alloc (Below.refl w.heap.size w) (.cells #[.slice (some ⟨g, 0, none⟩) 512 512] 65)))
  have HG0 := Aside0.mk (grown_below (below_alloc (Below.refl w.heap.size w) (.cells #[.slice (some ⟨g, 0, none⟩) 512 512] 65)) (some g))
  have hne : ¬ (512 = at_) := by omega
  go_enter Try.func53, Try.ntmps53
  go_wp2_with fail
  go_region_law (first
      | (refine st_copy rfl (.tmp 14) (.tmp 17) 22 22 5 rfl Try.underlying22 size5 g at_ size (512 - at_) size cv (some ⟨gv, 0, none⟩) p (leB n size) rfl rfl HBv.out ?_ ?_ ?_; (have h := rb_head ho size (Nat.le_refl _) (by omega); rw [List.take_of_length_le (by rw [leB_length]; exact Nat.le_refl _)] at h; exact h); (have := HL.out; simp only [Nat.min_self]; omega); intro w5 hb5 hg5)
      | (go_simp; go_at_call 64; (with_reducible refine (lay_calls n size _ h1 hn0).mono ?_); rintro e w2 ⟨v, rfl, ho, hb⟩; obtain ⟨gv, cv, rfl, _, _⟩ := ho.form (by omega); have hcv := pw_cell_below hb (a := ⟨w.heap.size, 0, none⟩) (v := .slice (some ⟨g, 0, none⟩) 512 512) (by simp); have HBv := Aside0.mk (Blk.below (show Blk (w.alloc (.cells #[.slice (some ⟨g, 0, none⟩) 512 512] 65)).drew 5 g p from HB0.out) hb)))
  all_goals
    go_end0
    refine ⟨rfl, ?_, grown_trans (grown_trans (grown_drew HG0.out) (grown_below hb _)) hg5⟩
    unfold over
    rw [leB_length]
    have ht : (leB n size).take size = leB n size := List.take_of_length_le (by rw [leB_length]; exact Nat.le_refl _)
    rw [ht, show Nat.min size size = size from Nat.min_self size] at hb5
    exact hb5
theorem put_at (g : Nat) (p : List Int) (at_ size : Nat) (a s n : Int) (w : World) (ha : a = (at_ : Int)) (hs : s = (size : Int)) (hb : Blk w 5 g p) (hl : p.length = 512) (hs1 : 1 ≤ size) (h1 : size ≤ 8) (hn0 : 0 ≤ n) (hfit : at_ + size ≤ 512) :
    Calls Try.prog 53 #[.agg #[.slice (some ⟨g, 0, none⟩) 512 512], .int .i64 a, .int .i64 s, .int .u64 n] w fun e w' => e = .returned (.tuple #[]) ∧ Blk w' 5 g (over p at_ (leB n size)) ∧ w.grownBy w' (some g) := by
  subst ha hs
  exact put_calls g p at_ size n w hb hl hs1 h1 hn0 hfit
theorem cell_grown' {W w1 : World} {row : Option Nat} (hg : W.grownBy w1 row) {a : Addr} {v : Value} (h : W.cell? a = some v) (hne : some a.block ≠ row) : w1.cell? a = some v := by
  have := hg.block a.block (World.block_lt_of_cell? W a h) hne
  simpa [World.cell?, this] using h
set_option maxHeartbeats 2000000 in
theorem setSlot_calls (g : Nat) (p : List Int) (i from_ size : Nat) (w : World) (hb : Blk w 5 g p) (hl : p.length = 512) (hi : 30 + 4 * i ≤ 512) (hf : from_ ≤ 512) (hs : size ≤ 512) :
    Calls Try.prog 56 #[.agg #[.slice (some ⟨g, 0, none⟩) 512 512], .int .i64 i, .int .i64 from_, .int .i64 size] w fun e w' => e = .returned (.tuple #[]) ∧ Blk w' 5 g (over (over p (26 + 4 * i) (leB from_ 2)) (28 + 4 * i) (leB size 2)) ∧ w.grownBy w' (some g) := by
  have HB := Aside0.mk hb
  have HL := Aside0.mk hl
  clear hb hl
  have HB0 := Aside0.mk (Blk.below HB.out (below_alloc (Below.refl w.heap.size w) (.cells #[.slice (some ⟨g, 0, none⟩) 512 512] 65)))
  have HG0 := Aside0.mk (grown_below (below_alloc (Below.refl w.heap.size w) (.cells #[.slice (some ⟨g, 0, none⟩) 512 512] 65)) (some g))
  have hglt := HB.out.lt
  go_enter Try.func56, Try.ntmps56
  go_wp2_with fail
  refine (put_at g p (26 + 4 * i) 2 _ _ _ _ (by omega) rfl HB0.out HL.out (by decide) (by decide) (by omega) (by omega)).mono ?_
  rintro e w1 ⟨rfl, hb1, hg1⟩
  have hcell := cell_grown' hg1 (a := ⟨w.heap.size, 0, none⟩) (v := .slice (some ⟨g, 0, none⟩) 512 512) (by simp) (by simp; omega)
  have HB1 := Aside0.mk hb1
  have HG1 := Aside0.mk (grown_trans HG0.out hg1)
  clear hb1 hg1
  go_wp2_with fail
  refine (put_at g _ (28 + 4 * i) 2 _ _ _ _ (by omega) rfl HB1.out (by rw [over_length _ _ _ (by rw [leB_length]; have := HL.out; omega)]; exact HL.out) (by decide) (by decide) (by omega) (by omega)).mono ?_
  rintro e w2 ⟨rfl, hb2, hg2⟩
  have HB2 := Aside0.mk hb2
  have HG2 := Aside0.mk (grown_trans HG1.out hg2)
  clear hb2 hg2
  go_wp2
  go_end0
  exact ⟨rfl, HB2.out, HG2.out⟩
end Go.Proofs.Ytpogneedafoiaaa.Pg
namespace Go.Proofs.Ytpogneedafoiaaa.Pg
open Go.RowKit Go.Proofs.YtpogneedafoiaaaW.PrintWords Go.Proofs.YtpogneedafoiaaaW.PrintLast Go.Proofs.YtpogneedafoiaaaW.PrintMore Go.Proofs.Ytpogneedafoiaaa.Bw Go.Proofs.Ytpogneedafoiaaa.Crc Go.Proofs.Ytpogneedafoiaaa.Wordy
set_option linter.unusedVariables false
set_option linter.unusedSimpArgs false

section
variable (A : Option Addr) (c : Nat) (p : List Int) (w : World) (hr : Kd.C (Kd.int .u8) w A 512 p) (hc : 512 ≤ c) (ho : octs p) (hl : p.length = 512)
include hr hc ho hl
theorem count5 : Calls Try.prog 45 #[.agg #[.slice A 512 c]] w fun e w' => e = .returned (.int .i64 ((cnt p : Nat) : Int)) ∧ Below w.heap.size w w' := by
  have h := count_calls A c p w (by rw [hl]; exact hr) (by omega) ho hl
  rw [hl] at h
  exact h
theorem low5 : Calls Try.prog 46 #[.agg #[.slice A 512 c]] w fun e w' => e = .returned (.int .i64 ((lowP p : Nat) : Int)) ∧ Below w.heap.size w w' := by
  have h := low_calls A c p w (by rw [hl]; exact hr) (by omega) ho hl
  rw [hl] at h
  exact h
theorem slot5 (i : Nat) (hi : 30 + 4 * i ≤ 512) : Calls Try.prog 47 #[.agg #[.slice A 512 c], .int .i64 i] w fun e w' => e = .returned (.tuple #[.int .i64 ((frm p i : Nat) : Int), .int .i64 ((szP p i : Nat) : Int)]) ∧ Below w.heap.size w w' := by
  have h := slot_calls A c p i w (by rw [hl]; exact hr) (by omega) ho hl hi
  rw [hl] at h
  exact h
theorem room5 : Calls Try.prog 52 #[.agg #[.slice A 512 c]] w fun e w' => e = .returned (.int .i64 ((lowP p : Int) - 26 - 4 * (cnt p : Int))) ∧ Below w.heap.size w w' := by
  have h := room_calls A c p w (by rw [hl]; exact hr) (by omega) ho hl
  rw [hl] at h
  exact h
theorem free5 (hn : 26 + 4 * cnt p ≤ 512) : Calls Try.prog 51 #[.agg #[.slice A 512 c]] w fun e w' => e = .returned (.int .i64 (freeP p)) ∧ Below w.heap.size w w' := by
  have h := free_calls A c p w (by rw [hl]; exact hr) (by omega) ho hl hn
  rw [hl] at h
  exact h
theorem cell5 (i : Nat) (hi : 30 + 4 * i ≤ 512) (hfit : frm p i + szP p i ≤ 512) : Calls Try.prog 50 #[.agg #[.slice A 512 c], .int .i64 i] w fun e w' => ∃ A' : Addr, e = .returned (.slice (some A') (szP p i) (szP p i)) ∧ (∀ W, Kd.C (Kd.int .u8) W A 512 p → Kd.C (Kd.int .u8) W (some A') (szP p i) (cellP p i)) ∧ (∀ ad, A = some ad → A'.block = ad.block) ∧ Below w.heap.size w w' := by
  have h := cell_calls A c p i w (by rw [hl]; exact hr) (by omega) ho hl hi hfit
  rw [hl] at h
  exact h
theorem get5 (a s : Int) (ha : 0 ≤ a) (h1 : 1 ≤ s) (h4 : s ≤ 4) (hs : a + s ≤ 512) : Calls Try.prog 62 #[.agg #[.slice A 512 c], .int .i64 a, .int .i64 s] w fun e w' => e = .returned (.int .i64 (gI p a s)) ∧ Below w.heap.size w w' := by
  have h := get_any A c p a s w (by rw [hl]; exact hr) (by omega) ho (by omega) ha h1 h4 (by omega)
  rw [hl] at h
  exact h
theorem good5 : Calls Try.prog 13 #[.slice A 512 c] w fun e w' => e = .returned (.bool (goodP p)) ∧ Below w.heap.size w w' := by
  have h := good_calls A c p w (by rw [hl]; exact hr) (by omega) ho (by omega)
  rw [hl] at h
  exact h
end
theorem blk_rb5 {w : World} {g : Nat} {p : List Int} (h : Blk w 5 g p) (hl : p.length = 512) : Kd.C (Kd.int .u8) w (some ⟨g, 0, none⟩) 512 p := by
  have h := h.rb (by omega)
  unfold Rb at h
  rw [hl] at h
  exact h
theorem own_rb {w : World} {base g e n cap : Nat} {xs : List Int} (h : w.ownsRow base e 1 (.slice (some ⟨g, 0, none⟩) n cap) n (nums .u8 xs)) (hl : n ≤ 9223372036854775807) : Kd.C (Kd.int .u8) w (some ⟨g, 0, none⟩) n xs := by
  have hx : xs.length = n := by have := h.1; simp [nums] at this; exact this
  have h := rb_head h n (Nat.le_refl _) hl
  rwa [List.take_of_length_le (by omega)] at h
theorem own_cap {w : World} {base g e n cap : Nat} {xs : List Value} (h : w.ownsRow base e 1 (.slice (some ⟨g, 0, none⟩) n cap) n xs) : n ≤ cap ∧ cap ≤ 9223372036854775807 := by
  rcases h.2 with ⟨h', _⟩ | ⟨g', cap', cur, h', hb, hg, hnc, hcm, hcs, htake⟩
  · simp at h'
  · simp only [Value.slice.injEq, Option.some.injEq, Addr.mk.injEq, and_true, true_and] at h'
    obtain ⟨rfl, rfl⟩ := h'
    unfold maxLen at hcm
    exact ⟨hnc, hcm⟩
/-- a page that can be laid out anew -/
def Fits (p : List Int) : Prop := 26 + 4 * cnt p + sumSz p (cnt p) ≤ 512 ∧ ∀ i, i < cnt p → frm p i + szP p i ≤ 512
/-- the page behind k rounds; low is 512 less the first k sizes -/
def anK (p : List Int) : Nat → List Int
  | 0 => p
  | k + 1 => over (over (over (anK p k) (512 - sumSz p (k + 1)) (cellP p k)) (26 + 4 * k) (leB ((512 - sumSz p (k + 1) : Nat) : Int) 2)) (28 + 4 * k) (leB ((szP p k : Nat) : Int) 2)
def anewP (p : List Int) : List Int :=
  over (over (anK p (cnt p)) (26 + 4 * cnt p) (List.replicate (512 - sumSz p (cnt p) - (26 + 4 * cnt p)) 0)) 16 (leB ((512 - sumSz p (cnt p) : Nat) : Int) 2)
theorem sumSz_mono (p : List Int) {i k : Nat} (h : i ≤ k) : sumSz p i ≤ sumSz p k := by
  induction k with
  | zero => rw [Nat.le_zero.mp h]; exact Nat.le_refl _
  | succ k ih =>
    rcases Nat.lt_or_eq_of_le h with h1 | h1
    · rw [sumSz]
      have := ih (by omega)
      omega
    · rw [h1]; exact Nat.le_refl _
theorem cellP_length {p : List Int} (hl : p.length = 512) {i : Nat} (h : frm p i + szP p i ≤ 512) : (cellP p i).length = szP p i := by
  unfold cellP
  rw [List.length_take, List.length_drop]
  omega
theorem anK_length {p : List Int} (hl : p.length = 512) (hf : Fits p) : ∀ k, k ≤ cnt p → (anK p k).length = 512 := by
  intro k
  induction k with
  | zero => intro _; exact hl
  | succ k ih =>
    intro hk
    have h1 := hf.1
    have h2 := hf.2 k (by omega)
    have h3 := sumSz_mono p (show k + 1 ≤ cnt p from hk)
    have h4 : sumSz p (k + 1) = sumSz p k + szP p k := rfl
    have h5 := ih (by omega)
    have h6 := cellP_length hl h2
    rw [anK]
    have e1 : (over (anK p k) (512 - sumSz p (k + 1)) (cellP p k)).length = 512 := by rw [over_length _ _ _ (by omega)]; exact h5
    have e2 : (over (over (anK p k) (512 - sumSz p (k + 1)) (cellP p k)) (26 + 4 * k) (leB ((512 - sumSz p (k + 1) : Nat) : Int) 2)).length = 512 := by rw [over_length _ _ _ (by rw [leB_length]; omega)]; exact e1
    rw [over_length _ _ _ (by rw [leB_length]; omega)]
    exact e2
theorem zero5 : (Try.prog.info? 5).bind (·.zero) = some (.int .u8 0) := by kernel_rfl
theorem below_len {p : List Int} (ho : octs p) (hl : p.length = 512) {i : Nat} (h : frm p i + szP p i ≤ 512) : octs (cellP p i) := octs_take (octs_drop ho _) _

set_option maxRecDepth 100000 in
set_option maxHeartbeats 4000000 in
theorem anew_calls (g : Nat) (p : List Int) (w : World) (hb : Blk w 5 g p) (hl : p.length = 512) (ho : octs p) (hf : Fits p) :
    Calls Try.prog 44 #[.agg #[.slice (some ⟨g, 0, none⟩) 512 512]] w fun e w' => e = .returned (.tuple #[]) ∧ Blk w' 5 g (anewP p) ∧ w.grownBy w' (some g) := by
  have HB := Aside0.mk hb
  have HL := Aside0.mk hl
  have HO := Aside0.mk ho
  have HF := Aside0.mk hf
  have hglt := hb.lt
  have b1 : cnt p < 65536 := numAt2_lt ho _
  have hf1 := hf.1
  clear hb hl ho hf
  have HB0 := Aside0.mk (Blk.below HB.out (below_alloc (Below.refl w.heap.size w) (.cells #[.slice (some ⟨g, 0, none⟩) 512 512] 65)))
  have HR0 := Aside0.mk (blk_rb5 HB0.out HL.out)
  go_enter Try.func44, Try.ntmps44
  go_wp2_with (at_builtin; go_loud (refine print_append_row (w0 := (w.alloc (.cells #[.slice (some ⟨g, 0, none⟩) 512 512] 65))) (w.heap.size + 1) rfl _ _ 22 5 .u8 1 rfl Try.underlying22 info5 (by decide) (.slice none 0 0) [] p (some ⟨g, 0, none⟩) 512 512 rfl rfl (own_nil _ _ _ _) (rb_reads HR0.out) (Below.refl _ _) (by simp) (by simp) ?_); intro v1 w1 ho1 hb1 hg1 hn1; rw [List.nil_append] at ho1; obtain ⟨go, co, e1, hgo1, hgo2⟩ := ho1.form (by have := HL.out; omega); rw [HL.out] at e1 ho1; subst e1; clear hg1 hn1; have hcb := (Below.cell hb1 (p := ⟨w.heap.size, 0, none⟩) (by simp)).trans (show (w.alloc (.cells #[.slice (some ⟨g, 0, none⟩) 512 512] 65)).cell? ⟨w.heap.size, 0, none⟩ = some (.slice (some ⟨g, 0, none⟩) 512 512) by simp); go_loud (have hs1 : w.heap.size + 1 ≤ w1.heap.size := by (have := hb1.size; simpa using this)); go_loud (have hcb1 := (World.cell?_of_block (w := w1) (w' := w1.alloc (.cells #[.slice (some ⟨go, 0, none⟩) 512 co] 65)) (a := ⟨w.heap.size, 0, none⟩) (Below.heap_alloc w1 _ _ (by show w.heap.size < w1.heap.size; omega))).trans hcb))
  have HO1 := Aside0.mk (own_alloc ho1 (.cells #[.slice (some ⟨go, 0, none⟩) 512 co] 65))
  obtain ⟨hco, hco2⟩ := own_cap ho1
  have HG1 := Aside0.mk (grown_trans (grown_trans (grown_below (below_alloc (Below.refl w.heap.size w) (.cells #[.slice (some ⟨g, 0, none⟩) 512 512] 65)) (some g)) (grown_below (hb1.mono (by simp)) (some g))) (grown_below (below_alloc (Below.refl w1.heap.size w1) (.cells #[.slice (some ⟨go, 0, none⟩) 512 co] 65)) (some g)))
  have HBp := Aside0.mk (Blk.below (Blk.below HB0.out (hb1.mono (by simp))) (below_alloc (Below.refl w1.heap.size w1) (.cells #[.slice (some ⟨go, 0, none⟩) 512 co] 65)))
  have hcb2 : (w1.alloc (.cells #[.slice (some ⟨go, 0, none⟩) 512 co] 65)).cell? ⟨w1.heap.size, 0, none⟩ = some (.slice (some ⟨go, 0, none⟩) 512 co) := by simp
  generalize hw2 : w1.alloc (.cells #[.slice (some ⟨go, 0, none⟩) 512 co] 65) = w2 at *
  have HOr := Aside0.mk (own_rb HO1.out (by decide))
  have hgo : g ≠ go := by omega
  clear hw2 ho1 hcb hb1 HO1
  refine (count5 (some ⟨g, 0, none⟩) 512 p _ (blk_rb5 HBp.out HL.out) (Nat.le_refl _) HO.out HL.out).mono ?_
  rintro e w3 ⟨rfl, hb⟩
  have hcb1' := pw_cell_below hb hcb1
  have hcb2' := pw_cell_below hb hcb2
  have HC1 := Aside0.mk hcb1'
  have HC2 := Aside0.mk hcb2'
  have HBp3 := Aside0.mk (HBp.out.below hb)
  have HOr3 := Aside0.mk (Kd.C_below HOr.out hb)
  have HG3 := Aside0.mk (grown_trans HG1.out (grown_below hb (some g)))
  clear hb hcb1 hcb2 hcb1' hcb2' HBp HOr HG1
  have hn1 : w1.heap.size ≠ g := by omega
  have hn2 : w.heap.size ≠ g := by omega
  have hn3 : w1.heap.size ≠ g := by omega
  go_wp2_with fail
  go_loopg [3, 14] (cnt p) (fun d v3 v14 wr => ∃ k lo : Nat, v14 = .int .i64 k ∧ v3 = .int .i64 lo ∧ Aside0 (lo + sumSz p k = 512) ∧ Aside0 (k + d = cnt p) ∧ Aside0 (wr.cell? ⟨w.heap.size, 0, none⟩ = some (.slice (some ⟨g, 0, none⟩) 512 512)) ∧ Aside0 (wr.cell? ⟨w1.heap.size, 0, none⟩ = some (.slice (some ⟨go, 0, none⟩) 512 co)) ∧ Aside0 (Blk wr 5 g (anK p k)) ∧ Aside0 (Kd.C (Kd.int .u8) wr (some ⟨go, 0, none⟩) 512 p) ∧ Aside0 (w.grownBy wr (some g)))
  case atStart => exact ⟨0, 512, rfl, rfl, ⟨rfl⟩, ⟨by omega⟩, HC1, HC2, HBp3, HOr3, HG3⟩
  case round =>
    clear HC1 HC2 HBp3 HOr3 HG3
    obtain ⟨k, lo, rfl, rfl, HLo, HK, HC1, HC2, HBp, HOr, HG⟩ := hrel
    have hk := HK.out
    have hsm := sumSz_mono p (show k ≤ cnt p by omega)
    by_cases hlt : k < cnt p
    · obtain ⟨d, rfl⟩ : ∃ d, gk = d + 1 := ⟨gk - 1, by omega⟩
      have hc1 := HC1.out
      have hc2 := HC2.out
      have hfit := HF.out.2 k hlt
      have hss : sumSz p (k + 1) = sumSz p k + szP p k := rfl
      have hsm2 := sumSz_mono p (show k + 1 ≤ cnt p by omega)
      have HSS := Aside0.mk hss
      clear hss
      obtain ⟨l2, rfl⟩ : ∃ l2, lo = l2 + szP p k := ⟨lo - szP p k, by have := HSS.out; have := HLo.out; omega⟩
      have hq : l2 + szP p k ≤ 512 := by have := HLo.out; omega
      go_wp2_with fail
      refine (cell5 (some ⟨go, 0, none⟩) co p _ HOr.out hco HO.out HL.out k (by omega) hfit).mono ?_
      rintro e w4 ⟨A', rfl, hA, hAb, hb⟩
      have HA := Aside0.mk (hA w4 (Kd.C_below HOr.out hb))
      have HAg := Aside0.mk (hAb _ rfl)
      have hc1' := pw_cell_below hb hc1
      have hc2' := pw_cell_below hb hc2
      have HC2' := Aside0.mk hc2'
      have HBp4 := Aside0.mk (HBp.out.below hb)
      have HOr4 := Aside0.mk (Kd.C_below HOr.out hb)
      have HG4 := Aside0.mk (grown_trans HG.out (grown_below hb (some g)))
      clear hb hc1 hc2 hc2' HC1 HC2 HBp HOr HG hA hAb
      have HCl := Aside0.mk (cellP_length HL.out hfit)
      have HAl := Aside0.mk (anK_length HL.out HF.out k (by omega))
      by_cases h5 : l2 = 512
      · have hq5 : (512 = l2) = True := eq_true (by omega)
        have hq6 : Nat.min (szP p k) (512 - l2) = 0 := by rw [h5]; exact Nat.min_zero _
        have H5 := Aside0.mk h5
        clear h5
        go_wp2_with ((with_reducible refine gate_builtin (b := .copy) (xs := #[.tmp 27, .tmp 28]) rfl ?_); go_loud (refine wl_copy rfl (.tmp 27) (.tmp 28) 22 22 5 rfl Try.underlying22 size5 g 0 (512 - l2) (512 - l2) (szP p k) (szP p k) (some A') (anK p k) (cellP p k) rfl rfl HBp4.out HA.out (by rw [hq6]; omega) ?_); intro w5 hb5 hg5; have hc5 := cell_grown' hg5 hc1' (by simp; omega))
        have HBo : Aside0 (Blk w5 5 g (over (anK p k) l2 (cellP p k))) := by
          have hz : szP p k = 0 := by have := H5.out; omega
          have hcn : cellP p k = [] := List.eq_nil_of_length_eq_zero (by rw [HCl.out, hz])
          constructor
          unfold over
          rw [hcn, List.nil_append, List.length_nil, Nat.add_zero, List.take_append_drop]
          rw [hcn, show Nat.min (szP p k) (512 - l2) = 0 by rw [H5.out]; exact Nat.min_zero _] at hb5
          simpa using hb5
        have HG5' := Aside0.mk hg5
        have HG5 := Aside0.mk (grown_trans HG4.out hg5)
        clear hb5 hg5 hq5 hq6
        refine (setSlot_calls g _ k l2 (szP p k) _ HBo.out (by rw [over_length _ _ _ (by have := HCl.out; have := HAl.out; omega)]; exact HAl.out) (by omega) (by omega) (by omega)).mono ?_
        rintro e w6 ⟨rfl, hb6, hg6⟩
        have HB6 := Aside0.mk hb6
        have HG6 := Aside0.mk (grown_trans HG5.out hg6)
        have HC6 := Aside0.mk (cell_grown' hg6 hc5 (by simp; omega))
        have HC6' := Aside0.mk (cell_grown' hg6 (cell_grown' HG5'.out HC2'.out (by simp; omega)) (by simp; omega))
        have HO6 := Aside0.mk (rb_grown (rb_grown HOr4.out HG5'.out (by rintro ad h _; cases h; simp; omega)) hg6 (by rintro ad h _; cases h; simp; omega))
        clear hb6 hg6 hc5 hc1'
        go_wp2
        go_roundg d
        case measure => omega
        case rel => exact ⟨k + 1, l2, by go_num, rfl, ⟨by have := HSS.out; have := HLo.out; omega⟩, ⟨by have := HK.out; omega⟩, HC6, HC6', ⟨by rw [anK, show 512 - sumSz p (k + 1) = l2 by have := HSS.out; have := HLo.out; omega]; exact HB6.out⟩, HO6, HG6⟩
      · have hq5 : ¬ 512 = l2 := by omega
        have hq6 : Nat.min (szP p k) (512 - l2) = szP p k := Nat.min_eq_left (by omega)
        go_wp2_with ((with_reducible refine gate_builtin (b := .copy) (xs := #[.tmp 27, .tmp 28]) rfl ?_); go_loud (refine wl_copy rfl (.tmp 27) (.tmp 28) 22 22 5 rfl Try.underlying22 size5 g l2 (512 - l2) (512 - l2) (szP p k) (szP p k) (some A') (anK p k) (cellP p k) rfl rfl HBp4.out HA.out (by rw [hq6]; have := HAl.out; omega) ?_); intro w5 hb5 hg5; have hc5 := cell_grown' hg5 hc1' (by simp; omega))
        have HBo : Aside0 (Blk w5 5 g (over (anK p k) l2 (cellP p k))) := by
          constructor
          unfold over
          have ht : (cellP p k).take (512 - l2) = cellP p k := List.take_of_length_le (by rw [HCl.out]; omega)
          rw [hq6, ht] at hb5
          rw [HCl.out]
          exact hb5
        have HG5' := Aside0.mk hg5
        have HG5 := Aside0.mk (grown_trans HG4.out hg5)
        clear hb5 hg5 hq5 hq6 h5
        refine (setSlot_calls g _ k l2 (szP p k) _ HBo.out (by rw [over_length _ _ _ (by have := HCl.out; have := HAl.out; omega)]; exact HAl.out) (by omega) (by omega) (by omega)).mono ?_
        rintro e w6 ⟨rfl, hb6, hg6⟩
        have HB6 := Aside0.mk hb6
        have HG6 := Aside0.mk (grown_trans HG5.out hg6)
        have HC6 := Aside0.mk (cell_grown' hg6 hc5 (by simp; omega))
        have HC6' := Aside0.mk (cell_grown' hg6 (cell_grown' HG5'.out HC2'.out (by simp; omega)) (by simp; omega))
        have HO6 := Aside0.mk (rb_grown (rb_grown HOr4.out HG5'.out (by rintro ad h _; cases h; simp; omega)) hg6 (by rintro ad h _; cases h; simp; omega))
        clear hb6 hg6 hc5 hc1'
        go_wp2
        go_roundg d
        case measure => omega
        case rel => exact ⟨k + 1, l2, by go_num, rfl, ⟨by have := HSS.out; have := HLo.out; omega⟩, ⟨by have := HK.out; omega⟩, HC6, HC6', ⟨by rw [anK, show 512 - sumSz p (k + 1) = l2 by have := HSS.out; have := HLo.out; omega]; exact HB6.out⟩, HO6, HG6⟩
    · obtain rfl : k = cnt p := by omega
      have hc1 := HC1.out
      have hne : ¬ (512 = 26 + 4 * cnt p) := by omega
      have hlo : 26 + 4 * cnt p ≤ lo := by have := HLo.out; omega
      have hlo2 : lo ≤ 512 := by have := HLo.out; omega
      have HAl := Aside0.mk (anK_length HL.out HF.out (cnt p) (Nat.le_refl _))
      clear hsm hlt hk
      go_wp2_with ((with_reducible refine gate_builtin (b := .clear) (xs := #[.tmp 43]) rfl ?_); go_loud (refine wl_clear rfl (.tmp 43) 22 5 rfl Try.underlying22 zero5 g (26 + 4 * cnt p) (lo - (26 + 4 * cnt p)) (512 - (26 + 4 * cnt p)) (anK p (cnt p)) rfl HBp.out (by have := HAl.out; omega) ?_); intro w5 hb5 hg5; have hc5 := cell_grown' hg5 hc1 (by simp; omega))
      have HB5 : Aside0 (Blk w5 5 g (over (anK p (cnt p)) (26 + 4 * cnt p) (List.replicate (512 - sumSz p (cnt p) - (26 + 4 * cnt p)) 0))) := by
        constructor
        unfold over
        rw [List.length_replicate, show 512 - sumSz p (cnt p) = lo by have := HLo.out; omega]
        exact hb5
      have HG5 := Aside0.mk (grown_trans HG.out hg5)
      clear hb5 hg5 hc5 hc1
      refine (put_at g _ 16 2 _ _ _ _ rfl rfl HB5.out (by rw [over_length _ _ _ (by rw [List.length_replicate]; have := HAl.out; omega)]; exact HAl.out) (by decide) (by decide) (by omega) (by omega)).mono ?_
      rintro e w6 ⟨rfl, hb6, hg6⟩
      have HB6 := Aside0.mk hb6
      have HG6 := Aside0.mk (grown_trans HG5.out hg6)
      clear hb6 hg6
      go_wp2
      go_end0
      refine ⟨rfl, ?_, HG6.out⟩
      unfold anewP
      have e := HB6.out
      rw [show (lo : Int) = ((512 - sumSz p (cnt p) : Nat) : Int) by have := HLo.out; omega] at e
      exact e
end Go.Proofs.Ytpogneedafoiaaa.Pg
namespace Go.Proofs.Ytpogneedafoiaaa.Pg
open Go.RowKit Go.Proofs.YtpogneedafoiaaaW.PrintWords Go.Proofs.YtpogneedafoiaaaW.PrintLast Go.Proofs.YtpogneedafoiaaaW.PrintMore Go.Proofs.Ytpogneedafoiaaa.Bw Go.Proofs.Ytpogneedafoiaaa.Crc Go.Proofs.Ytpogneedafoiaaa.Wordy
set_option linter.unusedVariables false
set_option linter.unusedSimpArgs false

theorem goodP_len {p : List Int} (h : goodP p = true) : p.length = 512 := by
  unfold goodP at h
  by_cases h1 : p.length = 512
  · exact h1
  · rw [if_neg h1] at h; cases h
set_option maxHeartbeats 2000000 in
theorem of_bad (A : Option Addr) (c : Nat) (p : List Int) (w : World) (hr : Kd.C (Kd.int .u8) w A p.length p) (hc : p.length ≤ c) (ho : octs p) (hl : p.length ≤ 140737488351232) (hg : goodP p = false) :
    Calls Try.prog 48 #[.slice A p.length c] w fun e w' => e = .returned (.tuple #[.agg #[.slice none 0 0], .int .i64 4]) ∧ Below w.heap.size w w' := by
  have HR := Aside0.mk hr
  have HO := Aside0.mk ho
  have HG := Aside0.mk hg
  clear hr ho hg
  go_enter Try.func48, Try.ntmps48
  go_wp2_with fail
  have h := good_calls A c p (w.alloc (.cells #[.slice none 0 0] 65)) (Kd.C_alloc HR.out _) hc HO.out hl
  rw [HG.out] at h
  refine h.mono ?_
  rintro e w1 ⟨rfl, hb⟩
  have hc1 := pw_cell_below hb (a := ⟨w.heap.size, 0, none⟩) (v := .slice none 0 0) (by simp)
  have hf1 : w1.frozen? ⟨w.heap.size, 0, none⟩ = false := (Below.frozen hb (p := ⟨w.heap.size, 0, none⟩) (by simp)).trans (by simp)
  have HB := Aside0.mk (below_step (below_alloc (Below.refl w.heap.size w) (.cells #[.slice none 0 0] 65)) hb)
  clear h hb
  go_wp2
  exact bodyPost_ret (v := .tuple #[.agg #[.slice none 0 0], .int .i64 4]) (by simp [results, Try.results48, go_sem, hc1]) rfl ⟨rfl, HB.out.setCell (Nat.le_refl _) _⟩
set_option maxHeartbeats 2000000 in
theorem of_good (A : Option Addr) (c : Nat) (p : List Int) (w : World) (hr : Kd.C (Kd.int .u8) w A 512 p) (hc : 512 ≤ c) (ho : octs p) (hl : p.length = 512) (hg : goodP p = true) :
    Calls Try.prog 48 #[.slice A 512 c] w fun e w' => e = .returned (.tuple #[.agg #[.slice A 512 c], .int .i64 0]) ∧ Below w.heap.size w w' := by
  have HR := Aside0.mk hr
  have HO := Aside0.mk ho
  have HG := Aside0.mk hg
  have HL := Aside0.mk hl
  clear hr ho hg hl
  go_enter Try.func48, Try.ntmps48
  go_wp2_with fail
  have h := good5 A c p (w.alloc (.cells #[.slice none 0 0] 65)) (Kd.C_alloc HR.out _) hc HO.out HL.out
  rw [HG.out] at h
  refine h.mono ?_
  rintro e w1 ⟨rfl, hb⟩
  have hc1 := pw_cell_below hb (a := ⟨w.heap.size, 0, none⟩) (v := .slice none 0 0) (by simp)
  have hf1 : w1.frozen? ⟨w.heap.size, 0, none⟩ = false := (Below.frozen hb (p := ⟨w.heap.size, 0, none⟩) (by simp)).trans (by simp)
  have HB := Aside0.mk (below_step (below_alloc (Below.refl w.heap.size w) (.cells #[.slice none 0 0] 65)) hb)
  clear h hb
  go_wp2
  exact bodyPost_ret (v := .tuple #[.agg #[.slice A 512 c], .int .i64 0]) (by simp [results, Try.results48, go_sem, hc1]) rfl ⟨rfl, HB.out.setCell (Nat.le_refl _) _⟩
theorem hmk512 (w : World) : (Instr.makeSlice 22 (.int .i64 0) (.int .i64 512)).run Try.prog w = .ok (.slice (some ⟨w.heap.size, 0, none⟩) 0 512) (w.alloc (.cells (madeCells #[.int .u8 0] 512) 5)) := hmk 512 (by decide) w
set_option maxHeartbeats 2000000 in
theorem copied_bad (A : Option Addr) (c : Nat) (p : List Int) (w : World) (hr : Kd.C (Kd.int .u8) w A p.length p) (hc : p.length ≤ c) (ho : octs p) (hl : p.length ≤ 140737488351232) (hg : goodP p = false) :
    Calls Try.prog 43 #[.slice A p.length c] w fun e w' => e = .returned (.tuple #[.agg #[.slice none 0 0], .int .i64 4]) ∧ Below w.heap.size w w' := by
  have HR := Aside0.mk hr
  have HO := Aside0.mk ho
  have HG := Aside0.mk hg
  clear hr ho hg
  go_enter Try.func43, Try.ntmps43
  go_wp2_with fail
  refine (of_bad A c p (w.alloc (.cells #[.slice none 0 0] 65)) (Kd.C_alloc HR.out _) hc HO.out hl HG.out).mono ?_
  rintro e w1 ⟨rfl, hb⟩
  have hc1 := pw_cell_below hb (a := ⟨w.heap.size, 0, none⟩) (v := .slice none 0 0) (by simp)
  have hf1 : w1.frozen? ⟨w.heap.size, 0, none⟩ = false := (Below.frozen hb (p := ⟨w.heap.size, 0, none⟩) (by simp)).trans (by simp)
  have hs1 : w.heap.size < w1.heap.size := by have := hb.size; simp at this; omega
  have HB := Aside0.mk (below_step (below_alloc (Below.refl w.heap.size w) (.cells #[.slice none 0 0] 65)) hb)
  clear hb
  go_wp2
  exact bodyPost_ret (v := .tuple #[.agg #[.slice none 0 0], .int .i64 4]) (by simp [results, Try.results43, go_sem, hc1, hs1]) rfl ⟨rfl, below_alloc (HB.out.setCell (Nat.le_refl _) _) _⟩
theorem cell_old {W : World} {a : Addr} {v : Value} (h : W.cell? a = some v) (o : Obj) : (W.alloc o).cell? a = some v := (World.cell?_alloc_lt _ _ _ (World.block_lt_of_cell? W a h)).trans h
theorem frozen_old {W : World} {a : Addr} (hlt : a.block < W.heap.size) (o : Obj) : (W.alloc o).frozen? a = W.frozen? a := World.frozen?_of_block (w := W) (Below.heap_alloc W o a.block hlt)
theorem frozen_grown' {W w1 : World} {row : Option Nat} (hg : W.grownBy w1 row) {a : Addr} (hlt : a.block < W.heap.size) (hne : some a.block ≠ row) : w1.frozen? a = W.frozen? a :=
  World.frozen?_of_block (w := W) (hg.block a.block hlt hne)
set_option maxHeartbeats 2000000 in
theorem copied_good (A : Option Addr) (c : Nat) (p : List Int) (w : World) (hr : Kd.C (Kd.int .u8) w A 512 p) (hc : 512 ≤ c) (ho : octs p) (hl : p.length = 512) (hg : goodP p = true) :
    Calls Try.prog 43 #[.slice A 512 c] w fun e w' => ∃ g, e = .returned (.tuple #[.agg #[.slice (some ⟨g, 0, none⟩) 512 512], .int .i64 0]) ∧ w.heap.size ≤ g ∧ Blk w' 5 g p ∧ Below w.heap.size w w' := by
  obtain ⟨ad, rfl⟩ := rb_some hr (by decide)
  have HR := Aside0.mk hr
  have HO := Aside0.mk ho
  have HG := Aside0.mk hg
  have HL := Aside0.mk hl
  clear hr ho hg hl
  have hmk' := hmk512
  go_enter Try.func43, Try.ntmps43
  go_wp2_with fail
  refine (of_good (some ad) c p (w.alloc (.cells #[.slice none 0 0] 65)) (Kd.C_alloc HR.out _) hc HO.out HL.out HG.out).mono ?_
  rintro e w1 ⟨rfl, hb⟩
  have hc1 := pw_cell_below hb (a := ⟨w.heap.size, 0, none⟩) (v := .slice none 0 0) (by simp)
  have hf1 : w1.frozen? ⟨w.heap.size, 0, none⟩ = false := (Below.frozen hb (p := ⟨w.heap.size, 0, none⟩) (by simp)).trans (by simp)
  have hs1 : w.heap.size < w1.heap.size := by have := hb.size; simp at this; omega
  have HB := Aside0.mk (below_step (below_alloc (Below.refl w.heap.size w) (.cells #[.slice none 0 0] 65)) hb)
  have HR1 := Aside0.mk (Kd.C_below HR.out HB.out)
  clear hb
  go_wp2_with fail
  have hca : (w1.alloc (.cells #[.slice (some ad) 512 c] 65)).cell? ⟨w1.heap.size, 0, none⟩ = some (.slice (some ad) 512 c) := by simp
  have hcr : (w1.alloc (.cells #[.slice (some ad) 512 c] 65)).cell? ⟨w.heap.size, 0, none⟩ = some (.slice none 0 0) := cell_old hc1 _
  have hfr : (w1.alloc (.cells #[.slice (some ad) 512 c] 65)).frozen? ⟨w.heap.size, 0, none⟩ = false := (frozen_old (by show w.heap.size < w1.heap.size; omega) _).trans hf1
  have HRz := Aside0.mk (Kd.C_alloc HR1.out (.cells #[.slice (some ad) 512 c] 65))
  have HBz := Aside0.mk (below_alloc HB.out (.cells #[.slice (some ad) 512 c] 65))
  have hsz : (w1.alloc (.cells #[.slice (some ad) 512 c] 65)).heap.size = w1.heap.size + 1 := by simp
  have hs2 : w.heap.size < (w1.alloc (.cells #[.slice (some ad) 512 c] 65)).heap.size := by rw [hsz]; omega
  have hs3 : w1.heap.size < (w1.alloc (.cells #[.slice (some ad) 512 c] 65)).heap.size := by rw [hsz]; omega
  generalize w1.alloc (.cells #[.slice (some ad) 512 c] 65) = wz at *
  clear hc1 hf1 hsz
  have F1 := Aside0.mk (show (wz.drew.alloc (.cells (madeCells #[.int .u8 0] 512) 5)).cell? ⟨w.heap.size, 0, none⟩ = some (.slice none 0 0) from cell_old (W := wz.drew) hcr _)
  have F2 := Aside0.mk (show (wz.drew.alloc (.cells (madeCells #[.int .u8 0] 512) 5)).frozen? ⟨w.heap.size, 0, none⟩ = false from (frozen_old (W := wz.drew) (by show w.heap.size < wz.heap.size; omega) _).trans hfr)
  have F3 := Aside0.mk (show (wz.drew.alloc (.cells (madeCells #[.int .u8 0] 512) 5)).cell? ⟨w1.heap.size, 0, none⟩ = some (.slice (some ad) 512 c) from cell_old (W := wz.drew) hca _)
  have F4 := Aside0.mk (show (wz.drew.alloc (.cells (madeCells #[.int .u8 0] 512) 5)).heap.size = wz.heap.size + 1 by simp)
  go_region_law (refine st_clone rfl (.tmp 18) (.tmp 20) 22 5 rfl Try.underlying22 info5 wz.heap.size 512 c ad p rfl rfl (heap_new wz.drew _ _ rfl) (Kd.C_alloc (Kd.C_drew HRz.out) _) (by decide) ?_; intro w5 hb5 hg5; have hc5 := cell_grown' hg5 F1.out (by simp; omega); have hf5 : w5.frozen? ⟨w.heap.size, 0, none⟩ = false := (frozen_grown' hg5 (by have := F4.out; show w.heap.size < (wz.drew.alloc (.cells (madeCells #[.int .u8 0] 512) 5)).heap.size; omega) (by simp; omega)).trans F2.out; have hc6 := cell_grown' hg5 F3.out (by simp; omega))
  all_goals
    have HB5 := Aside0.mk hb5
    have HG5 := Aside0.mk hg5
    clear hb5 hg5
    go_wp2
    refine bodyPost_ret (v := .tuple #[.agg #[.slice (some ⟨wz.heap.size, 0, none⟩) 512 512], .int .i64 0]) (by simp [results, Try.results43, go_sem, hc5]) rfl ⟨wz.heap.size, rfl, by omega, ?_, ?_⟩
    · exact (Below.heap_setCell _ _ _ _ (by simp; omega)).trans HB5.out
    · exact (below_of_grown_new (below_alloc (show Below w.heap.size w wz.drew from HBz.out.drew) _) HG5.out (by omega)).setCell (Nat.le_refl _) _
end Go.Proofs.Ytpogneedafoiaaa.Pg
namespace Go.Proofs.Ytpogneedafoiaaa.Pg
open Go.RowKit Go.Proofs.YtpogneedafoiaaaW.PrintWords Go.Proofs.YtpogneedafoiaaaW.PrintLast Go.Proofs.YtpogneedafoiaaaW.PrintMore Go.Proofs.Ytpogneedafoiaaa.Bw Go.Proofs.Ytpogneedafoiaaa.Crc Go.Proofs.Ytpogneedafoiaaa.Wordy
set_option linter.unusedVariables false
set_option linter.unusedSimpArgs false

set_option maxHeartbeats 2000000 in
theorem compact_bad (A : Option Addr) (c : Nat) (p : List Int) (w : World) (hr : Kd.C (Kd.int .u8) w A p.length p) (hc : p.length ≤ c) (ho : octs p) (hl : p.length ≤ 140737488351232) (hg : goodP p = false) :
    Calls Try.prog 12 #[.slice A p.length c] w fun e w' => e = .returned (.tuple #[.slice none 0 0, .int .i64 4]) ∧ Below w.heap.size w w' := by
  have HR := Aside0.mk hr
  have HO := Aside0.mk ho
  have HG := Aside0.mk hg
  clear hr ho hg
  go_enter Try.func12, Try.ntmps12
  go_wp2_with fail
  refine (copied_bad A c p _ HR.out hc HO.out hl HG.out).mono ?_
  rintro e w1 ⟨rfl, hb⟩
  have HB := Aside0.mk hb
  clear hb
  go_wp2
  go_ret2
  exact ⟨rfl, below_alloc HB.out _⟩
set_option maxHeartbeats 2000000 in
theorem seal_bad (A : Option Addr) (c : Nat) (p : List Int) (lsn : Int) (w : World) (hr : Kd.C (Kd.int .u8) w A p.length p) (hc : p.length ≤ c) (ho : octs p) (hl : p.length ≤ 140737488351232) (hg : goodP p = false) :
    Calls Try.prog 27 #[.slice A p.length c, .int .u64 lsn] w fun e w' => e = .returned (.tuple #[.slice none 0 0, .int .i64 4]) ∧ Below w.heap.size w w' := by
  have HR := Aside0.mk hr
  have HO := Aside0.mk ho
  have HG := Aside0.mk hg
  clear hr ho hg
  go_enter Try.func27, Try.ntmps27
  go_wp2_with fail
  refine (copied_bad A c p _ HR.out hc HO.out hl HG.out).mono ?_
  rintro e w1 ⟨rfl, hb⟩
  have HB := Aside0.mk hb
  clear hb
  go_wp2
  go_ret2
  exact ⟨rfl, below_alloc HB.out _⟩
set_option maxHeartbeats 2000000 in
theorem insert_bad (A : Option Addr) (c : Nat) (p : List Int) (i : Int) (v : Value) (w : World) (hr : Kd.C (Kd.int .u8) w A p.length p) (hc : p.length ≤ c) (ho : octs p) (hl : p.length ≤ 140737488351232) (hg : goodP p = false) :
    Calls Try.prog 17 #[.slice A p.length c, .int .i64 i, v] w fun e w' => e = .returned (.tuple #[.slice none 0 0, .int .i64 4]) ∧ Below w.heap.size w w' := by
  have HR := Aside0.mk hr
  have HO := Aside0.mk ho
  have HG := Aside0.mk hg
  clear hr ho hg
  go_enter Try.func17, Try.ntmps17
  go_wp2_with fail
  refine (copied_bad A c p _ HR.out hc HO.out hl HG.out).mono ?_
  rintro e w1 ⟨rfl, hb⟩
  have HB := Aside0.mk hb
  clear hb
  go_wp2
  go_ret2
  exact ⟨rfl, below_alloc HB.out _⟩
set_option maxHeartbeats 2000000 in
theorem remove_bad (A : Option Addr) (c : Nat) (p : List Int) (i : Int) (w : World) (hr : Kd.C (Kd.int .u8) w A p.length p) (hc : p.length ≤ c) (ho : octs p) (hl : p.length ≤ 140737488351232) (hg : goodP p = false) :
    Calls Try.prog 19 #[.slice A p.length c, .int .i64 i] w fun e w' => e = .returned (.tuple #[.slice none 0 0, .int .i64 4]) ∧ Below w.heap.size w w' := by
  have HR := Aside0.mk hr
  have HO := Aside0.mk ho
  have HG := Aside0.mk hg
  clear hr ho hg
  go_enter Try.func19, Try.ntmps19
  go_wp2_with fail
  refine (copied_bad A c p _ HR.out hc HO.out hl HG.out).mono ?_
  rintro e w1 ⟨rfl, hb⟩
  have HB := Aside0.mk hb
  clear hb
  go_wp2
  go_ret2
  exact ⟨rfl, below_alloc HB.out _⟩
set_option maxHeartbeats 2000000 in
theorem replace_bad (A : Option Addr) (c : Nat) (p : List Int) (i : Int) (v : Value) (w : World) (hr : Kd.C (Kd.int .u8) w A p.length p) (hc : p.length ≤ c) (ho : octs p) (hl : p.length ≤ 140737488351232) (hg : goodP p = false) :
    Calls Try.prog 20 #[.slice A p.length c, .int .i64 i, v] w fun e w' => e = .returned (.tuple #[.slice none 0 0, .int .i64 4]) ∧ Below w.heap.size w w' := by
  have HR := Aside0.mk hr
  have HO := Aside0.mk ho
  have HG := Aside0.mk hg
  clear hr ho hg
  go_enter Try.func20, Try.ntmps20
  go_wp2_with fail
  refine (copied_bad A c p _ HR.out hc HO.out hl HG.out).mono ?_
  rintro e w1 ⟨rfl, hb⟩
  have HB := Aside0.mk hb
  clear hb
  go_wp2
  go_ret2
  exact ⟨rfl, below_alloc HB.out _⟩
set_option maxHeartbeats 2000000 in
theorem set_bad (A : Option Addr) (c : Nat) (p : List Int) (x y : Int) (w : World) (hr : Kd.C (Kd.int .u8) w A p.length p) (hc : p.length ≤ c) (ho : octs p) (hl : p.length ≤ 140737488351232) (hg : goodP p = false) :
    Calls Try.prog 32 #[.slice A p.length c, .int .i64 x, .int .i64 y] w fun e w' => e = .returned (.tuple #[.slice none 0 0, .int .i64 4]) ∧ Below w.heap.size w w' := by
  have HR := Aside0.mk hr
  have HO := Aside0.mk ho
  have HG := Aside0.mk hg
  clear hr ho hg
  go_enter Try.func32, Try.ntmps32
  go_wp2_with fail
  refine (copied_bad A c p _ HR.out hc HO.out hl HG.out).mono ?_
  rintro e w1 ⟨rfl, hb⟩
  have HB := Aside0.mk hb
  clear hb
  go_wp2
  go_ret2
  exact ⟨rfl, below_alloc HB.out _⟩
set_option maxHeartbeats 2000000 in
theorem countF_bad (A : Option Addr) (c : Nat) (p : List Int) (w : World) (hr : Kd.C (Kd.int .u8) w A p.length p) (hc : p.length ≤ c) (ho : octs p) (hl : p.length ≤ 140737488351232) (hg : goodP p = false) :
    Calls Try.prog 33 #[.slice A p.length c] w fun e w' => e = .returned (.tuple #[.int .i64 0, .int .i64 4]) ∧ Below w.heap.size w w' := by
  have HR := Aside0.mk hr
  have HO := Aside0.mk ho
  have HG := Aside0.mk hg
  clear hr ho hg
  go_enter Try.func33, Try.ntmps33
  go_wp2_with fail
  refine (of_bad A c p _ HR.out hc HO.out hl HG.out).mono ?_
  rintro e w1 ⟨rfl, hb⟩
  have HB := Aside0.mk hb
  clear hb
  go_wp2
  go_ret2
  exact ⟨rfl, below_alloc HB.out _⟩
set_option maxHeartbeats 2000000 in
theorem freeF_bad (A : Option Addr) (c : Nat) (p : List Int) (w : World) (hr : Kd.C (Kd.int .u8) w A p.length p) (hc : p.length ≤ c) (ho : octs p) (hl : p.length ≤ 140737488351232) (hg : goodP p = false) :
    Calls Try.prog 15 #[.slice A p.length c] w fun e w' => e = .returned (.tuple #[.int .i64 0, .int .i64 4]) ∧ Below w.heap.size w w' := by
  have HR := Aside0.mk hr
  have HO := Aside0.mk ho
  have HG := Aside0.mk hg
  clear hr ho hg
  go_enter Try.func15, Try.ntmps15
  go_wp2_with fail
  refine (of_bad A c p _ HR.out hc HO.out hl HG.out).mono ?_
  rintro e w1 ⟨rfl, hb⟩
  have HB := Aside0.mk hb
  clear hb
  go_wp2
  go_ret2
  exact ⟨rfl, below_alloc HB.out _⟩
set_option maxHeartbeats 2000000 in
theorem cellF_bad (A : Option Addr) (c : Nat) (p : List Int) (i : Int) (w : World) (hr : Kd.C (Kd.int .u8) w A p.length p) (hc : p.length ≤ c) (ho : octs p) (hl : p.length ≤ 140737488351232) (hg : goodP p = false) :
    Calls Try.prog 34 #[.slice A p.length c, .int .i64 i] w fun e w' => e = .returned (.tuple #[.slice none 0 0, .int .i64 4]) ∧ Below w.heap.size w w' := by
  have HR := Aside0.mk hr
  have HO := Aside0.mk ho
  have HG := Aside0.mk hg
  clear hr ho hg
  go_enter Try.func34, Try.ntmps34
  go_wp2_with fail
  refine (of_bad A c p _ HR.out hc HO.out hl HG.out).mono ?_
  rintro e w1 ⟨rfl, hb⟩
  have HB := Aside0.mk hb
  clear hb
  go_wp2
  go_ret2
  exact ⟨rfl, below_alloc HB.out _⟩
set_option maxHeartbeats 2000000 in
theorem cellsF_bad (A : Option Addr) (c : Nat) (p : List Int) (w : World) (hr : Kd.C (Kd.int .u8) w A p.length p) (hc : p.length ≤ c) (ho : octs p) (hl : p.length ≤ 140737488351232) (hg : goodP p = false) :
    Calls Try.prog 14 #[.slice A p.length c] w fun e w' => e = .returned (.tuple #[.slice none 0 0, .int .i64 4]) ∧ Below w.heap.size w w' := by
  have HR := Aside0.mk hr
  have HO := Aside0.mk ho
  have HG := Aside0.mk hg
  clear hr ho hg
  go_enter Try.func14, Try.ntmps14
  go_wp2_with fail
  refine (of_bad A c p _ HR.out hc HO.out hl HG.out).mono ?_
  rintro e w1 ⟨rfl, hb⟩
  have HB := Aside0.mk hb
  clear hb
  go_wp2
  go_ret2
  exact ⟨rfl, below_alloc HB.out _⟩
set_option maxHeartbeats 2000000 in
theorem compact_good (A : Option Addr) (c : Nat) (p : List Int) (w : World) (hr : Kd.C (Kd.int .u8) w A 512 p) (hc : 512 ≤ c) (ho : octs p) (hl : p.length = 512) (hg : goodP p = true) (hf : Fits p) :
    Calls Try.prog 12 #[.slice A 512 c] w fun e w' => ∃ g, e = .returned (.tuple #[.slice (some ⟨g, 0, none⟩) 512 512, .int .i64 0]) ∧ w.heap.size ≤ g ∧ Blk w' 5 g (anewP p) ∧ Below w.heap.size w w' := by
  have HR := Aside0.mk hr
  have HO := Aside0.mk ho
  have HG := Aside0.mk hg
  have HL := Aside0.mk hl
  have HF := Aside0.mk hf
  clear hr ho hg hl hf
  go_enter Try.func12, Try.ntmps12
  go_wp2_with fail
  refine (copied_good A c p _ HR.out hc HO.out HL.out HG.out).mono ?_
  rintro e w1 ⟨g, rfl, hg1, hbk, hb⟩
  have HBk := Aside0.mk (hbk.below (below_alloc (Below.refl w1.heap.size w1) (.cells #[.slice (some ⟨g, 0, none⟩) 512 512] 65)))
  have HB := Aside0.mk (below_alloc hb (.cells #[.slice (some ⟨g, 0, none⟩) 512 512] 65))
  have hglt := hbk.lt
  clear hbk hb
  go_wp2_with fail
  refine (anew_calls g p _ HBk.out HL.out HO.out HF.out).mono ?_
  rintro e w3 ⟨rfl, hb3, hg3⟩
  have hc3 := cell_grown' hg3 (a := ⟨w1.heap.size, 0, none⟩) (v := .slice (some ⟨g, 0, none⟩) 512 512) (by simp) (by simp; omega)
  have HB3 := Aside0.mk hb3
  have HG3 := Aside0.mk hg3
  clear hb3 hg3
  go_wp2
  go_ret2
  exact ⟨g, rfl, hg1, HB3.out, below_of_grown_new HB.out HG3.out hg1⟩
end Go.Proofs.Ytpogneedafoiaaa.Pg
