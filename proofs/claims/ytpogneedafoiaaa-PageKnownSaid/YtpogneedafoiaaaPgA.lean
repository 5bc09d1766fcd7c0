/- Contracts by hand: a sheet that is read: get, count, low, slot, room. -/
import Derived.Test.YtpogneedafoiaaaWordy
import Derived.Outline
namespace Go.Proofs.Ytpogneedafoiaaa.Pg
open Go.RowKit Go.Proofs.YtpogneedafoiaaaW.PrintWords Go.Proofs.YtpogneedafoiaaaW.PrintLast Go.Proofs.YtpogneedafoiaaaW.PrintMore Go.Proofs.Ytpogneedafoiaaa.Bw Go.Proofs.Ytpogneedafoiaaa.Crc Go.Proofs.Ytpogneedafoiaaa.Wordy
set_option linter.unusedVariables false
set_option linter.unusedSimpArgs false

theorem word_calls (A : Option Addr) (c : Nat) (l : List Int) (w : World) (hr : Kd.C (Kd.int .u8) w A l.length l) (hc : l.length ≤ c) (ho : octs l) (hl : l.length ≤ 8) :
    Calls Try.prog 61 #[.slice A l.length c] w fun e w' => e = .returned (.int .u64 ((num l : Nat) : Int)) ∧ Drawn0 w w' := by
  obtain ⟨k, hk⟩ : ∃ k, l.length < k := ⟨_, Nat.lt_succ_self _⟩
  exact sum_Word.calls k A c l _ w hr hc (Word_eq l ho hl k hk)
theorem rb_cut {w : World} {ad : Addr} {n : Nat} {p : List Int} (h : Kd.C (Kd.int .u8) w (some ad) n p) (i m : Nat) (hi : i + m ≤ n) : Kd.C (Kd.int .u8) w (some (ad.add i)) m ((p.drop i).take m) := by
  have h := rb_reads h
  have hn := h.1
  refine rb_of_reads ⟨by rw [List.length_take, List.length_drop]; omega, by have := h.2.1; omega, fun hm => ⟨_, rfl, fun j hj => ?_⟩⟩
  obtain ⟨ad', e, hc⟩ := h.2.2 (by omega)
  obtain rfl := Option.some.inj e
  have hadd : (ad.add i).add j = ad.add (i + j) := Addr.add_add ad i j
  rw [hadd, hc (i + j) (by omega), List.getD_eq_getElem?_getD, List.getD_eq_getElem?_getD, List.getElem?_take, if_pos hj, List.getElem?_drop]
theorem rb_some {w : World} {A : Option Addr} {n : Nat} {p : List Int} (h : Kd.C (Kd.int .u8) w A n p) (hn : 0 < n) : ∃ ad, A = some ad := by
  obtain ⟨ad, e, _⟩ := (rb_reads h).2.2 hn
  exact ⟨ad, e⟩
set_option maxHeartbeats 1000000 in
theorem get_calls (A : Option Addr) (c : Nat) (p : List Int) (at_ size : Nat) (w : World) (hr : Kd.C (Kd.int .u8) w A p.length p) (hc : p.length ≤ c) (ho : octs p) (hl : p.length ≤ 140737488351232) (h1 : 1 ≤ size) (h4 : size ≤ 4) (hs : at_ + size ≤ p.length) :
    Calls Try.prog 62 #[.agg #[.slice A p.length c], .int .i64 at_, .int .i64 size] w fun e w' => e = .returned (.int .i64 ((numAt p at_ size : Nat) : Int)) ∧ Below w.heap.size w w' := by
  obtain ⟨ad, rfl⟩ := rb_some hr (by omega)
  have HR := Aside0.mk hr
  have HO := Aside0.mk ho
  clear hr ho
  go_enter Try.func62, Try.ntmps62
  go_wp2_with fail
  have hlen : ((p.drop at_).take size).length = size := by rw [List.length_take, List.length_drop]; omega
  have hw := word_calls (some (ad.add at_)) size ((p.drop at_).take size) (w.alloc (.cells #[.slice (some ad) p.length c] 65)) (by rw [hlen]; exact rb_cut (Kd.C_alloc HR.out _) at_ size hs) (by rw [hlen]; exact Nat.le_refl _) (octs_take (octs_drop HO.out _) _) (by rw [hlen]; omega)
  rw [hlen] at hw
  refine hw.mono ?_
  clear hw hlen
  rintro e w2 ⟨rfl, ⟨nd, rfl⟩⟩
  have hlt : num ((p.drop at_).take size) < 4294967296 := by
    have h := numAt_lt p HO.out at_ size
    have h2 : 2 ^ (8 * size) ≤ 2 ^ 32 := Nat.pow_le_pow_right (by decide) (by omega)
    unfold numAt at h
    simp only [Nat.reducePow] at h2
    omega
  go_wp2
  go_ret
  refine ⟨?_, pw_below_drewN (below_alloc (Below.refl _ _) _) _⟩
  unfold numAt
  rfl

/-- the parts of a page -/
def cnt (p : List Int) : Nat := numAt p 14 2
def lowP (p : List Int) : Nat := numAt p 16 2
def frm (p : List Int) (i : Nat) : Nat := numAt p (26 + 4 * i) 2
def szP (p : List Int) (i : Nat) : Nat := numAt p (28 + 4 * i) 2
theorem numAt2_lt {p : List Int} (ho : octs p) (a : Nat) : numAt p a 2 < 65536 := by
  have h := numAt_lt p ho a 2
  simpa using h
set_option maxHeartbeats 1000000 in
theorem count_calls (A : Option Addr) (c : Nat) (p : List Int) (w : World) (hr : Kd.C (Kd.int .u8) w A p.length p) (hc : p.length ≤ c) (ho : octs p) (hl : p.length = 512) :
    Calls Try.prog 45 #[.agg #[.slice A p.length c]] w fun e w' => e = .returned (.int .i64 ((cnt p : Nat) : Int)) ∧ Below w.heap.size w w' := by
  have HR := Aside0.mk hr
  have HO := Aside0.mk ho
  have HL := Aside0.mk hl
  clear hr ho hl
  go_enter Try.func45, Try.ntmps45
  go_wp2_with fail
  refine (get_calls A c p 14 2 _ (Kd.C_alloc HR.out _) hc HO.out (by have := HL.out; omega) (by decide) (by decide) (by have := HL.out; omega)).mono ?_
  rintro e w2 ⟨rfl, hb⟩
  go_wp2
  go_ret
  exact ⟨rfl, below_step (below_alloc (Below.refl _ _) _) hb⟩
set_option maxHeartbeats 1000000 in
theorem low_calls (A : Option Addr) (c : Nat) (p : List Int) (w : World) (hr : Kd.C (Kd.int .u8) w A p.length p) (hc : p.length ≤ c) (ho : octs p) (hl : p.length = 512) :
    Calls Try.prog 46 #[.agg #[.slice A p.length c]] w fun e w' => e = .returned (.int .i64 ((lowP p : Nat) : Int)) ∧ Below w.heap.size w w' := by
  have HR := Aside0.mk hr
  have HO := Aside0.mk ho
  have HL := Aside0.mk hl
  clear hr ho hl
  go_enter Try.func46, Try.ntmps46
  go_wp2_with fail
  refine (get_calls A c p 16 2 _ (Kd.C_alloc HR.out _) hc HO.out (by have := HL.out; omega) (by decide) (by decide) (by have := HL.out; omega)).mono ?_
  rintro e w2 ⟨rfl, hb⟩
  go_wp2
  go_ret
  exact ⟨rfl, below_step (below_alloc (Below.refl _ _) _) hb⟩
/-- a number at a place -/
def gI (p : List Int) (a s : Int) : Int := ((numAt p a.toNat s.toNat : Nat) : Int)
theorem gI_of (p : List Int) {a s : Int} {at_ size : Nat} (ha : a = (at_ : Int)) (hs : s = (size : Int)) : gI p a s = ((numAt p at_ size : Nat) : Int) := by
  subst ha hs
  rfl
theorem get_any (A : Option Addr) (c : Nat) (p : List Int) (a s : Int) (w : World) (hr : Kd.C (Kd.int .u8) w A p.length p) (hc : p.length ≤ c) (ho : octs p) (hl : p.length ≤ 140737488351232) (ha : 0 ≤ a) (h1 : 1 ≤ s) (h4 : s ≤ 4) (hs : a + s ≤ p.length) :
    Calls Try.prog 62 #[.agg #[.slice A p.length c], .int .i64 a, .int .i64 s] w fun e w' => e = .returned (.int .i64 (gI p a s)) ∧ Below w.heap.size w w' := by
  obtain ⟨at_, rfl⟩ : ∃ x : Nat, a = (x : Int) := ⟨a.toNat, by omega⟩
  obtain ⟨size, rfl⟩ : ∃ x : Nat, s = (x : Int) := ⟨s.toNat, by omega⟩
  exact get_calls A c p at_ size w hr hc ho hl (by omega) (by omega) (by omega)
set_option maxHeartbeats 1000000 in
theorem slot_calls (A : Option Addr) (c : Nat) (p : List Int) (i : Nat) (w : World) (hr : Kd.C (Kd.int .u8) w A p.length p) (hc : p.length ≤ c) (ho : octs p) (hl : p.length = 512) (hi : 30 + 4 * i ≤ 512) :
    Calls Try.prog 47 #[.agg #[.slice A p.length c], .int .i64 i] w fun e w' => e = .returned (.tuple #[.int .i64 ((frm p i : Nat) : Int), .int .i64 ((szP p i : Nat) : Int)]) ∧ Below w.heap.size w w' := by
  have HR := Aside0.mk hr
  have HO := Aside0.mk ho
  have HL := Aside0.mk hl
  have HB0 := Aside0.mk (below_alloc (Below.refl w.heap.size w) (.cells #[.slice A p.length c] 65))
  clear hr ho hl
  have hw1 : IntKind.i64.wrap (26 + 4 * (i : Int) + 2) = 26 + 4 * (i : Int) + 2 := IntWalk.i64_in _ (by omega)
  go_enter Try.func47, Try.ntmps47
  go_wp2_with fail
  go_region_held3 (fun w' => w'.cell? ⟨w.heap.size, 0, none⟩ = some (.slice A p.length c) ∧ Below w.heap.size w w')
    (first | (exact ⟨by simp, HB0.out.drew⟩) | (go_split_ands; exact ⟨pw_cell_below hb (by assumption), below_step (by assumption) hb⟩))
    (first | (go_at_call 62; (with_reducible refine (get_any A c p _ _ _ ?_ hc HO.out (by have := HL.out; omega) (by omega) (by omega) (by omega) (by have := HL.out; omega)).mono ?_); (go_split_ands; exact Kd.C_below HR.out (by assumption)); rintro e w2 ⟨rfl, hb⟩))
  go_split_ands
  have HBz := Aside0.mk (show Below w.heap.size w _ by assumption)
  go_wp2
  go_ret2
  refine ⟨?_, HBz.out⟩
  show Ending.returned (.tuple #[.int .i64 (gI p (26 + 4 * (i : Int)) 2), .int .i64 (gI p (26 + 4 * (i : Int) + 2) 2)]) = _
  have e1 : gI p (26 + 4 * (i : Int)) 2 = ((frm p i : Nat) : Int) := gI_of p (at_ := 26 + 4 * i) (size := 2) (by omega) rfl
  have e2 : gI p (26 + 4 * (i : Int) + 2) 2 = ((szP p i : Nat) : Int) := gI_of p (at_ := 28 + 4 * i) (size := 2) (by omega) rfl
  rw [e1, e2]
set_option maxHeartbeats 1000000 in
theorem room_calls (A : Option Addr) (c : Nat) (p : List Int) (w : World) (hr : Kd.C (Kd.int .u8) w A p.length p) (hc : p.length ≤ c) (ho : octs p) (hl : p.length = 512) :
    Calls Try.prog 52 #[.agg #[.slice A p.length c]] w fun e w' => e = .returned (.int .i64 ((lowP p : Int) - 26 - 4 * (cnt p : Int))) ∧ Below w.heap.size w w' := by
  have HR := Aside0.mk hr
  have HO := Aside0.mk ho
  have HL := Aside0.mk hl
  have HB0 := Aside0.mk (below_alloc (Below.refl w.heap.size w) (.cells #[.slice A p.length c] 65))
  have b1 : lowP p < 65536 := numAt2_lt ho 16
  have b2 : cnt p < 65536 := numAt2_lt ho 14
  clear hr ho hl
  have hw1 : IntKind.i64.wrap ((lowP p : Int) - 26) = (lowP p : Int) - 26 := IntWalk.i64_in _ (by omega)
  have hw2 : IntKind.i64.wrap (4 * (cnt p : Int)) = 4 * (cnt p : Int) := IntWalk.i64_in _ (by omega)
  have hw3 : IntKind.i64.wrap ((lowP p : Int) - 26 - 4 * (cnt p : Int)) = (lowP p : Int) - 26 - 4 * (cnt p : Int) := IntWalk.i64_in _ (by omega)
  go_enter Try.func52, Try.ntmps52
  go_wp2_with fail
  go_region_held3 (fun w' => w'.cell? ⟨w.heap.size, 0, none⟩ = some (.slice A p.length c) ∧ Below w.heap.size w w')
    (first | (exact ⟨by simp, HB0.out.drew⟩) | (go_split_ands; exact ⟨pw_cell_below hb (by assumption), below_step (by assumption) hb⟩))
    (first | (go_at_call 46; (with_reducible refine (low_calls A c p _ ?_ hc HO.out HL.out).mono ?_); (go_split_ands; exact Kd.C_below HR.out (by assumption)); rintro e w2 ⟨rfl, hb⟩) | (go_at_call 45; (with_reducible refine (count_calls A c p _ ?_ hc HO.out HL.out).mono ?_); (go_split_ands; exact Kd.C_below HR.out (by assumption)); rintro e w2 ⟨rfl, hb⟩))
  all_goals
    go_split_ands
    have HBz := Aside0.mk (show Below w.heap.size w _ by assumption)
    go_wp2
    go_ret
    exact ⟨rfl, HBz.out⟩
end Go.Proofs.Ytpogneedafoiaaa.Pg
