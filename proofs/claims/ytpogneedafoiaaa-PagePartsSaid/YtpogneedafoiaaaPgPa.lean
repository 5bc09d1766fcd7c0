/- Contracts by hand: Check at any bytes, the reference's Check; what PageParts calls. -/
import Derived.Test.YtpogneedafoiaaaPgTo
import Derived.Test.YtpogneedafoiaaaPgU
import Derived.Test.YtpogneedafoiaaaRfU
namespace Go.Proofs.Ytpogneedafoiaaa.Pg
open Go.RowKit Go.Proofs.YtpogneedafoiaaaW.PrintWords Go.Proofs.YtpogneedafoiaaaW.PrintLast Go.Proofs.YtpogneedafoiaaaW.PrintMore Go.Proofs.Ytpogneedafoiaaa.Bw Go.Proofs.Ytpogneedafoiaaa.Crc Go.Proofs.Ytpogneedafoiaaa.Wordy
set_option linter.unusedVariables false
set_option linter.unusedSimpArgs false

def checkA (p : List Int) : Int := if p.length = 512 then checkP p else 4
theorem good_len {p : List Int} (h : p.length ≠ 512) : goodP p = false := by
  cases hg : goodP p with
  | false => rfl
  | true => exact absurd (good_facts hg).1 h
set_option maxHeartbeats 2000000 in
theorem check_any (A : Option Addr) (c : Nat) (p : List Int) (w : World) (hr : Kd.C (Kd.int .u8) w A p.length p) (hc : p.length ≤ c) (ho : octs p) (hl : p.length ≤ 140737488351232) :
    Calls Try.prog 29 #[.slice A p.length c] w fun e w' => e = .returned (.int .i64 (checkA p)) ∧ Below w.heap.size w w' := by
  by_cases h5 : p.length = 512
  · have e : checkA p = checkP p := by unfold checkA; rw [if_pos h5]
    rw [e]
    rw [h5] at hr hc ⊢
    obtain ⟨ad, rfl⟩ := rb_some hr (by decide)
    exact checkF ad c p w hr hc ho h5
  · have e : checkA p = 4 := by unfold checkA; rw [if_neg h5]
    have hg := good_len h5
    have hln : ((p.length : Int) == 512) = false := by simp; omega
    rw [e]
    have HR := Aside0.mk hr
    have HO := Aside0.mk ho
    have HG := Aside0.mk hg
    clear hr ho hg e h5
    go_enter Try.func29, Try.ntmps29
    go_wp2_with fail
    refine (of_bad A c p w HR.out hc HO.out hl HG.out).mono ?_
    rintro e w1 ⟨rfl, hb⟩
    have HB := Aside0.mk hb
    clear hb
    go_wp2
    go_ret
    exact ⟨rfl, below_alloc HB.out _⟩
/-- all noughts up to a place -/
def zeroTo (p : List Int) (k : Nat) : Bool := (List.range k).all fun j => p.getD j 0 == 0
theorem zeroTo_succ (p : List Int) (k : Nat) : zeroTo p (k + 1) = (zeroTo p k && (p.getD k 0 == 0)) := by
  unfold zeroTo
  rw [List.range_succ, List.all_append]
  simp
theorem zeroTo_512 (p : List Int) : zeroTo p 512 = zeroB p := by
  cases hz : zeroB p with
  | true =>
    have h := zeroB_iff.mp hz
    unfold zeroTo
    rw [List.all_eq_true]
    intro i hi
    rw [h i (List.mem_range.mp hi)]
    rfl
  | false =>
    cases hq : zeroTo p 512 with
    | false => rfl
    | true =>
      have : zeroB p = true := zeroB_iff.mpr (fun i hi => by
        unfold zeroTo at hq
        rw [List.all_eq_true] at hq
        simpa using hq i (List.mem_range.mpr hi))
      rw [this] at hz
      cases hz
theorem rOf_calls (A : Option Addr) (c : Nat) (l : List Int) (w : World) (hr : Kd.C (Kd.int .u8) w A l.length l) (hc : l.length ≤ c) (ho : octs l) (hl : l.length ≤ 140737488351232) :
    Calls Try.prog 63 #[.slice A l.length c] w fun e w' => e = .returned (.int .u32 (more 0 l)) ∧ Drawn0 w w' :=
  Rf.munimentref1_Of.calls (10 * l.length + 1) A c l _ w hr hc (rOf_eq l ho hl _ (Nat.lt_succ_self _))
set_option maxHeartbeats 4000000 in
theorem rcheck_calls (A : Option Addr) (c : Nat) (p : List Int) (w : World) (hr : Kd.C (Kd.int .u8) w A p.length p) (hc : p.length ≤ c) (ho : octs p) (hl : p.length ≤ 140737488351232) :
    Calls Try.prog 35 #[.slice A p.length c] w fun e w' => e = .returned (.int .i64 (checkA p)) ∧ Below w.heap.size w w' := by
  have HR := Aside0.mk hr
  have HO := Aside0.mk ho
  clear hr ho
  go_enter Try.func35, Try.ntmps35
  go_wp2_with fail
  go_loopg [3, 4] p.length (fun d v3 v4 wr => ∃ k : Nat, v3 = .bool (((p.length : Int) == 512) && zeroTo p k) ∧ v4 = .int .i64 k ∧ Aside0 (k + d = p.length) ∧ Aside0 (Below w.heap.size w wr))
  case atStart => exact ⟨0, by simp [zeroTo], rfl, ⟨by omega⟩, ⟨Below.refl _ _⟩⟩
  case round =>
    obtain ⟨k, rfl, rfl, HK, HB⟩ := hrel
    have hk := HK.out
    by_cases hlt : k < p.length
    · obtain ⟨ad, ead, hcell⟩ := Kd.at_int (Kd.C_below HR.out HB.out) k (by omega) (by omega)
      subst ead
      rw [Int.toNat_natCast] at hcell
      have hz := zeroTo_succ p k
      cases hb : (((p.length : Int) == 512) && zeroTo p k) with
      | true =>
        have hnew : (((p.length : Int) == 512) && zeroTo p (k + 1)) = (p.getD k 0 == 0) := by
          rw [hz, ← Bool.and_assoc, hb, Bool.true_and]
        have HNW := Aside0.mk hnew
        clear hz hb hnew
        go_wp2
        repeat (go_quiet (fail); try go_wp2)
        go_roundg (gk - 1)
        case measure => have := HK.out; omega
        case rel => exact ⟨k + 1, by rw [HNW.out]; rfl, by go_num, ⟨by have := HK.out; omega⟩, ⟨by first | exact HB.out | exact pw_below_drewN HB.out _⟩⟩
      | false =>
        have hnew : (((p.length : Int) == 512) && zeroTo p (k + 1)) = false := by
          rw [hz, ← Bool.and_assoc, hb, Bool.false_and]
        have HNW := Aside0.mk hnew
        clear hz hb hnew
        go_wp2
        repeat (go_quiet (fail); try go_wp2)
        go_roundg (gk - 1)
        case measure => have := HK.out; omega
        case rel => exact ⟨k + 1, by rw [HNW.out], by go_num, ⟨by have := HK.out; omega⟩, ⟨by first | exact HB.out | exact pw_below_drewN HB.out _⟩⟩
    · obtain rfl : k = p.length := by omega
      cases hb : (((p.length : Int) == 512) && zeroTo p p.length) with
      | true =>
        have e : checkA p = 0 := by
          obtain ⟨h1, h2⟩ := Bool.and_eq_true_iff.mp hb
          have h5 : p.length = 512 := by have := beq_iff_eq.mp h1; omega
          rw [h5, zeroTo_512] at h2
          unfold checkA checkP
          rw [if_pos h5, if_pos h2]
        have HE := Aside0.mk e
        clear hb e
        go_wp2
        go_ret
        exact ⟨by rw [HE.out]; rfl, HB.out⟩
      | false =>
        have hnz : ¬ (p.length = 512 ∧ zeroB p = true) := by
          rintro ⟨h5, h2⟩
          rw [h5, zeroTo_512, h2] at hb
          simp at hb
        cases hg : goodP p with
        | false =>
          have e : checkA p = 4 := by
            unfold checkA checkP
            by_cases h5 : p.length = 512
            · rw [if_pos h5, if_neg (fun h => hnz ⟨h5, h⟩), hg]
              rfl
            · rw [if_neg h5]
          have HE := Aside0.mk e
          have HG := Aside0.mk hg
          clear hb e hnz hg
          go_wp2_with fail
          refine (rgood_calls A c p _ (Kd.C_below HR.out HB.out) hc HO.out hl).mono ?_
          rw [HG.out]
          rintro e w2 ⟨rfl, hb⟩
          have HB2 := Aside0.mk (below_step HB.out hb)
          clear hb
          go_wp2
          go_ret
          exact ⟨by rw [HE.out]; rfl, HB2.out⟩
        | true =>
          have h5 := (good_facts hg).1
          have e : checkA p = if ((numAt p 0 4 : Nat) : Int) = more 0 (p.drop 4) then 0 else 8 := by
            unfold checkA checkP
            rw [if_pos h5, if_neg (fun h => hnz ⟨h5, h⟩), if_pos hg]
          have hn4 : numAt p 0 4 < 4294967296 := by have := numAt_lt p HO.out 0 4; simpa using this
          have hd4 : (p.drop 4).length = 508 := by rw [List.length_drop, h5]
          obtain ⟨ad, rfl⟩ := rb_some HR.out (by omega)
          have hw1 : ((numAt p 0 4 : Nat) : Int) % 4294967296 = ((numAt p 0 4 : Nat) : Int) := by omega
          have H5 := Aside0.mk h5
          have HE := Aside0.mk e
          have HG := Aside0.mk hg
          have hcut : Kd.C (Kd.int .u8) w (some ⟨ad.block, ad.off + 4, none⟩) 508 (p.drop 4) := by
            have h := rb_cut HR.out 4 508 (by omega)
            rw [List.take_of_length_le (by omega), show ad.add 4 = (⟨ad.block, ad.off + 4, none⟩ : Addr) by simp [Addr.add]] at h
            exact h
          have HCut := Aside0.mk hcut
          have k2 : (4 : Int) ≤ (p.length : Int) := by omega
          have k3 : ¬ c = 4 := by omega
          clear hb hnz hg e hcut h5
          go_wp2_with fail
          refine (rgood_calls (some ad) c p _ (Kd.C_below HR.out HB.out) hc HO.out hl).mono ?_
          rw [HG.out]
          rintro e w2 ⟨rfl, hb⟩
          have HB2 := Aside0.mk (below_step HB.out hb)
          clear hb
          have h55 : ∀ n, Calls Try.prog 55 #[.slice (some ad) p.length c, .int .i64 0, .int .i64 4] (w2.drewN n) fun e w'' => e = .returned (.int .i64 ((numAt p 0 4 : Nat) : Int)) ∧ ∃ m, w'' = w2.drewN m := fun n =>
            Calls.quiet_of ((Rf.munimentref5_get.calls 9 (some ad) c p 0 4 _ _ (Kd.C_drewN (Kd.C_below HR.out HB2.out) n) hc (rget_eq p HO.out (by omega) 0 4 9 (by have := H5.out; omega) (by decide) (Nat.le_refl _))).mono (by rintro e w' ⟨rfl, m, rfl⟩; exact ⟨rfl, m, rfl⟩))
          have h63 : ∀ n, Calls Try.prog 63 #[.slice (some ⟨ad.block, ad.off + 4, none⟩) (p.length - 4) (c - 4)] (w2.drewN n) fun e w'' => e = .returned (.int .u32 (more 0 (p.drop 4))) ∧ ∃ m, w'' = w2.drewN m := fun n => by
            have h := rOf_calls (some ⟨ad.block, ad.off + 4, none⟩) (c - 4) (p.drop 4) (w2.drewN n) (by rw [hd4]; exact Kd.C_drewN (Kd.C_below HCut.out HB2.out) n) (by have := H5.out; omega) (octs_drop HO.out 4) (by omega)
            rw [List.length_drop] at h
            exact Calls.quiet_of (h.mono (by rintro e w' ⟨rfl, m, rfl⟩; exact ⟨rfl, m, rfl⟩))
          have H55 := Aside0.mk h55
          have H63 := Aside0.mk h63
          clear h55 h63
          by_cases hx : ((numAt p 0 4 : Nat) : Int) = more 0 (p.drop 4)
          · have hy : (((numAt p 0 4 : Nat) : Int) != more 0 (p.drop 4)) = false := by rw [hx]; simp
            have HE2 := Aside0.mk (show checkA p = 0 by rw [HE.out, if_pos hx])
            clear hx
            go_wp2
            go_quiet (first | (go_at_call 55; exact H55.out _) | (go_at_call 63; exact H63.out _))
            go_wp2
            go_ret
            exact ⟨by rw [HE2.out]; rfl, pw_below_drewN HB2.out _⟩
          · have hy : (((numAt p 0 4 : Nat) : Int) != more 0 (p.drop 4)) = true := by simp [bne, hx]
            have HE2 := Aside0.mk (show checkA p = 8 by rw [HE.out, if_neg hx])
            clear hx
            go_wp2
            go_quiet (first | (go_at_call 55; exact H55.out _) | (go_at_call 63; exact H63.out _))
            go_wp2
            go_ret
            exact ⟨by rw [HE2.out]; rfl, pw_below_drewN HB2.out _⟩
section
variable (A : Option Addr) (c : Nat) (p : List Int) (w : World) (hr : Kd.C (Kd.int .u8) w A p.length p) (hc : p.length ≤ c) (ho : octs p) (hg : goodP p = true)
include hr hc ho hg
theorem rfree_calls : Calls Try.prog 37 #[.slice A p.length c] w fun e w' => e = .returned (.int .i64 (freeP p)) ∧ Below w.heap.size w w' := by
  have hw := good_iff.mp hg
  have h1 := hw.slots
  have h2 := hw.low
  refine (Rf.munimentref5_Free.calls 200 A c p _ w hr hc (rfree_eq p ho hw.len (by omega) 200 (Nat.le_refl _))).mono ?_
  rintro e w' ⟨rfl, n, rfl⟩
  exact ⟨rfl, pw_below_drewN (Below.refl _ _) n⟩
theorem rcells_calls : Calls Try.prog 38 #[.slice A p.length c] w fun e w' => ∃ A' c', e = .returned (.slice A' (cellsP p).length c') ∧ (cellsP p).length ≤ c' ∧ Kd.C (Kd.slice 5 (Kd.int .u8)) w' A' (cellsP p).length (cellsP p) ∧ Below w.heap.size w w' := by
  have hw := good_iff.mp hg
  have h1 := hw.slots
  have h2 := hw.low
  refine (Rf.munimentref5_Cells.calls 200 A c p _ w hr hc (rcells_eq p ho hw.len (by omega) (fun i hi => (hw.fit i hi).2) 200 (Nat.le_refl _))).mono ?_
  rintro e w' ⟨v, rfl, hs, hb⟩
  obtain ⟨A', c', rfl, h1, h2⟩ := Kd.S_reads hs
  exact ⟨A', c', rfl, h1, h2, hb⟩
theorem rcompact_calls : Calls Try.prog 40 #[.slice A p.length c] w fun e w' => ∃ v, e = .returned v ∧ Told (anewP p) w v w' := by
  have hw := good_iff.mp hg
  have h1 := hw.slots
  have h2 := hw.low
  refine (Rf.munimentref5_Compact.calls 100000 A c p _ w hr hc (rcompact_eq hw.len ho (fits_of_good hg) (by omega) 100000 (Nat.le_refl _))).mono ?_
  rintro e w' ⟨v, rfl, h3, h4⟩
  exact ⟨v, rfl, told_R h3 h4⟩
theorem rseal_calls (lsn : Int) (h0 : 0 ≤ lsn) : Calls Try.prog 41 #[.slice A p.length c, .int .u64 lsn] w fun e w' => ∃ v, e = .returned v ∧ Told (sealP p lsn) w v w' := by
  refine (Rf.munimentref5_Seal.calls 6000 A c p lsn _ w hr hc (rseal_eq p ho (good_facts hg).1 lsn h0 6000 (Nat.le_refl _))).mono ?_
  rintro e w' ⟨v, rfl, h3, h4⟩
  exact ⟨v, rfl, told_R h3 h4⟩
omit ho in
theorem rset_calls (x y : Int) (hx : 0 ≤ x ∧ x ≤ 4294967295 ∧ 0 ≤ y ∧ y ≤ 4294967295) : Calls Try.prog 39 #[.slice A p.length c, .int .i64 x, .int .i64 y] w fun e w' => ∃ v, e = .returned v ∧ Told (setP p x y) w v w' := by
  refine (Rf.munimentref5_Set.calls 10 A c p x y _ w hr hc (rset_eq p (good_facts hg).1 x y hx 10 (Nat.le_refl _))).mono ?_
  rintro e w' ⟨v, rfl, h3, h4⟩
  exact ⟨v, rfl, told_R h3 h4⟩
theorem rget_calls (a s : Nat) (a' s' : Int) (ha : a' = (a : Int)) (hs' : s' = (s : Int)) (has : a + s ≤ 512) (hs : s ≤ 8) : Calls Try.prog 42 #[.slice A p.length c, .int .i64 a', .int .i64 s'] w fun e w' => e = .returned (.int .u64 ((numAt p a s : Nat) : Int)) ∧ Below w.heap.size w w' := by
  subst ha hs'
  have hl := (good_facts hg).1
  refine (Rf.munimentref1_Get.calls 9 A c p a s _ w hr hc (Get_eq p ho (by omega) a s 9 (by omega) hs (Nat.le_refl _))).mono ?_
  rintro e w' ⟨rfl, n, rfl⟩
  exact ⟨rfl, pw_below_drewN (Below.refl _ _) n⟩
end
theorem rnew_calls (k : Int) (h : 0 ≤ k ∧ k ≤ 255) (w : World) : Calls Try.prog 36 #[.int .i64 k] w fun e w' => ∃ v, e = .returned v ∧ Told (newP k) w v w' := by
  refine (Rf.munimentref5_New.calls 10 k _ w (rnew_eq k h 10 (Nat.le_refl _))).mono ?_
  rintro e w' ⟨v, rfl, h3, h4⟩
  exact ⟨v, rfl, told_R h3 h4⟩
theorem checkA_range (p : List Int) : 0 ≤ checkA p ∧ checkA p ≤ 8 := by
  unfold checkA checkP
  repeat' split
  all_goals decide
/-- short words for long walks -/
theorem sB {w w1 w2 : World} (h : Aside0 (Below w.heap.size w w1)) (hb : Below w1.heap.size w1 w2) : Aside0 (Below w.heap.size w w2) := ⟨below_step h.out hb⟩
theorem sC {α : Type} {d : Kd α} {w w1 : World} {A : Option Addr} {n : Nat} {xs : List α} (h : Aside0 (Kd.C d w A n xs)) (hb : Below w.heap.size w w1) : Aside0 (Kd.C d w1 A n xs) := ⟨Kd.C_below h.out hb⟩
theorem sM {w w1 w2 : World} {A' : Option Addr} {r : List Int} (h : Aside0 (Mine w w1 A' r)) (hb : Below w1.heap.size w1 w2) : Aside0 (Mine w w2 A' r) := ⟨h.out.below hb⟩
theorem sK {w w1 : World} {g : Nat} {r : List Int} (h : Aside0 (Blk w 5 g r)) (hb : Below w.heap.size w w1) : Aside0 (Blk w1 5 g r) := ⟨h.out.below hb⟩
theorem sR {α : Type} {d : Kd α} {w w1 : World} {A : Option Addr} {n : Nat} {xs : List α} (h : Aside0 (Kd.C d w A n xs)) (hb : Aside0 (Below w.heap.size w w1)) : Kd.C d w1 A n xs := Kd.C_below h.out hb.out
theorem sL {w w1 : World} {A : Option Addr} {p : List Int} (hl : Aside0 (p.length = 512)) (h : Aside0 (Kd.C (Kd.int .u8) w A 512 p)) (hb : Aside0 (Below w.heap.size w w1)) : Kd.C (Kd.int .u8) w1 A p.length p := by rw [hl.out]; exact Kd.C_below h.out hb.out
theorem sH {c : Nat} {p : List Int} (hl : Aside0 (p.length = 512)) (hc : 512 ≤ c) : p.length ≤ c := by rw [hl.out]; exact hc
theorem sN {p : List Int} (hl : Aside0 (p.length = 512)) : p.length ≤ 140737488351232 := by rw [hl.out]; decide
end Go.Proofs.Ytpogneedafoiaaa.Pg
