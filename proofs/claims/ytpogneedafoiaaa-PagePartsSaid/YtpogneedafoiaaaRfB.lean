/- The reference, as the kit's print of this claim lays it, behind one namespace: munimentref5_Good, munimentlaw5_told, munimentref5_Free. -/
import Derived.Test.YtpogneedafoiaaaRfA
namespace Go.Proofs.Ytpogneedafoiaaa.Rf
open Go.RowKit Go.Proofs.YtpogneedafoiaaaW.PrintWords Go.Proofs.YtpogneedafoiaaaW.PrintLast Go.Proofs.YtpogneedafoiaaaW.PrintMore
attribute [local go_sem] max2_int min2_int max_two min_two max_three min_three max_four min_four   -- for this text's walks alone
set_option linter.unusedVariables false
set_option linter.unusedSimpArgs false
/-! ### munimentref5_Good: function 21 -/
mutual
def munimentref5_Good.j0 : Nat → List Int → Bool → Option (Bool)
  | 0, _, _ => none
  | k + 1, x0, x18 => if x18 = true then (some false) else ((munimentref5_Count.f k x0).bind fun t136 => ((munimentref5_Low.f k x0).bind fun t137 => (if (wrap64 (26 + (wrap64 (4 * t136)))) > t137 then (munimentref5_Good.j1 k x0 t136 t137 true) else (munimentref5_Good.j1 k x0 t136 t137 (decide (t137 > 512))))))
def munimentref5_Good.j1 : Nat → List Int → Int → Int → Bool → Option (Bool)
  | 0, _, _, _, _ => none
  | k + 1, x0, x3, x4, x31 => if x31 = true then (some false) else (if 512 ≤ 281474976710656 then (munimentref5_Good.l0 k x0 x3 x4 (List.replicate 512 false) 0) else (none))
def munimentref5_Good.l0 : Nat → List Int → Int → Int → List Bool → Int → Option (Bool)
  | 0, _, _, _, _, _ => none
  | k + 1, x0, x3, x4, x5, x6 => if x6 < x3 then ((munimentref5_slot.f k x0 x6).bind fun bt141 => (if bt141.1 < x4 then (munimentref5_Good.j3 k x0 x3 x4 x5 x6 bt141.1 bt141.2 true) else (munimentref5_Good.j3 k x0 x3 x4 x5 x6 bt141.1 bt141.2 (decide ((wrap64 (bt141.1 + bt141.2)) > 512))))) else (some true)
def munimentref5_Good.j3 : Nat → List Int → Int → Int → List Bool → Int → Int → Int → Bool → Option (Bool)
  | 0, _, _, _, _, _, _, _, _ => none
  | k + 1, x0, x3, x4, x5, x6, x7, x8, x52 => if x52 = true then (some false) else (munimentref5_Good.l1 k x0 x3 x4 x5 x6 x7 x8 x7)
def munimentref5_Good.l1 : Nat → List Int → Int → Int → List Bool → Int → Int → Int → Int → Option (Bool)
  | 0, _, _, _, _, _, _, _, _ => none
  | k + 1, x0, x3, x4, x5, x6, x7, x8, x9 => if x9 < (wrap64 (x7 + x8)) then (if 0 ≤ x9 then (if x9 < (x5.length : Int) then (if rdOf false x5 x9 = true then (some false) else (munimentref5_Good.l1 k x0 x3 x4 (x5.set (x9 : Int).toNat true) x6 x7 x8 (wrap64 (x9 + 1)))) else (none)) else (none)) else (munimentref5_Good.l0 k x0 x3 x4 x5 (wrap64 (x6 + 1)))
end
def munimentref5_Good.f (k : Nat) (l0 : List Int) : Option (Bool) := if (l0.length : Int) = 512 then (if 13 < (l0.length : Int) then (munimentref5_Good.j0 k l0 ((rd l0 13) != 0)) else (none)) else (munimentref5_Good.j0 k l0 true)
theorem munimentref5_Good.mono_l : ∀ k, (∀ y0 y1, LeO (munimentref5_Good.j0 k y0 y1) (munimentref5_Good.j0 (k + 1) y0 y1)) ∧ (∀ y0 y1 y2 y3, LeO (munimentref5_Good.j1 k y0 y1 y2 y3) (munimentref5_Good.j1 (k + 1) y0 y1 y2 y3)) ∧ (∀ y0 y1 y2 y3 y4, LeO (munimentref5_Good.l0 k y0 y1 y2 y3 y4) (munimentref5_Good.l0 (k + 1) y0 y1 y2 y3 y4)) ∧ (∀ y0 y1 y2 y3 y4 y5 y6 y7, LeO (munimentref5_Good.j3 k y0 y1 y2 y3 y4 y5 y6 y7) (munimentref5_Good.j3 (k + 1) y0 y1 y2 y3 y4 y5 y6 y7)) ∧ (∀ y0 y1 y2 y3 y4 y5 y6 y7, LeO (munimentref5_Good.l1 k y0 y1 y2 y3 y4 y5 y6 y7) (munimentref5_Good.l1 (k + 1) y0 y1 y2 y3 y4 y5 y6 y7))
  | 0 => ⟨fun _ _ r h => by simp [munimentref5_Good.j0] at h, fun _ _ _ _ r h => by simp [munimentref5_Good.j1] at h, fun _ _ _ _ _ r h => by simp [munimentref5_Good.l0] at h, fun _ _ _ _ _ _ _ _ r h => by simp [munimentref5_Good.j3] at h, fun _ _ _ _ _ _ _ _ r h => by simp [munimentref5_Good.l1] at h⟩
  | k + 1 => by
    obtain ⟨ih0, ih1, ih2, ih3, ih4⟩ := munimentref5_Good.mono_l k
    refine ⟨?_, ?_, ?_, ?_, ?_⟩
    · intro y0 y1
      unfold munimentref5_Good.j0
      repeat' first
      | (with_reducible exact ih0 _ _)
      | (with_reducible exact ih1 _ _ _ _)
      | (with_reducible exact ih2 _ _ _ _ _)
      | (with_reducible exact ih3 _ _ _ _ _ _ _ _)
      | (with_reducible exact ih4 _ _ _ _ _ _ _ _)
      | (with_reducible exact munimentref5_Count.mono _ _)
      | (with_reducible exact munimentref5_Low.mono _ _)
      | (with_reducible exact munimentref5_slot.mono _ _ _)
      | (with_reducible exact LeO.refl _)
      | (with_reducible exact LeO.none _)
      | (with_reducible refine LeO.ite ?_ ?_)
      | (with_reducible refine LeO.bind ?_ (fun _ => ?_))
      | exact ih0 _ _
      | exact ih1 _ _ _ _
      | exact ih2 _ _ _ _ _
      | exact ih3 _ _ _ _ _ _ _ _
      | exact ih4 _ _ _ _ _ _ _ _
      | exact munimentref5_Count.mono _ _
      | exact munimentref5_Low.mono _ _
      | exact munimentref5_slot.mono _ _ _
      | exact LeO.none _
      | refine LeO.ite ?_ ?_
      | refine LeO.bind ?_ (fun _ => ?_)
    · intro y0 y1 y2 y3
      unfold munimentref5_Good.j1
      repeat' first
      | (with_reducible exact ih0 _ _)
      | (with_reducible exact ih1 _ _ _ _)
      | (with_reducible exact ih2 _ _ _ _ _)
      | (with_reducible exact ih3 _ _ _ _ _ _ _ _)
      | (with_reducible exact ih4 _ _ _ _ _ _ _ _)
      | (with_reducible exact munimentref5_Count.mono _ _)
      | (with_reducible exact munimentref5_Low.mono _ _)
      | (with_reducible exact munimentref5_slot.mono _ _ _)
      | (with_reducible exact LeO.refl _)
      | (with_reducible exact LeO.none _)
      | (with_reducible refine LeO.ite ?_ ?_)
      | (with_reducible refine LeO.bind ?_ (fun _ => ?_))
      | exact ih0 _ _
      | exact ih1 _ _ _ _
      | exact ih2 _ _ _ _ _
      | exact ih3 _ _ _ _ _ _ _ _
      | exact ih4 _ _ _ _ _ _ _ _
      | exact munimentref5_Count.mono _ _
      | exact munimentref5_Low.mono _ _
      | exact munimentref5_slot.mono _ _ _
      | exact LeO.none _
      | refine LeO.ite ?_ ?_
      | refine LeO.bind ?_ (fun _ => ?_)
    · intro y0 y1 y2 y3 y4
      unfold munimentref5_Good.l0
      repeat' first
      | (with_reducible exact ih0 _ _)
      | (with_reducible exact ih1 _ _ _ _)
      | (with_reducible exact ih2 _ _ _ _ _)
      | (with_reducible exact ih3 _ _ _ _ _ _ _ _)
      | (with_reducible exact ih4 _ _ _ _ _ _ _ _)
      | (with_reducible exact munimentref5_Count.mono _ _)
      | (with_reducible exact munimentref5_Low.mono _ _)
      | (with_reducible exact munimentref5_slot.mono _ _ _)
      | (with_reducible exact LeO.refl _)
      | (with_reducible exact LeO.none _)
      | (with_reducible refine LeO.ite ?_ ?_)
      | (with_reducible refine LeO.bind ?_ (fun _ => ?_))
      | exact ih0 _ _
      | exact ih1 _ _ _ _
      | exact ih2 _ _ _ _ _
      | exact ih3 _ _ _ _ _ _ _ _
      | exact ih4 _ _ _ _ _ _ _ _
      | exact munimentref5_Count.mono _ _
      | exact munimentref5_Low.mono _ _
      | exact munimentref5_slot.mono _ _ _
      | exact LeO.none _
      | refine LeO.ite ?_ ?_
      | refine LeO.bind ?_ (fun _ => ?_)
    · intro y0 y1 y2 y3 y4 y5 y6 y7
      unfold munimentref5_Good.j3
      repeat' first
      | (with_reducible exact ih0 _ _)
      | (with_reducible exact ih1 _ _ _ _)
      | (with_reducible exact ih2 _ _ _ _ _)
      | (with_reducible exact ih3 _ _ _ _ _ _ _ _)
      | (with_reducible exact ih4 _ _ _ _ _ _ _ _)
      | (with_reducible exact munimentref5_Count.mono _ _)
      | (with_reducible exact munimentref5_Low.mono _ _)
      | (with_reducible exact munimentref5_slot.mono _ _ _)
      | (with_reducible exact LeO.refl _)
      | (with_reducible exact LeO.none _)
      | (with_reducible refine LeO.ite ?_ ?_)
      | (with_reducible refine LeO.bind ?_ (fun _ => ?_))
      | exact ih0 _ _
      | exact ih1 _ _ _ _
      | exact ih2 _ _ _ _ _
      | exact ih3 _ _ _ _ _ _ _ _
      | exact ih4 _ _ _ _ _ _ _ _
      | exact munimentref5_Count.mono _ _
      | exact munimentref5_Low.mono _ _
      | exact munimentref5_slot.mono _ _ _
      | exact LeO.none _
      | refine LeO.ite ?_ ?_
      | refine LeO.bind ?_ (fun _ => ?_)
    · intro y0 y1 y2 y3 y4 y5 y6 y7
      unfold munimentref5_Good.l1
      repeat' first
      | (with_reducible exact ih0 _ _)
      | (with_reducible exact ih1 _ _ _ _)
      | (with_reducible exact ih2 _ _ _ _ _)
      | (with_reducible exact ih3 _ _ _ _ _ _ _ _)
      | (with_reducible exact ih4 _ _ _ _ _ _ _ _)
      | (with_reducible exact munimentref5_Count.mono _ _)
      | (with_reducible exact munimentref5_Low.mono _ _)
      | (with_reducible exact munimentref5_slot.mono _ _ _)
      | (with_reducible exact LeO.refl _)
      | (with_reducible exact LeO.none _)
      | (with_reducible refine LeO.ite ?_ ?_)
      | (with_reducible refine LeO.bind ?_ (fun _ => ?_))
      | exact ih0 _ _
      | exact ih1 _ _ _ _
      | exact ih2 _ _ _ _ _
      | exact ih3 _ _ _ _ _ _ _ _
      | exact ih4 _ _ _ _ _ _ _ _
      | exact munimentref5_Count.mono _ _
      | exact munimentref5_Low.mono _ _
      | exact munimentref5_slot.mono _ _ _
      | exact LeO.none _
      | refine LeO.ite ?_ ?_
      | refine LeO.bind ?_ (fun _ => ?_)
theorem munimentref5_Good.mono : ∀ a0 k, LeO (munimentref5_Good.f k a0) (munimentref5_Good.f (k + 1) a0) := by
  intro a0 k
  obtain ⟨ih0, ih1, ih2, ih3, ih4⟩ := munimentref5_Good.mono_l k
  unfold munimentref5_Good.f
  repeat' first
      | (with_reducible exact ih0 _ _)
      | (with_reducible exact ih1 _ _ _ _)
      | (with_reducible exact ih2 _ _ _ _ _)
      | (with_reducible exact ih3 _ _ _ _ _ _ _ _)
      | (with_reducible exact ih4 _ _ _ _ _ _ _ _)
      | (with_reducible exact munimentref5_Count.mono _ _)
      | (with_reducible exact munimentref5_Low.mono _ _)
      | (with_reducible exact munimentref5_slot.mono _ _ _)
      | (with_reducible exact LeO.refl _)
      | (with_reducible exact LeO.none _)
      | (with_reducible refine LeO.ite ?_ ?_)
      | (with_reducible refine LeO.bind ?_ (fun _ => ?_))
      | exact ih0 _ _
      | exact ih1 _ _ _ _
      | exact ih2 _ _ _ _ _
      | exact ih3 _ _ _ _ _ _ _ _
      | exact ih4 _ _ _ _ _ _ _ _
      | exact munimentref5_Count.mono _ _
      | exact munimentref5_Low.mono _ _
      | exact munimentref5_slot.mono _ _ _
      | exact LeO.none _
      | refine LeO.ite ?_ ?_
      | refine LeO.bind ?_ (fun _ => ?_)
set_option maxHeartbeats 8000000 in
set_option maxRecDepth 100000 in
theorem munimentref5_Good.calls (k : Nat) (A0 : Option Addr) (c0 : Nat) (l0 : List Int) (r : Bool) (w : World) (hr0 : Kd.C (Kd.int .u8) w A0 l0.length l0) (hc0 : l0.length ≤ c0) (h : munimentref5_Good.f k l0 = some r) :
    Calls Try.prog 21 #[.slice A0 l0.length c0] w fun e w' => e = .returned (.bool r) ∧ Below w.heap.size w w' := by
  have HR0 := Aside0.mk hr0
  have HC0 := Aside0.mk hc0
  clear hr0 hc0
  have HB := Aside0.mk (Below.refl w.heap.size w)
  have H : (if (l0.length : Int) = 512 then (if 13 < (l0.length : Int) then (munimentref5_Good.j0 k l0 ((rd l0 13) != 0)) else (none)) else (munimentref5_Good.j0 k l0 true)) = some r := h
  clear h
  have HC2 := Aside0.mk H
  clear H
  go_enter Try.func21, Try.ntmps21
  go_upto_region 1 with (fail)
  go_cut [18] (fun v18 wc => ∃ (kq : Nat) (x18_1 : Bool), v18 = .bool x18_1 ∧ Aside0 (munimentref5_Good.j0 kq l0 x18_1 = some r) ∧ Aside0 (kq ≤ k) ∧ Aside0 (Below w.heap.size w wc))
  case first =>
    have H := HC2.out
    clear HC2
    by_cases c3 : (l0.length : Int) = 512
    · rw [if_pos c3] at H
      have c3b0 : ((l0.length : Int) == 512) = true := beq_iff_eq.mpr c3
      have c3b1 : ((l0.length : Int) != 512) = false := bne_eq_false_iff_eq.mpr c3
      clear c3
      (first | rw [c3b0] | (simp only [i64_w, i32_w]; rw [c3b0]) | skip)
      by_cases c4 : 13 < (l0.length : Int)
      · rw [if_pos c4] at H
        have c4b0 : decide (13 < (l0.length : Int)) = true := decide_eq_true c4
        have c4b1 : decide (13 < l0.length) = true := decide_eq_true (by omega)
        clear c4
        have H' := Aside0.mk H
        clear H
        have p135 : 0 ≤ (13 : Int) := (by omega)
        have q135 : 13 < (l0.length : Int) := of_decide_eq_true (by first | (with_reducible assumption) | assumption)
        obtain ⟨ad135, e135, hx135_0⟩ := Kd.at_int HR0.out 13 p135 q135
        cases e135
        (try simp only [show (13 : Int).toNat = 13 from rfl, Nat.reduceMul, Nat.reduceEqDiff, Go.Addr.add, ↓reduceIte] at hx135_0)
        have qi135 : (13 < l0.length) = True := eq_true (by omega)
        (try rw [show ((13 : Int)).toNat = 13 from rfl] at hx135_0)
        replace hx135_0 := (HB.out.cell (World.block_lt_of_cell? w _ hx135_0)).trans hx135_0
        replace p135 := eq_true p135
        replace q135 := eq_true q135
        go_wp2
        go_meet
        case rel => exact ⟨_, (((rd l0 13) != 0)), (by first | rfl | (simp; done) | (simp [*]; done)), H', ⟨by first | omega | exact Nat.le_refl _⟩, ⟨by repeat (first | (with_reducible first | exact HB.out | apply below_alloc | apply pw_below_drewN | apply below_drew1) | exact HB.out)⟩⟩
      · rw [if_neg c4] at H
        exact absurd H (by simp)
    · rw [if_neg c3] at H
      have c3b0 : ((l0.length : Int) == 512) = false := beq_eq_false_iff_ne.mpr c3
      have c3b1 : ((l0.length : Int) != 512) = true := bne_iff_ne.mpr c3
      (first | rw [c3b0] | (simp only [i64_w, i32_w]; rw [c3b0]) | skip)
      have H' := Aside0.mk H
      clear H
      go_wp2
      go_meet
      case rel => exact ⟨_, (true), (by first | rfl | (simp; done) | (simp [*]; done)), H', ⟨by first | omega | exact Nat.le_refl _⟩, ⟨by repeat (first | (with_reducible first | exact HB.out | apply below_alloc | apply pw_below_drewN | apply below_drew1) | exact HB.out)⟩⟩
  case rest =>
    clear HC2
    try clear p1
    try clear q1
    try clear hx1
    try clear qi1
    try clear c2
    try clear p2
    try clear c3
    try clear c3b0
    try clear c3b1
    try clear c4
    try clear c4b0
    try clear c4b1
    try clear hx135_0
    try clear p135
    try clear q135
    obtain ⟨kq, x18_1, rfl, HA, HJ1, HB⟩ := hcut
    cases kq with
    | zero => exact absurd HA.out (by simp [munimentref5_Good.j0])
    | succ kj1 =>
      have H := HA.out
      clear HA
      simp only [munimentref5_Good.j0] at H
      by_cases c5 : x18_1 = true
      · subst c5
        have H1 : (some false) = some r := by rw [if_pos rfl] at H; exact H
        clear H
        have H := H1
        clear H1
        obtain rfl := Option.some.inj H
        go_wp2
        go_ret
        exact ⟨by first | rfl | (simp [errW_none, errW_some] <;> rfl) | (simp [*, errW_none, errW_some] <;> rfl), by repeat (first | (with_reducible first | exact HB.out | apply below_alloc | apply pw_below_drewN | apply below_drew1) | exact HB.out)⟩
      · replace c5 := Bool.eq_false_iff.mpr c5
        subst c5
        have H1 : ((munimentref5_Count.f kj1 l0).bind fun t136 => ((munimentref5_Low.f kj1 l0).bind fun t137 => (if (wrap64 (26 + (wrap64 (4 * t136)))) > t137 then (munimentref5_Good.j1 kj1 l0 t136 t137 true) else (munimentref5_Good.j1 kj1 l0 t136 t137 (decide (t137 > 512)))))) = some r := by rw [if_neg (show ¬ (false = true) by decide)] at H; exact H
        clear H
        have H := H1
        clear H1
        replace H := Option.bind_eq_some_iff.mp H
        obtain ⟨t136, A60, H⟩ := H
        replace H : ((munimentref5_Low.f kj1 l0).bind fun t137 => (if (wrap64 (26 + (wrap64 (4 * t136)))) > t137 then (munimentref5_Good.j1 kj1 l0 t136 t137 true) else (munimentref5_Good.j1 kj1 l0 t136 t137 (decide (t137 > 512))))) = some r := H
        have A6 := Aside0.mk A60
        clear A60
        replace H := Option.bind_eq_some_iff.mp H
        obtain ⟨t137, A70, H⟩ := H
        replace H : (if (wrap64 (26 + (wrap64 (4 * t136)))) > t137 then (munimentref5_Good.j1 kj1 l0 t136 t137 true) else (munimentref5_Good.j1 kj1 l0 t136 t137 (decide (t137 > 512)))) = some r := H
        have A7 := Aside0.mk A70
        clear A70
        have HC8 := Aside0.mk H
        clear H
        go_upto_region 5 with (first | ((with_reducible refine gate_callee (f := 23) rfl ?_); refine goesL_ (some 20) rfl rfl Try.func23 (by kernel_rfl) rfl #[.slice A0 l0.length c0] rfl (by (try simp only [List.map_toArray, List.map_cons, List.map_nil]); first | done | rfl | (simp only [List.length_drop, List.length_take]; rfl)) ?_; (with_reducible refine (munimentref5_Count.calls kj1 _ _ l0 t136 _ ?side1 ?side2 A6.out).mono ?_); (case side1 => repeat (first | exact (Kd.C_below HR0.out HB.out) | (with_reducible refine Kd.C_alloc ?_ _) | (with_reducible refine Kd.C_drewN ?_ _) | (with_reducible refine Kd.C_drew ?_))); (case side2 => exact HC0.out); rintro e w' ⟨rfl, ⟨nd, rfl⟩⟩; refine ⟨_, rfl, ?_⟩) | ((with_reducible refine gate_callee (f := 18) rfl ?_); refine goesL_ (some 22) rfl rfl Try.func18 (by kernel_rfl) rfl #[.slice A0 l0.length c0] rfl (by (try simp only [List.map_toArray, List.map_cons, List.map_nil]); first | done | rfl | (simp only [List.length_drop, List.length_take]; rfl)) ?_; (with_reducible refine (munimentref5_Low.calls kj1 _ _ l0 t137 _ ?side1 ?side2 A7.out).mono ?_); (case side1 => repeat (first | exact (Kd.C_below HR0.out (by repeat (first | (with_reducible first | exact HB.out | apply below_alloc | apply pw_below_drewN | apply below_drew1) | exact HB.out))) | (with_reducible refine Kd.C_alloc ?_ _) | (with_reducible refine Kd.C_drewN ?_ _) | (with_reducible refine Kd.C_drew ?_))); (case side2 => exact HC0.out); rintro e w' ⟨rfl, ⟨nd, rfl⟩⟩; refine ⟨_, rfl, ?_⟩))
        (try simp only [Act.put, List.setIfInBounds_toArray, List.set_cons_zero, List.set_cons_succ])
        go_cut [31] (fun v31 wc => ∃ (kq : Nat) (x31_7 : Bool), v31 = .bool x31_7 ∧ Aside0 (munimentref5_Good.j1 kq l0 t136 t137 x31_7 = some r) ∧ Aside0 (kq ≤ kj1) ∧ Aside0 (Below w.heap.size w wc))
        case first =>
          have H := HC8.out
          clear HC8
          by_cases c9 : (wrap64 (26 + (wrap64 (4 * t136)))) > t137
          · rw [if_pos c9] at H
            have c9b0 : decide (t137 < (wrap64 (26 + (wrap64 (4 * t136))))) = true := decide_eq_true c9
            clear c9
            (first | rw [c9b0] | (simp only [i64_w, i32_w]; rw [c9b0]) | skip)
            have H' := Aside0.mk H
            clear H
            go_wp2
            go_meet
            case rel => exact ⟨_, (true), (by first | rfl | (simp; done) | (simp [*]; done)), H', ⟨by have := HJ1.out; first | omega | exact Nat.le_refl _⟩, ⟨by repeat (first | (with_reducible first | exact HB.out | apply below_alloc | apply pw_below_drewN | apply below_drew1) | exact HB.out)⟩⟩
          · rw [if_neg c9] at H
            have c9b0 : decide (t137 < (wrap64 (26 + (wrap64 (4 * t136))))) = false := decide_eq_false c9
            clear c9
            (first | rw [c9b0] | (simp only [i64_w, i32_w]; rw [c9b0]) | skip)
            have H' := Aside0.mk H
            clear H
            go_wp2
            go_meet
            case rel => exact ⟨_, (decide (t137 > 512)), (by first | rfl | (simp; done) | (simp [*]; done)), H', ⟨by have := HJ1.out; first | omega | exact Nat.le_refl _⟩, ⟨by repeat (first | (with_reducible first | exact HB.out | apply below_alloc | apply pw_below_drewN | apply below_drew1) | exact HB.out)⟩⟩
        case rest =>
          clear HC8
          try clear c1
          try clear p1
          try clear q1
          try clear hx1
          try clear qi1
          try clear c2
          try clear p2
          try clear c3
          try clear c3b0
          try clear c3b1
          try clear c4
          try clear c4b0
          try clear c4b1
          try clear c5
          try clear p6
          try clear c9
          try clear c9b0
          try clear hx135_0
          try clear p1
          try clear p135
          try clear p2
          try clear q1
          try clear q135
          obtain ⟨kq, x31_7, rfl, HA, HJ7, HB⟩ := hcut
          cases kq with
          | zero => exact absurd HA.out (by simp [munimentref5_Good.j1])
          | succ kj7 =>
            have H := HA.out
            clear HA
            simp only [munimentref5_Good.j1] at H
            by_cases c10 : x31_7 = true
            · subst c10
              have H1 : (some false) = some r := by rw [if_pos rfl] at H; exact H
              clear H
              have H := H1
              clear H1
              obtain rfl := Option.some.inj H
              go_wp2
              go_ret
              exact ⟨by first | rfl | (simp [errW_none, errW_some] <;> rfl) | (simp [*, errW_none, errW_some] <;> rfl), by repeat (first | (with_reducible first | exact HB.out | apply below_alloc | apply pw_below_drewN | apply below_drew1) | exact HB.out)⟩
            · replace c10 := Bool.eq_false_iff.mpr c10
              subst c10
              have H1 : (if 512 ≤ 281474976710656 then (munimentref5_Good.l0 kj7 l0 t136 t137 (List.replicate 512 false) 0) else (none)) = some r := by rw [if_neg (show ¬ (false = true) by decide)] at H; exact H
              clear H
              have H := H1
              clear H1
              by_cases c11 : 512 ≤ 281474976710656
              · rw [if_pos c11] at H
                have c11b0 := eq_true c11
                have c11b1 : decide (512 ≤ 281474976710656) = true := decide_eq_true c11
                clear c11
                obtain ⟨y138, hy138⟩ : ∃ y_ : List Bool, y_ = (List.replicate 512 false) := ⟨_, rfl⟩
                replace H : (munimentref5_Good.l0 kj7 l0 t136 t137 y138 0) = some r := by first | (rw [hy138]; with_reducible exact H) | (have H2_ := (Option.bind_some _ _).symm.trans H; rw [hy138]; with_reducible exact H2_) | (have H2_ := (Option.bind_some _ _).symm.trans H; with_reducible exact H2_) | with_reducible exact H | (rw [hy138]; exact H) | exact H
                have Ny138 := Aside0.mk hy138
                clear hy138
                have H' := Aside0.mk H
                clear H
                go_wp2_with (first | ((with_reducible refine gate_dst (N := 32) rfl ?_); refine Kd.R_make Kd.bool _ 4 rfl (N := 32) rfl 76 _ _ rfl 512 rfl rfl Try.underlying76 (.bool false) 1 info4 rfl (by decide) (by omega) false (ok := fun _ => True) (okp := fun _ => True) rfl (fun _ hk => hk) trivial (by omega) (by omega) (Below.refl _ _) (Nat.le_refl _) ?_; intro v139 w12 ho13 hb hg_ hnew_; clear hg_ hnew_; (first | rw [← Ny138.out] at ho13 | (simp only [Int.reduceToNat] at ho13; rw [← Ny138.out] at ho13)); have n0_ := Aside0.mk (Kd.R_lower ho13 (below_size (by repeat (first | (with_reducible first | exact HB.out | apply below_alloc | apply pw_below_drewN | apply below_drew1) | exact HB.out)))); have n1_ := Aside0.mk (below_step (by repeat (first | (with_reducible first | exact HB.out | apply below_alloc | apply pw_below_drewN | apply below_drew1) | exact HB.out)) hb); clear HB; have HO140 := n0_; have HB := n1_; clear n0_ n1_; clear hb ho13))
                go_loopg [6] kj7 (fun kq v6 w' => ∃ (x5_3 : List Bool) (x6_3 : Int), v6 = .int .i64 x6_3 ∧ Aside0 (munimentref5_Good.l0 kq l0 t136 t137 x5_3 x6_3 = some r) ∧ Aside0 (kq ≤ kj7) ∧ Aside0 (Kd.R Kd.bool 4 w' w.heap.size (fun _ => True) v139 x5_3) ∧ Aside0 (Below w.heap.size w w'))
                case atStart => exact ⟨(y138), (0), (by first | rfl | (simp; done) | (simp [*]; done)), H', ⟨Nat.le_refl _⟩, ⟨by (with_reducible repeat (first | apply Kd.R_alloc | apply Kd.R_drewN | apply Kd.R_drew)); exact HO140.out⟩, ⟨by repeat (first | (with_reducible first | exact HB.out | apply below_alloc | apply pw_below_drewN | apply below_drew1) | exact HB.out)⟩⟩
                case round =>
                  clear H'
                  try clear c1
                  try clear p1
                  try clear q1
                  try clear hx1
                  try clear qi1
                  try clear c2
                  try clear p2
                  try clear c3
                  try clear c3b0
                  try clear c3b1
                  try clear c4
                  try clear c4b0
                  try clear c4b1
                  try clear c5
                  try clear p6
                  try clear c9
                  try clear c9b0
                  try clear c10
                  try clear c11
                  try clear c11b0
                  try clear c11b1
                  try clear p13
                  try clear q13
                  try clear hx13
                  try clear qi13
                  try clear hx135_0
                  try clear p1
                  try clear p135
                  try clear p2
                  try clear p6
                  try clear q1
                  try clear q135
                  obtain ⟨x5_3, x6_3, rfl, HA, HK3, HO_5, HB⟩ := hrel
                  cases gk with
                  | zero => exact absurd HA.out (by simp [munimentref5_Good.l0])
                  | succ k3 =>
                    have H := HA.out
                    clear HA
                    simp only [munimentref5_Good.l0] at H
                    by_cases c14 : x6_3 < t136
                    · rw [if_pos c14] at H
                      have c14b0 : decide (x6_3 < t136) = true := decide_eq_true c14
                      clear c14
                      replace H := Option.bind_eq_some_iff.mp H
                      obtain ⟨⟨t141, t142⟩, A150, H⟩ := H
                      replace H : (if t141 < t137 then (munimentref5_Good.j3 k3 l0 t136 t137 x5_3 x6_3 t141 t142 true) else (munimentref5_Good.j3 k3 l0 t136 t137 x5_3 x6_3 t141 t142 (decide ((wrap64 (t141 + t142)) > 512)))) = some r := H
                      have A15 := Aside0.mk A150
                      clear A150
                      have HC16 := Aside0.mk H
                      clear H
                      go_upto_region 12 with (first | ((with_reducible refine gate_callee (f := 57) rfl ?_); refine goesL_ (some 41) rfl rfl Try.func57 (by kernel_rfl) rfl #[.slice A0 l0.length c0, .int .i64 x6_3] rfl (by (try simp only [List.map_toArray, List.map_cons, List.map_nil]); first | done | rfl | (simp only [List.length_drop, List.length_take]; rfl)) ?_; (with_reducible refine (munimentref5_slot.calls k3 _ _ l0 x6_3 t141 t142 _ ?side1 ?side2 A15.out).mono ?_); (case side1 => repeat (first | exact (Kd.C_below HR0.out HB.out) | (with_reducible refine Kd.C_alloc ?_ _) | (with_reducible refine Kd.C_drewN ?_ _) | (with_reducible refine Kd.C_drew ?_))); (case side2 => exact HC0.out); rintro e w' ⟨rfl, ⟨nd, rfl⟩⟩; refine ⟨_, rfl, ?_⟩))
                      (try simp only [Act.put, List.setIfInBounds_toArray, List.set_cons_zero, List.set_cons_succ])
                      go_cut [52] (fun v52 wc => ∃ (kq : Nat) (x52_15 : Bool), v52 = .bool x52_15 ∧ Aside0 (munimentref5_Good.j3 kq l0 t136 t137 x5_3 x6_3 t141 t142 x52_15 = some r) ∧ Aside0 (kq ≤ k3) ∧ Aside0 (Kd.R Kd.bool 4 wc w.heap.size (fun _ => True) v139 x5_3) ∧ Aside0 (Below w.heap.size w wc))
                      case first =>
                        have H := HC16.out
                        clear HC16
                        by_cases c17 : t141 < t137
                        · rw [if_pos c17] at H
                          have c17b0 : decide (t141 < t137) = true := decide_eq_true c17
                          clear c17
                          (first | rw [c17b0] | (simp only [i64_w, i32_w]; rw [c17b0]) | skip)
                          have H' := Aside0.mk H
                          clear H
                          go_wp2
                          go_meet
                          case rel => exact ⟨_, (true), (by first | rfl | (simp; done) | (simp [*]; done)), H', ⟨by have := HJ1.out; have := HJ7.out; have := HK3.out; first | omega | exact Nat.le_refl _⟩, ⟨by (with_reducible repeat (first | apply Kd.R_alloc | apply Kd.R_drewN | apply Kd.R_drew)); exact HO_5.out⟩, ⟨by repeat (first | (with_reducible first | exact HB.out | apply below_alloc | apply pw_below_drewN | apply below_drew1) | exact HB.out)⟩⟩
                        · rw [if_neg c17] at H
                          have c17b0 : decide (t141 < t137) = false := decide_eq_false c17
                          clear c17
                          (first | rw [c17b0] | (simp only [i64_w, i32_w]; rw [c17b0]) | skip)
                          have H' := Aside0.mk H
                          clear H
                          go_wp2
                          go_meet
                          case rel => exact ⟨_, (decide ((wrap64 (t141 + t142)) > 512)), (by first | rfl | (simp; done) | (simp [*]; done)), H', ⟨by have := HJ1.out; have := HJ7.out; have := HK3.out; first | omega | exact Nat.le_refl _⟩, ⟨by (with_reducible repeat (first | apply Kd.R_alloc | apply Kd.R_drewN | apply Kd.R_drew)); exact HO_5.out⟩, ⟨by repeat (first | (with_reducible first | exact HB.out | apply below_alloc | apply pw_below_drewN | apply below_drew1) | exact HB.out)⟩⟩
                      case rest =>
                        clear HC16
                        try clear c1
                        try clear p1
                        try clear q1
                        try clear hx1
                        try clear qi1
                        try clear c2
                        try clear p2
                        try clear c3
                        try clear c3b0
                        try clear c3b1
                        try clear c4
                        try clear c4b0
                        try clear c4b1
                        try clear c5
                        try clear p6
                        try clear c9
                        try clear c9b0
                        try clear c10
                        try clear c11
                        try clear c11b0
                        try clear c11b1
                        try clear p13
                        try clear q13
                        try clear hx13
                        try clear qi13
                        try clear c14
                        try clear c14b0
                        try clear c17
                        try clear c17b0
                        try clear hx135_0
                        try clear p1
                        try clear p13
                        try clear p135
                        try clear p2
                        try clear p6
                        try clear q1
                        try clear q13
                        try clear q135
                        obtain ⟨kq, x52_15, rfl, HA, HJ15, HO_5, HB⟩ := hcut
                        cases kq with
                        | zero => exact absurd HA.out (by simp [munimentref5_Good.j3])
                        | succ kj15 =>
                          have H := HA.out
                          clear HA
                          simp only [munimentref5_Good.j3] at H
                          by_cases c18 : x52_15 = true
                          · subst c18
                            have H1 : (some false) = some r := by rw [if_pos rfl] at H; exact H
                            clear H
                            have H := H1
                            clear H1
                            obtain rfl := Option.some.inj H
                            go_wp2
                            go_ret
                            exact ⟨by first | rfl | (simp [errW_none, errW_some] <;> rfl) | (simp [*, errW_none, errW_some] <;> rfl), by repeat (first | (with_reducible first | exact HB.out | apply below_alloc | apply pw_below_drewN | apply below_drew1) | exact HB.out)⟩
                          · replace c18 := Bool.eq_false_iff.mpr c18
                            subst c18
                            have H1 : (munimentref5_Good.l1 kj15 l0 t136 t137 x5_3 x6_3 t141 t142 t141) = some r := by rw [if_neg (show ¬ (false = true) by decide)] at H; exact H
                            clear H
                            have H := H1
                            clear H1
                            have H' := Aside0.mk H
                            clear H
                            go_wp2
                            go_loopg [9] kj15 (fun kq v9 w' => ∃ (x5_5 : List Bool) (x9_5 : Int), v9 = .int .i64 x9_5 ∧ Aside0 (munimentref5_Good.l1 kq l0 t136 t137 x5_5 x6_3 t141 t142 x9_5 = some r) ∧ Aside0 (kq ≤ kj15) ∧ Aside0 (Kd.R Kd.bool 4 w' w.heap.size (fun _ => True) v139 x5_5) ∧ Aside0 (Below w.heap.size w w'))
                            case atStart => exact ⟨(x5_3), (t141), (by first | rfl | (simp; done) | (simp [*]; done)), H', ⟨Nat.le_refl _⟩, ⟨by (with_reducible repeat (first | apply Kd.R_alloc | apply Kd.R_drewN | apply Kd.R_drew)); exact HO_5.out⟩, ⟨by repeat (first | (with_reducible first | exact HB.out | apply below_alloc | apply pw_below_drewN | apply below_drew1) | exact HB.out)⟩⟩
                            case round =>
                              clear H'
                              try clear c1
                              try clear p1
                              try clear q1
                              try clear hx1
                              try clear qi1
                              try clear c2
                              try clear p2
                              try clear c3
                              try clear c3b0
                              try clear c3b1
                              try clear c4
                              try clear c4b0
                              try clear c4b1
                              try clear c5
                              try clear p6
                              try clear c9
                              try clear c9b0
                              try clear c10
                              try clear c11
                              try clear c11b0
                              try clear c11b1
                              try clear p13
                              try clear q13
                              try clear hx13
                              try clear qi13
                              try clear c14
                              try clear c14b0
                              try clear c17
                              try clear c17b0
                              try clear c18
                              try clear hx135_0
                              try clear p1
                              try clear p13
                              try clear p135
                              try clear p2
                              try clear p6
                              try clear q1
                              try clear q13
                              try clear q135
                              obtain ⟨x5_5, x9_5, rfl, HA, HK5, HO_5, HB⟩ := hrel
                              cases gk with
                              | zero => exact absurd HA.out (by simp [munimentref5_Good.l1])
                              | succ k5 =>
                                have H := HA.out
                                clear HA
                                simp only [munimentref5_Good.l1] at H
                                by_cases c19 : x9_5 < (wrap64 (t141 + t142))
                                · rw [if_pos c19] at H
                                  have c19b0 : decide (x9_5 < (wrap64 (t141 + t142))) = true := decide_eq_true c19
                                  clear c19
                                  by_cases c20 : 0 ≤ x9_5
                                  · rw [if_pos c20] at H
                                    have c20b0 : decide (0 ≤ x9_5) = true := decide_eq_true c20
                                    clear c20
                                    by_cases c21 : x9_5 < (x5_5.length : Int)
                                    · rw [if_pos c21] at H
                                      have c21b0 : decide (x9_5 < (x5_5.length : Int)) = true := decide_eq_true c21
                                      clear c21
                                      obtain ⟨bq22, hbq22⟩ : ∃ b_ : Bool, b_ = (rdOf false x5_5 x9_5) := ⟨_, rfl⟩
                                      replace H : (if bq22 = true then (some false) else (munimentref5_Good.l1 k5 l0 t136 t137 (x5_5.set (x9_5 : Int).toNat true) x6_3 t141 t142 (wrap64 (x9_5 + 1)))) = some r := by rw [← hbq22] at H; exact H
                                      have Nbq22 := Aside0.mk hbq22
                                      clear hbq22
                                      by_cases c23 : bq22 = true
                                      · subst c23
                                        have H1 : (some false) = some r := by rw [if_pos rfl] at H; exact H
                                        clear H
                                        have H := H1
                                        clear H1
                                        obtain rfl := Option.some.inj H
                                        obtain ⟨Ao24, co24, eo24⟩ := Kd.R_slice HO_5.out
                                        subst eo24
                                        have p143 : 0 ≤ (x9_5 : Int) := of_decide_eq_true (by first | (with_reducible assumption) | assumption)
                                        have q143 : x9_5 < (x5_5.length : Int) := of_decide_eq_true (by first | (with_reducible assumption) | assumption)
                                        obtain ⟨ad143, e143, hx143_0⟩ := Kd.at_bool (Kd.R_reads' HO_5.out).2.2 x9_5 p143 q143
                                        (try rw [← Nbq22.out] at hx143_0)
                                        cases e143
                                        replace p143 := eq_true p143
                                        replace q143 := eq_true q143
                                        go_wp2
                                        go_ret
                                        exact ⟨by first | rfl | (simp [errW_none, errW_some] <;> rfl) | (simp [*, errW_none, errW_some] <;> rfl), by repeat (first | (with_reducible first | exact HB.out | apply below_alloc | apply pw_below_drewN | apply below_drew1) | exact HB.out)⟩
                                      · replace c23 := Bool.eq_false_iff.mpr c23
                                        subst c23
                                        have H1 : (munimentref5_Good.l1 k5 l0 t136 t137 (x5_5.set (x9_5 : Int).toNat true) x6_3 t141 t142 (wrap64 (x9_5 + 1))) = some r := by rw [if_neg (show ¬ (false = true) by decide)] at H; exact H
                                        clear H
                                        have H := H1
                                        clear H1
                                        obtain ⟨y144, hy144⟩ : ∃ y_ : List Bool, y_ = (x5_5.set (x9_5 : Int).toNat true) := ⟨_, rfl⟩
                                        replace H : (munimentref5_Good.l1 k5 l0 t136 t137 y144 x6_3 t141 t142 (wrap64 (x9_5 + 1))) = some r := by first | (rw [hy144]; with_reducible exact H) | (have H2_ := (Option.bind_some _ _).symm.trans H; rw [hy144]; with_reducible exact H2_) | (have H2_ := (Option.bind_some _ _).symm.trans H; with_reducible exact H2_) | with_reducible exact H | (rw [hy144]; exact H) | exact H
                                        have Ny144 := Aside0.mk hy144
                                        clear hy144
                                        have H' := Aside0.mk H
                                        clear H
                                        obtain ⟨Ao26, co26, eo26⟩ := Kd.R_slice HO_5.out
                                        subst eo26
                                        have p143 : 0 ≤ (x9_5 : Int) := of_decide_eq_true (by first | (with_reducible assumption) | assumption)
                                        have q143 : x9_5 < (x5_5.length : Int) := of_decide_eq_true (by first | (with_reducible assumption) | assumption)
                                        obtain ⟨ad143, e143, hx143_0⟩ := Kd.at_bool (Kd.R_reads' HO_5.out).2.2 x9_5 p143 q143
                                        (try rw [← Nbq22.out] at hx143_0)
                                        cases e143
                                        replace p143 := eq_true p143
                                        replace q143 := eq_true q143
                                        have p25 : 0 ≤ (x9_5 : Int) := of_decide_eq_true (by first | (with_reducible assumption) | assumption)
                                        have q25 : (x9_5 : Int) < ((x5_5.length : Int) : Int) := of_decide_eq_true (by first | (with_reducible assumption) | assumption)
                                        obtain ⟨go25, co25, eo25, gb25, gl25, cl25, HG25⟩ := Kd.R_form HO_5.out (by omega)
                                        (first | cases eo25 | (injection eo25 with ea_ en_ ec_; (first | subst ea_ | (injection ea_ with ea_; subst ea_)); subst ec_; clear en_))
                                        have GB25 := Aside0.mk gb25
                                        have GG25 := Aside0.mk HG25
                                        clear gb25 gl25 HG25
                                        (first | simp only [add_plain] at hx143_0 | skip)
                                        obtain ⟨hx25_0, hf25_0⟩ := Kd.R_celln false HO_5.out (x9_5 : Int) p25 q25
                                        replace p25 := eq_true p25
                                        replace q25 := eq_true q25
                                        have HP27 := Kd.R_putg HO_5.out (x9_5 : Int) true
                                        go_wp2_with (first | ((with_reducible refine gate_store (t := 4) (p := 67) rfl ?_); refine store_event (t := 4) (p := 67) (v := ?vo_w28) (w1 := (wr.setCell ⟨go25, (x9_5 : Int).toNat, none⟩ (.bool true))) ?hg ?ho ?hn ?hr ?_; (case ho => rfl); (case hg => rfl); (case hn => rfl); (case hr => first | (go_simp; done) | (go_simp; rfl)); intro w28 hw; have hg : wr.grownBy w28 (some go25) := (by rw [hw]; exact HP27.2); have hp_ : Kd.R Kd.bool 4 w28 w.heap.size (fun _ => True) (.slice (some ⟨go25, 0, none⟩) x5_5.length co26) y144 := (by rw [hw, Ny144.out]; exact HP27.1); clear HP27; have n0_ := Aside0.mk (hp_); have n1_ := Aside0.mk ((by rw [hw]; exact below_set (HB.out) GB25.out : Below w.heap.size w w28)); clear HO_5; clear HB; have HO_5 := n0_; have HB := n1_; clear n0_ n1_; clear hg hw hp_))
                                        go_roundg k5
                                        case measure => have := HJ1.out; have := HJ7.out; have := HK3.out; have := HJ15.out; have := HK5.out; omega
                                        case rel => exact ⟨(y144), (wrap64 (x9_5 + 1)), (by first | rfl | (simp; done) | (simp [*]; done)), H', ⟨by have := HJ1.out; have := HJ7.out; have := HK3.out; have := HJ15.out; have := HK5.out; omega⟩, ⟨by (with_reducible repeat (first | apply Kd.R_alloc | apply Kd.R_drewN | apply Kd.R_drew)); exact HO_5.out⟩, ⟨by repeat (first | (with_reducible first | exact HB.out | apply below_alloc | apply pw_below_drewN | apply below_drew1) | exact HB.out)⟩⟩
                                    · rw [if_neg c21] at H
                                      exact absurd H (by simp)
                                  · rw [if_neg c20] at H
                                    exact absurd H (by simp)
                                · rw [if_neg c19] at H
                                  have c19b0 : decide (x9_5 < (wrap64 (t141 + t142))) = false := decide_eq_false c19
                                  clear c19
                                  have H' := Aside0.mk H
                                  clear H
                                  go_wp2
                                  go_roundg k5
                                  case measure => have := HJ1.out; have := HJ7.out; have := HK3.out; have := HJ15.out; have := HK5.out; omega
                                  case rel => exact ⟨(x5_5), (wrap64 (x6_3 + 1)), (by first | rfl | (simp; done) | (simp [*]; done)), H', ⟨by have := HJ1.out; have := HJ7.out; have := HK3.out; have := HJ15.out; have := HK5.out; omega⟩, ⟨by (with_reducible repeat (first | apply Kd.R_alloc | apply Kd.R_drewN | apply Kd.R_drew)); exact HO_5.out⟩, ⟨by repeat (first | (with_reducible first | exact HB.out | apply below_alloc | apply pw_below_drewN | apply below_drew1) | exact HB.out)⟩⟩
                    · rw [if_neg c14] at H
                      have c14b0 : decide (x6_3 < t136) = false := decide_eq_false c14
                      clear c14
                      obtain rfl := Option.some.inj H
                      go_wp2
                      go_ret
                      exact ⟨by first | rfl | (simp [errW_none, errW_some] <;> rfl) | (simp [*, errW_none, errW_some] <;> rfl), by repeat (first | (with_reducible first | exact HB.out | apply below_alloc | apply pw_below_drewN | apply below_drew1) | exact HB.out)⟩
              · rw [if_neg c11] at H
                exact absurd H (by simp)

/-! ### munimentlaw5_told: function 22 -/
def munimentlaw5_told.f (l0 : List Int) (a1 : Int) (l2 : List Int) (a3 : Int) : Option (Bool) := if a1 = a3 then (some ((strOfNums l0).toList == (strOfNums l2).toList)) else (some false)
set_option maxHeartbeats 8000000 in
set_option maxRecDepth 100000 in
theorem munimentlaw5_told.calls (A0 : Option Addr) (c0 : Nat) (l0 : List Int) (a1 : Int) (A2 : Option Addr) (c2 : Nat) (l2 : List Int) (a3 : Int) (r : Bool) (w : World) (hr0 : Kd.C (Kd.int .u8) w A0 l0.length l0) (hc0 : l0.length ≤ c0) (hr2 : Kd.C (Kd.int .u8) w A2 l2.length l2) (hc2 : l2.length ≤ c2) (h : munimentlaw5_told.f l0 a1 l2 a3 = some r) :
    Calls Try.prog 22 #[.slice A0 l0.length c0, .int .i64 a1, .slice A2 l2.length c2, .int .i64 a3] w fun e w' => e = .returned (.bool r) ∧ Drawn0 w w' := by
  have HR0 := Aside0.mk hr0
  have HC0 := Aside0.mk hc0
  clear hr0 hc0
  have HR2 := Aside0.mk hr2
  have HC2 := Aside0.mk hc2
  clear hr2 hc2
  have H : (if a1 = a3 then (some ((strOfNums l0).toList == (strOfNums l2).toList)) else (some false)) = some r := h
  clear h
  by_cases c5 : a1 = a3
  · rw [if_pos c5] at H
    have c5b0 : (a1 == a3) = true := beq_iff_eq.mpr c5
    have c5b1 : (a1 != a3) = false := bne_eq_false_iff_eq.mpr c5
    clear c5
    obtain rfl := Option.some.inj H
    have hcv6 := Kd.C_string (P := Try.prog) (A := A0) (c := c0) Try.underlying22 Try.underlying5 Try.underlying9 HR0.out
    have hcv7 := Kd.C_string (P := Try.prog) (A := A2) (c := c2) Try.underlying22 Try.underlying5 Try.underlying9 HR2.out
    go_enter Try.func22, Try.ntmps22
    go_wp2
    go_ret
    exact ⟨by first | rfl | (simp; done) | (simp [*]; done), by repeat (first | exact Drawn0.refl _ | apply Drawn0.step)⟩
  · rw [if_neg c5] at H
    have c5b0 : (a1 == a3) = false := beq_eq_false_iff_ne.mpr c5
    have c5b1 : (a1 != a3) = true := bne_iff_ne.mpr c5
    obtain rfl := Option.some.inj H
    go_enter Try.func22, Try.ntmps22
    go_wp2
    go_ret
    exact ⟨by first | rfl | (simp; done) | (simp [*]; done), by repeat (first | exact Drawn0.refl _ | apply Drawn0.step)⟩

/-! ### munimentref5_Free: function 37 -/
def munimentref5_Free.l0 : Nat → List Int → Int → Int → Option (Int)
  | 0, _, _, _ => none
  | k + 1, x0, x3, x4 => (munimentref5_Count.f k x0).bind fun t146 => (if x4 < t146 then ((munimentref5_slot.f k x0 x4).bind fun bt147 => (munimentref5_Free.l0 k x0 (wrap64 (x3 - bt147.2)) (wrap64 (x4 + 1)))) else (some x3))
def munimentref5_Free.f (k : Nat) (l0 : List Int) : Option (Int) := (munimentref5_Count.f k l0).bind fun t145 => (munimentref5_Free.l0 k l0 (wrap64 (486 - (wrap64 (4 * t145)))) 0)
theorem munimentref5_Free.mono_l : ∀ k, (∀ y0 y1 y2, LeO (munimentref5_Free.l0 k y0 y1 y2) (munimentref5_Free.l0 (k + 1) y0 y1 y2))
  | 0 => fun _ _ _ r h => by simp [munimentref5_Free.l0] at h
  | k + 1 => by
    have ih0 := munimentref5_Free.mono_l k
    · intro y0 y1 y2
      unfold munimentref5_Free.l0
      repeat' first
      | (with_reducible exact ih0 _ _ _)
      | (with_reducible exact munimentref5_Count.mono _ _)
      | (with_reducible exact munimentref5_slot.mono _ _ _)
      | (with_reducible exact LeO.refl _)
      | (with_reducible exact LeO.none _)
      | (with_reducible refine LeO.ite ?_ ?_)
      | (with_reducible refine LeO.bind ?_ (fun _ => ?_))
      | exact ih0 _ _ _
      | exact munimentref5_Count.mono _ _
      | exact munimentref5_slot.mono _ _ _
      | exact LeO.none _
      | refine LeO.ite ?_ ?_
      | refine LeO.bind ?_ (fun _ => ?_)
theorem munimentref5_Free.mono : ∀ a0 k, LeO (munimentref5_Free.f k a0) (munimentref5_Free.f (k + 1) a0) := by
  intro a0 k
  have ih0 := munimentref5_Free.mono_l k
  unfold munimentref5_Free.f
  repeat' first
      | (with_reducible exact ih0 _ _ _)
      | (with_reducible exact munimentref5_Count.mono _ _)
      | (with_reducible exact munimentref5_slot.mono _ _ _)
      | (with_reducible exact LeO.refl _)
      | (with_reducible exact LeO.none _)
      | (with_reducible refine LeO.ite ?_ ?_)
      | (with_reducible refine LeO.bind ?_ (fun _ => ?_))
      | exact ih0 _ _ _
      | exact munimentref5_Count.mono _ _
      | exact munimentref5_slot.mono _ _ _
      | exact LeO.none _
      | refine LeO.ite ?_ ?_
      | refine LeO.bind ?_ (fun _ => ?_)
set_option maxHeartbeats 8000000 in
set_option maxRecDepth 100000 in
theorem munimentref5_Free.calls (k : Nat) (A0 : Option Addr) (c0 : Nat) (l0 : List Int) (r : Int) (w : World) (hr0 : Kd.C (Kd.int .u8) w A0 l0.length l0) (hc0 : l0.length ≤ c0) (h : munimentref5_Free.f k l0 = some r) :
    Calls Try.prog 37 #[.slice A0 l0.length c0] w fun e w' => e = .returned (.int .i64 r) ∧ Drawn0 w w' := by
  have HR0 := Aside0.mk hr0
  have HC0 := Aside0.mk hc0
  clear hr0 hc0
  have H : ((munimentref5_Count.f k l0).bind fun t145 => (munimentref5_Free.l0 k l0 (wrap64 (486 - (wrap64 (4 * t145)))) 0)) = some r := h
  clear h
  replace H := Option.bind_eq_some_iff.mp H
  obtain ⟨t145, A20, H⟩ := H
  replace H : (munimentref5_Free.l0 k l0 (wrap64 (486 - (wrap64 (4 * t145)))) 0) = some r := H
  have A2 := Aside0.mk A20
  clear A20
  have H' := Aside0.mk H
  clear H
  go_enter Try.func37, Try.ntmps37
  go_wp2_with (first | ((with_reducible refine gate_callee (f := 23) rfl ?_); refine goesL_ (some 8) rfl rfl Try.func23 (by kernel_rfl) rfl #[.slice A0 l0.length c0] rfl (by (try simp only [List.map_toArray, List.map_cons, List.map_nil]); first | done | rfl | (simp only [List.length_drop, List.length_take]; rfl)) ?_; (with_reducible refine (munimentref5_Count.calls k _ _ l0 t145 _ ?side1 ?side2 A2.out).mono ?_); (case side1 => repeat (first | exact HR0.out | (with_reducible refine Kd.C_alloc ?_ _) | (with_reducible refine Kd.C_drewN ?_ _) | (with_reducible refine Kd.C_drew ?_))); (case side2 => exact HC0.out); rintro e w' ⟨rfl, ⟨nd, rfl⟩⟩; refine ⟨_, rfl, ?_⟩))
  go_loopg [3, 4] k (fun kq v3 v4 w' => ∃ (x3_1 : Int) (x4_1 : Int), v3 = .int .i64 x3_1 ∧ v4 = .int .i64 x4_1 ∧ Aside0 (munimentref5_Free.l0 kq l0 x3_1 x4_1 = some r) ∧ Aside0 (kq ≤ k) ∧ Drawn0 w w')
  case atStart => exact ⟨(wrap64 (486 - (wrap64 (4 * t145)))), (0), (by first | rfl | (simp; done) | (simp [*]; done)), (by first | rfl | (simp; done) | (simp [*]; done)), H', ⟨Nat.le_refl _⟩, by repeat (first | exact Drawn0.refl _ | apply Drawn0.step)⟩
  case round =>
    clear H'
    try clear c2
    try clear p2
    obtain ⟨x3_1, x4_1, rfl, rfl, HA, HK1, ⟨m1, rfl⟩⟩ := hrel
    cases gk with
    | zero => exact absurd HA.out (by simp [munimentref5_Free.l0])
    | succ k1 =>
      have H := HA.out
      clear HA
      simp only [munimentref5_Free.l0] at H
      replace H := Option.bind_eq_some_iff.mp H
      obtain ⟨t146, A30, H⟩ := H
      replace H : (if x4_1 < t146 then ((munimentref5_slot.f k1 l0 x4_1).bind fun bt147 => (munimentref5_Free.l0 k1 l0 (wrap64 (x3_1 - bt147.2)) (wrap64 (x4_1 + 1)))) else (some x3_1)) = some r := H
      have A3 := Aside0.mk A30
      clear A30
      by_cases c4 : x4_1 < t146
      · rw [if_pos c4] at H
        have c4b0 : decide (x4_1 < t146) = true := decide_eq_true c4
        clear c4
        replace H := Option.bind_eq_some_iff.mp H
        obtain ⟨⟨t147, t148⟩, A50, H⟩ := H
        replace H : (munimentref5_Free.l0 k1 l0 (wrap64 (x3_1 - t148)) (wrap64 (x4_1 + 1))) = some r := H
        have A5 := Aside0.mk A50
        clear A50
        have H' := Aside0.mk H
        clear H
        go_wp2_with (first | ((with_reducible refine gate_callee (f := 23) rfl ?_); refine goesL_ (some 13) rfl rfl Try.func23 (by kernel_rfl) rfl #[.slice A0 l0.length c0] rfl (by (try simp only [List.map_toArray, List.map_cons, List.map_nil]); first | done | rfl | (simp only [List.length_drop, List.length_take]; rfl)) ?_; (with_reducible refine (munimentref5_Count.calls k1 _ _ l0 t146 _ ?side1 ?side2 A3.out).mono ?_); (case side1 => repeat (first | exact HR0.out | (with_reducible refine Kd.C_alloc ?_ _) | (with_reducible refine Kd.C_drewN ?_ _) | (with_reducible refine Kd.C_drew ?_))); (case side2 => exact HC0.out); rintro e w' ⟨rfl, ⟨nd, rfl⟩⟩; refine ⟨_, rfl, ?_⟩) | ((with_reducible refine gate_callee (f := 57) rfl ?_); refine goesL_ (some 20) rfl rfl Try.func57 (by kernel_rfl) rfl #[.slice A0 l0.length c0, .int .i64 x4_1] rfl (by (try simp only [List.map_toArray, List.map_cons, List.map_nil]); first | done | rfl | (simp only [List.length_drop, List.length_take]; rfl)) ?_; (with_reducible refine (munimentref5_slot.calls k1 _ _ l0 x4_1 t147 t148 _ ?side1 ?side2 A5.out).mono ?_); (case side1 => repeat (first | exact HR0.out | (with_reducible refine Kd.C_alloc ?_ _) | (with_reducible refine Kd.C_drewN ?_ _) | (with_reducible refine Kd.C_drew ?_))); (case side2 => exact HC0.out); rintro e w' ⟨rfl, ⟨nd, rfl⟩⟩; refine ⟨_, rfl, ?_⟩))
        go_roundg k1
        case measure => have := HK1.out; omega
        case rel => exact ⟨(wrap64 (x3_1 - t148)), (wrap64 (x4_1 + 1)), (by first | rfl | (simp; done) | (simp [*]; done)), (by first | rfl | (simp; done) | (simp [*]; done)), H', ⟨by have := HK1.out; omega⟩, by repeat (first | exact Drawn0.refl _ | apply Drawn0.step)⟩
      · rw [if_neg c4] at H
        have c4b0 : decide (x4_1 < t146) = false := decide_eq_false c4
        clear c4
        obtain rfl := Option.some.inj H
        go_wp2_with (first | ((with_reducible refine gate_callee (f := 23) rfl ?_); refine goesL_ (some 13) rfl rfl Try.func23 (by kernel_rfl) rfl #[.slice A0 l0.length c0] rfl (by (try simp only [List.map_toArray, List.map_cons, List.map_nil]); first | done | rfl | (simp only [List.length_drop, List.length_take]; rfl)) ?_; (with_reducible refine (munimentref5_Count.calls k1 _ _ l0 t146 _ ?side1 ?side2 A3.out).mono ?_); (case side1 => repeat (first | exact HR0.out | (with_reducible refine Kd.C_alloc ?_ _) | (with_reducible refine Kd.C_drewN ?_ _) | (with_reducible refine Kd.C_drew ?_))); (case side2 => exact HC0.out); rintro e w' ⟨rfl, ⟨nd, rfl⟩⟩; refine ⟨_, rfl, ?_⟩))
        go_ret
        exact ⟨by first | rfl | (simp; done) | (simp [*]; done), by repeat (first | exact Drawn0.refl _ | apply Drawn0.step)⟩

end Go.Proofs.Ytpogneedafoiaaa.Rf
