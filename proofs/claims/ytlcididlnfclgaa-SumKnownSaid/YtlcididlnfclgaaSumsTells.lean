/- The walk of SumTells, as the kit's print of this claim lays it, behind one namespace. -/
import Derived.Test.YtlcididlnfclgaaSums2
import Derived.Test.YtlcididlnfclgaaSums2
namespace Go.Proofs.Ytlcididlnfclgaa.Sums
open Go.RowKit Go.Proofs.YtlcididlnfclgaaW.PrintWords Go.Proofs.YtlcididlnfclgaaW.PrintLast Go.Proofs.YtlcididlnfclgaaW.PrintMore
attribute [local go_sem] max2_int min2_int max_two min_two max_three min_three max_four min_four   -- for this text's walks alone
set_option linter.unusedVariables false
set_option linter.unusedSimpArgs false

/-! ### munimentlaw1_SumTells: function 3 -/
mutual
def munimentlaw1_SumTells.j0 : Nat → List Int → Int → Int → Bool → Option (Bool)
  | 0, _, _, _, _ => none
  | k + 1, x0, x1, x2, x18 => if x18 = true then (some true) else (if (wrap64 (8 * (x0.length : Int))) = 0 then (none) else (if (Int.tmod x1 (wrap64 (8 * (x0.length : Int)))) < 0 then (munimentlaw1_SumTells.j1 k x0 x2 (wrap64 (-(Int.tmod x1 (wrap64 (8 * (x0.length : Int))))))) else (munimentlaw1_SumTells.j1 k x0 x2 (Int.tmod x1 (wrap64 (8 * (x0.length : Int)))))))
def munimentlaw1_SumTells.j1 : Nat → List Int → Int → Int → Option (Bool)
  | 0, _, _, _ => none
  | k + 1, x0, x2, x7 => (some (([] : List Int) : List Int)).bind fun y117 => (if y117.length + x0.length < 140737488355328 then (munimentlaw1_SumTells.l0 k x0 x2 x7 (y117 ++ x0) 0) else (none))
def munimentlaw1_SumTells.l0 : Nat → List Int → Int → Int → List Int → Int → Option (Bool)
  | 0, _, _, _, _, _ => none
  | k + 1, x0, x2, x7, x8, x9 => if x9 < 32 then (munimentlaw1_SumTells.j3 k x0 x2 x7 x8 x9 (decide ((wrap64 (x7 + x9)) < (wrap64 (8 * (x8.length : Int)))))) else (munimentlaw1_SumTells.j3 k x0 x2 x7 x8 x9 false)
def munimentlaw1_SumTells.j3 : Nat → List Int → Int → Int → List Int → Int → Bool → Option (Bool)
  | 0, _, _, _, _, _, _ => none
  | k + 1, x0, x2, x7, x8, x9, x41 => if x41 = true then (if 0 ≤ (IntKind.u64.wrap (x9)) then (if (Go.bits .and .u32 (shr .u32 x2 (IntKind.u64.wrap (x9))) 1) = 1 then (if 0 ≤ (wrap64 (Int.tdiv (wrap64 (x7 + x9)) 8)) then (if (wrap64 (Int.tdiv (wrap64 (x7 + x9)) 8)) < (x8.length : Int) then (if 0 ≤ (IntKind.u64.wrap (Int.tmod (wrap64 (x7 + x9)) 8)) then (munimentlaw1_SumTells.l0 k x0 x2 x7 (x8.set ((wrap64 (Int.tdiv (wrap64 (x7 + x9)) 8)) : Int).toNat (Go.bits .xor .u8 (rd x8 (wrap64 (Int.tdiv (wrap64 (x7 + x9)) 8))) (shl .u8 1 (IntKind.u64.wrap (Int.tmod (wrap64 (x7 + x9)) 8))))) (wrap64 (x9 + 1))) else (none)) else (none)) else (none)) else (munimentlaw1_SumTells.l0 k x0 x2 x7 x8 (wrap64 (x9 + 1)))) else (none)) else ((sum_Of.f k x0).bind fun t125 => ((sum_Of.f k x8).bind fun t126 => (some ((t125 == t126) == ((strOfNums x0).toList == (strOfNums x8).toList)))))
end
def munimentlaw1_SumTells.f (k : Nat) (l0 : List Int) (a1 : Int) (a2 : Int) : Option (Bool) := (munimentlaw1_awake.f k).bind fun t116 => (if t116 = true then (if (l0.length : Int) = 0 then (munimentlaw1_SumTells.j0 k l0 a1 a2 true) else (munimentlaw1_SumTells.j0 k l0 a1 a2 (a2 == 0))) else (some false))
theorem munimentlaw1_SumTells.mono_l : ∀ k, (∀ y0 y1 y2 y3, LeO (munimentlaw1_SumTells.j0 k y0 y1 y2 y3) (munimentlaw1_SumTells.j0 (k + 1) y0 y1 y2 y3)) ∧ (∀ y0 y1 y2, LeO (munimentlaw1_SumTells.j1 k y0 y1 y2) (munimentlaw1_SumTells.j1 (k + 1) y0 y1 y2)) ∧ (∀ y0 y1 y2 y3 y4, LeO (munimentlaw1_SumTells.l0 k y0 y1 y2 y3 y4) (munimentlaw1_SumTells.l0 (k + 1) y0 y1 y2 y3 y4)) ∧ (∀ y0 y1 y2 y3 y4 y5, LeO (munimentlaw1_SumTells.j3 k y0 y1 y2 y3 y4 y5) (munimentlaw1_SumTells.j3 (k + 1) y0 y1 y2 y3 y4 y5))
  | 0 => ⟨fun _ _ _ _ r h => by simp [munimentlaw1_SumTells.j0] at h, fun _ _ _ r h => by simp [munimentlaw1_SumTells.j1] at h, fun _ _ _ _ _ r h => by simp [munimentlaw1_SumTells.l0] at h, fun _ _ _ _ _ _ r h => by simp [munimentlaw1_SumTells.j3] at h⟩
  | k + 1 => by
    obtain ⟨ih0, ih1, ih2, ih3⟩ := munimentlaw1_SumTells.mono_l k
    refine ⟨?_, ?_, ?_, ?_⟩
    · intro y0 y1 y2 y3
      unfold munimentlaw1_SumTells.j0
      repeat' first
      | (with_reducible exact ih0 _ _ _ _)
      | (with_reducible exact ih1 _ _ _)
      | (with_reducible exact ih2 _ _ _ _ _)
      | (with_reducible exact ih3 _ _ _ _ _ _)
      | (with_reducible exact munimentlaw1_awake.mono _)
      | (with_reducible exact sum_Of.mono _ _)
      | (with_reducible exact LeO.refl _)
      | (with_reducible exact LeO.none _)
      | (with_reducible refine LeO.ite ?_ ?_)
      | (with_reducible refine LeO.bind ?_ (fun _ => ?_))
      | exact ih0 _ _ _ _
      | exact ih1 _ _ _
      | exact ih2 _ _ _ _ _
      | exact ih3 _ _ _ _ _ _
      | exact munimentlaw1_awake.mono _
      | exact sum_Of.mono _ _
      | exact LeO.none _
      | refine LeO.ite ?_ ?_
      | refine LeO.bind ?_ (fun _ => ?_)
    · intro y0 y1 y2
      unfold munimentlaw1_SumTells.j1
      repeat' first
      | (with_reducible exact ih0 _ _ _ _)
      | (with_reducible exact ih1 _ _ _)
      | (with_reducible exact ih2 _ _ _ _ _)
      | (with_reducible exact ih3 _ _ _ _ _ _)
      | (with_reducible exact munimentlaw1_awake.mono _)
      | (with_reducible exact sum_Of.mono _ _)
      | (with_reducible exact LeO.refl _)
      | (with_reducible exact LeO.none _)
      | (with_reducible refine LeO.ite ?_ ?_)
      | (with_reducible refine LeO.bind ?_ (fun _ => ?_))
      | exact ih0 _ _ _ _
      | exact ih1 _ _ _
      | exact ih2 _ _ _ _ _
      | exact ih3 _ _ _ _ _ _
      | exact munimentlaw1_awake.mono _
      | exact sum_Of.mono _ _
      | exact LeO.none _
      | refine LeO.ite ?_ ?_
      | refine LeO.bind ?_ (fun _ => ?_)
    · intro y0 y1 y2 y3 y4
      unfold munimentlaw1_SumTells.l0
      repeat' first
      | (with_reducible exact ih0 _ _ _ _)
      | (with_reducible exact ih1 _ _ _)
      | (with_reducible exact ih2 _ _ _ _ _)
      | (with_reducible exact ih3 _ _ _ _ _ _)
      | (with_reducible exact munimentlaw1_awake.mono _)
      | (with_reducible exact sum_Of.mono _ _)
      | (with_reducible exact LeO.refl _)
      | (with_reducible exact LeO.none _)
      | (with_reducible refine LeO.ite ?_ ?_)
      | (with_reducible refine LeO.bind ?_ (fun _ => ?_))
      | exact ih0 _ _ _ _
      | exact ih1 _ _ _
      | exact ih2 _ _ _ _ _
      | exact ih3 _ _ _ _ _ _
      | exact munimentlaw1_awake.mono _
      | exact sum_Of.mono _ _
      | exact LeO.none _
      | refine LeO.ite ?_ ?_
      | refine LeO.bind ?_ (fun _ => ?_)
    · intro y0 y1 y2 y3 y4 y5
      unfold munimentlaw1_SumTells.j3
      repeat' first
      | (with_reducible exact ih0 _ _ _ _)
      | (with_reducible exact ih1 _ _ _)
      | (with_reducible exact ih2 _ _ _ _ _)
      | (with_reducible exact ih3 _ _ _ _ _ _)
      | (with_reducible exact munimentlaw1_awake.mono _)
      | (with_reducible exact sum_Of.mono _ _)
      | (with_reducible exact LeO.refl _)
      | (with_reducible exact LeO.none _)
      | (with_reducible refine LeO.ite ?_ ?_)
      | (with_reducible refine LeO.bind ?_ (fun _ => ?_))
      | exact ih0 _ _ _ _
      | exact ih1 _ _ _
      | exact ih2 _ _ _ _ _
      | exact ih3 _ _ _ _ _ _
      | exact munimentlaw1_awake.mono _
      | exact sum_Of.mono _ _
      | exact LeO.none _
      | refine LeO.ite ?_ ?_
      | refine LeO.bind ?_ (fun _ => ?_)
theorem munimentlaw1_SumTells.mono : ∀ a0 a1 a2 k, LeO (munimentlaw1_SumTells.f k a0 a1 a2) (munimentlaw1_SumTells.f (k + 1) a0 a1 a2) := by
  intro a0 a1 a2 k
  obtain ⟨ih0, ih1, ih2, ih3⟩ := munimentlaw1_SumTells.mono_l k
  unfold munimentlaw1_SumTells.f
  repeat' first
      | (with_reducible exact ih0 _ _ _ _)
      | (with_reducible exact ih1 _ _ _)
      | (with_reducible exact ih2 _ _ _ _ _)
      | (with_reducible exact ih3 _ _ _ _ _ _)
      | (with_reducible exact munimentlaw1_awake.mono _)
      | (with_reducible exact sum_Of.mono _ _)
      | (with_reducible exact LeO.refl _)
      | (with_reducible exact LeO.none _)
      | (with_reducible refine LeO.ite ?_ ?_)
      | (with_reducible refine LeO.bind ?_ (fun _ => ?_))
      | exact ih0 _ _ _ _
      | exact ih1 _ _ _
      | exact ih2 _ _ _ _ _
      | exact ih3 _ _ _ _ _ _
      | exact munimentlaw1_awake.mono _
      | exact sum_Of.mono _ _
      | exact LeO.none _
      | refine LeO.ite ?_ ?_
      | refine LeO.bind ?_ (fun _ => ?_)
set_option maxHeartbeats 8000000 in
set_option maxRecDepth 100000 in
theorem munimentlaw1_SumTells.calls (k : Nat) (A0 : Option Addr) (c0 : Nat) (l0 : List Int) (a1 : Int) (a2 : Int) (r : Bool) (w : World) (hr0 : Kd.C (Kd.int .u8) w A0 l0.length l0) (hc0 : l0.length ≤ c0) (h : munimentlaw1_SumTells.f k l0 a1 a2 = some r) :
    Calls Try.prog 3 #[.slice A0 l0.length c0, .int .i64 a1, .int .u32 a2] w fun e w' => e = .returned (.bool r) ∧ Below w.heap.size w w' := by
  have HR0 := Aside0.mk hr0
  have HC0 := Aside0.mk hc0
  clear hr0 hc0
  have HB := Aside0.mk (Below.refl w.heap.size w)
  have H : ((munimentlaw1_awake.f k).bind fun t116 => (if t116 = true then (if (l0.length : Int) = 0 then (munimentlaw1_SumTells.j0 k l0 a1 a2 true) else (munimentlaw1_SumTells.j0 k l0 a1 a2 (a2 == 0))) else (some false))) = some r := h
  clear h
  replace H := Option.bind_eq_some_iff.mp H
  obtain ⟨t116, A40, H⟩ := H
  replace H : (if t116 = true then (if (l0.length : Int) = 0 then (munimentlaw1_SumTells.j0 k l0 a1 a2 true) else (munimentlaw1_SumTells.j0 k l0 a1 a2 (a2 == 0))) else (some false)) = some r := H
  have A4 := Aside0.mk A40
  clear A40
  by_cases c5 : t116 = true
  · subst c5
    have H1 : (if (l0.length : Int) = 0 then (munimentlaw1_SumTells.j0 k l0 a1 a2 true) else (munimentlaw1_SumTells.j0 k l0 a1 a2 (a2 == 0))) = some r := by rw [if_pos rfl] at H; exact H
    clear H
    have H := H1
    clear H1
    have HC6 := Aside0.mk H
    clear H
    go_enter Try.func3, Try.ntmps3
    go_upto_region 3 with (first | (go_at_call 7; (with_reducible refine (munimentlaw1_awake.calls k  true _ A4.out).mono ?_); rintro e w7 ⟨rfl, hb⟩; have n0_ := Aside0.mk (below_step (by repeat (first | (with_reducible first | exact HB.out | apply below_alloc | apply pw_below_drewN | apply below_drew1) | exact HB.out)) hb); clear HB; have HB := n0_; clear n0_; (try clear hb); (try clear hb2); (try clear hk); (try clear hi)))
    repeat (go_quiet (first | (go_at_call 7; (with_reducible refine (munimentlaw1_awake.calls k  true _ A4.out).mono ?_); rintro e w7 ⟨rfl, hb⟩; have n0_ := Aside0.mk (below_step (by repeat (first | (with_reducible first | exact HB.out | apply below_alloc | apply pw_below_drewN | apply below_drew1) | exact HB.out)) hb); clear HB; have HB := n0_; clear n0_; (try clear hb); (try clear hb2); (try clear hk); (try clear hi))); go_upto_region 3 with (first | (go_at_call 7; (with_reducible refine (munimentlaw1_awake.calls k  true _ A4.out).mono ?_); rintro e w7 ⟨rfl, hb⟩; have n0_ := Aside0.mk (below_step (by repeat (first | (with_reducible first | exact HB.out | apply below_alloc | apply pw_below_drewN | apply below_drew1) | exact HB.out)) hb); clear HB; have HB := n0_; clear n0_; (try clear hb); (try clear hb2); (try clear hk); (try clear hi))))
    (try simp only [Act.put, List.setIfInBounds_toArray, List.set_cons_zero, List.set_cons_succ])
    go_cut [18] (fun v18 wc => ∃ (kq : Nat) (x18_5 : Bool), v18 = .bool x18_5 ∧ Aside0 (munimentlaw1_SumTells.j0 kq l0 a1 a2 x18_5 = some r) ∧ Aside0 (kq ≤ k) ∧ Aside0 (Below w.heap.size w wc))
    case first =>
      have H := HC6.out
      clear HC6
      by_cases c8 : (l0.length : Int) = 0
      · rw [if_pos c8] at H
        have c8b0 : ((l0.length : Int) == 0) = true := beq_iff_eq.mpr c8
        have c8b1 : ((l0.length : Int) != 0) = false := bne_eq_false_iff_eq.mpr c8
        clear c8
        (first | rw [c8b0] | (simp only [i64_w, i32_w]; rw [c8b0]) | skip)
        have H' := Aside0.mk H
        clear H
        go_wp2
        repeat (go_quiet (fail); try go_wp2)
        go_meet
        case rel => exact ⟨_, (true), (by first | rfl | (simp; done) | (simp [*]; done)), H', ⟨by first | omega | exact Nat.le_refl _⟩, ⟨by repeat (first | (with_reducible first | exact HB.out | apply below_alloc | apply pw_below_drewN | apply below_drew1) | exact HB.out)⟩⟩
      · rw [if_neg c8] at H
        have c8b0 : ((l0.length : Int) == 0) = false := beq_eq_false_iff_ne.mpr c8
        have c8b1 : ((l0.length : Int) != 0) = true := bne_iff_ne.mpr c8
        have c8b2 : ¬ (l0 = []) := fun h_ => c8 (by rw [h_]; rfl)
        (first | rw [c8b0] | (simp only [i64_w, i32_w]; rw [c8b0]) | skip)
        have H' := Aside0.mk H
        clear H
        go_wp2
        repeat (go_quiet (fail); try go_wp2)
        go_meet
        case rel => exact ⟨_, ((a2 == 0)), (by first | rfl | (simp; done) | (simp [*]; done)), H', ⟨by first | omega | exact Nat.le_refl _⟩, ⟨by repeat (first | (with_reducible first | exact HB.out | apply below_alloc | apply pw_below_drewN | apply below_drew1) | exact HB.out)⟩⟩
    case rest =>
      clear HC6
      try clear p2
      try clear c3
      try clear c5
      try clear c8
      try clear c8b0
      try clear c8b1
      try clear c8b2
      obtain ⟨kq, x18_5, rfl, HA, HJ5, HB⟩ := hcut
      cases kq with
      | zero => exact absurd HA.out (by simp [munimentlaw1_SumTells.j0])
      | succ kj5 =>
        have H := HA.out
        clear HA
        simp only [munimentlaw1_SumTells.j0] at H
        by_cases c9 : x18_5 = true
        · subst c9
          have H1 : (some true) = some r := by rw [if_pos rfl] at H; exact H
          clear H
          have H := H1
          clear H1
          obtain rfl := Option.some.inj H
          go_wp2
          repeat (go_quiet (fail); try go_wp2)
          go_ret
          exact ⟨by first | rfl | (simp [errW_none, errW_some] <;> rfl) | (simp [*, errW_none, errW_some] <;> rfl), by repeat (first | (with_reducible first | exact HB.out | apply below_alloc | apply pw_below_drewN | apply below_drew1) | exact HB.out)⟩
        · replace c9 := Bool.eq_false_iff.mpr c9
          subst c9
          have H1 : (if (wrap64 (8 * (l0.length : Int))) = 0 then (none) else (if (Int.tmod a1 (wrap64 (8 * (l0.length : Int)))) < 0 then (munimentlaw1_SumTells.j1 kj5 l0 a2 (wrap64 (-(Int.tmod a1 (wrap64 (8 * (l0.length : Int))))))) else (munimentlaw1_SumTells.j1 kj5 l0 a2 (Int.tmod a1 (wrap64 (8 * (l0.length : Int))))))) = some r := by rw [if_neg (show ¬ (false = true) by decide)] at H; exact H
          clear H
          have H := H1
          clear H1
          by_cases c10 : (wrap64 (8 * (l0.length : Int))) = 0
          · rw [if_pos c10] at H
            exact absurd H (by simp)
          · rw [if_neg c10] at H
            have c10b0 : ((wrap64 (8 * (l0.length : Int))) == 0) = false := beq_eq_false_iff_ne.mpr c10
            have c10b1 : ((wrap64 (8 * (l0.length : Int))) != 0) = true := bne_iff_ne.mpr c10
            have HC11 := Aside0.mk H
            clear H
            go_upto_if 25 with (fail)
            repeat (go_quiet (fail); go_upto_if 25 with (fail))
            go_cut [7] (fun v7 wc => ∃ (kq : Nat) (x7_10 : Int), v7 = .int .i64 x7_10 ∧ Aside0 (munimentlaw1_SumTells.j1 kq l0 a2 x7_10 = some r) ∧ Aside0 (kq ≤ kj5) ∧ Aside0 (Below w.heap.size w wc))
            case first =>
              have H := HC11.out
              clear HC11
              by_cases c12 : (Int.tmod a1 (wrap64 (8 * (l0.length : Int)))) < 0
              · rw [if_pos c12] at H
                have c12b0 : decide ((Int.tmod a1 (wrap64 (8 * (l0.length : Int)))) < 0) = true := decide_eq_true c12
                clear c12
                (first | rw [c12b0] | (simp only [i64_w, i32_w]; rw [c12b0]) | skip)
                have H' := Aside0.mk H
                clear H
                go_wp2
                repeat (go_quiet (fail); try go_wp2)
                go_meet
                case rel => exact ⟨_, (wrap64 (-(Int.tmod a1 (wrap64 (8 * (l0.length : Int)))))), (by first | rfl | (simp; done) | (simp [*]; done)), H', ⟨by have := HJ5.out; first | omega | exact Nat.le_refl _⟩, ⟨by repeat (first | (with_reducible first | exact HB.out | apply below_alloc | apply pw_below_drewN | apply below_drew1) | exact HB.out)⟩⟩
              · rw [if_neg c12] at H
                have c12b0 : decide ((Int.tmod a1 (wrap64 (8 * (l0.length : Int)))) < 0) = false := decide_eq_false c12
                clear c12
                (first | rw [c12b0] | (simp only [i64_w, i32_w]; rw [c12b0]) | skip)
                have H' := Aside0.mk H
                clear H
                go_wp2
                repeat (go_quiet (fail); try go_wp2)
                go_meet
                case rel => exact ⟨_, (Int.tmod a1 (wrap64 (8 * (l0.length : Int)))), (by first | rfl | (simp; done) | (simp [*]; done)), H', ⟨by have := HJ5.out; first | omega | exact Nat.le_refl _⟩, ⟨by repeat (first | (with_reducible first | exact HB.out | apply below_alloc | apply pw_below_drewN | apply below_drew1) | exact HB.out)⟩⟩
            case rest =>
              clear HC11
              try clear c1
              try clear p2
              try clear c3
              try clear c5
              try clear p6
              try clear c8
              try clear c8b0
              try clear c8b1
              try clear c8b2
              try clear c9
              try clear c10
              try clear c10b0
              try clear c10b1
              try clear c12
              try clear c12b0
              try clear p2
              obtain ⟨kq, x7_10, rfl, HA, HJ10, HB⟩ := hcut
              cases kq with
              | zero => exact absurd HA.out (by simp [munimentlaw1_SumTells.j1])
              | succ kj10 =>
                have H := HA.out
                clear HA
                simp only [munimentlaw1_SumTells.j1] at H
                obtain ⟨y117, hy117⟩ : ∃ y_ : List Int, y_ = (([] : List Int)) := ⟨_, rfl⟩
                replace H : (if y117.length + l0.length < 140737488355328 then (munimentlaw1_SumTells.l0 kj10 l0 a2 x7_10 (y117 ++ l0) 0) else (none)) = some r := by first | (rw [hy117]; with_reducible exact H) | (have H2_ := (Option.bind_some _ _).symm.trans H; rw [hy117]; with_reducible exact H2_) | (have H2_ := (Option.bind_some _ _).symm.trans H; with_reducible exact H2_) | with_reducible exact H | (rw [hy117]; exact H) | exact H
                have Ny117 := Aside0.mk hy117
                clear hy117
                by_cases c13 : y117.length + l0.length < 140737488355328
                · rw [if_pos c13] at H
                  have LMc13 := Aside0.mk c13
                  clear c13
                  obtain ⟨y120, hy120⟩ : ∃ y_ : List Int, y_ = (y117 ++ l0) := ⟨_, rfl⟩
                  replace H : (munimentlaw1_SumTells.l0 kj10 l0 a2 x7_10 y120 0) = some r := by first | (rw [hy120]; with_reducible exact H) | (have H2_ := (Option.bind_some _ _).symm.trans H; rw [hy120]; with_reducible exact H2_) | (have H2_ := (Option.bind_some _ _).symm.trans H; with_reducible exact H2_) | with_reducible exact H | (rw [hy120]; exact H) | exact H
                  have Ny120 := Aside0.mk hy120
                  clear hy120
                  have H' := Aside0.mk H
                  clear H
                  go_wp2_with (first | ((with_reducible refine gate_dst (N := 28) rfl ?_); (try (refine gate_guard (by rfl) ?_; dsimp only)); refine Kd.R_lit (Kd.int .u8) _ 5 ?hg (N := 28) ?hd (xs := ([] : List Int)) (inner := []) (ok := fun _ => True) (okp := fun _ => True) ?hr ?hp (fun _ hk => hk) trivial (Below.refl _ _) (Nat.le_refl _) (by simp) ?_; (case hd => rfl); (case hg => rfl); (case hr => first | (go_simp; done) | (go_simp; rfl)); (case hp => exact (Reps.none _ _)); intro v118 w14 ho15 hb hg_ hnew_; clear hg_ hnew_; (first | rw [← Ny117.out] at ho15 | (simp only [Int.reduceToNat] at ho15; rw [← Ny117.out] at ho15)); have n0_ := Aside0.mk (Kd.R_lower ho15 (below_size (by repeat (first | (with_reducible first | exact HB.out | apply below_alloc | apply pw_below_drewN | apply below_drew1) | exact HB.out)))); have n1_ := Aside0.mk (below_step (by repeat (first | (with_reducible first | exact HB.out | apply below_alloc | apply pw_below_drewN | apply below_drew1) | exact HB.out)) hb); clear HB; have HO119 := n0_; have HB := n1_; clear n0_ n1_; clear hb ho15) | ((with_reducible refine gate_builtin (b := .append) (xs := #[.tmp 28, .tmp 29]) rfl ?_); (try (refine gate_guard (by rfl) ?_; dsimp only)); at_builtin; refine Kd.R_append_rows (Kd.int .u8) (w0 := w) w.heap.size rfl (.tmp 28) (.tmp 29) 22 5 (.int .u8 0) 1 rfl Try.underlying22 info5 rfl (by decide) (by omega) v118 y117 l0 _ _ _ (fun _ => True) (fun _ => False) rfl rfl ?aO ?aR (fun _ _ h => h) (fun _ h => h.elim) ?aF ?aB ?aS ?aL ?_; (case aR => repeat (first | exact (Kd.C_below HR0.out HB.out) | (with_reducible refine Kd.C_alloc ?_ _) | (with_reducible refine Kd.C_drewN ?_ _) | (with_reducible refine Kd.C_drew ?_))); (case aB => exact (by repeat (first | (with_reducible first | exact HB.out | apply below_alloc | apply pw_below_drewN | apply below_drew1) | exact HB.out))); (case aF => exact (fun _ _ => trivial)); (case aO => exact (by (with_reducible repeat (first | apply Kd.R_alloc | apply Kd.R_drewN | apply Kd.R_drew)); exact HO119.out)); (case aS => exact (below_size (by repeat (first | (with_reducible first | exact HB.out | apply below_alloc | apply pw_below_drewN | apply below_drew1) | exact HB.out)))); (case aL => have := LMc13.out; omega); intro v121 w16 ho hb hg hat; rw [← Ny120.out] at ho; have n0_ := Aside0.mk (hb); have n1_ := Aside0.mk (ho); clear HB; clear HO119; have HB := n0_; have HO122 := n1_; clear n0_ n1_; clear ho hb hg hat))
                  repeat (go_quiet (first | ((with_reducible refine gate_dst (N := 28) rfl ?_); (try (refine gate_guard (by rfl) ?_; dsimp only)); refine Kd.R_lit (Kd.int .u8) _ 5 ?hg (N := 28) ?hd (xs := ([] : List Int)) (inner := []) (ok := fun _ => True) (okp := fun _ => True) ?hr ?hp (fun _ hk => hk) trivial (Below.refl _ _) (Nat.le_refl _) (by simp) ?_; (case hd => rfl); (case hg => rfl); (case hr => first | (go_simp; done) | (go_simp; rfl)); (case hp => exact (Reps.none _ _)); intro v118 w14 ho15 hb hg_ hnew_; clear hg_ hnew_; (first | rw [← Ny117.out] at ho15 | (simp only [Int.reduceToNat] at ho15; rw [← Ny117.out] at ho15)); have n0_ := Aside0.mk (Kd.R_lower ho15 (below_size (by repeat (first | (with_reducible first | exact HB.out | apply below_alloc | apply pw_below_drewN | apply below_drew1) | exact HB.out)))); have n1_ := Aside0.mk (below_step (by repeat (first | (with_reducible first | exact HB.out | apply below_alloc | apply pw_below_drewN | apply below_drew1) | exact HB.out)) hb); clear HB; have HO119 := n0_; have HB := n1_; clear n0_ n1_; clear hb ho15) | ((with_reducible refine gate_builtin (b := .append) (xs := #[.tmp 28, .tmp 29]) rfl ?_); (try (refine gate_guard (by rfl) ?_; dsimp only)); at_builtin; refine Kd.R_append_rows (Kd.int .u8) (w0 := w) w.heap.size rfl (.tmp 28) (.tmp 29) 22 5 (.int .u8 0) 1 rfl Try.underlying22 info5 rfl (by decide) (by omega) v118 y117 l0 _ _ _ (fun _ => True) (fun _ => False) rfl rfl ?aO ?aR (fun _ _ h => h) (fun _ h => h.elim) ?aF ?aB ?aS ?aL ?_; (case aR => repeat (first | exact (Kd.C_below HR0.out HB.out) | (with_reducible refine Kd.C_alloc ?_ _) | (with_reducible refine Kd.C_drewN ?_ _) | (with_reducible refine Kd.C_drew ?_))); (case aB => exact (by repeat (first | (with_reducible first | exact HB.out | apply below_alloc | apply pw_below_drewN | apply below_drew1) | exact HB.out))); (case aF => exact (fun _ _ => trivial)); (case aO => exact (by (with_reducible repeat (first | apply Kd.R_alloc | apply Kd.R_drewN | apply Kd.R_drew)); exact HO119.out)); (case aS => exact (below_size (by repeat (first | (with_reducible first | exact HB.out | apply below_alloc | apply pw_below_drewN | apply below_drew1) | exact HB.out)))); (case aL => have := LMc13.out; omega); intro v121 w16 ho hb hg hat; rw [← Ny120.out] at ho; have n0_ := Aside0.mk (hb); have n1_ := Aside0.mk (ho); clear HB; clear HO119; have HB := n0_; have HO122 := n1_; clear n0_ n1_; clear ho hb hg hat)); try go_wp2_with (first | ((with_reducible refine gate_dst (N := 28) rfl ?_); (try (refine gate_guard (by rfl) ?_; dsimp only)); refine Kd.R_lit (Kd.int .u8) _ 5 ?hg (N := 28) ?hd (xs := ([] : List Int)) (inner := []) (ok := fun _ => True) (okp := fun _ => True) ?hr ?hp (fun _ hk => hk) trivial (Below.refl _ _) (Nat.le_refl _) (by simp) ?_; (case hd => rfl); (case hg => rfl); (case hr => first | (go_simp; done) | (go_simp; rfl)); (case hp => exact (Reps.none _ _)); intro v118 w14 ho15 hb hg_ hnew_; clear hg_ hnew_; (first | rw [← Ny117.out] at ho15 | (simp only [Int.reduceToNat] at ho15; rw [← Ny117.out] at ho15)); have n0_ := Aside0.mk (Kd.R_lower ho15 (below_size (by repeat (first | (with_reducible first | exact HB.out | apply below_alloc | apply pw_below_drewN | apply below_drew1) | exact HB.out)))); have n1_ := Aside0.mk (below_step (by repeat (first | (with_reducible first | exact HB.out | apply below_alloc | apply pw_below_drewN | apply below_drew1) | exact HB.out)) hb); clear HB; have HO119 := n0_; have HB := n1_; clear n0_ n1_; clear hb ho15) | ((with_reducible refine gate_builtin (b := .append) (xs := #[.tmp 28, .tmp 29]) rfl ?_); (try (refine gate_guard (by rfl) ?_; dsimp only)); at_builtin; refine Kd.R_append_rows (Kd.int .u8) (w0 := w) w.heap.size rfl (.tmp 28) (.tmp 29) 22 5 (.int .u8 0) 1 rfl Try.underlying22 info5 rfl (by decide) (by omega) v118 y117 l0 _ _ _ (fun _ => True) (fun _ => False) rfl rfl ?aO ?aR (fun _ _ h => h) (fun _ h => h.elim) ?aF ?aB ?aS ?aL ?_; (case aR => repeat (first | exact (Kd.C_below HR0.out HB.out) | (with_reducible refine Kd.C_alloc ?_ _) | (with_reducible refine Kd.C_drewN ?_ _) | (with_reducible refine Kd.C_drew ?_))); (case aB => exact (by repeat (first | (with_reducible first | exact HB.out | apply below_alloc | apply pw_below_drewN | apply below_drew1) | exact HB.out))); (case aF => exact (fun _ _ => trivial)); (case aO => exact (by (with_reducible repeat (first | apply Kd.R_alloc | apply Kd.R_drewN | apply Kd.R_drew)); exact HO119.out)); (case aS => exact (below_size (by repeat (first | (with_reducible first | exact HB.out | apply below_alloc | apply pw_below_drewN | apply below_drew1) | exact HB.out)))); (case aL => have := LMc13.out; omega); intro v121 w16 ho hb hg hat; rw [← Ny120.out] at ho; have n0_ := Aside0.mk (hb); have n1_ := Aside0.mk (ho); clear HB; clear HO119; have HB := n0_; have HO122 := n1_; clear n0_ n1_; clear ho hb hg hat)))
                  go_loopg [9] kj10 (fun kq v9 w' => ∃ (x8_3 : List Int) (x9_3 : Int), v9 = .int .i64 x9_3 ∧ Aside0 (munimentlaw1_SumTells.l0 kq l0 a2 x7_10 x8_3 x9_3 = some r) ∧ Aside0 (kq ≤ kj10) ∧ Aside0 (Kd.R (Kd.int .u8) 5 w' w.heap.size (fun _ => True) v121 x8_3) ∧ Aside0 (Below w.heap.size w w'))
                  case atStart => exact ⟨(y120), (0), (by first | rfl | (simp; done) | (simp [*]; done)), H', ⟨Nat.le_refl _⟩, ⟨by (with_reducible repeat (first | apply Kd.R_alloc | apply Kd.R_drewN | apply Kd.R_drew)); exact HO122.out⟩, ⟨by repeat (first | (with_reducible first | exact HB.out | apply below_alloc | apply pw_below_drewN | apply below_drew1) | exact HB.out)⟩⟩
                  case round =>
                    clear H'
                    try clear c1
                    try clear p2
                    try clear c3
                    try clear c5
                    try clear p6
                    try clear c8
                    try clear c8b0
                    try clear c8b1
                    try clear c8b2
                    try clear c9
                    try clear c10
                    try clear c10b0
                    try clear c10b1
                    try clear c12
                    try clear c12b0
                    try clear c13
                    try clear p2
                    try clear p6
                    obtain ⟨x8_3, x9_3, rfl, HA, HK3, HO_8, HB⟩ := hrel
                    cases gk with
                    | zero => exact absurd HA.out (by simp [munimentlaw1_SumTells.l0])
                    | succ k3 =>
                      have H := HA.out
                      clear HA
                      simp only [munimentlaw1_SumTells.l0] at H
                      have HC17 := Aside0.mk H
                      clear H
                      go_upto_region 10 with (fail)
                      repeat (go_quiet (fail); go_upto_region 10 with (fail))
                      go_cut [41] (fun v41 wc => ∃ (kq : Nat) (x41_16 : Bool), v41 = .bool x41_16 ∧ Aside0 (munimentlaw1_SumTells.j3 kq l0 a2 x7_10 x8_3 x9_3 x41_16 = some r) ∧ Aside0 (kq ≤ k3) ∧ Aside0 (Kd.R (Kd.int .u8) 5 wc w.heap.size (fun _ => True) v121 x8_3) ∧ Aside0 (Below w.heap.size w wc))
                      case first =>
                        have H := HC17.out
                        clear HC17
                        by_cases c18 : x9_3 < 32
                        · rw [if_pos c18] at H
                          have c18b0 : decide (x9_3 < 32) = true := decide_eq_true c18
                          clear c18
                          (first | rw [c18b0] | (simp only [i64_w, i32_w]; rw [c18b0]) | skip)
                          have H' := Aside0.mk H
                          clear H
                          obtain ⟨Ao19, co19, eo19⟩ := Kd.R_slice HO_8.out
                          subst eo19
                          go_wp2
                          repeat (go_quiet (fail); try go_wp2)
                          go_meet
                          case rel => exact ⟨_, (decide ((wrap64 (x7_10 + x9_3)) < (wrap64 (8 * (x8_3.length : Int))))), (by first | rfl | (simp; done) | (simp [*]; done)), H', ⟨by have := HJ5.out; have := HJ10.out; have := HK3.out; first | omega | exact Nat.le_refl _⟩, ⟨by (with_reducible repeat (first | apply Kd.R_alloc | apply Kd.R_drewN | apply Kd.R_drew)); exact HO_8.out⟩, ⟨by repeat (first | (with_reducible first | exact HB.out | apply below_alloc | apply pw_below_drewN | apply below_drew1) | exact HB.out)⟩⟩
                        · rw [if_neg c18] at H
                          have c18b0 : decide (x9_3 < 32) = false := decide_eq_false c18
                          clear c18
                          (first | rw [c18b0] | (simp only [i64_w, i32_w]; rw [c18b0]) | skip)
                          have H' := Aside0.mk H
                          clear H
                          go_wp2
                          repeat (go_quiet (fail); try go_wp2)
                          go_meet
                          case rel => exact ⟨_, (false), (by first | rfl | (simp; done) | (simp [*]; done)), H', ⟨by have := HJ5.out; have := HJ10.out; have := HK3.out; first | omega | exact Nat.le_refl _⟩, ⟨by (with_reducible repeat (first | apply Kd.R_alloc | apply Kd.R_drewN | apply Kd.R_drew)); exact HO_8.out⟩, ⟨by repeat (first | (with_reducible first | exact HB.out | apply below_alloc | apply pw_below_drewN | apply below_drew1) | exact HB.out)⟩⟩
                      case rest =>
                        clear HC17
                        try clear c1
                        try clear p2
                        try clear c3
                        try clear c5
                        try clear p6
                        try clear c8
                        try clear c8b0
                        try clear c8b1
                        try clear c8b2
                        try clear c9
                        try clear c10
                        try clear c10b0
                        try clear c10b1
                        try clear c12
                        try clear c12b0
                        try clear c13
                        try clear c18
                        try clear c18b0
                        try clear p2
                        try clear p6
                        obtain ⟨kq, x41_16, rfl, HA, HJ16, HO_8, HB⟩ := hcut
                        cases kq with
                        | zero => exact absurd HA.out (by simp [munimentlaw1_SumTells.j3])
                        | succ kj16 =>
                          have H := HA.out
                          clear HA
                          simp only [munimentlaw1_SumTells.j3] at H
                          by_cases c20 : x41_16 = true
                          · subst c20
                            have H1 : (if 0 ≤ (IntKind.u64.wrap (x9_3)) then (if (Go.bits .and .u32 (shr .u32 a2 (IntKind.u64.wrap (x9_3))) 1) = 1 then (if 0 ≤ (wrap64 (Int.tdiv (wrap64 (x7_10 + x9_3)) 8)) then (if (wrap64 (Int.tdiv (wrap64 (x7_10 + x9_3)) 8)) < (x8_3.length : Int) then (if 0 ≤ (IntKind.u64.wrap (Int.tmod (wrap64 (x7_10 + x9_3)) 8)) then (munimentlaw1_SumTells.l0 kj16 l0 a2 x7_10 (x8_3.set ((wrap64 (Int.tdiv (wrap64 (x7_10 + x9_3)) 8)) : Int).toNat (Go.bits .xor .u8 (rd x8_3 (wrap64 (Int.tdiv (wrap64 (x7_10 + x9_3)) 8))) (shl .u8 1 (IntKind.u64.wrap (Int.tmod (wrap64 (x7_10 + x9_3)) 8))))) (wrap64 (x9_3 + 1))) else (none)) else (none)) else (none)) else (munimentlaw1_SumTells.l0 kj16 l0 a2 x7_10 x8_3 (wrap64 (x9_3 + 1)))) else (none)) = some r := by rw [if_pos rfl] at H; exact H
                            clear H
                            have H := H1
                            clear H1
                            obtain ⟨ji21, hji21⟩ : ∃ j_ : Int, (IntKind.u64.wrap (x9_3)) = j_ := ⟨_, rfl⟩
                            replace H : (if 0 ≤ (ji21) then (if (Go.bits .and .u32 (shr .u32 a2 (ji21)) 1) = 1 then (if 0 ≤ (wrap64 (Int.tdiv (wrap64 (x7_10 + x9_3)) 8)) then (if (wrap64 (Int.tdiv (wrap64 (x7_10 + x9_3)) 8)) < (x8_3.length : Int) then (if 0 ≤ (IntKind.u64.wrap (Int.tmod (wrap64 (x7_10 + x9_3)) 8)) then (munimentlaw1_SumTells.l0 kj16 l0 a2 x7_10 (x8_3.set ((wrap64 (Int.tdiv (wrap64 (x7_10 + x9_3)) 8)) : Int).toNat (Go.bits .xor .u8 (rd x8_3 (wrap64 (Int.tdiv (wrap64 (x7_10 + x9_3)) 8))) (shl .u8 1 (IntKind.u64.wrap (Int.tmod (wrap64 (x7_10 + x9_3)) 8))))) (wrap64 (x9_3 + 1))) else (none)) else (none)) else (none)) else (munimentlaw1_SumTells.l0 kj16 l0 a2 x7_10 x8_3 (wrap64 (x9_3 + 1)))) else (none)) = some r := by first | (rw [hji21] at H; exact H) | (simp only [hji21] at H ⊢; exact H)
                            by_cases c22 : 0 ≤ (ji21)
                            · rw [if_pos c22] at H
                              have c22b0 := eq_true c22
                              have c22b1 : decide (0 ≤ (ji21)) = true := decide_eq_true c22
                              clear c22
                              obtain ⟨ji23, hji23⟩ : ∃ j_ : Int, (shr .u32 a2 (ji21)) = j_ := ⟨_, rfl⟩
                              replace H : (if (Go.bits .and .u32 (ji23) 1) = 1 then (if 0 ≤ (wrap64 (Int.tdiv (wrap64 (x7_10 + x9_3)) 8)) then (if (wrap64 (Int.tdiv (wrap64 (x7_10 + x9_3)) 8)) < (x8_3.length : Int) then (if 0 ≤ (IntKind.u64.wrap (Int.tmod (wrap64 (x7_10 + x9_3)) 8)) then (munimentlaw1_SumTells.l0 kj16 l0 a2 x7_10 (x8_3.set ((wrap64 (Int.tdiv (wrap64 (x7_10 + x9_3)) 8)) : Int).toNat (Go.bits .xor .u8 (rd x8_3 (wrap64 (Int.tdiv (wrap64 (x7_10 + x9_3)) 8))) (shl .u8 1 (IntKind.u64.wrap (Int.tmod (wrap64 (x7_10 + x9_3)) 8))))) (wrap64 (x9_3 + 1))) else (none)) else (none)) else (none)) else (munimentlaw1_SumTells.l0 kj16 l0 a2 x7_10 x8_3 (wrap64 (x9_3 + 1)))) = some r := by first | (rw [hji23] at H; exact H) | (simp only [hji23] at H ⊢; exact H)
                              have hji23_ : (a2 / 2 ^ min (ji21).toNat 32) = ji23 := hji23
                              have hji23z : (ji21) ≤ 32 → (a2 / 2 ^ (ji21).toNat) = ji23 := shr_small hji23
                              by_cases c24 : (Go.bits .and .u32 (ji23) 1) = 1
                              · rw [if_pos c24] at H
                                have c24b0 : ((Go.bits .and .u32 (ji23) 1) == 1) = true := beq_iff_eq.mpr c24
                                have c24b1 : ((Go.bits .and .u32 (ji23) 1) != 1) = false := bne_eq_false_iff_eq.mpr c24
                                clear c24
                                obtain ⟨ji25, hji25⟩ : ∃ j_ : Int, (wrap64 (Int.tdiv (wrap64 (x7_10 + x9_3)) 8)) = j_ := ⟨_, rfl⟩
                                replace H : (if 0 ≤ (ji25) then (if (ji25) < (x8_3.length : Int) then (if 0 ≤ (IntKind.u64.wrap (Int.tmod (wrap64 (x7_10 + x9_3)) 8)) then (munimentlaw1_SumTells.l0 kj16 l0 a2 x7_10 (x8_3.set ((ji25) : Int).toNat (Go.bits .xor .u8 (rd x8_3 (ji25)) (shl .u8 1 (IntKind.u64.wrap (Int.tmod (wrap64 (x7_10 + x9_3)) 8))))) (wrap64 (x9_3 + 1))) else (none)) else (none)) else (none)) = some r := by first | (rw [hji25] at H; exact H) | (simp only [hji25] at H ⊢; exact H)
                                have hji25w : (IntKind.i64.wrap (Int.tdiv (wrap64 (x7_10 + x9_3)) 8)) = ji25 := (i64_w _).trans hji25
                                by_cases c26 : 0 ≤ (ji25)
                                · rw [if_pos c26] at H
                                  have c26b0 : decide (0 ≤ (ji25)) = true := decide_eq_true c26
                                  clear c26
                                  by_cases c27 : (ji25) < (x8_3.length : Int)
                                  · rw [if_pos c27] at H
                                    have c27b0 : decide ((ji25) < (x8_3.length : Int)) = true := decide_eq_true c27
                                    clear c27
                                    obtain ⟨ji28, hji28⟩ : ∃ j_ : Int, (IntKind.u64.wrap (Int.tmod (wrap64 (x7_10 + x9_3)) 8)) = j_ := ⟨_, rfl⟩
                                    replace H : (if 0 ≤ (ji28) then (munimentlaw1_SumTells.l0 kj16 l0 a2 x7_10 (x8_3.set ((ji25) : Int).toNat (Go.bits .xor .u8 (rd x8_3 (ji25)) (shl .u8 1 (ji28)))) (wrap64 (x9_3 + 1))) else (none)) = some r := by first | (rw [hji28] at H; exact H) | (simp only [hji28] at H ⊢; exact H)
                                    by_cases c29 : 0 ≤ (ji28)
                                    · rw [if_pos c29] at H
                                      have c29b0 := eq_true c29
                                      have c29b1 : decide (0 ≤ (ji28)) = true := decide_eq_true c29
                                      clear c29
                                      obtain ⟨ji30, hji30⟩ : ∃ j_ : Int, (shl .u8 1 (ji28)) = j_ := ⟨_, rfl⟩
                                      replace H : (munimentlaw1_SumTells.l0 kj16 l0 a2 x7_10 (x8_3.set ((ji25) : Int).toNat (Go.bits .xor .u8 (rd x8_3 (ji25)) (ji30))) (wrap64 (x9_3 + 1))) = some r := by first | (rw [hji30] at H; exact H) | (simp only [hji30] at H ⊢; exact H)
                                      have hji30_ : (IntKind.u8.wrap (1 * 2 ^ min (ji28).toNat 8)) = ji30 := hji30
                                      have hji30z : (ji28) ≤ 8 → (IntKind.u8.wrap (1 * 2 ^ (ji28).toNat)) = ji30 := shl_small hji30
                                      have hji30u : (IntKind.u8.wrap (2 ^ min (ji28).toNat 8)) = ji30 := by have h_ := hji30_; rw [Int.one_mul] at h_; exact h_
                                      have hji30v : (ji28) ≤ 8 → (IntKind.u8.wrap (2 ^ (ji28).toNat)) = ji30 := fun hle_ => by have h_ := hji30z hle_; rw [Int.one_mul] at h_; exact h_
                                      obtain ⟨y124, hy124⟩ : ∃ y_ : List Int, y_ = (x8_3.set ((ji25) : Int).toNat (Go.bits .xor .u8 (rd x8_3 (ji25)) (ji30))) := ⟨_, rfl⟩
                                      replace H : (munimentlaw1_SumTells.l0 kj16 l0 a2 x7_10 y124 (wrap64 (x9_3 + 1))) = some r := by first | (rw [hy124]; with_reducible exact H) | (have H2_ := (Option.bind_some _ _).symm.trans H; rw [hy124]; with_reducible exact H2_) | (have H2_ := (Option.bind_some _ _).symm.trans H; with_reducible exact H2_) | with_reducible exact H | (rw [hy124]; exact H) | exact H
                                      have Ny124 := Aside0.mk hy124
                                      clear hy124
                                      have H' := Aside0.mk H
                                      clear H
                                      obtain ⟨Ao32, co32, eo32⟩ := Kd.R_slice HO_8.out
                                      subst eo32
                                      have p123 : 0 ≤ ((ji25) : Int) := of_decide_eq_true (by first | (with_reducible assumption) | assumption)
                                      have q123 : (ji25) < (x8_3.length : Int) := of_decide_eq_true (by first | (with_reducible assumption) | assumption)
                                      obtain ⟨ad123, e123, hx123_0⟩ := Kd.at_int (Kd.R_reads' HO_8.out).2.2 (ji25) p123 q123
                                      cases e123
                                      replace p123 := eq_true p123
                                      replace q123 := eq_true q123
                                      have p31 : 0 ≤ ((ji25) : Int) := of_decide_eq_true (by first | (with_reducible assumption) | assumption)
                                      have q31 : ((ji25) : Int) < ((x8_3.length : Int) : Int) := of_decide_eq_true (by first | (with_reducible assumption) | assumption)
                                      obtain ⟨go31, co31, eo31, gb31, gl31, cl31, HG31⟩ := Kd.R_form HO_8.out (by omega)
                                      (first | cases eo31 | (injection eo31 with ea_ en_ ec_; (first | subst ea_ | (injection ea_ with ea_; subst ea_)); subst ec_; clear en_))
                                      have GB31 := Aside0.mk gb31
                                      have GG31 := Aside0.mk HG31
                                      clear gb31 gl31 HG31
                                      (first | simp only [add_plain] at hx123_0 | skip)
                                      obtain ⟨hx31_0, hf31_0⟩ := Kd.R_celln 0 HO_8.out ((ji25) : Int) p31 q31
                                      replace p31 := eq_true p31
                                      replace q31 := eq_true q31
                                      have HP33 := Kd.R_putg HO_8.out ((ji25) : Int) (Go.bits .xor .u8 (rd x8_3 (ji25)) (ji30))
                                      go_wp2_with (first | ((with_reducible refine gate_store (t := 5) (p := 69) rfl ?_); (try (rw [drewN_self wc]; generalize hq_ : World.drewN wc _ = wc; have n0_ := Aside0.mk (Kd.R_at hq_ HO_8.out); have n1_ := Aside0.mk (below_at hq_ HB.out); clear hq_ HO_8 HB; have HO_8 := n0_; have HB := n1_; clear n0_ n1_; (try (have HP33 := Kd.R_putg HO_8.out ((ji25) : Int) (Go.bits .xor .u8 (rd x8_3 (ji25)) (ji30)))))); refine store_event (t := 5) (p := 69) (v := ?vo_w34) (w1 := (wc.setCell ⟨go31, ((ji25) : Int).toNat, none⟩ (.int .u8 (Go.bits .xor .u8 (rd x8_3 (ji25)) (ji30))))) ?hg ?ho ?hn ?hr ?_; (case ho => rfl); (case hg => rfl); (case hn => rfl); (case hr => first | (go_simp; done) | (go_simp; rfl)); intro w34 hw; have hg : wc.grownBy w34 (some go31) := (by rw [hw]; exact HP33.2); have hp_ : Kd.R (Kd.int .u8) 5 w34 w.heap.size (fun _ => True) (.slice (some ⟨go31, 0, none⟩) x8_3.length co32) y124 := (by rw [hw, Ny124.out]; exact HP33.1); clear HP33; have n0_ := Aside0.mk (hp_); have n1_ := Aside0.mk ((by rw [hw]; exact below_set (HB.out) GB31.out : Below w.heap.size w w34)); clear HO_8; clear HB; have HO_8 := n0_; have HB := n1_; clear n0_ n1_; clear hg hw hp_))
                                      repeat (go_quiet (first | ((with_reducible refine gate_store (t := 5) (p := 69) rfl ?_); (try (rw [drewN_self wc]; generalize hq_ : World.drewN wc _ = wc; have n0_ := Aside0.mk (Kd.R_at hq_ HO_8.out); have n1_ := Aside0.mk (below_at hq_ HB.out); clear hq_ HO_8 HB; have HO_8 := n0_; have HB := n1_; clear n0_ n1_; (try (have HP33 := Kd.R_putg HO_8.out ((ji25) : Int) (Go.bits .xor .u8 (rd x8_3 (ji25)) (ji30)))))); refine store_event (t := 5) (p := 69) (v := ?vo_w34) (w1 := (wc.setCell ⟨go31, ((ji25) : Int).toNat, none⟩ (.int .u8 (Go.bits .xor .u8 (rd x8_3 (ji25)) (ji30))))) ?hg ?ho ?hn ?hr ?_; (case ho => rfl); (case hg => rfl); (case hn => rfl); (case hr => first | (go_simp; done) | (go_simp; rfl)); intro w34 hw; have hg : wc.grownBy w34 (some go31) := (by rw [hw]; exact HP33.2); have hp_ : Kd.R (Kd.int .u8) 5 w34 w.heap.size (fun _ => True) (.slice (some ⟨go31, 0, none⟩) x8_3.length co32) y124 := (by rw [hw, Ny124.out]; exact HP33.1); clear HP33; have n0_ := Aside0.mk (hp_); have n1_ := Aside0.mk ((by rw [hw]; exact below_set (HB.out) GB31.out : Below w.heap.size w w34)); clear HO_8; clear HB; have HO_8 := n0_; have HB := n1_; clear n0_ n1_; clear hg hw hp_)); try go_wp2_with (first | ((with_reducible refine gate_store (t := 5) (p := 69) rfl ?_); (try (rw [drewN_self wc]; generalize hq_ : World.drewN wc _ = wc; have n0_ := Aside0.mk (Kd.R_at hq_ HO_8.out); have n1_ := Aside0.mk (below_at hq_ HB.out); clear hq_ HO_8 HB; have HO_8 := n0_; have HB := n1_; clear n0_ n1_; (try (have HP33 := Kd.R_putg HO_8.out ((ji25) : Int) (Go.bits .xor .u8 (rd x8_3 (ji25)) (ji30)))))); refine store_event (t := 5) (p := 69) (v := ?vo_w34) (w1 := (wc.setCell ⟨go31, ((ji25) : Int).toNat, none⟩ (.int .u8 (Go.bits .xor .u8 (rd x8_3 (ji25)) (ji30))))) ?hg ?ho ?hn ?hr ?_; (case ho => rfl); (case hg => rfl); (case hn => rfl); (case hr => first | (go_simp; done) | (go_simp; rfl)); intro w34 hw; have hg : wc.grownBy w34 (some go31) := (by rw [hw]; exact HP33.2); have hp_ : Kd.R (Kd.int .u8) 5 w34 w.heap.size (fun _ => True) (.slice (some ⟨go31, 0, none⟩) x8_3.length co32) y124 := (by rw [hw, Ny124.out]; exact HP33.1); clear HP33; have n0_ := Aside0.mk (hp_); have n1_ := Aside0.mk ((by rw [hw]; exact below_set (HB.out) GB31.out : Below w.heap.size w w34)); clear HO_8; clear HB; have HO_8 := n0_; have HB := n1_; clear n0_ n1_; clear hg hw hp_)))
                                      go_roundg kj16
                                      case measure => have := HJ5.out; have := HJ10.out; have := HK3.out; have := HJ16.out; omega
                                      case rel => exact ⟨(y124), (wrap64 (x9_3 + 1)), (by first | rfl | (simp; done) | (simp [*]; done)), H', ⟨by have := HJ5.out; have := HJ10.out; have := HK3.out; have := HJ16.out; omega⟩, ⟨by (with_reducible repeat (first | apply Kd.R_alloc | apply Kd.R_drewN | apply Kd.R_drew)); exact HO_8.out⟩, ⟨by repeat (first | (with_reducible first | exact HB.out | apply below_alloc | apply pw_below_drewN | apply below_drew1) | exact HB.out)⟩⟩
                                    · rw [if_neg c29] at H
                                      exact absurd H (by simp)
                                  · rw [if_neg c27] at H
                                    exact absurd H (by simp)
                                · rw [if_neg c26] at H
                                  exact absurd H (by simp)
                              · rw [if_neg c24] at H
                                have c24b0 : ((Go.bits .and .u32 (ji23) 1) == 1) = false := beq_eq_false_iff_ne.mpr c24
                                have c24b1 : ((Go.bits .and .u32 (ji23) 1) != 1) = true := bne_iff_ne.mpr c24
                                have H' := Aside0.mk H
                                clear H
                                go_wp2
                                repeat (go_quiet (fail); try go_wp2)
                                go_roundg kj16
                                case measure => have := HJ5.out; have := HJ10.out; have := HK3.out; have := HJ16.out; omega
                                case rel => exact ⟨(x8_3), (wrap64 (x9_3 + 1)), (by first | rfl | (simp; done) | (simp [*]; done)), H', ⟨by have := HJ5.out; have := HJ10.out; have := HK3.out; have := HJ16.out; omega⟩, ⟨by (with_reducible repeat (first | apply Kd.R_alloc | apply Kd.R_drewN | apply Kd.R_drew)); exact HO_8.out⟩, ⟨by repeat (first | (with_reducible first | exact HB.out | apply below_alloc | apply pw_below_drewN | apply below_drew1) | exact HB.out)⟩⟩
                            · rw [if_neg c22] at H
                              exact absurd H (by simp)
                          · replace c20 := Bool.eq_false_iff.mpr c20
                            subst c20
                            have H1 : ((sum_Of.f kj16 l0).bind fun t125 => ((sum_Of.f kj16 x8_3).bind fun t126 => (some ((t125 == t126) == ((strOfNums l0).toList == (strOfNums x8_3).toList))))) = some r := by rw [if_neg (show ¬ (false = true) by decide)] at H; exact H
                            clear H
                            have H := H1
                            clear H1
                            replace H := Option.bind_eq_some_iff.mp H
                            obtain ⟨t125, A350, H⟩ := H
                            replace H : ((sum_Of.f kj16 x8_3).bind fun t126 => (some ((t125 == t126) == ((strOfNums l0).toList == (strOfNums x8_3).toList)))) = some r := H
                            have A35 := Aside0.mk A350
                            clear A350
                            replace H := Option.bind_eq_some_iff.mp H
                            obtain ⟨t126, A360, H⟩ := H
                            replace H : (some ((t125 == t126) == ((strOfNums l0).toList == (strOfNums x8_3).toList))) = some r := H
                            have A36 := Aside0.mk A360
                            clear A360
                            obtain rfl := Option.some.inj H
                            obtain ⟨Ao37, co37, eo37⟩ := Kd.R_slice HO_8.out
                            subst eo37
                            have hcv38 := fun nq => Kd.C_string (P := Try.prog) (A := A0) (c := c0) (w := wc.drewN nq) Try.underlying22 Try.underlying5 Try.underlying9 (Kd.C_drewN (Kd.C_below HR0.out HB.out) nq)
                            have hcv39 := fun nq => Kd.C_string (P := Try.prog) (A := Ao37) (c := co37) (w := wc.drewN nq) Try.underlying22 Try.underlying5 Try.underlying9 (Kd.C_drewN (Kd.R_reads' HO_8.out).2.2 nq)
                            go_wp2_with fail
                            go_quiet (first | (go_at_call 8; (with_reducible refine (sum_Of.calls kj16 _ _ l0 t125 _ ?side1 ?side2 A35.out).mono ?_); (case side1 => repeat (first | exact (Kd.C_below HR0.out HB.out) | (with_reducible refine Kd.C_alloc ?_ _) | (with_reducible refine Kd.C_drewN ?_ _) | (with_reducible refine Kd.C_drew ?_))); (case side2 => exact HC0.out); rintro e w' ⟨rfl, ⟨nd, rfl⟩⟩; (try first | exact ⟨rfl, _, World.drewN_drewN _ _ _⟩ | exact ⟨rfl, _, Eq.trans (World.drewN_drewN _ _ _) (congrArg (World.drewN _) (Nat.add_assoc _ _ _))⟩)) | (go_at_call 8; (with_reducible refine (sum_Of.calls kj16 _ _ x8_3 t126 _ ?side1 ?side2 A36.out).mono ?_); (case side1 => repeat (first | exact (Kd.R_reads' HO_8.out).2.2 | (with_reducible refine Kd.C_alloc ?_ _) | (with_reducible refine Kd.C_drewN ?_ _) | (with_reducible refine Kd.C_drew ?_))); (case side2 => exact (Kd.R_reads' HO_8.out).2.1); rintro e w' ⟨rfl, ⟨nd, rfl⟩⟩; (try first | exact ⟨rfl, _, World.drewN_drewN _ _ _⟩ | exact ⟨rfl, _, Eq.trans (World.drewN_drewN _ _ _) (congrArg (World.drewN _) (Nat.add_assoc _ _ _))⟩)))
                            go_wp2
                            go_ret
                            exact ⟨by first | rfl | (simp [errW_none, errW_some] <;> rfl) | (simp [*, errW_none, errW_some] <;> rfl), by repeat (first | (with_reducible first | exact HB.out | apply below_alloc | apply pw_below_drewN | apply below_drew1) | exact HB.out)⟩
                · rw [if_neg c13] at H
                  exact absurd H (by simp)
  · replace c5 := Bool.eq_false_iff.mpr c5
    subst c5
    have H1 : (some false) = some r := by rw [if_neg (show ¬ (false = true) by decide)] at H; exact H
    clear H
    have H := H1
    clear H1
    obtain rfl := Option.some.inj H
    go_enter Try.func3, Try.ntmps3
    go_wp2_with (first | (go_at_call 7; (with_reducible refine (munimentlaw1_awake.calls k  false _ A4.out).mono ?_); rintro e w40 ⟨rfl, hb⟩; have n0_ := Aside0.mk (below_step (by repeat (first | (with_reducible first | exact HB.out | apply below_alloc | apply pw_below_drewN | apply below_drew1) | exact HB.out)) hb); clear HB; have HB := n0_; clear n0_; (try clear hb); (try clear hb2); (try clear hk); (try clear hi)))
    repeat (go_quiet (first | (go_at_call 7; (with_reducible refine (munimentlaw1_awake.calls k  false _ A4.out).mono ?_); rintro e w40 ⟨rfl, hb⟩; have n0_ := Aside0.mk (below_step (by repeat (first | (with_reducible first | exact HB.out | apply below_alloc | apply pw_below_drewN | apply below_drew1) | exact HB.out)) hb); clear HB; have HB := n0_; clear n0_; (try clear hb); (try clear hb2); (try clear hk); (try clear hi))); try go_wp2_with (first | (go_at_call 7; (with_reducible refine (munimentlaw1_awake.calls k  false _ A4.out).mono ?_); rintro e w40 ⟨rfl, hb⟩; have n0_ := Aside0.mk (below_step (by repeat (first | (with_reducible first | exact HB.out | apply below_alloc | apply pw_below_drewN | apply below_drew1) | exact HB.out)) hb); clear HB; have HB := n0_; clear n0_; (try clear hb); (try clear hb2); (try clear hk); (try clear hi))))
    go_ret
    exact ⟨by first | rfl | (simp [errW_none, errW_some] <;> rfl) | (simp [*, errW_none, errW_some] <;> rfl), by repeat (first | (with_reducible first | exact HB.out | apply below_alloc | apply pw_below_drewN | apply below_drew1) | exact HB.out)⟩

/-- THE ONE PURE STATEMENT of munimentlaw1_SumTells: yours. -/
def munimentlaw1_SumTells.Pure : Prop := ∀ (l0 : List Int) (a1 : Int) (a2 : Int), l0.length ≤ maxLen → l0.length * 1 ≤ 140737488351232 → (∀ x ∈ l0, (Lit.int .u8 x).wf = true) → (Lit.int .i64 a1).wf = true → (Lit.int .u32 a2).wf = true → ∃ k, munimentlaw1_SumTells.f k l0 a1 a2 = some true
theorem munimentlaw1_SumTells.walk (P : munimentlaw1_SumTells.Pure) (a0 : Option Addr) (len0 cap0 : Nat) (z0 : List Int) (a1 : Int) (a2 : Int) (w : World) (w0 : (a0 = none ∧ len0 = 0 ∧ cap0 = 0 ∧ z0 = []) ∨ ∃ x, a0 = some x ∧ len0 ≤ cap0 ∧ cap0 ≤ maxLen ∧ z0.length = cap0 ∧ (∀ i, i < z0.length → w.cell? (x.add i) = some (.int .u8 (z0.getD i 0))) ∧ ∀ n ∈ z0, (Lit.int .u8 n).wf = true) (y0 : len0 * 1 ≤ 140737488351232) (w1 : (Lit.int .i64 a1).wf = true) (w2 : (Lit.int .u32 a2).wf = true) :
    Calls Try.prog 3 #[.slice a0 len0 cap0, .int .i64 a1, .int .u32 a2] w fun e w' => e = .returned (.bool true) ∧ Below w.heap.size w w' := by
  obtain ⟨l0, rfl, hr0, hm0, hw0, hc0⟩ := ReadsInt.ofRowC w0
  obtain ⟨k, h⟩ := P l0 a1 a2 hm0 y0 hw0 w1 w2
  refine (munimentlaw1_SumTells.calls k _ _ l0 a1 a2 true w (Kd.C_of_reads (d := (0 : Int)) (h1 := fun _ => rfl) hr0) hc0 h).mono ?_
  rintro e w' ⟨rfl, hd⟩
  exact ⟨rfl, hd⟩

end Go.Proofs.Ytlcididlnfclgaa.Sums
