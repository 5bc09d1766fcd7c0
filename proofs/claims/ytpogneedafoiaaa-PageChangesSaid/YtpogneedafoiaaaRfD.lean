/- The reference, as the kit's print of this claim lays it, behind one namespace: munimentref5_Insert, munimentref5_Replace, munimentref5_Remove. -/
import Derived.Test.YtpogneedafoiaaaRfB
import Derived.Test.YtpogneedafoiaaaRfC
namespace Go.Proofs.Ytpogneedafoiaaa.Rf
open Go.RowKit Go.Proofs.YtpogneedafoiaaaW.PrintWords Go.Proofs.YtpogneedafoiaaaW.PrintLast Go.Proofs.YtpogneedafoiaaaW.PrintMore
attribute [local go_sem] max2_int min2_int max_two min_two max_three min_three max_four min_four   -- for this text's walks alone
set_option linter.unusedVariables false
set_option linter.unusedSimpArgs false
/-! ### munimentref5_Insert: function 24 -/
mutual
def munimentref5_Insert.j0 : Nat → Int → List Int → List Int → Int → Option (List Int × Bool)
  | 0, _, _, _, _ => none
  | k + 1, x1, x2, x8, x9 => (munimentref5_Low.f k x8).bind fun t193 => (munimentref5_Insert.l0 k x1 x2 x8 x9 (wrap64 (t193 - (x2.length : Int))) x9)
def munimentref5_Insert.l0 : Nat → Int → List Int → List Int → Int → Int → Int → Option (List Int × Bool)
  | 0, _, _, _, _, _, _ => none
  | k + 1, x1, x2, x8, x9, x10, x11 => if x11 > x1 then ((munimentref5_slot.f k x8 (wrap64 (x11 - 1))).bind fun bt194 => ((munimentref5_put.f k x8 (wrap64 (26 + (wrap64 (4 * x11)))) 2 (IntKind.u64.wrap (bt194.1))).bind fun t196 => ((munimentref5_put.f k t196 (wrap64 (28 + (wrap64 (4 * x11)))) 2 (IntKind.u64.wrap (bt194.2))).bind fun t197 => (munimentref5_Insert.l0 k x1 x2 t197 x9 x10 (wrap64 (x11 - 1)))))) else ((munimentref5_put.f k x8 (wrap64 (26 + (wrap64 (4 * x1)))) 2 (IntKind.u64.wrap (x10))).bind fun t198 => ((munimentref5_put.f k t198 (wrap64 (28 + (wrap64 (4 * x1)))) 2 (IntKind.u64.wrap ((x2.length : Int)))).bind fun t199 => ((munimentref5_put.f k t199 14 2 (IntKind.u64.wrap (wrap64 (x9 + 1)))).bind fun t200 => ((munimentref5_put.f k t200 16 2 (IntKind.u64.wrap (x10))).bind fun t201 => (munimentref5_Insert.l1 k x2 t201 x10 0)))))
def munimentref5_Insert.l1 : Nat → List Int → List Int → Int → Int → Option (List Int × Bool)
  | 0, _, _, _, _ => none
  | k + 1, x2, x8, x10, x14 => if x14 < (x2.length : Int) then (if 0 ≤ x14 then (if 0 ≤ (wrap64 (x10 + x14)) then (if (wrap64 (x10 + x14)) < (x8.length : Int) then (munimentref5_Insert.l1 k x2 (x8.set ((wrap64 (x10 + x14)) : Int).toNat (rd x2 x14)) x10 (wrap64 (x14 + 1))) else (none)) else (none)) else (none)) else (some (x8, true))
end
def munimentref5_Insert.f (k : Nat) (l0 : List Int) (a1 : Int) (l2 : List Int) : Option (List Int × Bool) := (munimentref5_Free.f k l0).bind fun t184 => (if t184 < (wrap64 ((l2.length : Int) + 4)) then (some (([] : List Int), false)) else ((munimentref5_Copy.f l0).bind fun t185 => ((munimentref5_Count.f k l0).bind fun t188 => ((munimentref5_Low.f k l0).bind fun t189 => (if (wrap64 ((wrap64 (t189 - 26)) - (wrap64 (4 * t188)))) < (wrap64 ((l2.length : Int) + 4)) then ((munimentref5_Compact.f k l0).bind fun t190 => (munimentref5_Insert.j0 k a1 l2 t190 t188)) else (munimentref5_Insert.j0 k a1 l2 t185 t188))))))
theorem munimentref5_Insert.mono_l : ∀ k, (∀ y0 y1 y2 y3, LeO (munimentref5_Insert.j0 k y0 y1 y2 y3) (munimentref5_Insert.j0 (k + 1) y0 y1 y2 y3)) ∧ (∀ y0 y1 y2 y3 y4 y5, LeO (munimentref5_Insert.l0 k y0 y1 y2 y3 y4 y5) (munimentref5_Insert.l0 (k + 1) y0 y1 y2 y3 y4 y5)) ∧ (∀ y0 y1 y2 y3, LeO (munimentref5_Insert.l1 k y0 y1 y2 y3) (munimentref5_Insert.l1 (k + 1) y0 y1 y2 y3))
  | 0 => ⟨fun _ _ _ _ r h => by simp [munimentref5_Insert.j0] at h, fun _ _ _ _ _ _ r h => by simp [munimentref5_Insert.l0] at h, fun _ _ _ _ r h => by simp [munimentref5_Insert.l1] at h⟩
  | k + 1 => by
    obtain ⟨ih0, ih1, ih2⟩ := munimentref5_Insert.mono_l k
    refine ⟨?_, ?_, ?_⟩
    · intro y0 y1 y2 y3
      unfold munimentref5_Insert.j0
      repeat' first
      | (with_reducible exact ih0 _ _ _ _)
      | (with_reducible exact ih1 _ _ _ _ _ _)
      | (with_reducible exact ih2 _ _ _ _)
      | (with_reducible exact munimentref5_Compact.mono _ _)
      | (with_reducible exact munimentref5_Count.mono _ _)
      | (with_reducible exact munimentref5_Free.mono _ _)
      | (with_reducible exact munimentref5_Low.mono _ _)
      | (with_reducible exact munimentref5_put.mono _ _ _ _ _)
      | (with_reducible exact munimentref5_slot.mono _ _ _)
      | (with_reducible exact LeO.refl _)
      | (with_reducible exact LeO.none _)
      | (with_reducible refine LeO.ite ?_ ?_)
      | (with_reducible refine LeO.bind ?_ (fun _ => ?_))
      | exact ih0 _ _ _ _
      | exact ih1 _ _ _ _ _ _
      | exact ih2 _ _ _ _
      | exact munimentref5_Compact.mono _ _
      | exact munimentref5_Count.mono _ _
      | exact munimentref5_Free.mono _ _
      | exact munimentref5_Low.mono _ _
      | exact munimentref5_put.mono _ _ _ _ _
      | exact munimentref5_slot.mono _ _ _
      | exact LeO.none _
      | refine LeO.ite ?_ ?_
      | refine LeO.bind ?_ (fun _ => ?_)
    · intro y0 y1 y2 y3 y4 y5
      unfold munimentref5_Insert.l0
      repeat' first
      | (with_reducible exact ih0 _ _ _ _)
      | (with_reducible exact ih1 _ _ _ _ _ _)
      | (with_reducible exact ih2 _ _ _ _)
      | (with_reducible exact munimentref5_Compact.mono _ _)
      | (with_reducible exact munimentref5_Count.mono _ _)
      | (with_reducible exact munimentref5_Free.mono _ _)
      | (with_reducible exact munimentref5_Low.mono _ _)
      | (with_reducible exact munimentref5_put.mono _ _ _ _ _)
      | (with_reducible exact munimentref5_slot.mono _ _ _)
      | (with_reducible exact LeO.refl _)
      | (with_reducible exact LeO.none _)
      | (with_reducible refine LeO.ite ?_ ?_)
      | (with_reducible refine LeO.bind ?_ (fun _ => ?_))
      | exact ih0 _ _ _ _
      | exact ih1 _ _ _ _ _ _
      | exact ih2 _ _ _ _
      | exact munimentref5_Compact.mono _ _
      | exact munimentref5_Count.mono _ _
      | exact munimentref5_Free.mono _ _
      | exact munimentref5_Low.mono _ _
      | exact munimentref5_put.mono _ _ _ _ _
      | exact munimentref5_slot.mono _ _ _
      | exact LeO.none _
      | refine LeO.ite ?_ ?_
      | refine LeO.bind ?_ (fun _ => ?_)
    · intro y0 y1 y2 y3
      unfold munimentref5_Insert.l1
      repeat' first
      | (with_reducible exact ih0 _ _ _ _)
      | (with_reducible exact ih1 _ _ _ _ _ _)
      | (with_reducible exact ih2 _ _ _ _)
      | (with_reducible exact munimentref5_Compact.mono _ _)
      | (with_reducible exact munimentref5_Count.mono _ _)
      | (with_reducible exact munimentref5_Free.mono _ _)
      | (with_reducible exact munimentref5_Low.mono _ _)
      | (with_reducible exact munimentref5_put.mono _ _ _ _ _)
      | (with_reducible exact munimentref5_slot.mono _ _ _)
      | (with_reducible exact LeO.refl _)
      | (with_reducible exact LeO.none _)
      | (with_reducible refine LeO.ite ?_ ?_)
      | (with_reducible refine LeO.bind ?_ (fun _ => ?_))
      | exact ih0 _ _ _ _
      | exact ih1 _ _ _ _ _ _
      | exact ih2 _ _ _ _
      | exact munimentref5_Compact.mono _ _
      | exact munimentref5_Count.mono _ _
      | exact munimentref5_Free.mono _ _
      | exact munimentref5_Low.mono _ _
      | exact munimentref5_put.mono _ _ _ _ _
      | exact munimentref5_slot.mono _ _ _
      | exact LeO.none _
      | refine LeO.ite ?_ ?_
      | refine LeO.bind ?_ (fun _ => ?_)
theorem munimentref5_Insert.mono : ∀ a0 a1 a2 k, LeO (munimentref5_Insert.f k a0 a1 a2) (munimentref5_Insert.f (k + 1) a0 a1 a2) := by
  intro a0 a1 a2 k
  obtain ⟨ih0, ih1, ih2⟩ := munimentref5_Insert.mono_l k
  unfold munimentref5_Insert.f
  repeat' first
      | (with_reducible exact ih0 _ _ _ _)
      | (with_reducible exact ih1 _ _ _ _ _ _)
      | (with_reducible exact ih2 _ _ _ _)
      | (with_reducible exact munimentref5_Compact.mono _ _)
      | (with_reducible exact munimentref5_Count.mono _ _)
      | (with_reducible exact munimentref5_Free.mono _ _)
      | (with_reducible exact munimentref5_Low.mono _ _)
      | (with_reducible exact munimentref5_put.mono _ _ _ _ _)
      | (with_reducible exact munimentref5_slot.mono _ _ _)
      | (with_reducible exact LeO.refl _)
      | (with_reducible exact LeO.none _)
      | (with_reducible refine LeO.ite ?_ ?_)
      | (with_reducible refine LeO.bind ?_ (fun _ => ?_))
      | exact ih0 _ _ _ _
      | exact ih1 _ _ _ _ _ _
      | exact ih2 _ _ _ _
      | exact munimentref5_Compact.mono _ _
      | exact munimentref5_Count.mono _ _
      | exact munimentref5_Free.mono _ _
      | exact munimentref5_Low.mono _ _
      | exact munimentref5_put.mono _ _ _ _ _
      | exact munimentref5_slot.mono _ _ _
      | exact LeO.none _
      | refine LeO.ite ?_ ?_
      | refine LeO.bind ?_ (fun _ => ?_)
set_option maxHeartbeats 8000000 in
set_option maxRecDepth 100000 in
theorem munimentref5_Insert.calls (k : Nat) (A0 : Option Addr) (c0 : Nat) (l0 : List Int) (a1 : Int) (A2 : Option Addr) (c2 : Nat) (l2 : List Int) (r1 : List Int) (r2 : Bool) (w : World) (hr0 : Kd.C (Kd.int .u8) w A0 l0.length l0) (hc0 : l0.length ≤ c0) (hr2 : Kd.C (Kd.int .u8) w A2 l2.length l2) (hc2 : l2.length ≤ c2) (h : munimentref5_Insert.f k l0 a1 l2 = some (r1, r2)) :
    Calls Try.prog 24 #[.slice A0 l0.length c0, .int .i64 a1, .slice A2 l2.length c2] w fun e w' => ∃ v0_ : Value, e = .returned (.tuple #[v0_, .bool r2]) ∧ Kd.R (Kd.int .u8) 5 w' w.heap.size (fun _ => True) v0_ r1 ∧ Below w.heap.size w w' := by
  have HR0 := Aside0.mk hr0
  have HC0 := Aside0.mk hc0
  clear hr0 hc0
  have HR2 := Aside0.mk hr2
  have HC2 := Aside0.mk hc2
  clear hr2 hc2
  have HB := Aside0.mk (Below.refl w.heap.size w)
  have H : ((munimentref5_Free.f k l0).bind fun t184 => (if t184 < (wrap64 ((l2.length : Int) + 4)) then (some (([] : List Int), false)) else ((munimentref5_Copy.f l0).bind fun t185 => ((munimentref5_Count.f k l0).bind fun t188 => ((munimentref5_Low.f k l0).bind fun t189 => (if (wrap64 ((wrap64 (t189 - 26)) - (wrap64 (4 * t188)))) < (wrap64 ((l2.length : Int) + 4)) then ((munimentref5_Compact.f k l0).bind fun t190 => (munimentref5_Insert.j0 k a1 l2 t190 t188)) else (munimentref5_Insert.j0 k a1 l2 t185 t188))))))) = some (r1, r2) := h
  clear h
  replace H := Option.bind_eq_some_iff.mp H
  obtain ⟨t184, A40, H⟩ := H
  replace H : (if t184 < (wrap64 ((l2.length : Int) + 4)) then (some (([] : List Int), false)) else ((munimentref5_Copy.f l0).bind fun t185 => ((munimentref5_Count.f k l0).bind fun t188 => ((munimentref5_Low.f k l0).bind fun t189 => (if (wrap64 ((wrap64 (t189 - 26)) - (wrap64 (4 * t188)))) < (wrap64 ((l2.length : Int) + 4)) then ((munimentref5_Compact.f k l0).bind fun t190 => (munimentref5_Insert.j0 k a1 l2 t190 t188)) else (munimentref5_Insert.j0 k a1 l2 t185 t188)))))) = some (r1, r2) := H
  have A4 := Aside0.mk A40
  clear A40
  by_cases c5 : t184 < (wrap64 ((l2.length : Int) + 4))
  · rw [if_pos c5] at H
    have c5b0 : decide (t184 < (wrap64 ((l2.length : Int) + 4))) = true := decide_eq_true c5
    clear c5
    simp only [Option.some.injEq, Prod.mk.injEq] at H
    obtain ⟨rfl, rfl⟩ := H
    go_enter Try.func24, Try.ntmps24
    go_wp2_with (first | ((with_reducible refine gate_callee (f := 37) rfl ?_); refine goesL_ (some 16) rfl rfl Try.func37 (by kernel_rfl) rfl #[.slice A0 l0.length c0] rfl (by (try simp only [List.map_toArray, List.map_cons, List.map_nil]); first | done | rfl | (simp only [List.length_drop, List.length_take]; rfl)) ?_; (with_reducible refine (munimentref5_Free.calls k _ _ l0 t184 _ ?side1 ?side2 A4.out).mono ?_); (case side1 => repeat (first | exact HR0.out | (with_reducible refine Kd.C_alloc ?_ _) | (with_reducible refine Kd.C_drewN ?_ _) | (with_reducible refine Kd.C_drew ?_))); (case side2 => exact HC0.out); rintro e w' ⟨rfl, ⟨nd, rfl⟩⟩; refine ⟨_, rfl, ?_⟩))
    go_ret2
    exact ⟨_, by first | rfl | (simp [errW_none, errW_some] <;> rfl) | (simp [*, errW_none, errW_some] <;> rfl), by first | exact Kd.R_nil _ _ _ _ _ | exact Kd.N_nil _ _ _ _ _ | exact Kd.V_nil _ _ _ _ _ | exact Kd.Q_nil _ _ _ _ _ | exact Kd.S_nil _ _ _ _ _, by repeat (first | (with_reducible first | exact HB.out | apply below_alloc | apply pw_below_drewN | apply below_drew1) | exact HB.out)⟩
  · rw [if_neg c5] at H
    have c5b0 : decide (t184 < (wrap64 ((l2.length : Int) + 4))) = false := decide_eq_false c5
    clear c5
    replace H := Option.bind_eq_some_iff.mp H
    obtain ⟨t185, A60, H⟩ := H
    replace H : ((munimentref5_Count.f k l0).bind fun t188 => ((munimentref5_Low.f k l0).bind fun t189 => (if (wrap64 ((wrap64 (t189 - 26)) - (wrap64 (4 * t188)))) < (wrap64 ((l2.length : Int) + 4)) then ((munimentref5_Compact.f k l0).bind fun t190 => (munimentref5_Insert.j0 k a1 l2 t190 t188)) else (munimentref5_Insert.j0 k a1 l2 t185 t188)))) = some (r1, r2) := H
    have A6 := Aside0.mk A60
    clear A60
    replace H := Option.bind_eq_some_iff.mp H
    obtain ⟨t188, A70, H⟩ := H
    replace H : ((munimentref5_Low.f k l0).bind fun t189 => (if (wrap64 ((wrap64 (t189 - 26)) - (wrap64 (4 * t188)))) < (wrap64 ((l2.length : Int) + 4)) then ((munimentref5_Compact.f k l0).bind fun t190 => (munimentref5_Insert.j0 k a1 l2 t190 t188)) else (munimentref5_Insert.j0 k a1 l2 t185 t188))) = some (r1, r2) := H
    have A7 := Aside0.mk A70
    clear A70
    replace H := Option.bind_eq_some_iff.mp H
    obtain ⟨t189, A80, H⟩ := H
    replace H : (if (wrap64 ((wrap64 (t189 - 26)) - (wrap64 (4 * t188)))) < (wrap64 ((l2.length : Int) + 4)) then ((munimentref5_Compact.f k l0).bind fun t190 => (munimentref5_Insert.j0 k a1 l2 t190 t188)) else (munimentref5_Insert.j0 k a1 l2 t185 t188)) = some (r1, r2) := H
    have A8 := Aside0.mk A80
    clear A80
    have HC9 := Aside0.mk H
    clear H
    go_enter Try.func24, Try.ntmps24
    go_upto_if 34 with (first | ((with_reducible refine gate_callee (f := 37) rfl ?_); refine goesL_ (some 16) rfl rfl Try.func37 (by kernel_rfl) rfl #[.slice A0 l0.length c0] rfl (by (try simp only [List.map_toArray, List.map_cons, List.map_nil]); first | done | rfl | (simp only [List.length_drop, List.length_take]; rfl)) ?_; (with_reducible refine (munimentref5_Free.calls k _ _ l0 t184 _ ?side1 ?side2 A4.out).mono ?_); (case side1 => repeat (first | exact HR0.out | (with_reducible refine Kd.C_alloc ?_ _) | (with_reducible refine Kd.C_drewN ?_ _) | (with_reducible refine Kd.C_drew ?_))); (case side2 => exact HC0.out); rintro e w' ⟨rfl, ⟨nd, rfl⟩⟩; refine ⟨_, rfl, ?_⟩) | ((with_reducible refine gate_callee (f := 58) rfl ?_); refine goesL_ (some 22) rfl rfl Try.func58 (by kernel_rfl) rfl #[.slice A0 l0.length c0] rfl (by (try simp only [List.map_toArray, List.map_cons, List.map_nil]); first | done | rfl | (simp only [List.length_drop, List.length_take]; rfl)) ?_; (with_reducible refine (munimentref5_Copy.calls _ _ l0 t185 _ ?side1 ?side2 A6.out).mono ?_); (case side1 => repeat (first | exact HR0.out | (with_reducible refine Kd.C_alloc ?_ _) | (with_reducible refine Kd.C_drewN ?_ _) | (with_reducible refine Kd.C_drew ?_))); (case side2 => exact HC0.out); rintro e w10 ⟨v186, rfl, ho0, hb⟩; refine ⟨_, rfl, ?_⟩; have n0_ := Aside0.mk (Kd.R_lower ho0 (below_size (by repeat (first | (with_reducible first | exact HB.out | apply below_alloc | apply pw_below_drewN | apply below_drew1) | exact HB.out)))); have n1_ := Aside0.mk (below_step (by repeat (first | (with_reducible first | exact HB.out | apply below_alloc | apply pw_below_drewN | apply below_drew1) | exact HB.out)) hb); clear HB; have HO187 := n0_; have HB := n1_; clear n0_ n1_; (try clear hb); (try clear hb2); (try clear hk); (try clear hi); (try clear ho0)) | ((with_reducible refine gate_callee (f := 23) rfl ?_); refine goesL_ (some 24) rfl rfl Try.func23 (by kernel_rfl) rfl #[.slice A0 l0.length c0] rfl (by (try simp only [List.map_toArray, List.map_cons, List.map_nil]); first | done | rfl | (simp only [List.length_drop, List.length_take]; rfl)) ?_; (with_reducible refine (munimentref5_Count.calls k _ _ l0 t188 _ ?side1 ?side2 A7.out).mono ?_); (case side1 => repeat (first | exact (Kd.C_below HR0.out HB.out) | (with_reducible refine Kd.C_alloc ?_ _) | (with_reducible refine Kd.C_drewN ?_ _) | (with_reducible refine Kd.C_drew ?_))); (case side2 => exact HC0.out); rintro e w' ⟨rfl, ⟨nd, rfl⟩⟩; refine ⟨_, rfl, ?_⟩) | ((with_reducible refine gate_callee (f := 18) rfl ?_); refine goesL_ (some 26) rfl rfl Try.func18 (by kernel_rfl) rfl #[.slice A0 l0.length c0] rfl (by (try simp only [List.map_toArray, List.map_cons, List.map_nil]); first | done | rfl | (simp only [List.length_drop, List.length_take]; rfl)) ?_; (with_reducible refine (munimentref5_Low.calls k _ _ l0 t189 _ ?side1 ?side2 A8.out).mono ?_); (case side1 => repeat (first | exact (Kd.C_below HR0.out (by repeat (first | (with_reducible first | exact HB.out | apply below_alloc | apply pw_below_drewN | apply below_drew1) | exact HB.out))) | (with_reducible refine Kd.C_alloc ?_ _) | (with_reducible refine Kd.C_drewN ?_ _) | (with_reducible refine Kd.C_drew ?_))); (case side2 => exact HC0.out); rintro e w' ⟨rfl, ⟨nd, rfl⟩⟩; refine ⟨_, rfl, ?_⟩))
    (try simp only [Act.put, List.setIfInBounds_toArray, List.set_cons_zero, List.set_cons_succ])
    go_cut [8] (fun v8 wc => ∃ (kq : Nat) (x8_8 : List Int), Aside0 (munimentref5_Insert.j0 kq a1 l2 x8_8 t188 = some (r1, r2)) ∧ Aside0 (kq ≤ k) ∧ Aside0 (Kd.R (Kd.int .u8) 5 wc w.heap.size (fun _ => True) v8 x8_8) ∧ Aside0 (Below w.heap.size w wc))
    case first =>
      have H := HC9.out
      clear HC9
      by_cases c11 : (wrap64 ((wrap64 (t189 - 26)) - (wrap64 (4 * t188)))) < (wrap64 ((l2.length : Int) + 4))
      · rw [if_pos c11] at H
        have c11b0 : decide ((wrap64 ((wrap64 (t189 - 26)) - (wrap64 (4 * t188)))) < (wrap64 ((l2.length : Int) + 4))) = true := decide_eq_true c11
        clear c11
        (first | rw [c11b0] | (simp only [i64_w, i32_w]; rw [c11b0]) | skip)
        replace H := Option.bind_eq_some_iff.mp H
        obtain ⟨t190, A120, H⟩ := H
        replace H : (munimentref5_Insert.j0 k a1 l2 t190 t188) = some (r1, r2) := H
        have A12 := Aside0.mk A120
        clear A120
        have H' := Aside0.mk H
        clear H
        go_wp2_with (first | ((with_reducible refine gate_callee (f := 40) rfl ?_); refine goesL_ (some 36) rfl rfl Try.func40 (by kernel_rfl) rfl #[.slice A0 l0.length c0] rfl (by (try simp only [List.map_toArray, List.map_cons, List.map_nil]); first | done | rfl | (simp only [List.length_drop, List.length_take]; rfl)) ?_; (with_reducible refine (munimentref5_Compact.calls k _ _ l0 t190 _ ?side1 ?side2 A12.out).mono ?_); (case side1 => repeat (first | exact (Kd.C_below HR0.out HB.out) | (with_reducible refine Kd.C_alloc ?_ _) | (with_reducible refine Kd.C_drewN ?_ _) | (with_reducible refine Kd.C_drew ?_))); (case side2 => exact HC0.out); rintro e w13 ⟨v191, rfl, ho0, hb⟩; refine ⟨_, rfl, ?_⟩; have n0_ := Aside0.mk (Kd.R_elder' (by (with_reducible repeat (first | apply Kd.R_alloc | apply Kd.R_drewN | apply Kd.R_drew)); exact HO187.out) (Kd.R_base ho0) hb); have n1_ := Aside0.mk (Kd.R_lower (Kd.R_new' ho0 (Kd.R_lt (by (with_reducible repeat (first | apply Kd.R_alloc | apply Kd.R_drewN | apply Kd.R_drew)); exact HO187.out))) (below_size (by repeat (first | (with_reducible first | exact HB.out | apply below_alloc | apply pw_below_drewN | apply below_drew1) | exact HB.out)))); have n2_ := Aside0.mk (below_step (by repeat (first | (with_reducible first | exact HB.out | apply below_alloc | apply pw_below_drewN | apply below_drew1) | exact HB.out)) hb); clear HO187; clear HB; have HO187 := n0_; have HO192 := n1_; have HB := n2_; clear n0_ n1_ n2_; (try clear hb); (try clear hb2); (try clear hk); (try clear hi); (try clear ho0)))
        go_meet
        case rel => exact ⟨_, (t190), H', ⟨by first | omega | exact Nat.le_refl _⟩, ⟨by (with_reducible repeat (first | apply Kd.R_alloc | apply Kd.R_drewN | apply Kd.R_drew)); exact Kd.R_mono HO192.out (fun _ hk => trivial)⟩, ⟨by repeat (first | (with_reducible first | exact HB.out | apply below_alloc | apply pw_below_drewN | apply below_drew1) | exact HB.out)⟩⟩
      · rw [if_neg c11] at H
        have c11b0 : decide ((wrap64 ((wrap64 (t189 - 26)) - (wrap64 (4 * t188)))) < (wrap64 ((l2.length : Int) + 4))) = false := decide_eq_false c11
        clear c11
        (first | rw [c11b0] | (simp only [i64_w, i32_w]; rw [c11b0]) | skip)
        have H' := Aside0.mk H
        clear H
        go_wp2
        go_meet
        case rel => exact ⟨_, (t185), H', ⟨by first | omega | exact Nat.le_refl _⟩, ⟨by (with_reducible repeat (first | apply Kd.R_alloc | apply Kd.R_drewN | apply Kd.R_drew)); exact HO187.out⟩, ⟨by repeat (first | (with_reducible first | exact HB.out | apply below_alloc | apply pw_below_drewN | apply below_drew1) | exact HB.out)⟩⟩
    case rest =>
      clear HC9
      try clear c1
      try clear c2
      try clear p2
      try clear c3
      try clear c4
      try clear c5
      try clear c5b0
      try clear p6
      try clear c11
      try clear c11b0
      obtain ⟨kq, x8_8, HA, HJ8, HO_8, HB⟩ := hcut
      cases kq with
      | zero => exact absurd HA.out (by simp [munimentref5_Insert.j0])
      | succ kj8 =>
        have H := HA.out
        clear HA
        simp only [munimentref5_Insert.j0] at H
        replace H := Option.bind_eq_some_iff.mp H
        obtain ⟨t193, A140, H⟩ := H
        replace H : (munimentref5_Insert.l0 kj8 a1 l2 x8_8 t188 (wrap64 (t193 - (l2.length : Int))) t188) = some (r1, r2) := H
        have A14 := Aside0.mk A140
        clear A140
        have H' := Aside0.mk H
        clear H
        obtain ⟨Ao15, co15, eo15⟩ := Kd.R_slice HO_8.out
        subst eo15
        go_wp2_with (first | ((with_reducible refine gate_callee (f := 18) rfl ?_); refine goesL_ (some 38) rfl rfl Try.func18 (by kernel_rfl) rfl #[.slice Ao15 x8_8.length co15] rfl (by (try simp only [List.map_toArray, List.map_cons, List.map_nil]); first | done | rfl | (simp only [List.length_drop, List.length_take]; rfl)) ?_; (with_reducible refine (munimentref5_Low.calls kj8 _ _ x8_8 t193 _ ?side1 ?side2 A14.out).mono ?_); (case side1 => repeat (first | exact (Kd.R_reads' HO_8.out).2.2 | (with_reducible refine Kd.C_alloc ?_ _) | (with_reducible refine Kd.C_drewN ?_ _) | (with_reducible refine Kd.C_drew ?_))); (case side2 => exact (Kd.R_reads' HO_8.out).2.1); rintro e w' ⟨rfl, ⟨nd, rfl⟩⟩; refine ⟨_, rfl, ?_⟩))
        go_loopg [11] kj8 (fun kq v11 w' => ∃ (x8_2 : List Int) (x11_2 : Int), v11 = .int .i64 x11_2 ∧ Aside0 (munimentref5_Insert.l0 kq a1 l2 x8_2 t188 (wrap64 (t193 - (l2.length : Int))) x11_2 = some (r1, r2)) ∧ Aside0 (kq ≤ kj8) ∧ Aside0 (Kd.R (Kd.int .u8) 5 w' w.heap.size (fun _ => True) (.slice Ao15 x8_8.length co15) x8_2) ∧ Aside0 (Below w.heap.size w w'))
        case atStart => exact ⟨(x8_8), (t188), (by first | rfl | (simp; done) | (simp [*]; done)), H', ⟨Nat.le_refl _⟩, ⟨by (with_reducible repeat (first | apply Kd.R_alloc | apply Kd.R_drewN | apply Kd.R_drew)); exact HO_8.out⟩, ⟨by repeat (first | (with_reducible first | exact HB.out | apply below_alloc | apply pw_below_drewN | apply below_drew1) | exact HB.out)⟩⟩
        case round =>
          clear H'
          try clear c1
          try clear c2
          try clear p2
          try clear c3
          try clear c4
          try clear c5
          try clear c5b0
          try clear p6
          try clear c11
          try clear c11b0
          try clear p2
          try clear p6
          obtain ⟨x8_2, x11_2, rfl, HA, HK2, HO_8, HB⟩ := hrel
          have hl8_2 := (Kd.R_reads' HO_8.out).1
          rw [hl8_2] at HO_8
          (try simp only [hl8_2])
          cases gk with
          | zero => exact absurd HA.out (by simp [munimentref5_Insert.l0])
          | succ k2 =>
            have H := HA.out
            clear HA
            simp only [munimentref5_Insert.l0] at H
            by_cases c16 : x11_2 > a1
            · rw [if_pos c16] at H
              have c16b0 : decide (a1 < x11_2) = true := decide_eq_true c16
              clear c16
              replace H := Option.bind_eq_some_iff.mp H
              obtain ⟨⟨t194, t195⟩, A170, H⟩ := H
              replace H : ((munimentref5_put.f k2 x8_2 (wrap64 (26 + (wrap64 (4 * x11_2)))) 2 (IntKind.u64.wrap (t194))).bind fun t196 => ((munimentref5_put.f k2 t196 (wrap64 (28 + (wrap64 (4 * x11_2)))) 2 (IntKind.u64.wrap (t195))).bind fun t197 => (munimentref5_Insert.l0 k2 a1 l2 t197 t188 (wrap64 (t193 - (l2.length : Int))) (wrap64 (x11_2 - 1))))) = some (r1, r2) := H
              have A17 := Aside0.mk A170
              clear A170
              replace H := Option.bind_eq_some_iff.mp H
              obtain ⟨t196, A180, H⟩ := H
              replace H : ((munimentref5_put.f k2 t196 (wrap64 (28 + (wrap64 (4 * x11_2)))) 2 (IntKind.u64.wrap (t195))).bind fun t197 => (munimentref5_Insert.l0 k2 a1 l2 t197 t188 (wrap64 (t193 - (l2.length : Int))) (wrap64 (x11_2 - 1)))) = some (r1, r2) := H
              have A18 := Aside0.mk A180
              clear A180
              replace H := Option.bind_eq_some_iff.mp H
              obtain ⟨t197, A190, H⟩ := H
              replace H : (munimentref5_Insert.l0 k2 a1 l2 t197 t188 (wrap64 (t193 - (l2.length : Int))) (wrap64 (x11_2 - 1))) = some (r1, r2) := H
              have A19 := Aside0.mk A190
              clear A190
              have H' := Aside0.mk H
              clear H
              go_wp2_with (first | ((with_reducible refine gate_callee (f := 57) rfl ?_); refine goesL_ (some 52) rfl rfl Try.func57 (by kernel_rfl) rfl #[.slice Ao15 x8_2.length co15, .int .i64 (wrap64 (x11_2 - 1))] rfl (by (try simp only [List.map_toArray, List.map_cons, List.map_nil]); first | done | rfl | (simp only [List.length_drop, List.length_take]; rfl)) ?_; (with_reducible refine (munimentref5_slot.calls k2 _ _ x8_2 (wrap64 (x11_2 - 1)) t194 t195 _ ?side1 ?side2 A17.out).mono ?_); (case side1 => repeat (first | exact (Kd.R_reads' HO_8.out).2.2 | (with_reducible refine Kd.C_alloc ?_ _) | (with_reducible refine Kd.C_drewN ?_ _) | (with_reducible refine Kd.C_drew ?_))); (case side2 => exact (Kd.R_reads' HO_8.out).2.1); rintro e w' ⟨rfl, ⟨nd, rfl⟩⟩; refine ⟨_, rfl, ?_⟩) | ((with_reducible refine gate_callee (f := 59) rfl ?_); refine goesL_ (some 61) rfl rfl Try.func59 (by kernel_rfl) rfl #[.slice Ao15 x8_2.length co15, .int .i64 (wrap64 (26 + (wrap64 (4 * x11_2)))), .int .i64 2, .int .u64 (IntKind.u64.wrap (t194))] rfl (by (try simp only [List.map_toArray, List.map_cons, List.map_nil]); first | done | rfl | (simp only [List.length_drop, List.length_take]; rfl)) ?_; (with_reducible refine (munimentref5_put.calls k2 (fun k_ => some k_ = (.slice Ao15 x8_2.length co15 : Value).ownBlock) (.slice Ao15 x8_2.length co15) x8_2 (wrap64 (26 + (wrap64 (4 * x11_2)))) 2 (IntKind.u64.wrap (t194)) t196 w _ ?side1 ?side2 A18.out).mono ?_); (case side1 => repeat (first | (with_reducible first | exact HB.out | apply below_alloc | apply pw_below_drewN | apply below_drew1) | exact HB.out)); (case side2 => exact Kd.R_tight rfl HO_8.out); rintro e w20 ⟨rfl, hy0, hb, hkp⟩; refine ⟨_, rfl, ?_⟩; have n0_ := Aside0.mk (Kd.R_reok rfl hy0 (fun k_ e_ => HO_8.out.1 k_ e_)); have n1_ := Aside0.mk (hb); clear HO_8; clear HB; have HO_8 := n0_; have HB := n1_; clear n0_ n1_; (try clear hb); (try clear hkp); (try clear hy0)) | ((with_reducible refine gate_callee (f := 59) rfl ?_); refine goesL_ (some 68) rfl rfl Try.func59 (by kernel_rfl) rfl #[.slice Ao15 x8_2.length co15, .int .i64 (wrap64 (28 + (wrap64 (4 * x11_2)))), .int .i64 2, .int .u64 (IntKind.u64.wrap (t195))] rfl (by (try simp only [List.map_toArray, List.map_cons, List.map_nil]); first | done | rfl | (simp only [List.length_drop, List.length_take]; rfl)) ?_; (with_reducible refine (munimentref5_put.calls k2 (fun k_ => some k_ = (.slice Ao15 x8_2.length co15 : Value).ownBlock) (.slice Ao15 x8_2.length co15) t196 (wrap64 (28 + (wrap64 (4 * x11_2)))) 2 (IntKind.u64.wrap (t195)) t197 w _ ?side1 ?side2 A19.out).mono ?_); (case side1 => repeat (first | (with_reducible first | exact HB.out | apply below_alloc | apply pw_below_drewN | apply below_drew1) | exact HB.out)); (case side2 => exact Kd.R_tight rfl HO_8.out); rintro e w21 ⟨rfl, hy0, hb, hkp⟩; refine ⟨_, rfl, ?_⟩; have n0_ := Aside0.mk (Kd.R_reok rfl hy0 (fun k_ e_ => HO_8.out.1 k_ e_)); have n1_ := Aside0.mk (hb); clear HO_8; clear HB; have HO_8 := n0_; have HB := n1_; clear n0_ n1_; (try clear hb); (try clear hkp); (try clear hy0)))
              (try simp only [← hl8_2])
              go_roundg k2
              case measure => have := HJ8.out; have := HK2.out; omega
              case rel => exact ⟨(t197), (wrap64 (x11_2 - 1)), (by first | rfl | (simp; done) | (simp [*]; done)), H', ⟨by have := HJ8.out; have := HK2.out; omega⟩, ⟨by (try simp only [hl8_2]); (with_reducible repeat (first | apply Kd.R_alloc | apply Kd.R_drewN | apply Kd.R_drew)); exact HO_8.out⟩, ⟨by repeat (first | (with_reducible first | exact HB.out | apply below_alloc | apply pw_below_drewN | apply below_drew1) | exact HB.out)⟩⟩
            · rw [if_neg c16] at H
              have c16b0 : decide (a1 < x11_2) = false := decide_eq_false c16
              clear c16
              replace H := Option.bind_eq_some_iff.mp H
              obtain ⟨t198, A220, H⟩ := H
              replace H : ((munimentref5_put.f k2 t198 (wrap64 (28 + (wrap64 (4 * a1)))) 2 (IntKind.u64.wrap ((l2.length : Int)))).bind fun t199 => ((munimentref5_put.f k2 t199 14 2 (IntKind.u64.wrap (wrap64 (t188 + 1)))).bind fun t200 => ((munimentref5_put.f k2 t200 16 2 (IntKind.u64.wrap ((wrap64 (t193 - (l2.length : Int)))))).bind fun t201 => (munimentref5_Insert.l1 k2 l2 t201 (wrap64 (t193 - (l2.length : Int))) 0)))) = some (r1, r2) := H
              have A22 := Aside0.mk A220
              clear A220
              replace H := Option.bind_eq_some_iff.mp H
              obtain ⟨t199, A230, H⟩ := H
              replace H : ((munimentref5_put.f k2 t199 14 2 (IntKind.u64.wrap (wrap64 (t188 + 1)))).bind fun t200 => ((munimentref5_put.f k2 t200 16 2 (IntKind.u64.wrap ((wrap64 (t193 - (l2.length : Int)))))).bind fun t201 => (munimentref5_Insert.l1 k2 l2 t201 (wrap64 (t193 - (l2.length : Int))) 0))) = some (r1, r2) := H
              have A23 := Aside0.mk A230
              clear A230
              replace H := Option.bind_eq_some_iff.mp H
              obtain ⟨t200, A240, H⟩ := H
              replace H : ((munimentref5_put.f k2 t200 16 2 (IntKind.u64.wrap ((wrap64 (t193 - (l2.length : Int)))))).bind fun t201 => (munimentref5_Insert.l1 k2 l2 t201 (wrap64 (t193 - (l2.length : Int))) 0)) = some (r1, r2) := H
              have A24 := Aside0.mk A240
              clear A240
              replace H := Option.bind_eq_some_iff.mp H
              obtain ⟨t201, A250, H⟩ := H
              replace H : (munimentref5_Insert.l1 k2 l2 t201 (wrap64 (t193 - (l2.length : Int))) 0) = some (r1, r2) := H
              have A25 := Aside0.mk A250
              clear A250
              have H' := Aside0.mk H
              clear H
              go_wp2_with (first | ((with_reducible refine gate_callee (f := 59) rfl ?_); refine goesL_ (some 75) rfl rfl Try.func59 (by kernel_rfl) rfl #[.slice Ao15 x8_2.length co15, .int .i64 (wrap64 (26 + (wrap64 (4 * a1)))), .int .i64 2, .int .u64 (IntKind.u64.wrap ((wrap64 (t193 - (l2.length : Int)))))] rfl (by (try simp only [List.map_toArray, List.map_cons, List.map_nil]); first | done | rfl | (simp only [List.length_drop, List.length_take]; rfl)) ?_; (with_reducible refine (munimentref5_put.calls k2 (fun k_ => some k_ = (.slice Ao15 x8_2.length co15 : Value).ownBlock) (.slice Ao15 x8_2.length co15) x8_2 (wrap64 (26 + (wrap64 (4 * a1)))) 2 (IntKind.u64.wrap ((wrap64 (t193 - (l2.length : Int))))) t198 w _ ?side1 ?side2 A22.out).mono ?_); (case side1 => repeat (first | (with_reducible first | exact HB.out | apply below_alloc | apply pw_below_drewN | apply below_drew1) | exact HB.out)); (case side2 => exact Kd.R_tight rfl HO_8.out); rintro e w26 ⟨rfl, hy0, hb, hkp⟩; refine ⟨_, rfl, ?_⟩; have n0_ := Aside0.mk (Kd.R_reok rfl hy0 (fun k_ e_ => HO_8.out.1 k_ e_)); have n1_ := Aside0.mk (hb); clear HO_8; clear HB; have HO_8 := n0_; have HB := n1_; clear n0_ n1_; (try clear hb); (try clear hkp); (try clear hy0)) | ((with_reducible refine gate_callee (f := 59) rfl ?_); refine goesL_ (some 83) rfl rfl Try.func59 (by kernel_rfl) rfl #[.slice Ao15 x8_2.length co15, .int .i64 (wrap64 (28 + (wrap64 (4 * a1)))), .int .i64 2, .int .u64 (IntKind.u64.wrap ((l2.length : Int)))] rfl (by (try simp only [List.map_toArray, List.map_cons, List.map_nil]); first | done | rfl | (simp only [List.length_drop, List.length_take]; rfl)) ?_; (with_reducible refine (munimentref5_put.calls k2 (fun k_ => some k_ = (.slice Ao15 x8_2.length co15 : Value).ownBlock) (.slice Ao15 x8_2.length co15) t198 (wrap64 (28 + (wrap64 (4 * a1)))) 2 (IntKind.u64.wrap ((l2.length : Int))) t199 w _ ?side1 ?side2 A23.out).mono ?_); (case side1 => repeat (first | (with_reducible first | exact HB.out | apply below_alloc | apply pw_below_drewN | apply below_drew1) | exact HB.out)); (case side2 => exact Kd.R_tight rfl HO_8.out); rintro e w27 ⟨rfl, hy0, hb, hkp⟩; refine ⟨_, rfl, ?_⟩; have n0_ := Aside0.mk (Kd.R_reok rfl hy0 (fun k_ e_ => HO_8.out.1 k_ e_)); have n1_ := Aside0.mk (hb); clear HO_8; clear HB; have HO_8 := n0_; have HB := n1_; clear n0_ n1_; (try clear hb); (try clear hkp); (try clear hy0)) | ((with_reducible refine gate_callee (f := 59) rfl ?_); refine goesL_ (some 88) rfl rfl Try.func59 (by kernel_rfl) rfl #[.slice Ao15 x8_2.length co15, .int .i64 14, .int .i64 2, .int .u64 (IntKind.u64.wrap (wrap64 (t188 + 1)))] rfl (by (try simp only [List.map_toArray, List.map_cons, List.map_nil]); first | done | rfl | (simp only [List.length_drop, List.length_take]; rfl)) ?_; (with_reducible refine (munimentref5_put.calls k2 (fun k_ => some k_ = (.slice Ao15 x8_2.length co15 : Value).ownBlock) (.slice Ao15 x8_2.length co15) t199 14 2 (IntKind.u64.wrap (wrap64 (t188 + 1))) t200 w _ ?side1 ?side2 A24.out).mono ?_); (case side1 => repeat (first | (with_reducible first | exact HB.out | apply below_alloc | apply pw_below_drewN | apply below_drew1) | exact HB.out)); (case side2 => exact Kd.R_tight rfl HO_8.out); rintro e w28 ⟨rfl, hy0, hb, hkp⟩; refine ⟨_, rfl, ?_⟩; have n0_ := Aside0.mk (Kd.R_reok rfl hy0 (fun k_ e_ => HO_8.out.1 k_ e_)); have n1_ := Aside0.mk (hb); clear HO_8; clear HB; have HO_8 := n0_; have HB := n1_; clear n0_ n1_; (try clear hb); (try clear hkp); (try clear hy0)) | ((with_reducible refine gate_callee (f := 59) rfl ?_); refine goesL_ (some 92) rfl rfl Try.func59 (by kernel_rfl) rfl #[.slice Ao15 x8_2.length co15, .int .i64 16, .int .i64 2, .int .u64 (IntKind.u64.wrap ((wrap64 (t193 - (l2.length : Int)))))] rfl (by (try simp only [List.map_toArray, List.map_cons, List.map_nil]); first | done | rfl | (simp only [List.length_drop, List.length_take]; rfl)) ?_; (with_reducible refine (munimentref5_put.calls k2 (fun k_ => some k_ = (.slice Ao15 x8_2.length co15 : Value).ownBlock) (.slice Ao15 x8_2.length co15) t200 16 2 (IntKind.u64.wrap ((wrap64 (t193 - (l2.length : Int))))) t201 w _ ?side1 ?side2 A25.out).mono ?_); (case side1 => repeat (first | (with_reducible first | exact HB.out | apply below_alloc | apply pw_below_drewN | apply below_drew1) | exact HB.out)); (case side2 => exact Kd.R_tight rfl HO_8.out); rintro e w29 ⟨rfl, hy0, hb, hkp⟩; refine ⟨_, rfl, ?_⟩; have n0_ := Aside0.mk (Kd.R_reok rfl hy0 (fun k_ e_ => HO_8.out.1 k_ e_)); have n1_ := Aside0.mk (hb); clear HO_8; clear HB; have HO_8 := n0_; have HB := n1_; clear n0_ n1_; (try clear hb); (try clear hkp); (try clear hy0)))
              go_loopg [14] k2 (fun kq v14 w' => ∃ (x8_3 : List Int) (x14_3 : Int), v14 = .int .i64 x14_3 ∧ Aside0 (munimentref5_Insert.l1 kq l2 x8_3 (wrap64 (t193 - (l2.length : Int))) x14_3 = some (r1, r2)) ∧ Aside0 (kq ≤ k2) ∧ Aside0 (Kd.R (Kd.int .u8) 5 w' w.heap.size (fun _ => True) (.slice Ao15 x8_2.length co15) x8_3) ∧ Aside0 (Below w.heap.size w w'))
              case atStart => exact ⟨(t201), (0), (by first | rfl | (simp; done) | (simp [*]; done)), H', ⟨Nat.le_refl _⟩, ⟨by (try simp only [hl8_2]); (with_reducible repeat (first | apply Kd.R_alloc | apply Kd.R_drewN | apply Kd.R_drew)); exact HO_8.out⟩, ⟨by repeat (first | (with_reducible first | exact HB.out | apply below_alloc | apply pw_below_drewN | apply below_drew1) | exact HB.out)⟩⟩
              case round =>
                clear H'
                try clear c1
                try clear c2
                try clear p2
                try clear c3
                try clear c4
                try clear c5
                try clear c5b0
                try clear p6
                try clear c11
                try clear c11b0
                try clear c16
                try clear c16b0
                try clear c18
                try clear c23
                try clear c24
                try clear p2
                try clear p6
                obtain ⟨x8_3, x14_3, rfl, HA, HK3, HO_8, HB⟩ := hrel
                have hl8_3 := (Kd.R_reads' HO_8.out).1
                rw [hl8_3] at HO_8
                (try simp only [hl8_3])
                cases gk with
                | zero => exact absurd HA.out (by simp [munimentref5_Insert.l1])
                | succ k3 =>
                  have H := HA.out
                  clear HA
                  simp only [munimentref5_Insert.l1] at H
                  by_cases c30 : x14_3 < (l2.length : Int)
                  · rw [if_pos c30] at H
                    have c30b0 : decide (x14_3 < (l2.length : Int)) = true := decide_eq_true c30
                    clear c30
                    by_cases c31 : 0 ≤ x14_3
                    · rw [if_pos c31] at H
                      have c31b0 : decide (0 ≤ x14_3) = true := decide_eq_true c31
                      clear c31
                      obtain ⟨ji32, hji32⟩ : ∃ j_ : Int, (wrap64 ((wrap64 (t193 - (l2.length : Int))) + x14_3)) = j_ := ⟨_, rfl⟩
                      replace H : (if 0 ≤ (ji32) then (if (ji32) < (x8_3.length : Int) then (munimentref5_Insert.l1 k3 l2 (x8_3.set ((ji32) : Int).toNat (rd l2 x14_3)) (wrap64 (t193 - (l2.length : Int))) (wrap64 (x14_3 + 1))) else (none)) else (none)) = some (r1, r2) := by first | (rw [hji32] at H; exact H) | (simp only [hji32] at H ⊢; exact H)
                      have hji32w : (IntKind.i64.wrap ((wrap64 (t193 - (l2.length : Int))) + x14_3)) = ji32 := (i64_w _).trans hji32
                      by_cases c33 : 0 ≤ (ji32)
                      · rw [if_pos c33] at H
                        have c33b0 : decide (0 ≤ (ji32)) = true := decide_eq_true c33
                        clear c33
                        by_cases c34 : (ji32) < (x8_3.length : Int)
                        · rw [if_pos c34] at H
                          have c34b0 : decide ((ji32) < (x8_3.length : Int)) = true := decide_eq_true c34
                          clear c34
                          obtain ⟨y203, hy203⟩ : ∃ y_ : List Int, y_ = (x8_3.set ((ji32) : Int).toNat (rd l2 x14_3)) := ⟨_, rfl⟩
                          replace H : (munimentref5_Insert.l1 k3 l2 y203 (wrap64 (t193 - (l2.length : Int))) (wrap64 (x14_3 + 1))) = some (r1, r2) := by first | (rw [hy203]; with_reducible exact H) | (have H2_ := (Option.bind_some _ _).symm.trans H; rw [hy203]; with_reducible exact H2_) | (have H2_ := (Option.bind_some _ _).symm.trans H; with_reducible exact H2_) | with_reducible exact H | (rw [hy203]; exact H) | exact H
                          have Ny203 := Aside0.mk hy203
                          clear hy203
                          have H' := Aside0.mk H
                          clear H
                          have p202 : 0 ≤ (x14_3 : Int) := of_decide_eq_true (by first | (with_reducible assumption) | assumption)
                          have q202 : x14_3 < (l2.length : Int) := of_decide_eq_true (by first | (with_reducible assumption) | assumption)
                          obtain ⟨ad202, e202, hx202_0⟩ := Kd.at_int HR2.out x14_3 p202 q202
                          cases e202
                          replace hx202_0 := (HB.out.cell (World.block_lt_of_cell? w _ hx202_0)).trans hx202_0
                          replace p202 := eq_true p202
                          replace q202 := eq_true q202
                          have p35 : 0 ≤ ((ji32) : Int) := of_decide_eq_true (by first | (with_reducible assumption) | assumption)
                          have q35 : ((ji32) : Int) < ((x8_3.length : Int) : Int) := of_decide_eq_true (by first | (with_reducible assumption) | assumption)
                          obtain ⟨go35, co35, eo35, gb35, gl35, cl35, HG35⟩ := Kd.R_form HO_8.out (by omega)
                          (first | cases eo35 | (injection eo35 with ea_ en_ ec_; (first | subst ea_ | (injection ea_ with ea_; subst ea_)); subst ec_; clear en_))
                          have GB35 := Aside0.mk gb35
                          have GG35 := Aside0.mk HG35
                          clear gb35 gl35 HG35
                          obtain ⟨hx35_0, hf35_0⟩ := Kd.R_celln 0 HO_8.out ((ji32) : Int) p35 q35
                          replace p35 := eq_true p35
                          replace q35 := eq_true q35
                          have HP36 := Kd.R_putg HO_8.out ((ji32) : Int) (rd l2 x14_3)
                          go_wp2_with (first | ((with_reducible refine gate_store (t := 5) (p := 107) rfl ?_); refine store_event (t := 5) (p := 107) (v := ?vo_w37) (w1 := (wr.setCell ⟨go35, ((ji32) : Int).toNat, none⟩ (.int .u8 (rd l2 x14_3)))) ?hg ?ho ?hn ?hr ?_; (case ho => rfl); (case hg => rfl); (case hn => rfl); (case hr => first | (go_simp; done) | (go_simp; rfl)); intro w37 hw; have hg : wr.grownBy w37 (some go35) := (by rw [hw]; exact HP36.2); have hp_ : Kd.R (Kd.int .u8) 5 w37 w.heap.size (fun _ => True) (.slice (some ⟨go35, 0, none⟩) x8_3.length co15) y203 := (by rw [hw, Ny203.out]; exact HP36.1); clear HP36; have n0_ := Aside0.mk (hp_); have n1_ := Aside0.mk ((by rw [hw]; exact below_set (HB.out) GB35.out : Below w.heap.size w w37)); clear HO_8; clear HB; have HO_8 := n0_; have HB := n1_; clear n0_ n1_; clear hg hw hp_))
                          (try simp only [← hl8_3])
                          go_roundg k3
                          case measure => have := HJ8.out; have := HK2.out; have := HK3.out; omega
                          case rel => exact ⟨(y203), (wrap64 (x14_3 + 1)), (by first | rfl | (simp; done) | (simp [*]; done)), H', ⟨by have := HJ8.out; have := HK2.out; have := HK3.out; omega⟩, ⟨by (try simp only [hl8_2]); (try simp only [hl8_3]); (with_reducible repeat (first | apply Kd.R_alloc | apply Kd.R_drewN | apply Kd.R_drew)); exact HO_8.out⟩, ⟨by repeat (first | (with_reducible first | exact HB.out | apply below_alloc | apply pw_below_drewN | apply below_drew1) | exact HB.out)⟩⟩
                        · rw [if_neg c34] at H
                          exact absurd H (by simp)
                      · rw [if_neg c33] at H
                        exact absurd H (by simp)
                    · rw [if_neg c31] at H
                      exact absurd H (by simp)
                  · rw [if_neg c30] at H
                    have c30b0 : decide (x14_3 < (l2.length : Int)) = false := decide_eq_false c30
                    clear c30
                    simp only [Option.some.injEq, Prod.mk.injEq] at H
                    obtain ⟨rfl, rfl⟩ := H
                    go_wp2
                    go_ret2
                    exact ⟨_, by first | rfl | (simp [errW_none, errW_some] <;> rfl) | (simp [*, errW_none, errW_some] <;> rfl), by (with_reducible repeat (first | apply Kd.R_alloc | apply Kd.R_drewN | apply Kd.R_drew)); exact HO_8.out, by repeat (first | (with_reducible first | exact HB.out | apply below_alloc | apply pw_below_drewN | apply below_drew1) | exact HB.out)⟩

/-! ### munimentref5_Replace: function 25 -/
mutual
def munimentref5_Replace.j0 : Nat → Int → List Int → Int → List Int → Option (List Int × Bool)
  | 0, _, _, _, _ => none
  | k + 1, x1, x2, x8, x10 => (munimentref5_put.f k x10 (wrap64 (28 + (wrap64 (4 * x1)))) 2 (IntKind.u64.wrap ((x2.length : Int)))).bind fun t222 => (munimentref5_Replace.l0 k x2 x8 t222 0)
def munimentref5_Replace.l0 : Nat → List Int → Int → List Int → Int → Option (List Int × Bool)
  | 0, _, _, _, _ => none
  | k + 1, x2, x8, x10, x11 => if x11 < (x2.length : Int) then (if 0 ≤ x11 then (if 0 ≤ (wrap64 (x8 + x11)) then (if (wrap64 (x8 + x11)) < (x10.length : Int) then (munimentref5_Replace.l0 k x2 x8 (x10.set ((wrap64 (x8 + x11)) : Int).toNat (rd x2 x11)) (wrap64 (x11 + 1))) else (none)) else (none)) else (none)) else (some (x10, true))
end
def munimentref5_Replace.f (k : Nat) (l0 : List Int) (a1 : Int) (l2 : List Int) : Option (List Int × Bool) := (munimentref5_slot.f k l0 a1).bind fun bt204 => ((munimentref5_Copy.f l0).bind fun t206 => (if (l2.length : Int) > bt204.2 then ((munimentref5_Free.f k l0).bind fun t209 => (if t209 < (wrap64 ((l2.length : Int) - bt204.2)) then (some (([] : List Int), false)) else ((munimentref5_put.f k t206 (wrap64 (28 + (wrap64 (4 * a1)))) 2 0).bind fun t210 => ((munimentref5_Low.f k t210).bind fun t211 => ((munimentref5_Count.f k t210).bind fun t212 => (if (wrap64 ((wrap64 (t211 - 26)) - (wrap64 (4 * t212)))) < (l2.length : Int) then ((munimentref5_Compact.f k t210).bind fun t213 => ((munimentref5_Low.f k t213).bind fun t216 => ((munimentref5_put.f k t213 16 2 (IntKind.u64.wrap (wrap64 (t216 - (l2.length : Int))))).bind fun t217 => ((munimentref5_put.f k t217 (wrap64 (26 + (wrap64 (4 * a1)))) 2 (IntKind.u64.wrap (wrap64 (t216 - (l2.length : Int))))).bind fun t218 => (munimentref5_Replace.j0 k a1 l2 (wrap64 (t216 - (l2.length : Int))) t218))))) else ((munimentref5_Low.f k t210).bind fun t219 => ((munimentref5_put.f k t210 16 2 (IntKind.u64.wrap (wrap64 (t219 - (l2.length : Int))))).bind fun t220 => ((munimentref5_put.f k t220 (wrap64 (26 + (wrap64 (4 * a1)))) 2 (IntKind.u64.wrap (wrap64 (t219 - (l2.length : Int))))).bind fun t221 => (munimentref5_Replace.j0 k a1 l2 (wrap64 (t219 - (l2.length : Int))) t221)))))))))) else (munimentref5_Replace.j0 k a1 l2 bt204.1 t206)))
theorem munimentref5_Replace.mono_l : ∀ k, (∀ y0 y1 y2 y3, LeO (munimentref5_Replace.j0 k y0 y1 y2 y3) (munimentref5_Replace.j0 (k + 1) y0 y1 y2 y3)) ∧ (∀ y0 y1 y2 y3, LeO (munimentref5_Replace.l0 k y0 y1 y2 y3) (munimentref5_Replace.l0 (k + 1) y0 y1 y2 y3))
  | 0 => ⟨fun _ _ _ _ r h => by simp [munimentref5_Replace.j0] at h, fun _ _ _ _ r h => by simp [munimentref5_Replace.l0] at h⟩
  | k + 1 => by
    obtain ⟨ih0, ih1⟩ := munimentref5_Replace.mono_l k
    refine ⟨?_, ?_⟩
    · intro y0 y1 y2 y3
      unfold munimentref5_Replace.j0
      repeat' first
      | (with_reducible exact ih0 _ _ _ _)
      | (with_reducible exact ih1 _ _ _ _)
      | (with_reducible exact munimentref5_Compact.mono _ _)
      | (with_reducible exact munimentref5_Count.mono _ _)
      | (with_reducible exact munimentref5_Free.mono _ _)
      | (with_reducible exact munimentref5_Low.mono _ _)
      | (with_reducible exact munimentref5_put.mono _ _ _ _ _)
      | (with_reducible exact munimentref5_slot.mono _ _ _)
      | (with_reducible exact LeO.refl _)
      | (with_reducible exact LeO.none _)
      | (with_reducible refine LeO.ite ?_ ?_)
      | (with_reducible refine LeO.bind ?_ (fun _ => ?_))
      | exact ih0 _ _ _ _
      | exact ih1 _ _ _ _
      | exact munimentref5_Compact.mono _ _
      | exact munimentref5_Count.mono _ _
      | exact munimentref5_Free.mono _ _
      | exact munimentref5_Low.mono _ _
      | exact munimentref5_put.mono _ _ _ _ _
      | exact munimentref5_slot.mono _ _ _
      | exact LeO.none _
      | refine LeO.ite ?_ ?_
      | refine LeO.bind ?_ (fun _ => ?_)
    · intro y0 y1 y2 y3
      unfold munimentref5_Replace.l0
      repeat' first
      | (with_reducible exact ih0 _ _ _ _)
      | (with_reducible exact ih1 _ _ _ _)
      | (with_reducible exact munimentref5_Compact.mono _ _)
      | (with_reducible exact munimentref5_Count.mono _ _)
      | (with_reducible exact munimentref5_Free.mono _ _)
      | (with_reducible exact munimentref5_Low.mono _ _)
      | (with_reducible exact munimentref5_put.mono _ _ _ _ _)
      | (with_reducible exact munimentref5_slot.mono _ _ _)
      | (with_reducible exact LeO.refl _)
      | (with_reducible exact LeO.none _)
      | (with_reducible refine LeO.ite ?_ ?_)
      | (with_reducible refine LeO.bind ?_ (fun _ => ?_))
      | exact ih0 _ _ _ _
      | exact ih1 _ _ _ _
      | exact munimentref5_Compact.mono _ _
      | exact munimentref5_Count.mono _ _
      | exact munimentref5_Free.mono _ _
      | exact munimentref5_Low.mono _ _
      | exact munimentref5_put.mono _ _ _ _ _
      | exact munimentref5_slot.mono _ _ _
      | exact LeO.none _
      | refine LeO.ite ?_ ?_
      | refine LeO.bind ?_ (fun _ => ?_)
theorem munimentref5_Replace.mono : ∀ a0 a1 a2 k, LeO (munimentref5_Replace.f k a0 a1 a2) (munimentref5_Replace.f (k + 1) a0 a1 a2) := by
  intro a0 a1 a2 k
  obtain ⟨ih0, ih1⟩ := munimentref5_Replace.mono_l k
  unfold munimentref5_Replace.f
  repeat' first
      | (with_reducible exact ih0 _ _ _ _)
      | (with_reducible exact ih1 _ _ _ _)
      | (with_reducible exact munimentref5_Compact.mono _ _)
      | (with_reducible exact munimentref5_Count.mono _ _)
      | (with_reducible exact munimentref5_Free.mono _ _)
      | (with_reducible exact munimentref5_Low.mono _ _)
      | (with_reducible exact munimentref5_put.mono _ _ _ _ _)
      | (with_reducible exact munimentref5_slot.mono _ _ _)
      | (with_reducible exact LeO.refl _)
      | (with_reducible exact LeO.none _)
      | (with_reducible refine LeO.ite ?_ ?_)
      | (with_reducible refine LeO.bind ?_ (fun _ => ?_))
      | exact ih0 _ _ _ _
      | exact ih1 _ _ _ _
      | exact munimentref5_Compact.mono _ _
      | exact munimentref5_Count.mono _ _
      | exact munimentref5_Free.mono _ _
      | exact munimentref5_Low.mono _ _
      | exact munimentref5_put.mono _ _ _ _ _
      | exact munimentref5_slot.mono _ _ _
      | exact LeO.none _
      | refine LeO.ite ?_ ?_
      | refine LeO.bind ?_ (fun _ => ?_)
set_option maxHeartbeats 8000000 in
set_option maxRecDepth 100000 in
theorem munimentref5_Replace.calls (k : Nat) (A0 : Option Addr) (c0 : Nat) (l0 : List Int) (a1 : Int) (A2 : Option Addr) (c2 : Nat) (l2 : List Int) (r1 : List Int) (r2 : Bool) (w : World) (hr0 : Kd.C (Kd.int .u8) w A0 l0.length l0) (hc0 : l0.length ≤ c0) (hr2 : Kd.C (Kd.int .u8) w A2 l2.length l2) (hc2 : l2.length ≤ c2) (h : munimentref5_Replace.f k l0 a1 l2 = some (r1, r2)) :
    Calls Try.prog 25 #[.slice A0 l0.length c0, .int .i64 a1, .slice A2 l2.length c2] w fun e w' => ∃ v0_ : Value, e = .returned (.tuple #[v0_, .bool r2]) ∧ Kd.R (Kd.int .u8) 5 w' w.heap.size (fun _ => True) v0_ r1 ∧ Below w.heap.size w w' := by
  have HR0 := Aside0.mk hr0
  have HC0 := Aside0.mk hc0
  clear hr0 hc0
  have HR2 := Aside0.mk hr2
  have HC2 := Aside0.mk hc2
  clear hr2 hc2
  have HB := Aside0.mk (Below.refl w.heap.size w)
  have H : ((munimentref5_slot.f k l0 a1).bind fun bt204 => ((munimentref5_Copy.f l0).bind fun t206 => (if (l2.length : Int) > bt204.2 then ((munimentref5_Free.f k l0).bind fun t209 => (if t209 < (wrap64 ((l2.length : Int) - bt204.2)) then (some (([] : List Int), false)) else ((munimentref5_put.f k t206 (wrap64 (28 + (wrap64 (4 * a1)))) 2 0).bind fun t210 => ((munimentref5_Low.f k t210).bind fun t211 => ((munimentref5_Count.f k t210).bind fun t212 => (if (wrap64 ((wrap64 (t211 - 26)) - (wrap64 (4 * t212)))) < (l2.length : Int) then ((munimentref5_Compact.f k t210).bind fun t213 => ((munimentref5_Low.f k t213).bind fun t216 => ((munimentref5_put.f k t213 16 2 (IntKind.u64.wrap (wrap64 (t216 - (l2.length : Int))))).bind fun t217 => ((munimentref5_put.f k t217 (wrap64 (26 + (wrap64 (4 * a1)))) 2 (IntKind.u64.wrap (wrap64 (t216 - (l2.length : Int))))).bind fun t218 => (munimentref5_Replace.j0 k a1 l2 (wrap64 (t216 - (l2.length : Int))) t218))))) else ((munimentref5_Low.f k t210).bind fun t219 => ((munimentref5_put.f k t210 16 2 (IntKind.u64.wrap (wrap64 (t219 - (l2.length : Int))))).bind fun t220 => ((munimentref5_put.f k t220 (wrap64 (26 + (wrap64 (4 * a1)))) 2 (IntKind.u64.wrap (wrap64 (t219 - (l2.length : Int))))).bind fun t221 => (munimentref5_Replace.j0 k a1 l2 (wrap64 (t219 - (l2.length : Int))) t221)))))))))) else (munimentref5_Replace.j0 k a1 l2 bt204.1 t206)))) = some (r1, r2) := h
  clear h
  replace H := Option.bind_eq_some_iff.mp H
  obtain ⟨⟨t204, t205⟩, A40, H⟩ := H
  replace H : ((munimentref5_Copy.f l0).bind fun t206 => (if (l2.length : Int) > t205 then ((munimentref5_Free.f k l0).bind fun t209 => (if t209 < (wrap64 ((l2.length : Int) - t205)) then (some (([] : List Int), false)) else ((munimentref5_put.f k t206 (wrap64 (28 + (wrap64 (4 * a1)))) 2 0).bind fun t210 => ((munimentref5_Low.f k t210).bind fun t211 => ((munimentref5_Count.f k t210).bind fun t212 => (if (wrap64 ((wrap64 (t211 - 26)) - (wrap64 (4 * t212)))) < (l2.length : Int) then ((munimentref5_Compact.f k t210).bind fun t213 => ((munimentref5_Low.f k t213).bind fun t216 => ((munimentref5_put.f k t213 16 2 (IntKind.u64.wrap (wrap64 (t216 - (l2.length : Int))))).bind fun t217 => ((munimentref5_put.f k t217 (wrap64 (26 + (wrap64 (4 * a1)))) 2 (IntKind.u64.wrap (wrap64 (t216 - (l2.length : Int))))).bind fun t218 => (munimentref5_Replace.j0 k a1 l2 (wrap64 (t216 - (l2.length : Int))) t218))))) else ((munimentref5_Low.f k t210).bind fun t219 => ((munimentref5_put.f k t210 16 2 (IntKind.u64.wrap (wrap64 (t219 - (l2.length : Int))))).bind fun t220 => ((munimentref5_put.f k t220 (wrap64 (26 + (wrap64 (4 * a1)))) 2 (IntKind.u64.wrap (wrap64 (t219 - (l2.length : Int))))).bind fun t221 => (munimentref5_Replace.j0 k a1 l2 (wrap64 (t219 - (l2.length : Int))) t221)))))))))) else (munimentref5_Replace.j0 k a1 l2 t204 t206))) = some (r1, r2) := H
  have A4 := Aside0.mk A40
  clear A40
  replace H := Option.bind_eq_some_iff.mp H
  obtain ⟨t206, A50, H⟩ := H
  replace H : (if (l2.length : Int) > t205 then ((munimentref5_Free.f k l0).bind fun t209 => (if t209 < (wrap64 ((l2.length : Int) - t205)) then (some (([] : List Int), false)) else ((munimentref5_put.f k t206 (wrap64 (28 + (wrap64 (4 * a1)))) 2 0).bind fun t210 => ((munimentref5_Low.f k t210).bind fun t211 => ((munimentref5_Count.f k t210).bind fun t212 => (if (wrap64 ((wrap64 (t211 - 26)) - (wrap64 (4 * t212)))) < (l2.length : Int) then ((munimentref5_Compact.f k t210).bind fun t213 => ((munimentref5_Low.f k t213).bind fun t216 => ((munimentref5_put.f k t213 16 2 (IntKind.u64.wrap (wrap64 (t216 - (l2.length : Int))))).bind fun t217 => ((munimentref5_put.f k t217 (wrap64 (26 + (wrap64 (4 * a1)))) 2 (IntKind.u64.wrap (wrap64 (t216 - (l2.length : Int))))).bind fun t218 => (munimentref5_Replace.j0 k a1 l2 (wrap64 (t216 - (l2.length : Int))) t218))))) else ((munimentref5_Low.f k t210).bind fun t219 => ((munimentref5_put.f k t210 16 2 (IntKind.u64.wrap (wrap64 (t219 - (l2.length : Int))))).bind fun t220 => ((munimentref5_put.f k t220 (wrap64 (26 + (wrap64 (4 * a1)))) 2 (IntKind.u64.wrap (wrap64 (t219 - (l2.length : Int))))).bind fun t221 => (munimentref5_Replace.j0 k a1 l2 (wrap64 (t219 - (l2.length : Int))) t221)))))))))) else (munimentref5_Replace.j0 k a1 l2 t204 t206)) = some (r1, r2) := H
  have A5 := Aside0.mk A50
  clear A50
  have HC6 := Aside0.mk H
  clear H
  go_enter Try.func25, Try.ntmps25
  go_upto_if 23 with (first | ((with_reducible refine gate_callee (f := 57) rfl ?_); refine goesL_ (some 15) rfl rfl Try.func57 (by kernel_rfl) rfl #[.slice A0 l0.length c0, .int .i64 a1] rfl (by (try simp only [List.map_toArray, List.map_cons, List.map_nil]); first | done | rfl | (simp only [List.length_drop, List.length_take]; rfl)) ?_; (with_reducible refine (munimentref5_slot.calls k _ _ l0 a1 t204 t205 _ ?side1 ?side2 A4.out).mono ?_); (case side1 => repeat (first | exact HR0.out | (with_reducible refine Kd.C_alloc ?_ _) | (with_reducible refine Kd.C_drewN ?_ _) | (with_reducible refine Kd.C_drew ?_))); (case side2 => exact HC0.out); rintro e w' ⟨rfl, ⟨nd, rfl⟩⟩; refine ⟨_, rfl, ?_⟩) | ((with_reducible refine gate_callee (f := 58) rfl ?_); refine goesL_ (some 19) rfl rfl Try.func58 (by kernel_rfl) rfl #[.slice A0 l0.length c0] rfl (by (try simp only [List.map_toArray, List.map_cons, List.map_nil]); first | done | rfl | (simp only [List.length_drop, List.length_take]; rfl)) ?_; (with_reducible refine (munimentref5_Copy.calls _ _ l0 t206 _ ?side1 ?side2 A5.out).mono ?_); (case side1 => repeat (first | exact HR0.out | (with_reducible refine Kd.C_alloc ?_ _) | (with_reducible refine Kd.C_drewN ?_ _) | (with_reducible refine Kd.C_drew ?_))); (case side2 => exact HC0.out); rintro e w7 ⟨v207, rfl, ho0, hb⟩; refine ⟨_, rfl, ?_⟩; have n0_ := Aside0.mk (Kd.R_lower ho0 (below_size (by repeat (first | (with_reducible first | exact HB.out | apply below_alloc | apply pw_below_drewN | apply below_drew1) | exact HB.out)))); have n1_ := Aside0.mk (below_step (by repeat (first | (with_reducible first | exact HB.out | apply below_alloc | apply pw_below_drewN | apply below_drew1) | exact HB.out)) hb); clear HB; have HO208 := n0_; have HB := n1_; clear n0_ n1_; (try clear hb); (try clear hb2); (try clear hk); (try clear hi); (try clear ho0)))
  (try simp only [Act.put, List.setIfInBounds_toArray, List.set_cons_zero, List.set_cons_succ])
  go_cut [8, 10] (fun v8 v10 wc => ∃ (kq : Nat) (x8_5 : Int) (x10_5 : List Int), v8 = .int .i64 x8_5 ∧ Aside0 (munimentref5_Replace.j0 kq a1 l2 x8_5 x10_5 = some (r1, r2)) ∧ Aside0 (kq ≤ k) ∧ Aside0 (Kd.R (Kd.int .u8) 5 wc w.heap.size (fun _ => True) v10 x10_5) ∧ Aside0 (Below w.heap.size w wc))
  case first =>
    have H := HC6.out
    clear HC6
    by_cases c8 : (l2.length : Int) > t205
    · rw [if_pos c8] at H
      have c8b0 : decide (t205 < (l2.length : Int)) = true := decide_eq_true c8
      clear c8
      (first | rw [c8b0] | (simp only [i64_w, i32_w]; rw [c8b0]) | skip)
      replace H := Option.bind_eq_some_iff.mp H
      obtain ⟨t209, A90, H⟩ := H
      replace H : (if t209 < (wrap64 ((l2.length : Int) - t205)) then (some (([] : List Int), false)) else ((munimentref5_put.f k t206 (wrap64 (28 + (wrap64 (4 * a1)))) 2 0).bind fun t210 => ((munimentref5_Low.f k t210).bind fun t211 => ((munimentref5_Count.f k t210).bind fun t212 => (if (wrap64 ((wrap64 (t211 - 26)) - (wrap64 (4 * t212)))) < (l2.length : Int) then ((munimentref5_Compact.f k t210).bind fun t213 => ((munimentref5_Low.f k t213).bind fun t216 => ((munimentref5_put.f k t213 16 2 (IntKind.u64.wrap (wrap64 (t216 - (l2.length : Int))))).bind fun t217 => ((munimentref5_put.f k t217 (wrap64 (26 + (wrap64 (4 * a1)))) 2 (IntKind.u64.wrap (wrap64 (t216 - (l2.length : Int))))).bind fun t218 => (munimentref5_Replace.j0 k a1 l2 (wrap64 (t216 - (l2.length : Int))) t218))))) else ((munimentref5_Low.f k t210).bind fun t219 => ((munimentref5_put.f k t210 16 2 (IntKind.u64.wrap (wrap64 (t219 - (l2.length : Int))))).bind fun t220 => ((munimentref5_put.f k t220 (wrap64 (26 + (wrap64 (4 * a1)))) 2 (IntKind.u64.wrap (wrap64 (t219 - (l2.length : Int))))).bind fun t221 => (munimentref5_Replace.j0 k a1 l2 (wrap64 (t219 - (l2.length : Int))) t221))))))))) = some (r1, r2) := H
      have A9 := Aside0.mk A90
      clear A90
      by_cases c10 : t209 < (wrap64 ((l2.length : Int) - t205))
      · rw [if_pos c10] at H
        have c10b0 : decide (t209 < (wrap64 ((l2.length : Int) - t205))) = true := decide_eq_true c10
        clear c10
        simp only [Option.some.injEq, Prod.mk.injEq] at H
        obtain ⟨rfl, rfl⟩ := H
        go_wp2_with (first | ((with_reducible refine gate_callee (f := 37) rfl ?_); refine goesL_ (some 25) rfl rfl Try.func37 (by kernel_rfl) rfl #[.slice A0 l0.length c0] rfl (by (try simp only [List.map_toArray, List.map_cons, List.map_nil]); first | done | rfl | (simp only [List.length_drop, List.length_take]; rfl)) ?_; (with_reducible refine (munimentref5_Free.calls k _ _ l0 t209 _ ?side1 ?side2 A9.out).mono ?_); (case side1 => repeat (first | exact (Kd.C_below HR0.out HB.out) | (with_reducible refine Kd.C_alloc ?_ _) | (with_reducible refine Kd.C_drewN ?_ _) | (with_reducible refine Kd.C_drew ?_))); (case side2 => exact HC0.out); rintro e w' ⟨rfl, ⟨nd, rfl⟩⟩; refine ⟨_, rfl, ?_⟩))
        go_ret2
        exact ⟨_, by first | rfl | (simp [errW_none, errW_some] <;> rfl) | (simp [*, errW_none, errW_some] <;> rfl), by first | exact Kd.R_nil _ _ _ _ _ | exact Kd.N_nil _ _ _ _ _ | exact Kd.V_nil _ _ _ _ _ | exact Kd.Q_nil _ _ _ _ _ | exact Kd.S_nil _ _ _ _ _, by repeat (first | (with_reducible first | exact HB.out | apply below_alloc | apply pw_below_drewN | apply below_drew1) | exact HB.out)⟩
      · rw [if_neg c10] at H
        have c10b0 : decide (t209 < (wrap64 ((l2.length : Int) - t205))) = false := decide_eq_false c10
        clear c10
        replace H := Option.bind_eq_some_iff.mp H
        obtain ⟨t210, A110, H⟩ := H
        replace H : ((munimentref5_Low.f k t210).bind fun t211 => ((munimentref5_Count.f k t210).bind fun t212 => (if (wrap64 ((wrap64 (t211 - 26)) - (wrap64 (4 * t212)))) < (l2.length : Int) then ((munimentref5_Compact.f k t210).bind fun t213 => ((munimentref5_Low.f k t213).bind fun t216 => ((munimentref5_put.f k t213 16 2 (IntKind.u64.wrap (wrap64 (t216 - (l2.length : Int))))).bind fun t217 => ((munimentref5_put.f k t217 (wrap64 (26 + (wrap64 (4 * a1)))) 2 (IntKind.u64.wrap (wrap64 (t216 - (l2.length : Int))))).bind fun t218 => (munimentref5_Replace.j0 k a1 l2 (wrap64 (t216 - (l2.length : Int))) t218))))) else ((munimentref5_Low.f k t210).bind fun t219 => ((munimentref5_put.f k t210 16 2 (IntKind.u64.wrap (wrap64 (t219 - (l2.length : Int))))).bind fun t220 => ((munimentref5_put.f k t220 (wrap64 (26 + (wrap64 (4 * a1)))) 2 (IntKind.u64.wrap (wrap64 (t219 - (l2.length : Int))))).bind fun t221 => (munimentref5_Replace.j0 k a1 l2 (wrap64 (t219 - (l2.length : Int))) t221))))))) = some (r1, r2) := H
        have A11 := Aside0.mk A110
        clear A110
        replace H := Option.bind_eq_some_iff.mp H
        obtain ⟨t211, A120, H⟩ := H
        replace H : ((munimentref5_Count.f k t210).bind fun t212 => (if (wrap64 ((wrap64 (t211 - 26)) - (wrap64 (4 * t212)))) < (l2.length : Int) then ((munimentref5_Compact.f k t210).bind fun t213 => ((munimentref5_Low.f k t213).bind fun t216 => ((munimentref5_put.f k t213 16 2 (IntKind.u64.wrap (wrap64 (t216 - (l2.length : Int))))).bind fun t217 => ((munimentref5_put.f k t217 (wrap64 (26 + (wrap64 (4 * a1)))) 2 (IntKind.u64.wrap (wrap64 (t216 - (l2.length : Int))))).bind fun t218 => (munimentref5_Replace.j0 k a1 l2 (wrap64 (t216 - (l2.length : Int))) t218))))) else ((munimentref5_Low.f k t210).bind fun t219 => ((munimentref5_put.f k t210 16 2 (IntKind.u64.wrap (wrap64 (t219 - (l2.length : Int))))).bind fun t220 => ((munimentref5_put.f k t220 (wrap64 (26 + (wrap64 (4 * a1)))) 2 (IntKind.u64.wrap (wrap64 (t219 - (l2.length : Int))))).bind fun t221 => (munimentref5_Replace.j0 k a1 l2 (wrap64 (t219 - (l2.length : Int))) t221)))))) = some (r1, r2) := H
        have A12 := Aside0.mk A120
        clear A120
        replace H := Option.bind_eq_some_iff.mp H
        obtain ⟨t212, A130, H⟩ := H
        replace H : (if (wrap64 ((wrap64 (t211 - 26)) - (wrap64 (4 * t212)))) < (l2.length : Int) then ((munimentref5_Compact.f k t210).bind fun t213 => ((munimentref5_Low.f k t213).bind fun t216 => ((munimentref5_put.f k t213 16 2 (IntKind.u64.wrap (wrap64 (t216 - (l2.length : Int))))).bind fun t217 => ((munimentref5_put.f k t217 (wrap64 (26 + (wrap64 (4 * a1)))) 2 (IntKind.u64.wrap (wrap64 (t216 - (l2.length : Int))))).bind fun t218 => (munimentref5_Replace.j0 k a1 l2 (wrap64 (t216 - (l2.length : Int))) t218))))) else ((munimentref5_Low.f k t210).bind fun t219 => ((munimentref5_put.f k t210 16 2 (IntKind.u64.wrap (wrap64 (t219 - (l2.length : Int))))).bind fun t220 => ((munimentref5_put.f k t220 (wrap64 (26 + (wrap64 (4 * a1)))) 2 (IntKind.u64.wrap (wrap64 (t219 - (l2.length : Int))))).bind fun t221 => (munimentref5_Replace.j0 k a1 l2 (wrap64 (t219 - (l2.length : Int))) t221))))) = some (r1, r2) := H
        have A13 := Aside0.mk A130
        clear A130
        by_cases c14 : (wrap64 ((wrap64 (t211 - 26)) - (wrap64 (4 * t212)))) < (l2.length : Int)
        · rw [if_pos c14] at H
          have c14b0 : decide ((wrap64 ((wrap64 (t211 - 26)) - (wrap64 (4 * t212)))) < (l2.length : Int)) = true := decide_eq_true c14
          clear c14
          replace H := Option.bind_eq_some_iff.mp H
          obtain ⟨t213, A150, H⟩ := H
          replace H : ((munimentref5_Low.f k t213).bind fun t216 => ((munimentref5_put.f k t213 16 2 (IntKind.u64.wrap (wrap64 (t216 - (l2.length : Int))))).bind fun t217 => ((munimentref5_put.f k t217 (wrap64 (26 + (wrap64 (4 * a1)))) 2 (IntKind.u64.wrap (wrap64 (t216 - (l2.length : Int))))).bind fun t218 => (munimentref5_Replace.j0 k a1 l2 (wrap64 (t216 - (l2.length : Int))) t218)))) = some (r1, r2) := H
          have A15 := Aside0.mk A150
          clear A150
          replace H := Option.bind_eq_some_iff.mp H
          obtain ⟨t216, A160, H⟩ := H
          replace H : ((munimentref5_put.f k t213 16 2 (IntKind.u64.wrap (wrap64 (t216 - (l2.length : Int))))).bind fun t217 => ((munimentref5_put.f k t217 (wrap64 (26 + (wrap64 (4 * a1)))) 2 (IntKind.u64.wrap (wrap64 (t216 - (l2.length : Int))))).bind fun t218 => (munimentref5_Replace.j0 k a1 l2 (wrap64 (t216 - (l2.length : Int))) t218))) = some (r1, r2) := H
          have A16 := Aside0.mk A160
          clear A160
          replace H := Option.bind_eq_some_iff.mp H
          obtain ⟨t217, A170, H⟩ := H
          replace H : ((munimentref5_put.f k t217 (wrap64 (26 + (wrap64 (4 * a1)))) 2 (IntKind.u64.wrap (wrap64 (t216 - (l2.length : Int))))).bind fun t218 => (munimentref5_Replace.j0 k a1 l2 (wrap64 (t216 - (l2.length : Int))) t218)) = some (r1, r2) := H
          have A17 := Aside0.mk A170
          clear A170
          replace H := Option.bind_eq_some_iff.mp H
          obtain ⟨t218, A180, H⟩ := H
          replace H : (munimentref5_Replace.j0 k a1 l2 (wrap64 (t216 - (l2.length : Int))) t218) = some (r1, r2) := H
          have A18 := Aside0.mk A180
          clear A180
          have H' := Aside0.mk H
          clear H
          go_wp2_with (first | ((with_reducible refine gate_callee (f := 37) rfl ?_); refine goesL_ (some 25) rfl rfl Try.func37 (by kernel_rfl) rfl #[.slice A0 l0.length c0] rfl (by (try simp only [List.map_toArray, List.map_cons, List.map_nil]); first | done | rfl | (simp only [List.length_drop, List.length_take]; rfl)) ?_; (with_reducible refine (munimentref5_Free.calls k _ _ l0 t209 _ ?side1 ?side2 A9.out).mono ?_); (case side1 => repeat (first | exact (Kd.C_below HR0.out HB.out) | (with_reducible refine Kd.C_alloc ?_ _) | (with_reducible refine Kd.C_drewN ?_ _) | (with_reducible refine Kd.C_drew ?_))); (case side2 => exact HC0.out); rintro e w' ⟨rfl, ⟨nd, rfl⟩⟩; refine ⟨_, rfl, ?_⟩; obtain ⟨Ao19, co19, eo19⟩ := Kd.R_slice HO208.out; subst eo19) | ((with_reducible refine gate_callee (f := 59) rfl ?_); refine goesL_ (some 35) rfl rfl Try.func59 (by kernel_rfl) rfl #[.slice Ao19 t206.length co19, .int .i64 (wrap64 (28 + (wrap64 (4 * a1)))), .int .i64 2, .int .u64 0] rfl (by (try simp only [List.map_toArray, List.map_cons, List.map_nil]); first | done | rfl | (simp only [List.length_drop, List.length_take]; rfl)) ?_; (with_reducible refine (munimentref5_put.calls k (fun k_ => some k_ = (.slice Ao19 t206.length co19 : Value).ownBlock) (.slice Ao19 t206.length co19) t206 (wrap64 (28 + (wrap64 (4 * a1)))) 2 0 t210 w _ ?side1 ?side2 A11.out).mono ?_); (case side1 => repeat (first | (with_reducible first | exact HB.out | apply below_alloc | apply pw_below_drewN | apply below_drew1) | exact HB.out)); (case side2 => exact Kd.R_tight rfl HO208.out); rintro e w20 ⟨rfl, hy0, hb, hkp⟩; refine ⟨_, rfl, ?_⟩; have n0_ := Aside0.mk (Kd.R_reok rfl hy0 (fun k_ e_ => HO208.out.1 k_ e_)); have n1_ := Aside0.mk (hb); clear HO208; clear HB; have HO208 := n0_; have HB := n1_; clear n0_ n1_; (try clear hb); (try clear hkp); (try clear hy0)) | ((with_reducible refine gate_callee (f := 18) rfl ?_); refine goesL_ (some 37) rfl rfl Try.func18 (by kernel_rfl) rfl #[.slice Ao19 t210.length co19] rfl (by (try simp only [List.map_toArray, List.map_cons, List.map_nil]); first | done | (rw [show t210.length = t206.length from (Kd.R_reads' HO208.out).1.symm] <;> rfl) | rfl | (simp only [List.length_drop, List.length_take]; rfl)) ?_; (with_reducible refine (munimentref5_Low.calls k _ _ t210 t211 _ ?side1 ?side2 A12.out).mono ?_); (case side1 => repeat (first | exact (Kd.R_reads' HO208.out).2.2 | (with_reducible refine Kd.C_alloc ?_ _) | (with_reducible refine Kd.C_drewN ?_ _) | (with_reducible refine Kd.C_drew ?_))); (case side2 => rw [show t210.length = t206.length from (Kd.R_reads' HO208.out).1.symm]; exact (Kd.R_reads' HO208.out).2.1); rintro e w' ⟨rfl, ⟨nd, rfl⟩⟩; refine ⟨_, rfl, ?_⟩) | ((with_reducible refine gate_callee (f := 23) rfl ?_); refine goesL_ (some 40) rfl rfl Try.func23 (by kernel_rfl) rfl #[.slice Ao19 t210.length co19] rfl (by (try simp only [List.map_toArray, List.map_cons, List.map_nil]); first | done | (rw [show t210.length = t206.length from (Kd.R_reads' HO208.out).1.symm] <;> rfl) | rfl | (simp only [List.length_drop, List.length_take]; rfl)) ?_; (with_reducible refine (munimentref5_Count.calls k _ _ t210 t212 _ ?side1 ?side2 A13.out).mono ?_); (case side1 => repeat (first | exact (Kd.R_reads' HO208.out).2.2 | (with_reducible refine Kd.C_alloc ?_ _) | (with_reducible refine Kd.C_drewN ?_ _) | (with_reducible refine Kd.C_drew ?_))); (case side2 => rw [show t210.length = t206.length from (Kd.R_reads' HO208.out).1.symm]; exact (Kd.R_reads' HO208.out).2.1); rintro e w' ⟨rfl, ⟨nd, rfl⟩⟩; refine ⟨_, rfl, ?_⟩) | ((with_reducible refine gate_callee (f := 40) rfl ?_); refine goesL_ (some 47) rfl rfl Try.func40 (by kernel_rfl) rfl #[.slice Ao19 t210.length co19] rfl (by (try simp only [List.map_toArray, List.map_cons, List.map_nil]); first | done | (rw [show t210.length = t206.length from (Kd.R_reads' HO208.out).1.symm] <;> rfl) | rfl | (simp only [List.length_drop, List.length_take]; rfl)) ?_; (with_reducible refine (munimentref5_Compact.calls k _ _ t210 t213 _ ?side1 ?side2 A15.out).mono ?_); (case side1 => repeat (first | exact (Kd.R_reads' HO208.out).2.2 | (with_reducible refine Kd.C_alloc ?_ _) | (with_reducible refine Kd.C_drewN ?_ _) | (with_reducible refine Kd.C_drew ?_))); (case side2 => rw [show t210.length = t206.length from (Kd.R_reads' HO208.out).1.symm]; exact (Kd.R_reads' HO208.out).2.1); rintro e w21 ⟨v214, rfl, ho0, hb⟩; refine ⟨_, rfl, ?_⟩; have n0_ := Aside0.mk (Kd.R_elder' (by (with_reducible repeat (first | apply Kd.R_alloc | apply Kd.R_drewN | apply Kd.R_drew)); exact HO208.out) (Kd.R_base ho0) hb); have n1_ := Aside0.mk (Kd.R_lower (Kd.R_new' ho0 (Kd.R_lt (by (with_reducible repeat (first | apply Kd.R_alloc | apply Kd.R_drewN | apply Kd.R_drew)); exact HO208.out))) (below_size (by repeat (first | (with_reducible first | exact HB.out | apply below_alloc | apply pw_below_drewN | apply below_drew1) | exact HB.out)))); have n2_ := Aside0.mk (below_step (by repeat (first | (with_reducible first | exact HB.out | apply below_alloc | apply pw_below_drewN | apply below_drew1) | exact HB.out)) hb); clear HO208; clear HB; have HO208 := n0_; have HO215 := n1_; have HB := n2_; clear n0_ n1_ n2_; (try clear hb); (try clear hb2); (try clear hk); (try clear hi); (try clear ho0); obtain ⟨Ao22, co22, eo22⟩ := Kd.R_slice HO215.out; subst eo22) | ((with_reducible refine gate_callee (f := 18) rfl ?_); refine goesL_ (some 49) rfl rfl Try.func18 (by kernel_rfl) rfl #[.slice Ao22 t213.length co22] rfl (by (try simp only [List.map_toArray, List.map_cons, List.map_nil]); first | done | rfl | (simp only [List.length_drop, List.length_take]; rfl)) ?_; (with_reducible refine (munimentref5_Low.calls k _ _ t213 t216 _ ?side1 ?side2 A16.out).mono ?_); (case side1 => repeat (first | exact (Kd.R_reads' HO215.out).2.2 | (with_reducible refine Kd.C_alloc ?_ _) | (with_reducible refine Kd.C_drewN ?_ _) | (with_reducible refine Kd.C_drew ?_))); (case side2 => exact (Kd.R_reads' HO215.out).2.1); rintro e w' ⟨rfl, ⟨nd, rfl⟩⟩; refine ⟨_, rfl, ?_⟩) | ((with_reducible refine gate_callee (f := 59) rfl ?_); refine goesL_ (some 56) rfl rfl Try.func59 (by kernel_rfl) rfl #[.slice Ao22 t213.length co22, .int .i64 16, .int .i64 2, .int .u64 (IntKind.u64.wrap (wrap64 (t216 - (l2.length : Int))))] rfl (by (try simp only [List.map_toArray, List.map_cons, List.map_nil]); first | done | rfl | (simp only [List.length_drop, List.length_take]; rfl)) ?_; (with_reducible refine (munimentref5_put.calls k (fun k_ => some k_ = (.slice Ao22 t213.length co22 : Value).ownBlock) (.slice Ao22 t213.length co22) t213 16 2 (IntKind.u64.wrap (wrap64 (t216 - (l2.length : Int)))) t217 w _ ?side1 ?side2 A17.out).mono ?_); (case side1 => repeat (first | (with_reducible first | exact HB.out | apply below_alloc | apply pw_below_drewN | apply below_drew1) | exact HB.out)); (case side2 => exact Kd.R_tight rfl HO215.out); rintro e w23 ⟨rfl, hy0, hb, hkp⟩; refine ⟨_, rfl, ?_⟩; have n0_ := Aside0.mk (Kd.R_mono (ok' := fun k_ => some k_ ≠ (.slice Ao22 t213.length co22 : Value).ownBlock) (Kd.R_keptB (HO208.out) hkp (fun k_ hk_ hs_ => (hk_.2) hs_)) (fun k_ hk_ => hk_.1.2)); have n1_ := Aside0.mk (Kd.R_reok rfl hy0 (fun k_ e_ => HO215.out.1 k_ e_)); have n2_ := Aside0.mk (hb); clear HO208; clear HO215; clear HB; have HO208 := n0_; have HO215 := n1_; have HB := n2_; clear n0_ n1_ n2_; (try clear hb); (try clear hkp); (try clear hy0)) | ((with_reducible refine gate_callee (f := 59) rfl ?_); refine goesL_ (some 63) rfl rfl Try.func59 (by kernel_rfl) rfl #[.slice Ao22 t213.length co22, .int .i64 (wrap64 (26 + (wrap64 (4 * a1)))), .int .i64 2, .int .u64 (IntKind.u64.wrap (wrap64 (t216 - (l2.length : Int))))] rfl (by (try simp only [List.map_toArray, List.map_cons, List.map_nil]); first | done | rfl | (simp only [List.length_drop, List.length_take]; rfl)) ?_; (with_reducible refine (munimentref5_put.calls k (fun k_ => some k_ = (.slice Ao22 t213.length co22 : Value).ownBlock) (.slice Ao22 t213.length co22) t217 (wrap64 (26 + (wrap64 (4 * a1)))) 2 (IntKind.u64.wrap (wrap64 (t216 - (l2.length : Int)))) t218 w _ ?side1 ?side2 A18.out).mono ?_); (case side1 => repeat (first | (with_reducible first | exact HB.out | apply below_alloc | apply pw_below_drewN | apply below_drew1) | exact HB.out)); (case side2 => exact Kd.R_tight rfl HO215.out); rintro e w24 ⟨rfl, hy0, hb, hkp⟩; refine ⟨_, rfl, ?_⟩; have n0_ := Aside0.mk (Kd.R_mono (ok' := fun k_ => some k_ ≠ (.slice Ao22 t213.length co22 : Value).ownBlock) (Kd.R_keptB (HO208.out) hkp (fun k_ hk_ hs_ => (hk_) hs_)) (fun k_ hk_ => hk_.1)); have n1_ := Aside0.mk (Kd.R_reok rfl hy0 (fun k_ e_ => HO215.out.1 k_ e_)); have n2_ := Aside0.mk (hb); clear HO208; clear HO215; clear HB; have HO208 := n0_; have HO215 := n1_; have HB := n2_; clear n0_ n1_ n2_; (try clear hb); (try clear hkp); (try clear hy0)))
          go_meet
          case rel => exact ⟨_, (wrap64 (t216 - (l2.length : Int))), (t218), (by first | rfl | (simp; done) | (simp [*]; done)), H', ⟨by first | omega | exact Nat.le_refl _⟩, ⟨by (with_reducible repeat (first | apply Kd.R_alloc | apply Kd.R_drewN | apply Kd.R_drew)); exact Kd.R_mono HO215.out (fun _ hk => trivial)⟩, ⟨by repeat (first | (with_reducible first | exact HB.out | apply below_alloc | apply pw_below_drewN | apply below_drew1) | exact HB.out)⟩⟩
        · rw [if_neg c14] at H
          have c14b0 : decide ((wrap64 ((wrap64 (t211 - 26)) - (wrap64 (4 * t212)))) < (l2.length : Int)) = false := decide_eq_false c14
          clear c14
          replace H := Option.bind_eq_some_iff.mp H
          obtain ⟨t219, A250, H⟩ := H
          replace H : ((munimentref5_put.f k t210 16 2 (IntKind.u64.wrap (wrap64 (t219 - (l2.length : Int))))).bind fun t220 => ((munimentref5_put.f k t220 (wrap64 (26 + (wrap64 (4 * a1)))) 2 (IntKind.u64.wrap (wrap64 (t219 - (l2.length : Int))))).bind fun t221 => (munimentref5_Replace.j0 k a1 l2 (wrap64 (t219 - (l2.length : Int))) t221))) = some (r1, r2) := H
          have A25 := Aside0.mk A250
          clear A250
          replace H := Option.bind_eq_some_iff.mp H
          obtain ⟨t220, A260, H⟩ := H
          replace H : ((munimentref5_put.f k t220 (wrap64 (26 + (wrap64 (4 * a1)))) 2 (IntKind.u64.wrap (wrap64 (t219 - (l2.length : Int))))).bind fun t221 => (munimentref5_Replace.j0 k a1 l2 (wrap64 (t219 - (l2.length : Int))) t221)) = some (r1, r2) := H
          have A26 := Aside0.mk A260
          clear A260
          replace H := Option.bind_eq_some_iff.mp H
          obtain ⟨t221, A270, H⟩ := H
          replace H : (munimentref5_Replace.j0 k a1 l2 (wrap64 (t219 - (l2.length : Int))) t221) = some (r1, r2) := H
          have A27 := Aside0.mk A270
          clear A270
          have H' := Aside0.mk H
          clear H
          go_wp2_with (first | ((with_reducible refine gate_callee (f := 37) rfl ?_); refine goesL_ (some 25) rfl rfl Try.func37 (by kernel_rfl) rfl #[.slice A0 l0.length c0] rfl (by (try simp only [List.map_toArray, List.map_cons, List.map_nil]); first | done | rfl | (simp only [List.length_drop, List.length_take]; rfl)) ?_; (with_reducible refine (munimentref5_Free.calls k _ _ l0 t209 _ ?side1 ?side2 A9.out).mono ?_); (case side1 => repeat (first | exact (Kd.C_below HR0.out HB.out) | (with_reducible refine Kd.C_alloc ?_ _) | (with_reducible refine Kd.C_drewN ?_ _) | (with_reducible refine Kd.C_drew ?_))); (case side2 => exact HC0.out); rintro e w' ⟨rfl, ⟨nd, rfl⟩⟩; refine ⟨_, rfl, ?_⟩; obtain ⟨Ao28, co28, eo28⟩ := Kd.R_slice HO208.out; subst eo28) | ((with_reducible refine gate_callee (f := 59) rfl ?_); refine goesL_ (some 35) rfl rfl Try.func59 (by kernel_rfl) rfl #[.slice Ao28 t206.length co28, .int .i64 (wrap64 (28 + (wrap64 (4 * a1)))), .int .i64 2, .int .u64 0] rfl (by (try simp only [List.map_toArray, List.map_cons, List.map_nil]); first | done | rfl | (simp only [List.length_drop, List.length_take]; rfl)) ?_; (with_reducible refine (munimentref5_put.calls k (fun k_ => some k_ = (.slice Ao28 t206.length co28 : Value).ownBlock) (.slice Ao28 t206.length co28) t206 (wrap64 (28 + (wrap64 (4 * a1)))) 2 0 t210 w _ ?side1 ?side2 A11.out).mono ?_); (case side1 => repeat (first | (with_reducible first | exact HB.out | apply below_alloc | apply pw_below_drewN | apply below_drew1) | exact HB.out)); (case side2 => exact Kd.R_tight rfl HO208.out); rintro e w29 ⟨rfl, hy0, hb, hkp⟩; refine ⟨_, rfl, ?_⟩; have n0_ := Aside0.mk (Kd.R_reok rfl hy0 (fun k_ e_ => HO208.out.1 k_ e_)); have n1_ := Aside0.mk (hb); clear HO208; clear HB; have HO208 := n0_; have HB := n1_; clear n0_ n1_; (try clear hb); (try clear hkp); (try clear hy0)) | ((with_reducible refine gate_callee (f := 18) rfl ?_); refine goesL_ (some 37) rfl rfl Try.func18 (by kernel_rfl) rfl #[.slice Ao28 t210.length co28] rfl (by (try simp only [List.map_toArray, List.map_cons, List.map_nil]); first | done | (rw [show t210.length = t206.length from (Kd.R_reads' HO208.out).1.symm] <;> rfl) | rfl | (simp only [List.length_drop, List.length_take]; rfl)) ?_; (with_reducible refine (munimentref5_Low.calls k _ _ t210 t211 _ ?side1 ?side2 A12.out).mono ?_); (case side1 => repeat (first | exact (Kd.R_reads' HO208.out).2.2 | (with_reducible refine Kd.C_alloc ?_ _) | (with_reducible refine Kd.C_drewN ?_ _) | (with_reducible refine Kd.C_drew ?_))); (case side2 => rw [show t210.length = t206.length from (Kd.R_reads' HO208.out).1.symm]; exact (Kd.R_reads' HO208.out).2.1); rintro e w' ⟨rfl, ⟨nd, rfl⟩⟩; refine ⟨_, rfl, ?_⟩) | ((with_reducible refine gate_callee (f := 23) rfl ?_); refine goesL_ (some 40) rfl rfl Try.func23 (by kernel_rfl) rfl #[.slice Ao28 t210.length co28] rfl (by (try simp only [List.map_toArray, List.map_cons, List.map_nil]); first | done | (rw [show t210.length = t206.length from (Kd.R_reads' HO208.out).1.symm] <;> rfl) | rfl | (simp only [List.length_drop, List.length_take]; rfl)) ?_; (with_reducible refine (munimentref5_Count.calls k _ _ t210 t212 _ ?side1 ?side2 A13.out).mono ?_); (case side1 => repeat (first | exact (Kd.R_reads' HO208.out).2.2 | (with_reducible refine Kd.C_alloc ?_ _) | (with_reducible refine Kd.C_drewN ?_ _) | (with_reducible refine Kd.C_drew ?_))); (case side2 => rw [show t210.length = t206.length from (Kd.R_reads' HO208.out).1.symm]; exact (Kd.R_reads' HO208.out).2.1); rintro e w' ⟨rfl, ⟨nd, rfl⟩⟩; refine ⟨_, rfl, ?_⟩) | ((with_reducible refine gate_callee (f := 18) rfl ?_); refine goesL_ (some 49) rfl rfl Try.func18 (by kernel_rfl) rfl #[.slice Ao28 t210.length co28] rfl (by (try simp only [List.map_toArray, List.map_cons, List.map_nil]); first | done | (rw [show t210.length = t206.length from (Kd.R_reads' HO208.out).1.symm] <;> rfl) | rfl | (simp only [List.length_drop, List.length_take]; rfl)) ?_; (with_reducible refine (munimentref5_Low.calls k _ _ t210 t219 _ ?side1 ?side2 A25.out).mono ?_); (case side1 => repeat (first | exact (Kd.R_reads' HO208.out).2.2 | (with_reducible refine Kd.C_alloc ?_ _) | (with_reducible refine Kd.C_drewN ?_ _) | (with_reducible refine Kd.C_drew ?_))); (case side2 => rw [show t210.length = t206.length from (Kd.R_reads' HO208.out).1.symm]; exact (Kd.R_reads' HO208.out).2.1); rintro e w' ⟨rfl, ⟨nd, rfl⟩⟩; refine ⟨_, rfl, ?_⟩) | ((with_reducible refine gate_callee (f := 59) rfl ?_); refine goesL_ (some 56) rfl rfl Try.func59 (by kernel_rfl) rfl #[.slice Ao28 t206.length co28, .int .i64 16, .int .i64 2, .int .u64 (IntKind.u64.wrap (wrap64 (t219 - (l2.length : Int))))] rfl (by (try simp only [List.map_toArray, List.map_cons, List.map_nil]); first | done | rfl | (simp only [List.length_drop, List.length_take]; rfl)) ?_; (with_reducible refine (munimentref5_put.calls k (fun k_ => some k_ = (.slice Ao28 t206.length co28 : Value).ownBlock) (.slice Ao28 t206.length co28) t210 16 2 (IntKind.u64.wrap (wrap64 (t219 - (l2.length : Int)))) t220 w _ ?side1 ?side2 A26.out).mono ?_); (case side1 => repeat (first | (with_reducible first | exact HB.out | apply below_alloc | apply pw_below_drewN | apply below_drew1) | exact HB.out)); (case side2 => exact Kd.R_tight rfl HO208.out); rintro e w30 ⟨rfl, hy0, hb, hkp⟩; refine ⟨_, rfl, ?_⟩; have n0_ := Aside0.mk (Kd.R_reok rfl hy0 (fun k_ e_ => HO208.out.1 k_ e_)); have n1_ := Aside0.mk (hb); clear HO208; clear HB; have HO208 := n0_; have HB := n1_; clear n0_ n1_; (try clear hb); (try clear hkp); (try clear hy0)) | ((with_reducible refine gate_callee (f := 59) rfl ?_); refine goesL_ (some 63) rfl rfl Try.func59 (by kernel_rfl) rfl #[.slice Ao28 t206.length co28, .int .i64 (wrap64 (26 + (wrap64 (4 * a1)))), .int .i64 2, .int .u64 (IntKind.u64.wrap (wrap64 (t219 - (l2.length : Int))))] rfl (by (try simp only [List.map_toArray, List.map_cons, List.map_nil]); first | done | rfl | (simp only [List.length_drop, List.length_take]; rfl)) ?_; (with_reducible refine (munimentref5_put.calls k (fun k_ => some k_ = (.slice Ao28 t206.length co28 : Value).ownBlock) (.slice Ao28 t206.length co28) t220 (wrap64 (26 + (wrap64 (4 * a1)))) 2 (IntKind.u64.wrap (wrap64 (t219 - (l2.length : Int)))) t221 w _ ?side1 ?side2 A27.out).mono ?_); (case side1 => repeat (first | (with_reducible first | exact HB.out | apply below_alloc | apply pw_below_drewN | apply below_drew1) | exact HB.out)); (case side2 => exact Kd.R_tight rfl HO208.out); rintro e w31 ⟨rfl, hy0, hb, hkp⟩; refine ⟨_, rfl, ?_⟩; have n0_ := Aside0.mk (Kd.R_reok rfl hy0 (fun k_ e_ => HO208.out.1 k_ e_)); have n1_ := Aside0.mk (hb); clear HO208; clear HB; have HO208 := n0_; have HB := n1_; clear n0_ n1_; (try clear hb); (try clear hkp); (try clear hy0)))
          go_meet
          case rel => exact ⟨_, (wrap64 (t219 - (l2.length : Int))), (t221), (by first | rfl | (simp; done) | (simp [*]; done)), H', ⟨by first | omega | exact Nat.le_refl _⟩, ⟨by (with_reducible repeat (first | apply Kd.R_alloc | apply Kd.R_drewN | apply Kd.R_drew)); exact HO208.out⟩, ⟨by repeat (first | (with_reducible first | exact HB.out | apply below_alloc | apply pw_below_drewN | apply below_drew1) | exact HB.out)⟩⟩
    · rw [if_neg c8] at H
      have c8b0 : decide (t205 < (l2.length : Int)) = false := decide_eq_false c8
      clear c8
      (first | rw [c8b0] | (simp only [i64_w, i32_w]; rw [c8b0]) | skip)
      have H' := Aside0.mk H
      clear H
      go_wp2
      go_meet
      case rel => exact ⟨_, (t204), (t206), (by first | rfl | (simp; done) | (simp [*]; done)), H', ⟨by first | omega | exact Nat.le_refl _⟩, ⟨by (with_reducible repeat (first | apply Kd.R_alloc | apply Kd.R_drewN | apply Kd.R_drew)); exact HO208.out⟩, ⟨by repeat (first | (with_reducible first | exact HB.out | apply below_alloc | apply pw_below_drewN | apply below_drew1) | exact HB.out)⟩⟩
  case rest =>
    clear HC6
    try clear c1
    try clear c2
    try clear p2
    try clear c3
    try clear c4
    try clear c5
    try clear p6
    try clear c8
    try clear c8b0
    try clear c10
    try clear c10b0
    try clear c14
    try clear c14b0
    try clear c18
    try clear c23
    try clear c25
    obtain ⟨kq, x8_5, x10_5, rfl, HA, HJ5, HO_10, HB⟩ := hcut
    cases kq with
    | zero => exact absurd HA.out (by simp [munimentref5_Replace.j0])
    | succ kj5 =>
      have H := HA.out
      clear HA
      simp only [munimentref5_Replace.j0] at H
      replace H := Option.bind_eq_some_iff.mp H
      obtain ⟨t222, A320, H⟩ := H
      replace H : (munimentref5_Replace.l0 kj5 l2 x8_5 t222 0) = some (r1, r2) := H
      have A32 := Aside0.mk A320
      clear A320
      have H' := Aside0.mk H
      clear H
      obtain ⟨Ao33, co33, eo33⟩ := Kd.R_slice HO_10.out
      subst eo33
      go_wp2_with (first | ((with_reducible refine gate_callee (f := 59) rfl ?_); refine goesL_ (some 71) rfl rfl Try.func59 (by kernel_rfl) rfl #[.slice Ao33 x10_5.length co33, .int .i64 (wrap64 (28 + (wrap64 (4 * a1)))), .int .i64 2, .int .u64 (IntKind.u64.wrap ((l2.length : Int)))] rfl (by (try simp only [List.map_toArray, List.map_cons, List.map_nil]); first | done | rfl | (simp only [List.length_drop, List.length_take]; rfl)) ?_; (with_reducible refine (munimentref5_put.calls kj5 (fun k_ => some k_ = (.slice Ao33 x10_5.length co33 : Value).ownBlock) (.slice Ao33 x10_5.length co33) x10_5 (wrap64 (28 + (wrap64 (4 * a1)))) 2 (IntKind.u64.wrap ((l2.length : Int))) t222 w _ ?side1 ?side2 A32.out).mono ?_); (case side1 => repeat (first | (with_reducible first | exact HB.out | apply below_alloc | apply pw_below_drewN | apply below_drew1) | exact HB.out)); (case side2 => exact Kd.R_tight rfl HO_10.out); rintro e w34 ⟨rfl, hy0, hb, hkp⟩; refine ⟨_, rfl, ?_⟩; have n0_ := Aside0.mk (Kd.R_reok rfl hy0 (fun k_ e_ => HO_10.out.1 k_ e_)); have n1_ := Aside0.mk (hb); clear HO_10; clear HB; have HO_10 := n0_; have HB := n1_; clear n0_ n1_; (try clear hb); (try clear hkp); (try clear hy0)))
      go_loopg [11] kj5 (fun kq v11 w' => ∃ (x10_2 : List Int) (x11_2 : Int), v11 = .int .i64 x11_2 ∧ Aside0 (munimentref5_Replace.l0 kq l2 x8_5 x10_2 x11_2 = some (r1, r2)) ∧ Aside0 (kq ≤ kj5) ∧ Aside0 (Kd.R (Kd.int .u8) 5 w' w.heap.size (fun _ => True) (.slice Ao33 x10_5.length co33) x10_2) ∧ Aside0 (Below w.heap.size w w'))
      case atStart => exact ⟨(t222), (0), (by first | rfl | (simp; done) | (simp [*]; done)), H', ⟨Nat.le_refl _⟩, ⟨by (with_reducible repeat (first | apply Kd.R_alloc | apply Kd.R_drewN | apply Kd.R_drew)); exact HO_10.out⟩, ⟨by repeat (first | (with_reducible first | exact HB.out | apply below_alloc | apply pw_below_drewN | apply below_drew1) | exact HB.out)⟩⟩
      case round =>
        clear H'
        try clear c1
        try clear c2
        try clear p2
        try clear c3
        try clear c4
        try clear c5
        try clear p6
        try clear c8
        try clear c8b0
        try clear c10
        try clear c10b0
        try clear c14
        try clear c14b0
        try clear c18
        try clear c23
        try clear c25
        try clear p2
        try clear p6
        obtain ⟨x10_2, x11_2, rfl, HA, HK2, HO_10, HB⟩ := hrel
        have hl10_2 := (Kd.R_reads' HO_10.out).1
        rw [hl10_2] at HO_10
        (try simp only [hl10_2])
        cases gk with
        | zero => exact absurd HA.out (by simp [munimentref5_Replace.l0])
        | succ k2 =>
          have H := HA.out
          clear HA
          simp only [munimentref5_Replace.l0] at H
          by_cases c35 : x11_2 < (l2.length : Int)
          · rw [if_pos c35] at H
            have c35b0 : decide (x11_2 < (l2.length : Int)) = true := decide_eq_true c35
            clear c35
            by_cases c36 : 0 ≤ x11_2
            · rw [if_pos c36] at H
              have c36b0 : decide (0 ≤ x11_2) = true := decide_eq_true c36
              clear c36
              obtain ⟨ji37, hji37⟩ : ∃ j_ : Int, (wrap64 (x8_5 + x11_2)) = j_ := ⟨_, rfl⟩
              replace H : (if 0 ≤ (ji37) then (if (ji37) < (x10_2.length : Int) then (munimentref5_Replace.l0 k2 l2 x8_5 (x10_2.set ((ji37) : Int).toNat (rd l2 x11_2)) (wrap64 (x11_2 + 1))) else (none)) else (none)) = some (r1, r2) := by first | (rw [hji37] at H; exact H) | (simp only [hji37] at H ⊢; exact H)
              have hji37w : (IntKind.i64.wrap (x8_5 + x11_2)) = ji37 := (i64_w _).trans hji37
              by_cases c38 : 0 ≤ (ji37)
              · rw [if_pos c38] at H
                have c38b0 : decide (0 ≤ (ji37)) = true := decide_eq_true c38
                clear c38
                by_cases c39 : (ji37) < (x10_2.length : Int)
                · rw [if_pos c39] at H
                  have c39b0 : decide ((ji37) < (x10_2.length : Int)) = true := decide_eq_true c39
                  clear c39
                  obtain ⟨y224, hy224⟩ : ∃ y_ : List Int, y_ = (x10_2.set ((ji37) : Int).toNat (rd l2 x11_2)) := ⟨_, rfl⟩
                  replace H : (munimentref5_Replace.l0 k2 l2 x8_5 y224 (wrap64 (x11_2 + 1))) = some (r1, r2) := by first | (rw [hy224]; with_reducible exact H) | (have H2_ := (Option.bind_some _ _).symm.trans H; rw [hy224]; with_reducible exact H2_) | (have H2_ := (Option.bind_some _ _).symm.trans H; with_reducible exact H2_) | with_reducible exact H | (rw [hy224]; exact H) | exact H
                  have Ny224 := Aside0.mk hy224
                  clear hy224
                  have H' := Aside0.mk H
                  clear H
                  have p223 : 0 ≤ (x11_2 : Int) := of_decide_eq_true (by first | (with_reducible assumption) | assumption)
                  have q223 : x11_2 < (l2.length : Int) := of_decide_eq_true (by first | (with_reducible assumption) | assumption)
                  obtain ⟨ad223, e223, hx223_0⟩ := Kd.at_int HR2.out x11_2 p223 q223
                  cases e223
                  replace hx223_0 := (HB.out.cell (World.block_lt_of_cell? w _ hx223_0)).trans hx223_0
                  replace p223 := eq_true p223
                  replace q223 := eq_true q223
                  have p40 : 0 ≤ ((ji37) : Int) := of_decide_eq_true (by first | (with_reducible assumption) | assumption)
                  have q40 : ((ji37) : Int) < ((x10_2.length : Int) : Int) := of_decide_eq_true (by first | (with_reducible assumption) | assumption)
                  obtain ⟨go40, co40, eo40, gb40, gl40, cl40, HG40⟩ := Kd.R_form HO_10.out (by omega)
                  (first | cases eo40 | (injection eo40 with ea_ en_ ec_; (first | subst ea_ | (injection ea_ with ea_; subst ea_)); subst ec_; clear en_))
                  have GB40 := Aside0.mk gb40
                  have GG40 := Aside0.mk HG40
                  clear gb40 gl40 HG40
                  obtain ⟨hx40_0, hf40_0⟩ := Kd.R_celln 0 HO_10.out ((ji37) : Int) p40 q40
                  replace p40 := eq_true p40
                  replace q40 := eq_true q40
                  have HP41 := Kd.R_putg HO_10.out ((ji37) : Int) (rd l2 x11_2)
                  go_wp2_with (first | ((with_reducible refine gate_store (t := 5) (p := 86) rfl ?_); refine store_event (t := 5) (p := 86) (v := ?vo_w42) (w1 := (wr.setCell ⟨go40, ((ji37) : Int).toNat, none⟩ (.int .u8 (rd l2 x11_2)))) ?hg ?ho ?hn ?hr ?_; (case ho => rfl); (case hg => rfl); (case hn => rfl); (case hr => first | (go_simp; done) | (go_simp; rfl)); intro w42 hw; have hg : wr.grownBy w42 (some go40) := (by rw [hw]; exact HP41.2); have hp_ : Kd.R (Kd.int .u8) 5 w42 w.heap.size (fun _ => True) (.slice (some ⟨go40, 0, none⟩) x10_2.length co33) y224 := (by rw [hw, Ny224.out]; exact HP41.1); clear HP41; have n0_ := Aside0.mk (hp_); have n1_ := Aside0.mk ((by rw [hw]; exact below_set (HB.out) GB40.out : Below w.heap.size w w42)); clear HO_10; clear HB; have HO_10 := n0_; have HB := n1_; clear n0_ n1_; clear hg hw hp_))
                  (try simp only [← hl10_2])
                  go_roundg k2
                  case measure => have := HJ5.out; have := HK2.out; omega
                  case rel => exact ⟨(y224), (wrap64 (x11_2 + 1)), (by first | rfl | (simp; done) | (simp [*]; done)), H', ⟨by have := HJ5.out; have := HK2.out; omega⟩, ⟨by (try simp only [hl10_2]); (with_reducible repeat (first | apply Kd.R_alloc | apply Kd.R_drewN | apply Kd.R_drew)); exact HO_10.out⟩, ⟨by repeat (first | (with_reducible first | exact HB.out | apply below_alloc | apply pw_below_drewN | apply below_drew1) | exact HB.out)⟩⟩
                · rw [if_neg c39] at H
                  exact absurd H (by simp)
              · rw [if_neg c38] at H
                exact absurd H (by simp)
            · rw [if_neg c36] at H
              exact absurd H (by simp)
          · rw [if_neg c35] at H
            have c35b0 : decide (x11_2 < (l2.length : Int)) = false := decide_eq_false c35
            clear c35
            simp only [Option.some.injEq, Prod.mk.injEq] at H
            obtain ⟨rfl, rfl⟩ := H
            go_wp2
            go_ret2
            exact ⟨_, by first | rfl | (simp [errW_none, errW_some] <;> rfl) | (simp [*, errW_none, errW_some] <;> rfl), by (with_reducible repeat (first | apply Kd.R_alloc | apply Kd.R_drewN | apply Kd.R_drew)); exact HO_10.out, by repeat (first | (with_reducible first | exact HB.out | apply below_alloc | apply pw_below_drewN | apply below_drew1) | exact HB.out)⟩

/-! ### munimentref5_Remove: function 26 -/
def munimentref5_Remove.l0 : Nat → List Int → List Int → Int → Int → Option (List Int)
  | 0, _, _, _, _ => none
  | k + 1, x0, x5, x6, x7 => if (wrap64 (x7 + 1)) < x6 then ((munimentref5_slot.f k x0 (wrap64 (x7 + 1))).bind fun bt229 => ((munimentref5_put.f k x5 (wrap64 (26 + (wrap64 (4 * x7)))) 2 (IntKind.u64.wrap (bt229.1))).bind fun t231 => ((munimentref5_put.f k t231 (wrap64 (28 + (wrap64 (4 * x7)))) 2 (IntKind.u64.wrap (bt229.2))).bind fun t232 => (munimentref5_Remove.l0 k x0 t232 x6 (wrap64 (x7 + 1)))))) else ((munimentref5_put.f k x5 (wrap64 (26 + (wrap64 (4 * (wrap64 (x6 - 1)))))) 4 0).bind fun t233 => ((munimentref5_put.f k t233 14 2 (IntKind.u64.wrap (wrap64 (x6 - 1)))).bind fun t234 => (if x6 = 1 then ((munimentref5_put.f k t234 16 2 512).bind fun t235 => (some t235)) else (some t234))))
def munimentref5_Remove.f (k : Nat) (l0 : List Int) (a1 : Int) : Option (List Int) := (munimentref5_Copy.f l0).bind fun t225 => ((munimentref5_Count.f k l0).bind fun t228 => (munimentref5_Remove.l0 k l0 t225 t228 a1))
theorem munimentref5_Remove.mono_l : ∀ k, (∀ y0 y1 y2 y3, LeO (munimentref5_Remove.l0 k y0 y1 y2 y3) (munimentref5_Remove.l0 (k + 1) y0 y1 y2 y3))
  | 0 => fun _ _ _ _ r h => by simp [munimentref5_Remove.l0] at h
  | k + 1 => by
    have ih0 := munimentref5_Remove.mono_l k
    · intro y0 y1 y2 y3
      unfold munimentref5_Remove.l0
      repeat' first
      | (with_reducible exact ih0 _ _ _ _)
      | (with_reducible exact munimentref5_Count.mono _ _)
      | (with_reducible exact munimentref5_put.mono _ _ _ _ _)
      | (with_reducible exact munimentref5_slot.mono _ _ _)
      | (with_reducible exact LeO.refl _)
      | (with_reducible exact LeO.none _)
      | (with_reducible refine LeO.ite ?_ ?_)
      | (with_reducible refine LeO.bind ?_ (fun _ => ?_))
      | exact ih0 _ _ _ _
      | exact munimentref5_Count.mono _ _
      | exact munimentref5_put.mono _ _ _ _ _
      | exact munimentref5_slot.mono _ _ _
      | exact LeO.none _
      | refine LeO.ite ?_ ?_
      | refine LeO.bind ?_ (fun _ => ?_)
theorem munimentref5_Remove.mono : ∀ a0 a1 k, LeO (munimentref5_Remove.f k a0 a1) (munimentref5_Remove.f (k + 1) a0 a1) := by
  intro a0 a1 k
  have ih0 := munimentref5_Remove.mono_l k
  unfold munimentref5_Remove.f
  repeat' first
      | (with_reducible exact ih0 _ _ _ _)
      | (with_reducible exact munimentref5_Count.mono _ _)
      | (with_reducible exact munimentref5_put.mono _ _ _ _ _)
      | (with_reducible exact munimentref5_slot.mono _ _ _)
      | (with_reducible exact LeO.refl _)
      | (with_reducible exact LeO.none _)
      | (with_reducible refine LeO.ite ?_ ?_)
      | (with_reducible refine LeO.bind ?_ (fun _ => ?_))
      | exact ih0 _ _ _ _
      | exact munimentref5_Count.mono _ _
      | exact munimentref5_put.mono _ _ _ _ _
      | exact munimentref5_slot.mono _ _ _
      | exact LeO.none _
      | refine LeO.ite ?_ ?_
      | refine LeO.bind ?_ (fun _ => ?_)
set_option maxHeartbeats 8000000 in
set_option maxRecDepth 100000 in
theorem munimentref5_Remove.calls (k : Nat) (A0 : Option Addr) (c0 : Nat) (l0 : List Int) (a1 : Int) (r : List Int) (w : World) (hr0 : Kd.C (Kd.int .u8) w A0 l0.length l0) (hc0 : l0.length ≤ c0) (h : munimentref5_Remove.f k l0 a1 = some r) :
    Calls Try.prog 26 #[.slice A0 l0.length c0, .int .i64 a1] w fun e w' => ∃ v0_ : Value, e = .returned (v0_) ∧ Kd.R (Kd.int .u8) 5 w' w.heap.size (fun _ => True) v0_ r ∧ Below w.heap.size w w' := by
  have HR0 := Aside0.mk hr0
  have HC0 := Aside0.mk hc0
  clear hr0 hc0
  have HB := Aside0.mk (Below.refl w.heap.size w)
  have H : ((munimentref5_Copy.f l0).bind fun t225 => ((munimentref5_Count.f k l0).bind fun t228 => (munimentref5_Remove.l0 k l0 t225 t228 a1))) = some r := h
  clear h
  replace H := Option.bind_eq_some_iff.mp H
  obtain ⟨t225, A30, H⟩ := H
  replace H : ((munimentref5_Count.f k l0).bind fun t228 => (munimentref5_Remove.l0 k l0 t225 t228 a1)) = some r := H
  have A3 := Aside0.mk A30
  clear A30
  replace H := Option.bind_eq_some_iff.mp H
  obtain ⟨t228, A40, H⟩ := H
  replace H : (munimentref5_Remove.l0 k l0 t225 t228 a1) = some r := H
  have A4 := Aside0.mk A40
  clear A40
  have H' := Aside0.mk H
  clear H
  go_enter Try.func26, Try.ntmps26
  go_wp2_with (first | ((with_reducible refine gate_callee (f := 58) rfl ?_); refine goesL_ (some 11) rfl rfl Try.func58 (by kernel_rfl) rfl #[.slice A0 l0.length c0] rfl (by (try simp only [List.map_toArray, List.map_cons, List.map_nil]); first | done | rfl | (simp only [List.length_drop, List.length_take]; rfl)) ?_; (with_reducible refine (munimentref5_Copy.calls _ _ l0 t225 _ ?side1 ?side2 A3.out).mono ?_); (case side1 => repeat (first | exact HR0.out | (with_reducible refine Kd.C_alloc ?_ _) | (with_reducible refine Kd.C_drewN ?_ _) | (with_reducible refine Kd.C_drew ?_))); (case side2 => exact HC0.out); rintro e w5 ⟨v226, rfl, ho0, hb⟩; refine ⟨_, rfl, ?_⟩; have n0_ := Aside0.mk (Kd.R_lower ho0 (below_size (by repeat (first | (with_reducible first | exact HB.out | apply below_alloc | apply pw_below_drewN | apply below_drew1) | exact HB.out)))); have n1_ := Aside0.mk (below_step (by repeat (first | (with_reducible first | exact HB.out | apply below_alloc | apply pw_below_drewN | apply below_drew1) | exact HB.out)) hb); clear HB; have HO227 := n0_; have HB := n1_; clear n0_ n1_; (try clear hb); (try clear hb2); (try clear hk); (try clear hi); (try clear ho0)) | ((with_reducible refine gate_callee (f := 23) rfl ?_); refine goesL_ (some 13) rfl rfl Try.func23 (by kernel_rfl) rfl #[.slice A0 l0.length c0] rfl (by (try simp only [List.map_toArray, List.map_cons, List.map_nil]); first | done | rfl | (simp only [List.length_drop, List.length_take]; rfl)) ?_; (with_reducible refine (munimentref5_Count.calls k _ _ l0 t228 _ ?side1 ?side2 A4.out).mono ?_); (case side1 => repeat (first | exact (Kd.C_below HR0.out HB.out) | (with_reducible refine Kd.C_alloc ?_ _) | (with_reducible refine Kd.C_drewN ?_ _) | (with_reducible refine Kd.C_drew ?_))); (case side2 => exact HC0.out); rintro e w' ⟨rfl, ⟨nd, rfl⟩⟩; refine ⟨_, rfl, ?_⟩))
  go_loopg [7] k (fun kq v7 w' => ∃ (x5_1 : List Int) (x7_1 : Int), v7 = .int .i64 x7_1 ∧ Aside0 (munimentref5_Remove.l0 kq l0 x5_1 t228 x7_1 = some r) ∧ Aside0 (kq ≤ k) ∧ Aside0 (Kd.R (Kd.int .u8) 5 w' w.heap.size (fun _ => True) v226 x5_1) ∧ Aside0 (Below w.heap.size w w'))
  case atStart => exact ⟨(t225), (a1), (by first | rfl | (simp; done) | (simp [*]; done)), H', ⟨Nat.le_refl _⟩, ⟨by (with_reducible repeat (first | apply Kd.R_alloc | apply Kd.R_drewN | apply Kd.R_drew)); exact HO227.out⟩, ⟨by repeat (first | (with_reducible first | exact HB.out | apply below_alloc | apply pw_below_drewN | apply below_drew1) | exact HB.out)⟩⟩
  case round =>
    clear H'
    try clear c2
    try clear p2
    try clear c5
    obtain ⟨x5_1, x7_1, rfl, HA, HK1, HO_5, HB⟩ := hrel
    cases gk with
    | zero => exact absurd HA.out (by simp [munimentref5_Remove.l0])
    | succ k1 =>
      have H := HA.out
      clear HA
      simp only [munimentref5_Remove.l0] at H
      by_cases c6 : (wrap64 (x7_1 + 1)) < t228
      · rw [if_pos c6] at H
        have c6b0 : decide ((wrap64 (x7_1 + 1)) < t228) = true := decide_eq_true c6
        clear c6
        replace H := Option.bind_eq_some_iff.mp H
        obtain ⟨⟨t229, t230⟩, A70, H⟩ := H
        replace H : ((munimentref5_put.f k1 x5_1 (wrap64 (26 + (wrap64 (4 * x7_1)))) 2 (IntKind.u64.wrap (t229))).bind fun t231 => ((munimentref5_put.f k1 t231 (wrap64 (28 + (wrap64 (4 * x7_1)))) 2 (IntKind.u64.wrap (t230))).bind fun t232 => (munimentref5_Remove.l0 k1 l0 t232 t228 (wrap64 (x7_1 + 1))))) = some r := H
        have A7 := Aside0.mk A70
        clear A70
        replace H := Option.bind_eq_some_iff.mp H
        obtain ⟨t231, A80, H⟩ := H
        replace H : ((munimentref5_put.f k1 t231 (wrap64 (28 + (wrap64 (4 * x7_1)))) 2 (IntKind.u64.wrap (t230))).bind fun t232 => (munimentref5_Remove.l0 k1 l0 t232 t228 (wrap64 (x7_1 + 1)))) = some r := H
        have A8 := Aside0.mk A80
        clear A80
        replace H := Option.bind_eq_some_iff.mp H
        obtain ⟨t232, A90, H⟩ := H
        replace H : (munimentref5_Remove.l0 k1 l0 t232 t228 (wrap64 (x7_1 + 1))) = some r := H
        have A9 := Aside0.mk A90
        clear A90
        have H' := Aside0.mk H
        clear H
        go_wp2_with (first | ((with_reducible refine gate_callee (f := 57) rfl ?_); refine goesL_ (some 25) rfl rfl Try.func57 (by kernel_rfl) rfl #[.slice A0 l0.length c0, .int .i64 (wrap64 (x7_1 + 1))] rfl (by (try simp only [List.map_toArray, List.map_cons, List.map_nil]); first | done | rfl | (simp only [List.length_drop, List.length_take]; rfl)) ?_; (with_reducible refine (munimentref5_slot.calls k1 _ _ l0 (wrap64 (x7_1 + 1)) t229 t230 _ ?side1 ?side2 A7.out).mono ?_); (case side1 => repeat (first | exact (Kd.C_below HR0.out HB.out) | (with_reducible refine Kd.C_alloc ?_ _) | (with_reducible refine Kd.C_drewN ?_ _) | (with_reducible refine Kd.C_drew ?_))); (case side2 => exact HC0.out); rintro e w' ⟨rfl, ⟨nd, rfl⟩⟩; refine ⟨_, rfl, ?_⟩; obtain ⟨Ao10, co10, eo10⟩ := Kd.R_slice HO_5.out; subst eo10) | ((with_reducible refine gate_callee (f := 59) rfl ?_); refine goesL_ (some 34) rfl rfl Try.func59 (by kernel_rfl) rfl #[.slice Ao10 x5_1.length co10, .int .i64 (wrap64 (26 + (wrap64 (4 * x7_1)))), .int .i64 2, .int .u64 (IntKind.u64.wrap (t229))] rfl (by (try simp only [List.map_toArray, List.map_cons, List.map_nil]); first | done | rfl | (simp only [List.length_drop, List.length_take]; rfl)) ?_; (with_reducible refine (munimentref5_put.calls k1 (fun k_ => some k_ = (.slice Ao10 x5_1.length co10 : Value).ownBlock) (.slice Ao10 x5_1.length co10) x5_1 (wrap64 (26 + (wrap64 (4 * x7_1)))) 2 (IntKind.u64.wrap (t229)) t231 w _ ?side1 ?side2 A8.out).mono ?_); (case side1 => repeat (first | (with_reducible first | exact HB.out | apply below_alloc | apply pw_below_drewN | apply below_drew1) | exact HB.out)); (case side2 => exact Kd.R_tight rfl HO_5.out); rintro e w11 ⟨rfl, hy0, hb, hkp⟩; refine ⟨_, rfl, ?_⟩; have n0_ := Aside0.mk (Kd.R_reok rfl hy0 (fun k_ e_ => HO_5.out.1 k_ e_)); have n1_ := Aside0.mk (hb); clear HO_5; clear HB; have HO_5 := n0_; have HB := n1_; clear n0_ n1_; (try clear hb); (try clear hkp); (try clear hy0)) | ((with_reducible refine gate_callee (f := 59) rfl ?_); refine goesL_ (some 41) rfl rfl Try.func59 (by kernel_rfl) rfl #[.slice Ao10 x5_1.length co10, .int .i64 (wrap64 (28 + (wrap64 (4 * x7_1)))), .int .i64 2, .int .u64 (IntKind.u64.wrap (t230))] rfl (by (try simp only [List.map_toArray, List.map_cons, List.map_nil]); first | done | rfl | (simp only [List.length_drop, List.length_take]; rfl)) ?_; (with_reducible refine (munimentref5_put.calls k1 (fun k_ => some k_ = (.slice Ao10 x5_1.length co10 : Value).ownBlock) (.slice Ao10 x5_1.length co10) t231 (wrap64 (28 + (wrap64 (4 * x7_1)))) 2 (IntKind.u64.wrap (t230)) t232 w _ ?side1 ?side2 A9.out).mono ?_); (case side1 => repeat (first | (with_reducible first | exact HB.out | apply below_alloc | apply pw_below_drewN | apply below_drew1) | exact HB.out)); (case side2 => exact Kd.R_tight rfl HO_5.out); rintro e w12 ⟨rfl, hy0, hb, hkp⟩; refine ⟨_, rfl, ?_⟩; have n0_ := Aside0.mk (Kd.R_reok rfl hy0 (fun k_ e_ => HO_5.out.1 k_ e_)); have n1_ := Aside0.mk (hb); clear HO_5; clear HB; have HO_5 := n0_; have HB := n1_; clear n0_ n1_; (try clear hb); (try clear hkp); (try clear hy0)))
        go_roundg k1
        case measure => have := HK1.out; omega
        case rel => exact ⟨(t232), (wrap64 (x7_1 + 1)), (by first | rfl | (simp; done) | (simp [*]; done)), H', ⟨by have := HK1.out; omega⟩, ⟨by (with_reducible repeat (first | apply Kd.R_alloc | apply Kd.R_drewN | apply Kd.R_drew)); exact HO_5.out⟩, ⟨by repeat (first | (with_reducible first | exact HB.out | apply below_alloc | apply pw_below_drewN | apply below_drew1) | exact HB.out)⟩⟩
      · rw [if_neg c6] at H
        have c6b0 : decide ((wrap64 (x7_1 + 1)) < t228) = false := decide_eq_false c6
        clear c6
        replace H := Option.bind_eq_some_iff.mp H
        obtain ⟨t233, A130, H⟩ := H
        replace H : ((munimentref5_put.f k1 t233 14 2 (IntKind.u64.wrap (wrap64 (t228 - 1)))).bind fun t234 => (if t228 = 1 then ((munimentref5_put.f k1 t234 16 2 512).bind fun t235 => (some t235)) else (some t234))) = some r := H
        have A13 := Aside0.mk A130
        clear A130
        replace H := Option.bind_eq_some_iff.mp H
        obtain ⟨t234, A140, H⟩ := H
        replace H : (if t228 = 1 then ((munimentref5_put.f k1 t234 16 2 512).bind fun t235 => (some t235)) else (some t234)) = some r := H
        have A14 := Aside0.mk A140
        clear A140
        by_cases c15 : t228 = 1
        · rw [if_pos c15] at H
          have c15b0 : (t228 == 1) = true := beq_iff_eq.mpr c15
          have c15b1 : (t228 != 1) = false := bne_eq_false_iff_eq.mpr c15
          clear c15
          replace H := Option.bind_eq_some_iff.mp H
          obtain ⟨t235, A160, H⟩ := H
          replace H : (some t235) = some r := H
          have A16 := Aside0.mk A160
          clear A160
          obtain rfl := Option.some.inj H
          obtain ⟨Ao17, co17, eo17⟩ := Kd.R_slice HO_5.out
          subst eo17
          go_wp2_with (first | ((with_reducible refine gate_callee (f := 59) rfl ?_); refine goesL_ (some 47) rfl rfl Try.func59 (by kernel_rfl) rfl #[.slice Ao17 x5_1.length co17, .int .i64 (wrap64 (26 + (wrap64 (4 * (wrap64 (t228 - 1)))))), .int .i64 4, .int .u64 0] rfl (by (try simp only [List.map_toArray, List.map_cons, List.map_nil]); first | done | rfl | (simp only [List.length_drop, List.length_take]; rfl)) ?_; (with_reducible refine (munimentref5_put.calls k1 (fun k_ => some k_ = (.slice Ao17 x5_1.length co17 : Value).ownBlock) (.slice Ao17 x5_1.length co17) x5_1 (wrap64 (26 + (wrap64 (4 * (wrap64 (t228 - 1)))))) 4 0 t233 w _ ?side1 ?side2 A13.out).mono ?_); (case side1 => repeat (first | (with_reducible first | exact HB.out | apply below_alloc | apply pw_below_drewN | apply below_drew1) | exact HB.out)); (case side2 => exact Kd.R_tight rfl HO_5.out); rintro e w18 ⟨rfl, hy0, hb, hkp⟩; refine ⟨_, rfl, ?_⟩; have n0_ := Aside0.mk (Kd.R_reok rfl hy0 (fun k_ e_ => HO_5.out.1 k_ e_)); have n1_ := Aside0.mk (hb); clear HO_5; clear HB; have HO_5 := n0_; have HB := n1_; clear n0_ n1_; (try clear hb); (try clear hkp); (try clear hy0)) | ((with_reducible refine gate_callee (f := 59) rfl ?_); refine goesL_ (some 52) rfl rfl Try.func59 (by kernel_rfl) rfl #[.slice Ao17 x5_1.length co17, .int .i64 14, .int .i64 2, .int .u64 (IntKind.u64.wrap (wrap64 (t228 - 1)))] rfl (by (try simp only [List.map_toArray, List.map_cons, List.map_nil]); first | done | rfl | (simp only [List.length_drop, List.length_take]; rfl)) ?_; (with_reducible refine (munimentref5_put.calls k1 (fun k_ => some k_ = (.slice Ao17 x5_1.length co17 : Value).ownBlock) (.slice Ao17 x5_1.length co17) t233 14 2 (IntKind.u64.wrap (wrap64 (t228 - 1))) t234 w _ ?side1 ?side2 A14.out).mono ?_); (case side1 => repeat (first | (with_reducible first | exact HB.out | apply below_alloc | apply pw_below_drewN | apply below_drew1) | exact HB.out)); (case side2 => exact Kd.R_tight rfl HO_5.out); rintro e w19 ⟨rfl, hy0, hb, hkp⟩; refine ⟨_, rfl, ?_⟩; have n0_ := Aside0.mk (Kd.R_reok rfl hy0 (fun k_ e_ => HO_5.out.1 k_ e_)); have n1_ := Aside0.mk (hb); clear HO_5; clear HB; have HO_5 := n0_; have HB := n1_; clear n0_ n1_; (try clear hb); (try clear hkp); (try clear hy0)) | ((with_reducible refine gate_callee (f := 59) rfl ?_); refine goesL_ (some 56) rfl rfl Try.func59 (by kernel_rfl) rfl #[.slice Ao17 x5_1.length co17, .int .i64 16, .int .i64 2, .int .u64 512] rfl (by (try simp only [List.map_toArray, List.map_cons, List.map_nil]); first | done | rfl | (simp only [List.length_drop, List.length_take]; rfl)) ?_; (with_reducible refine (munimentref5_put.calls k1 (fun k_ => some k_ = (.slice Ao17 x5_1.length co17 : Value).ownBlock) (.slice Ao17 x5_1.length co17) t234 16 2 512 t235 w _ ?side1 ?side2 A16.out).mono ?_); (case side1 => repeat (first | (with_reducible first | exact HB.out | apply below_alloc | apply pw_below_drewN | apply below_drew1) | exact HB.out)); (case side2 => exact Kd.R_tight rfl HO_5.out); rintro e w20 ⟨rfl, hy0, hb, hkp⟩; refine ⟨_, rfl, ?_⟩; have n0_ := Aside0.mk (Kd.R_reok rfl hy0 (fun k_ e_ => HO_5.out.1 k_ e_)); have n1_ := Aside0.mk (hb); clear HO_5; clear HB; have HO_5 := n0_; have HB := n1_; clear n0_ n1_; (try clear hb); (try clear hkp); (try clear hy0)))
          go_ret
          exact ⟨_, by first | rfl | (simp [errW_none, errW_some] <;> rfl) | (simp [*, errW_none, errW_some] <;> rfl), by (with_reducible repeat (first | apply Kd.R_alloc | apply Kd.R_drewN | apply Kd.R_drew)); exact HO_5.out, by repeat (first | (with_reducible first | exact HB.out | apply below_alloc | apply pw_below_drewN | apply below_drew1) | exact HB.out)⟩
        · rw [if_neg c15] at H
          have c15b0 : (t228 == 1) = false := beq_eq_false_iff_ne.mpr c15
          have c15b1 : (t228 != 1) = true := bne_iff_ne.mpr c15
          obtain rfl := Option.some.inj H
          obtain ⟨Ao21, co21, eo21⟩ := Kd.R_slice HO_5.out
          subst eo21
          go_wp2_with (first | ((with_reducible refine gate_callee (f := 59) rfl ?_); refine goesL_ (some 47) rfl rfl Try.func59 (by kernel_rfl) rfl #[.slice Ao21 x5_1.length co21, .int .i64 (wrap64 (26 + (wrap64 (4 * (wrap64 (t228 - 1)))))), .int .i64 4, .int .u64 0] rfl (by (try simp only [List.map_toArray, List.map_cons, List.map_nil]); first | done | rfl | (simp only [List.length_drop, List.length_take]; rfl)) ?_; (with_reducible refine (munimentref5_put.calls k1 (fun k_ => some k_ = (.slice Ao21 x5_1.length co21 : Value).ownBlock) (.slice Ao21 x5_1.length co21) x5_1 (wrap64 (26 + (wrap64 (4 * (wrap64 (t228 - 1)))))) 4 0 t233 w _ ?side1 ?side2 A13.out).mono ?_); (case side1 => repeat (first | (with_reducible first | exact HB.out | apply below_alloc | apply pw_below_drewN | apply below_drew1) | exact HB.out)); (case side2 => exact Kd.R_tight rfl HO_5.out); rintro e w22 ⟨rfl, hy0, hb, hkp⟩; refine ⟨_, rfl, ?_⟩; have n0_ := Aside0.mk (Kd.R_reok rfl hy0 (fun k_ e_ => HO_5.out.1 k_ e_)); have n1_ := Aside0.mk (hb); clear HO_5; clear HB; have HO_5 := n0_; have HB := n1_; clear n0_ n1_; (try clear hb); (try clear hkp); (try clear hy0)) | ((with_reducible refine gate_callee (f := 59) rfl ?_); refine goesL_ (some 52) rfl rfl Try.func59 (by kernel_rfl) rfl #[.slice Ao21 x5_1.length co21, .int .i64 14, .int .i64 2, .int .u64 (IntKind.u64.wrap (wrap64 (t228 - 1)))] rfl (by (try simp only [List.map_toArray, List.map_cons, List.map_nil]); first | done | rfl | (simp only [List.length_drop, List.length_take]; rfl)) ?_; (with_reducible refine (munimentref5_put.calls k1 (fun k_ => some k_ = (.slice Ao21 x5_1.length co21 : Value).ownBlock) (.slice Ao21 x5_1.length co21) t233 14 2 (IntKind.u64.wrap (wrap64 (t228 - 1))) t234 w _ ?side1 ?side2 A14.out).mono ?_); (case side1 => repeat (first | (with_reducible first | exact HB.out | apply below_alloc | apply pw_below_drewN | apply below_drew1) | exact HB.out)); (case side2 => exact Kd.R_tight rfl HO_5.out); rintro e w23 ⟨rfl, hy0, hb, hkp⟩; refine ⟨_, rfl, ?_⟩; have n0_ := Aside0.mk (Kd.R_reok rfl hy0 (fun k_ e_ => HO_5.out.1 k_ e_)); have n1_ := Aside0.mk (hb); clear HO_5; clear HB; have HO_5 := n0_; have HB := n1_; clear n0_ n1_; (try clear hb); (try clear hkp); (try clear hy0)))
          go_ret
          exact ⟨_, by first | rfl | (simp [errW_none, errW_some] <;> rfl) | (simp [*, errW_none, errW_some] <;> rfl), by (with_reducible repeat (first | apply Kd.R_alloc | apply Kd.R_drewN | apply Kd.R_drew)); exact HO_5.out, by repeat (first | (with_reducible first | exact HB.out | apply below_alloc | apply pw_below_drewN | apply below_drew1) | exact HB.out)⟩

end Go.Proofs.Ytpogneedafoiaaa.Rf
