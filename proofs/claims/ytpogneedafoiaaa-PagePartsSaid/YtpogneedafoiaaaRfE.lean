/- The reference, as the kit's print of this claim lays it, behind one namespace: munimentref1_More, munimentref1_Of, munimentref5_New, munimentref5_Set, munimentref5_Seal. -/
import Derived.Test.YtpogneedafoiaaaRfB
import Derived.Test.YtpogneedafoiaaaRfC
namespace Go.Proofs.Ytpogneedafoiaaa.Rf
open Go.RowKit Go.Proofs.YtpogneedafoiaaaW.PrintWords Go.Proofs.YtpogneedafoiaaaW.PrintLast Go.Proofs.YtpogneedafoiaaaW.PrintMore
attribute [local go_sem] max2_int min2_int max_two min_two max_three min_three max_four min_four   -- for this text's walks alone
set_option linter.unusedVariables false
set_option linter.unusedSimpArgs false
/-! ### munimentref1_More: function 67 -/
mutual
def munimentref1_More.l0 : Nat → List Int → Int → Int → Option (Int)
  | 0, _, _, _ => none
  | k + 1, x1, x5, x6 => if x6 < (x1.length : Int) then (if 0 ≤ x6 then (munimentref1_More.l1 k x1 (Go.bits .xor .u32 x5 ((rd x1 x6) % 4294967296)) x6 0) else (none)) else (some (Go.bits .xor .u32 x5 4294967295))
def munimentref1_More.l1 : Nat → List Int → Int → Int → Int → Option (Int)
  | 0, _, _, _, _ => none
  | k + 1, x1, x5, x6, x7 => if x7 < 8 then (if (Go.bits .and .u32 x5 1) = 1 then (munimentref1_More.l1 k x1 (Go.bits .xor .u32 (x5 / 2) 3988292384) x6 (wrap64 (x7 + 1))) else (munimentref1_More.l1 k x1 (x5 / 2) x6 (wrap64 (x7 + 1)))) else (munimentref1_More.l0 k x1 x5 (wrap64 (x6 + 1)))
end
def munimentref1_More.f (k : Nat) (a0 : Int) (l1 : List Int) : Option (Int) := munimentref1_More.l0 k l1 (Go.bits .xor .u32 a0 4294967295) 0
theorem munimentref1_More.mono_l : ∀ k, (∀ y0 y1 y2, LeO (munimentref1_More.l0 k y0 y1 y2) (munimentref1_More.l0 (k + 1) y0 y1 y2)) ∧ (∀ y0 y1 y2 y3, LeO (munimentref1_More.l1 k y0 y1 y2 y3) (munimentref1_More.l1 (k + 1) y0 y1 y2 y3))
  | 0 => ⟨fun _ _ _ r h => by simp [munimentref1_More.l0] at h, fun _ _ _ _ r h => by simp [munimentref1_More.l1] at h⟩
  | k + 1 => by
    obtain ⟨ih0, ih1⟩ := munimentref1_More.mono_l k
    refine ⟨?_, ?_⟩
    · intro y0 y1 y2
      unfold munimentref1_More.l0
      repeat' first
      | (with_reducible exact ih0 _ _ _)
      | (with_reducible exact ih1 _ _ _ _)
      | (with_reducible exact LeO.refl _)
      | (with_reducible exact LeO.none _)
      | (with_reducible refine LeO.ite ?_ ?_)
      | (with_reducible refine LeO.bind ?_ (fun _ => ?_))
      | exact ih0 _ _ _
      | exact ih1 _ _ _ _
      | exact LeO.none _
      | refine LeO.ite ?_ ?_
      | refine LeO.bind ?_ (fun _ => ?_)
    · intro y0 y1 y2 y3
      unfold munimentref1_More.l1
      repeat' first
      | (with_reducible exact ih0 _ _ _)
      | (with_reducible exact ih1 _ _ _ _)
      | (with_reducible exact LeO.refl _)
      | (with_reducible exact LeO.none _)
      | (with_reducible refine LeO.ite ?_ ?_)
      | (with_reducible refine LeO.bind ?_ (fun _ => ?_))
      | exact ih0 _ _ _
      | exact ih1 _ _ _ _
      | exact LeO.none _
      | refine LeO.ite ?_ ?_
      | refine LeO.bind ?_ (fun _ => ?_)
theorem munimentref1_More.mono : ∀ a0 a1 k, LeO (munimentref1_More.f k a0 a1) (munimentref1_More.f (k + 1) a0 a1) := by
  intro a0 a1 k
  obtain ⟨ih0, ih1⟩ := munimentref1_More.mono_l k
  unfold munimentref1_More.f
  repeat' first
      | (with_reducible exact ih0 _ _ _)
      | (with_reducible exact ih1 _ _ _ _)
      | (with_reducible exact LeO.refl _)
      | (with_reducible exact LeO.none _)
      | (with_reducible refine LeO.ite ?_ ?_)
      | (with_reducible refine LeO.bind ?_ (fun _ => ?_))
      | exact ih0 _ _ _
      | exact ih1 _ _ _ _
      | exact LeO.none _
      | refine LeO.ite ?_ ?_
      | refine LeO.bind ?_ (fun _ => ?_)
set_option maxHeartbeats 8000000 in
set_option maxRecDepth 100000 in
theorem munimentref1_More.calls (k : Nat) (a0 : Int) (A1 : Option Addr) (c1 : Nat) (l1 : List Int) (r : Int) (w : World) (hr1 : Kd.C (Kd.int .u8) w A1 l1.length l1) (hc1 : l1.length ≤ c1) (h : munimentref1_More.f k a0 l1 = some r) :
    Calls Try.prog 67 #[.int .u32 a0, .slice A1 l1.length c1] w fun e w' => e = .returned (.int .u32 r) ∧ Drawn0 w w' := by
  have HR1 := Aside0.mk hr1
  have HC1 := Aside0.mk hc1
  clear hr1 hc1
  have H : (munimentref1_More.l0 k l1 (Go.bits .xor .u32 a0 4294967295) 0) = some r := h
  clear h
  have H' := Aside0.mk H
  clear H
  go_enter Try.func67, Try.ntmps67
  go_wp2
  go_loopg [5, 6] k (fun kq v5 v6 w' => ∃ (x5_1 : Int) (x6_1 : Int), v5 = .int .u32 x5_1 ∧ v6 = .int .i64 x6_1 ∧ Aside0 (munimentref1_More.l0 kq l1 x5_1 x6_1 = some r) ∧ Aside0 (kq ≤ k) ∧ Drawn0 w w')
  case atStart => exact ⟨(Go.bits .xor .u32 a0 4294967295), (0), (by first | rfl | (simp; done) | (simp [*]; done)), (by first | rfl | (simp; done) | (simp [*]; done)), H', ⟨Nat.le_refl _⟩, by repeat (first | exact Drawn0.refl _ | apply Drawn0.step)⟩
  case round =>
    clear H'
    try clear c1
    try clear p2
    obtain ⟨x5_1, x6_1, rfl, rfl, HA, HK1, ⟨m1, rfl⟩⟩ := hrel
    cases gk with
    | zero => exact absurd HA.out (by simp [munimentref1_More.l0])
    | succ k1 =>
      have H := HA.out
      clear HA
      simp only [munimentref1_More.l0] at H
      by_cases c3 : x6_1 < (l1.length : Int)
      · rw [if_pos c3] at H
        have c3b0 : decide (x6_1 < (l1.length : Int)) = true := decide_eq_true c3
        clear c3
        by_cases c4 : 0 ≤ x6_1
        · rw [if_pos c4] at H
          have c4b0 : decide (0 ≤ x6_1) = true := decide_eq_true c4
          clear c4
          have H' := Aside0.mk H
          clear H
          have p149 : 0 ≤ (x6_1 : Int) := of_decide_eq_true (by first | (with_reducible assumption) | assumption)
          have q149 : x6_1 < (l1.length : Int) := of_decide_eq_true (by first | (with_reducible assumption) | assumption)
          obtain ⟨ad149, e149, hx149_0⟩ := Kd.at_int HR1.out x6_1 p149 q149
          cases e149
          replace p149 := eq_true p149
          replace q149 := eq_true q149
          go_wp2
          go_loopg [5, 7] k1 (fun kq v5 v7 w' => ∃ (x5_2 : Int) (x7_2 : Int), v5 = .int .u32 x5_2 ∧ v7 = .int .i64 x7_2 ∧ Aside0 (munimentref1_More.l1 kq l1 x5_2 x6_1 x7_2 = some r) ∧ Aside0 (kq ≤ k1) ∧ Drawn0 w w')
          case atStart => exact ⟨(Go.bits .xor .u32 x5_1 ((rd l1 x6_1) % 4294967296)), (0), (by first | rfl | (simp; done) | (simp [*]; done)), (by first | rfl | (simp; done) | (simp [*]; done)), H', ⟨Nat.le_refl _⟩, by repeat (first | exact Drawn0.refl _ | apply Drawn0.step)⟩
          case round =>
            clear H'
            try clear c1
            try clear p1
            try clear q1
            try clear hx1
            try clear p2
            try clear c3
            try clear c3b0
            try clear c4
            try clear c4b0
            try clear hx149_0
            try clear p149
            try clear p2
            try clear q149
            obtain ⟨x5_2, x7_2, rfl, rfl, HA, HK2, ⟨m2, rfl⟩⟩ := hrel
            cases gk with
            | zero => exact absurd HA.out (by simp [munimentref1_More.l1])
            | succ k2 =>
              have H := HA.out
              clear HA
              simp only [munimentref1_More.l1] at H
              by_cases c5 : x7_2 < 8
              · rw [if_pos c5] at H
                have c5b0 : decide (x7_2 < 8) = true := decide_eq_true c5
                clear c5
                by_cases c6 : (Go.bits .and .u32 x5_2 1) = 1
                · rw [if_pos c6] at H
                  have c6b0 : ((Go.bits .and .u32 x5_2 1) == 1) = true := beq_iff_eq.mpr c6
                  have c6b1 : ((Go.bits .and .u32 x5_2 1) != 1) = false := bne_eq_false_iff_eq.mpr c6
                  clear c6
                  have H' := Aside0.mk H
                  clear H
                  go_wp2
                  go_roundg k2
                  case measure => have := HK1.out; have := HK2.out; omega
                  case rel => exact ⟨(Go.bits .xor .u32 (x5_2 / 2) 3988292384), (wrap64 (x7_2 + 1)), (by first | rfl | (simp; done) | (simp [*]; done)), (by first | rfl | (simp; done) | (simp [*]; done)), H', ⟨by have := HK1.out; have := HK2.out; omega⟩, by repeat (first | exact Drawn0.refl _ | apply Drawn0.step)⟩
                · rw [if_neg c6] at H
                  have c6b0 : ((Go.bits .and .u32 x5_2 1) == 1) = false := beq_eq_false_iff_ne.mpr c6
                  have c6b1 : ((Go.bits .and .u32 x5_2 1) != 1) = true := bne_iff_ne.mpr c6
                  have H' := Aside0.mk H
                  clear H
                  go_wp2
                  go_roundg k2
                  case measure => have := HK1.out; have := HK2.out; omega
                  case rel => exact ⟨(x5_2 / 2), (wrap64 (x7_2 + 1)), (by first | rfl | (simp; done) | (simp [*]; done)), (by first | rfl | (simp; done) | (simp [*]; done)), H', ⟨by have := HK1.out; have := HK2.out; omega⟩, by repeat (first | exact Drawn0.refl _ | apply Drawn0.step)⟩
              · rw [if_neg c5] at H
                have c5b0 : decide (x7_2 < 8) = false := decide_eq_false c5
                clear c5
                have H' := Aside0.mk H
                clear H
                go_wp2
                go_roundg k2
                case measure => have := HK1.out; have := HK2.out; omega
                case rel => exact ⟨(x5_2), (wrap64 (x6_1 + 1)), (by first | rfl | (simp; done) | (simp [*]; done)), (by first | rfl | (simp; done) | (simp [*]; done)), H', ⟨by have := HK1.out; have := HK2.out; omega⟩, by repeat (first | exact Drawn0.refl _ | apply Drawn0.step)⟩
        · rw [if_neg c4] at H
          exact absurd H (by simp)
      · rw [if_neg c3] at H
        have c3b0 : decide (x6_1 < (l1.length : Int)) = false := decide_eq_false c3
        clear c3
        obtain rfl := Option.some.inj H
        go_wp2
        go_ret
        exact ⟨by first | rfl | (simp; done) | (simp [*]; done), by repeat (first | exact Drawn0.refl _ | apply Drawn0.step)⟩

/-! ### munimentref1_Of: function 63 -/
def munimentref1_Of.f (k : Nat) (l0 : List Int) : Option (Int) := (munimentref1_More.f k 0 l0).bind fun t150 => (some t150)
theorem munimentref1_Of.mono : ∀ a0 k, LeO (munimentref1_Of.f k a0) (munimentref1_Of.f (k + 1) a0) := by
  intro a0 k
  unfold munimentref1_Of.f
  repeat' first
      | (with_reducible exact munimentref1_More.mono _ _ _)
      | (with_reducible exact LeO.refl _)
      | (with_reducible exact LeO.none _)
      | (with_reducible refine LeO.ite ?_ ?_)
      | (with_reducible refine LeO.bind ?_ (fun _ => ?_))
      | exact munimentref1_More.mono _ _ _
      | exact LeO.none _
      | refine LeO.ite ?_ ?_
      | refine LeO.bind ?_ (fun _ => ?_)
set_option maxHeartbeats 8000000 in
set_option maxRecDepth 100000 in
theorem munimentref1_Of.calls (k : Nat) (A0 : Option Addr) (c0 : Nat) (l0 : List Int) (r : Int) (w : World) (hr0 : Kd.C (Kd.int .u8) w A0 l0.length l0) (hc0 : l0.length ≤ c0) (h : munimentref1_Of.f k l0 = some r) :
    Calls Try.prog 63 #[.slice A0 l0.length c0] w fun e w' => e = .returned (.int .u32 r) ∧ Drawn0 w w' := by
  have HR0 := Aside0.mk hr0
  have HC0 := Aside0.mk hc0
  clear hr0 hc0
  have H : ((munimentref1_More.f k 0 l0).bind fun t150 => (some t150)) = some r := h
  clear h
  replace H := Option.bind_eq_some_iff.mp H
  obtain ⟨t150, A20, H⟩ := H
  replace H : (some t150) = some r := H
  have A2 := Aside0.mk A20
  clear A20
  obtain rfl := Option.some.inj H
  go_enter Try.func63, Try.ntmps63
  go_wp2_with (first | ((with_reducible refine gate_callee (f := 67) rfl ?_); refine goesL_ (some 4) rfl rfl Try.func67 (by kernel_rfl) rfl #[.int .u32 0, .slice A0 l0.length c0] rfl (by (try simp only [List.map_toArray, List.map_cons, List.map_nil]); first | done | rfl | (simp only [List.length_drop, List.length_take]; rfl)) ?_; (with_reducible refine (munimentref1_More.calls k 0 _ _ l0 t150 _ ?side1 ?side2 A2.out).mono ?_); (case side1 => repeat (first | exact HR0.out | (with_reducible refine Kd.C_alloc ?_ _) | (with_reducible refine Kd.C_drewN ?_ _) | (with_reducible refine Kd.C_drew ?_))); (case side2 => exact HC0.out); rintro e w' ⟨rfl, ⟨nd, rfl⟩⟩; refine ⟨_, rfl, ?_⟩))
  go_ret
  exact ⟨by first | rfl | (simp; done) | (simp [*]; done), by repeat (first | exact Drawn0.refl _ | apply Drawn0.step)⟩

/-! ### munimentref5_New: function 36 -/
def munimentref5_New.f (k : Nat) (a0 : Int) : Option (List Int) := if 512 ≤ 281474976710656 then ((some (List.replicate 512 0 : List Int)).bind fun y164 => (if 12 < (y164.length : Int) then ((munimentref5_put.f k (y164.set (12 : Int).toNat ((a0) % 256)) 16 2 512).bind fun t168 => (some t168)) else (none))) else (none)
theorem munimentref5_New.mono : ∀ a0 k, LeO (munimentref5_New.f k a0) (munimentref5_New.f (k + 1) a0) := by
  intro a0 k
  unfold munimentref5_New.f
  repeat' first
      | (with_reducible exact munimentref5_put.mono _ _ _ _ _)
      | (with_reducible exact LeO.refl _)
      | (with_reducible exact LeO.none _)
      | (with_reducible refine LeO.ite ?_ ?_)
      | (with_reducible refine LeO.bind ?_ (fun _ => ?_))
      | exact munimentref5_put.mono _ _ _ _ _
      | exact LeO.none _
      | refine LeO.ite ?_ ?_
      | refine LeO.bind ?_ (fun _ => ?_)
set_option maxHeartbeats 8000000 in
set_option maxRecDepth 100000 in
theorem munimentref5_New.calls (k : Nat) (a0 : Int) (r : List Int) (w : World) (h : munimentref5_New.f k a0 = some r) :
    Calls Try.prog 36 #[.int .i64 a0] w fun e w' => ∃ v0_ : Value, e = .returned (v0_) ∧ Kd.R (Kd.int .u8) 5 w' w.heap.size (fun _ => True) v0_ r ∧ Below w.heap.size w w' := by
  have HB := Aside0.mk (Below.refl w.heap.size w)
  have H : (if 512 ≤ 281474976710656 then ((some (List.replicate 512 0 : List Int)).bind fun y164 => (if 12 < (y164.length : Int) then ((munimentref5_put.f k (y164.set (12 : Int).toNat ((a0) % 256)) 16 2 512).bind fun t168 => (some t168)) else (none))) else (none)) = some r := h
  clear h
  by_cases c2 : 512 ≤ 281474976710656
  · rw [if_pos c2] at H
    have c2b0 := eq_true c2
    have c2b1 : decide (512 ≤ 281474976710656) = true := decide_eq_true c2
    clear c2
    obtain ⟨y164, hy164⟩ : ∃ y_ : List Int, y_ = (List.replicate 512 0) := ⟨_, rfl⟩
    replace H : (if 12 < (y164.length : Int) then ((munimentref5_put.f k (y164.set (12 : Int).toNat ((a0) % 256)) 16 2 512).bind fun t168 => (some t168)) else (none)) = some r := by first | (rw [hy164]; with_reducible exact H) | (have H2_ := (Option.bind_some _ _).symm.trans H; rw [hy164]; with_reducible exact H2_) | (have H2_ := (Option.bind_some _ _).symm.trans H; with_reducible exact H2_) | with_reducible exact H | (rw [hy164]; exact H) | exact H
    have Ny164 := Aside0.mk hy164
    clear hy164
    by_cases c3 : 12 < (y164.length : Int)
    · rw [if_pos c3] at H
      have c3b0 : decide (12 < (y164.length : Int)) = true := decide_eq_true c3
      have c3b1 : decide (12 < y164.length) = true := decide_eq_true (by omega)
      clear c3
      obtain ⟨y167, hy167⟩ : ∃ y_ : List Int, y_ = (y164.set (12 : Int).toNat ((a0) % 256)) := ⟨_, rfl⟩
      replace H : ((munimentref5_put.f k y167 16 2 512).bind fun t168 => (some t168)) = some r := by first | (rw [hy167]; with_reducible exact H) | (have H2_ := (Option.bind_some _ _).symm.trans H; rw [hy167]; with_reducible exact H2_) | (have H2_ := (Option.bind_some _ _).symm.trans H; with_reducible exact H2_) | with_reducible exact H | (rw [hy167]; exact H) | exact H
      have Ny167 := Aside0.mk hy167
      clear hy167
      replace H := Option.bind_eq_some_iff.mp H
      obtain ⟨t168, A50, H⟩ := H
      replace H : (some t168) = some r := H
      have A5 := Aside0.mk A50
      clear A50
      obtain rfl := Option.some.inj H
      go_enter Try.func36, Try.ntmps36
      go_wp2_with (first | ((with_reducible refine gate_dst (N := 4) rfl ?_); refine Kd.R_make (Kd.int .u8) _ 5 rfl (N := 4) rfl 22 _ _ rfl 512 rfl rfl Try.underlying22 (.int .u8 0) 1 info5 rfl (by decide) (by omega) 0 (ok := fun _ => True) (okp := fun _ => True) rfl (fun _ hk => hk) trivial (by omega) (by omega) (Below.refl _ _) (Nat.le_refl _) ?_; intro v165 w6 ho7 hb hg_ hnew_; clear hg_ hnew_; (first | rw [← Ny164.out] at ho7 | (simp only [Int.reduceToNat] at ho7; rw [← Ny164.out] at ho7)); have n0_ := Aside0.mk (Kd.R_lower ho7 (below_size (by repeat (first | (with_reducible first | exact HB.out | apply below_alloc | apply pw_below_drewN | apply below_drew1) | exact HB.out)))); have n1_ := Aside0.mk (below_step (by repeat (first | (with_reducible first | exact HB.out | apply below_alloc | apply pw_below_drewN | apply below_drew1) | exact HB.out)) hb); clear HB; have HO166 := n0_; have HB := n1_; clear n0_ n1_; clear hb ho7; have p4 : 0 ≤ (12 : Int) := (by omega); have q4 : (12 : Int) < ((y164.length : Int) : Int) := of_decide_eq_true (by first | (with_reducible assumption) | assumption); have qi4 : (12 < y164.length) = True := eq_true (by omega); obtain ⟨go4, co4, eo4, gb4, gl4, cl4, HG4⟩ := Kd.R_form HO166.out (by omega); (first | cases eo4 | (injection eo4 with ea_ en_ ec_; (first | subst ea_ | (injection ea_ with ea_; subst ea_)); subst ec_; clear en_)); have GB4 := Aside0.mk gb4; have GG4 := Aside0.mk HG4; clear gb4 gl4 HG4; obtain ⟨hx4_0, hf4_0⟩ := Kd.R_celln 0 HO166.out (12 : Int) p4 q4; (try rw [show ((12 : Int)).toNat = 12 from rfl] at hx4_0); (try simp only [Nat.reduceMul, Nat.zero_mul, Nat.zero_add, Nat.reduceAdd] at hx4_0); (try rw [show ((12 : Int)).toNat = 12 from rfl] at hf4_0); (try simp only [Nat.reduceMul, Nat.zero_mul, Nat.zero_add, Nat.reduceAdd] at hf4_0); replace p4 := eq_true p4; replace q4 := eq_true q4; obtain ⟨hy8_, hz8_⟩ := Kd.R_celln 0 HO166.out (12 : Int) (by omega) (of_decide_eq_true (by first | (with_reducible assumption) | assumption)); (try simp only [Int.reduceToNat, Int.toNat_zero, Int.toNat_ofNat, Nat.reduceMul, Nat.zero_mul, Nat.zero_add] at hy8_ hz8_); (try rw [show ((12 : Int)).toNat = 12 from rfl] at hy8_); (try rw [show ((12 : Int)).toNat = 12 from rfl] at hz8_); have HP8 := Kd.R_putg HO166.out (12 : Int) ((a0) % 256)) | ((with_reducible refine gate_store (t := 5) (p := 8) rfl ?_); refine store_event (t := 5) (p := 8) (v := ?vo_w9) (w1 := (w6.setCell ⟨go4, (12 : Int).toNat, none⟩ (.int .u8 ((a0) % 256)))) ?hg ?ho ?hn ?hr ?_; (case ho => rfl); (case hg => rfl); (case hn => rfl); (case hr => first | (go_simp; done) | (go_simp; rfl)); intro w9 hw; have hg : w6.grownBy w9 (some go4) := (by rw [hw]; exact HP8.2); have hp_ : Kd.R (Kd.int .u8) 5 w9 w.heap.size (fun _ => True) (.slice (some ⟨go4, 0, none⟩) y164.length co4) y167 := (by rw [hw, Ny167.out]; exact HP8.1); clear HP8; have n0_ := Aside0.mk (hp_); have n1_ := Aside0.mk ((by rw [hw]; exact below_set (HB.out) GB4.out : Below w.heap.size w w9)); clear HO166; clear HB; have HO166 := n0_; have HB := n1_; clear n0_ n1_; clear hg hw hp_) | ((with_reducible refine gate_callee (f := 59) rfl ?_); refine goesL_ (some 10) rfl rfl Try.func59 (by kernel_rfl) rfl #[.slice (some ⟨go4, 0, none⟩) y164.length co4, .int .i64 16, .int .i64 2, .int .u64 512] rfl (by (try simp only [List.map_toArray, List.map_cons, List.map_nil]); first | done | rfl | (simp only [List.length_drop, List.length_take]; rfl)) ?_; (with_reducible refine (munimentref5_put.calls k (fun k_ => some k_ = (.slice (some ⟨go4, 0, none⟩) y164.length co4 : Value).ownBlock) (.slice (some ⟨go4, 0, none⟩) y164.length co4) y167 16 2 512 t168 w _ ?side1 ?side2 A5.out).mono ?_); (case side1 => repeat (first | (with_reducible first | exact HB.out | apply below_alloc | apply pw_below_drewN | apply below_drew1) | exact HB.out)); (case side2 => exact Kd.R_tight rfl HO166.out); rintro e w10 ⟨rfl, hy0, hb, hkp⟩; refine ⟨_, rfl, ?_⟩; have n0_ := Aside0.mk (Kd.R_reok rfl hy0 (fun k_ e_ => HO166.out.1 k_ e_)); have n1_ := Aside0.mk (hb); clear HO166; clear HB; have HO166 := n0_; have HB := n1_; clear n0_ n1_; (try clear hb); (try clear hkp); (try clear hy0)))
      go_ret
      exact ⟨_, by first | rfl | (simp [errW_none, errW_some] <;> rfl) | (simp [*, errW_none, errW_some] <;> rfl), by (with_reducible repeat (first | apply Kd.R_alloc | apply Kd.R_drewN | apply Kd.R_drew)); exact HO166.out, by repeat (first | (with_reducible first | exact HB.out | apply below_alloc | apply pw_below_drewN | apply below_drew1) | exact HB.out)⟩
    · rw [if_neg c3] at H
      exact absurd H (by simp)
  · rw [if_neg c2] at H
    exact absurd H (by simp)

/-! ### munimentref5_Set: function 39 -/
def munimentref5_Set.f (k : Nat) (l0 : List Int) (a1 : Int) (a2 : Int) : Option (List Int) := (munimentref5_Copy.f l0).bind fun t186 => ((munimentref5_put.f k t186 18 4 (IntKind.u64.wrap (a1))).bind fun t189 => ((munimentref5_put.f k t189 22 4 (IntKind.u64.wrap (a2))).bind fun t190 => (some t190)))
theorem munimentref5_Set.mono : ∀ a0 a1 a2 k, LeO (munimentref5_Set.f k a0 a1 a2) (munimentref5_Set.f (k + 1) a0 a1 a2) := by
  intro a0 a1 a2 k
  unfold munimentref5_Set.f
  repeat' first
      | (with_reducible exact munimentref5_put.mono _ _ _ _ _)
      | (with_reducible exact LeO.refl _)
      | (with_reducible exact LeO.none _)
      | (with_reducible refine LeO.ite ?_ ?_)
      | (with_reducible refine LeO.bind ?_ (fun _ => ?_))
      | exact munimentref5_put.mono _ _ _ _ _
      | exact LeO.none _
      | refine LeO.ite ?_ ?_
      | refine LeO.bind ?_ (fun _ => ?_)
set_option maxHeartbeats 8000000 in
set_option maxRecDepth 100000 in
theorem munimentref5_Set.calls (k : Nat) (A0 : Option Addr) (c0 : Nat) (l0 : List Int) (a1 : Int) (a2 : Int) (r : List Int) (w : World) (hr0 : Kd.C (Kd.int .u8) w A0 l0.length l0) (hc0 : l0.length ≤ c0) (h : munimentref5_Set.f k l0 a1 a2 = some r) :
    Calls Try.prog 39 #[.slice A0 l0.length c0, .int .i64 a1, .int .i64 a2] w fun e w' => ∃ v0_ : Value, e = .returned (v0_) ∧ Kd.R (Kd.int .u8) 5 w' w.heap.size (fun _ => True) v0_ r ∧ Below w.heap.size w w' := by
  have HR0 := Aside0.mk hr0
  have HC0 := Aside0.mk hc0
  clear hr0 hc0
  have HB := Aside0.mk (Below.refl w.heap.size w)
  have H : ((munimentref5_Copy.f l0).bind fun t186 => ((munimentref5_put.f k t186 18 4 (IntKind.u64.wrap (a1))).bind fun t189 => ((munimentref5_put.f k t189 22 4 (IntKind.u64.wrap (a2))).bind fun t190 => (some t190)))) = some r := h
  clear h
  replace H := Option.bind_eq_some_iff.mp H
  obtain ⟨t186, A40, H⟩ := H
  replace H : ((munimentref5_put.f k t186 18 4 (IntKind.u64.wrap (a1))).bind fun t189 => ((munimentref5_put.f k t189 22 4 (IntKind.u64.wrap (a2))).bind fun t190 => (some t190))) = some r := H
  have A4 := Aside0.mk A40
  clear A40
  replace H := Option.bind_eq_some_iff.mp H
  obtain ⟨t189, A50, H⟩ := H
  replace H : ((munimentref5_put.f k t189 22 4 (IntKind.u64.wrap (a2))).bind fun t190 => (some t190)) = some r := H
  have A5 := Aside0.mk A50
  clear A50
  replace H := Option.bind_eq_some_iff.mp H
  obtain ⟨t190, A60, H⟩ := H
  replace H : (some t190) = some r := H
  have A6 := Aside0.mk A60
  clear A60
  obtain rfl := Option.some.inj H
  go_enter Try.func39, Try.ntmps39
  go_wp2_with (first | ((with_reducible refine gate_callee (f := 58) rfl ?_); refine goesL_ (some 9) rfl rfl Try.func58 (by kernel_rfl) rfl #[.slice A0 l0.length c0] rfl (by (try simp only [List.map_toArray, List.map_cons, List.map_nil]); first | done | rfl | (simp only [List.length_drop, List.length_take]; rfl)) ?_; (with_reducible refine (munimentref5_Copy.calls _ _ l0 t186 _ ?side1 ?side2 A4.out).mono ?_); (case side1 => repeat (first | exact HR0.out | (with_reducible refine Kd.C_alloc ?_ _) | (with_reducible refine Kd.C_drewN ?_ _) | (with_reducible refine Kd.C_drew ?_))); (case side2 => exact HC0.out); rintro e w7 ⟨v187, rfl, ho0, hb⟩; refine ⟨_, rfl, ?_⟩; have n0_ := Aside0.mk (Kd.R_lower ho0 (below_size (by repeat (first | (with_reducible first | exact HB.out | apply below_alloc | apply pw_below_drewN | apply below_drew1) | exact HB.out)))); have n1_ := Aside0.mk (below_step (by repeat (first | (with_reducible first | exact HB.out | apply below_alloc | apply pw_below_drewN | apply below_drew1) | exact HB.out)) hb); clear HB; have HO188 := n0_; have HB := n1_; clear n0_ n1_; (try clear hb); (try clear hb2); (try clear hk); (try clear hi); (try clear ho0); obtain ⟨Ao8, co8, eo8⟩ := Kd.R_slice HO188.out; subst eo8) | ((with_reducible refine gate_callee (f := 59) rfl ?_); refine goesL_ (some 13) rfl rfl Try.func59 (by kernel_rfl) rfl #[.slice Ao8 t186.length co8, .int .i64 18, .int .i64 4, .int .u64 (IntKind.u64.wrap (a1))] rfl (by (try simp only [List.map_toArray, List.map_cons, List.map_nil]); first | done | rfl | (simp only [List.length_drop, List.length_take]; rfl)) ?_; (with_reducible refine (munimentref5_put.calls k (fun k_ => some k_ = (.slice Ao8 t186.length co8 : Value).ownBlock) (.slice Ao8 t186.length co8) t186 18 4 (IntKind.u64.wrap (a1)) t189 w _ ?side1 ?side2 A5.out).mono ?_); (case side1 => repeat (first | (with_reducible first | exact HB.out | apply below_alloc | apply pw_below_drewN | apply below_drew1) | exact HB.out)); (case side2 => exact Kd.R_tight rfl HO188.out); rintro e w9 ⟨rfl, hy0, hb, hkp⟩; refine ⟨_, rfl, ?_⟩; have n0_ := Aside0.mk (Kd.R_reok rfl hy0 (fun k_ e_ => HO188.out.1 k_ e_)); have n1_ := Aside0.mk (hb); clear HO188; clear HB; have HO188 := n0_; have HB := n1_; clear n0_ n1_; (try clear hb); (try clear hkp); (try clear hy0)) | ((with_reducible refine gate_callee (f := 59) rfl ?_); refine goesL_ (some 17) rfl rfl Try.func59 (by kernel_rfl) rfl #[.slice Ao8 t186.length co8, .int .i64 22, .int .i64 4, .int .u64 (IntKind.u64.wrap (a2))] rfl (by (try simp only [List.map_toArray, List.map_cons, List.map_nil]); first | done | rfl | (simp only [List.length_drop, List.length_take]; rfl)) ?_; (with_reducible refine (munimentref5_put.calls k (fun k_ => some k_ = (.slice Ao8 t186.length co8 : Value).ownBlock) (.slice Ao8 t186.length co8) t189 22 4 (IntKind.u64.wrap (a2)) t190 w _ ?side1 ?side2 A6.out).mono ?_); (case side1 => repeat (first | (with_reducible first | exact HB.out | apply below_alloc | apply pw_below_drewN | apply below_drew1) | exact HB.out)); (case side2 => exact Kd.R_tight rfl HO188.out); rintro e w10 ⟨rfl, hy0, hb, hkp⟩; refine ⟨_, rfl, ?_⟩; have n0_ := Aside0.mk (Kd.R_reok rfl hy0 (fun k_ e_ => HO188.out.1 k_ e_)); have n1_ := Aside0.mk (hb); clear HO188; clear HB; have HO188 := n0_; have HB := n1_; clear n0_ n1_; (try clear hb); (try clear hkp); (try clear hy0)))
  go_ret
  exact ⟨_, by first | rfl | (simp [errW_none, errW_some] <;> rfl) | (simp [*, errW_none, errW_some] <;> rfl), by (with_reducible repeat (first | apply Kd.R_alloc | apply Kd.R_drewN | apply Kd.R_drew)); exact HO188.out, by repeat (first | (with_reducible first | exact HB.out | apply below_alloc | apply pw_below_drewN | apply below_drew1) | exact HB.out)⟩

/-! ### munimentref5_Seal: function 41 -/
def munimentref5_Seal.f (k : Nat) (l0 : List Int) (a1 : Int) : Option (List Int) := (munimentref5_Copy.f l0).bind fun t205 => ((munimentref5_put.f k t205 4 8 a1).bind fun t208 => (if 4 ≤ (t205.length : Int) then ((munimentref1_Of.f k (t208.drop 4)).bind fun t213 => ((munimentref5_put.f k t208 0 4 (IntKind.u64.wrap (t213))).bind fun t214 => (some t214))) else (none)))
theorem munimentref5_Seal.mono : ∀ a0 a1 k, LeO (munimentref5_Seal.f k a0 a1) (munimentref5_Seal.f (k + 1) a0 a1) := by
  intro a0 a1 k
  unfold munimentref5_Seal.f
  repeat' first
      | (with_reducible exact munimentref1_Of.mono _ _)
      | (with_reducible exact munimentref5_put.mono _ _ _ _ _)
      | (with_reducible exact LeO.refl _)
      | (with_reducible exact LeO.none _)
      | (with_reducible refine LeO.ite ?_ ?_)
      | (with_reducible refine LeO.bind ?_ (fun _ => ?_))
      | exact munimentref1_Of.mono _ _
      | exact munimentref5_put.mono _ _ _ _ _
      | exact LeO.none _
      | refine LeO.ite ?_ ?_
      | refine LeO.bind ?_ (fun _ => ?_)
set_option maxHeartbeats 8000000 in
set_option maxRecDepth 100000 in
theorem munimentref5_Seal.calls (k : Nat) (A0 : Option Addr) (c0 : Nat) (l0 : List Int) (a1 : Int) (r : List Int) (w : World) (hr0 : Kd.C (Kd.int .u8) w A0 l0.length l0) (hc0 : l0.length ≤ c0) (h : munimentref5_Seal.f k l0 a1 = some r) :
    Calls Try.prog 41 #[.slice A0 l0.length c0, .int .u64 a1] w fun e w' => ∃ v0_ : Value, e = .returned (v0_) ∧ Kd.R (Kd.int .u8) 5 w' w.heap.size (fun _ => True) v0_ r ∧ Below w.heap.size w w' := by
  have HR0 := Aside0.mk hr0
  have HC0 := Aside0.mk hc0
  clear hr0 hc0
  have HB := Aside0.mk (Below.refl w.heap.size w)
  have H : ((munimentref5_Copy.f l0).bind fun t205 => ((munimentref5_put.f k t205 4 8 a1).bind fun t208 => (if 4 ≤ (t205.length : Int) then ((munimentref1_Of.f k (t208.drop 4)).bind fun t213 => ((munimentref5_put.f k t208 0 4 (IntKind.u64.wrap (t213))).bind fun t214 => (some t214))) else (none)))) = some r := h
  clear h
  replace H := Option.bind_eq_some_iff.mp H
  obtain ⟨t205, A30, H⟩ := H
  replace H : ((munimentref5_put.f k t205 4 8 a1).bind fun t208 => (if 4 ≤ (t205.length : Int) then ((munimentref1_Of.f k (t208.drop 4)).bind fun t213 => ((munimentref5_put.f k t208 0 4 (IntKind.u64.wrap (t213))).bind fun t214 => (some t214))) else (none))) = some r := H
  have A3 := Aside0.mk A30
  clear A30
  replace H := Option.bind_eq_some_iff.mp H
  obtain ⟨t208, A40, H⟩ := H
  replace H : (if 4 ≤ (t205.length : Int) then ((munimentref1_Of.f k (t208.drop 4)).bind fun t213 => ((munimentref5_put.f k t208 0 4 (IntKind.u64.wrap (t213))).bind fun t214 => (some t214))) else (none)) = some r := H
  have A4 := Aside0.mk A40
  clear A40
  by_cases c5 : 4 ≤ (t205.length : Int)
  · rw [if_pos c5] at H
    have c5b0 := eq_true c5
    have c5b1 : decide (4 ≤ (t205.length : Int)) = true := decide_eq_true c5
    clear c5
    obtain ⟨y209, hy209⟩ : ∃ y_ : List Int, y_ = (t208.drop 4) := ⟨_, rfl⟩
    replace H : ((munimentref1_Of.f k y209).bind fun t213 => ((munimentref5_put.f k t208 0 4 (IntKind.u64.wrap (t213))).bind fun t214 => (some t214))) = some r := by first | (rw [hy209]; with_reducible exact H) | (have H2_ := (Option.bind_some _ _).symm.trans H; rw [hy209]; with_reducible exact H2_) | (have H2_ := (Option.bind_some _ _).symm.trans H; with_reducible exact H2_) | with_reducible exact H | (rw [hy209]; exact H) | exact H
    have Ny209 := Aside0.mk hy209
    clear hy209
    replace H := Option.bind_eq_some_iff.mp H
    obtain ⟨t213, A60, H⟩ := H
    replace H : ((munimentref5_put.f k t208 0 4 (IntKind.u64.wrap (t213))).bind fun t214 => (some t214)) = some r := H
    have A6 := Aside0.mk A60
    clear A60
    replace H := Option.bind_eq_some_iff.mp H
    obtain ⟨t214, A70, H⟩ := H
    replace H : (some t214) = some r := H
    have A7 := Aside0.mk A70
    clear A70
    obtain rfl := Option.some.inj H
    go_enter Try.func41, Try.ntmps41
    go_wp2_with (first | ((with_reducible refine gate_callee (f := 58) rfl ?_); refine goesL_ (some 7) rfl rfl Try.func58 (by kernel_rfl) rfl #[.slice A0 l0.length c0] rfl (by (try simp only [List.map_toArray, List.map_cons, List.map_nil]); first | done | rfl | (simp only [List.length_drop, List.length_take]; rfl)) ?_; (with_reducible refine (munimentref5_Copy.calls _ _ l0 t205 _ ?side1 ?side2 A3.out).mono ?_); (case side1 => repeat (first | exact HR0.out | (with_reducible refine Kd.C_alloc ?_ _) | (with_reducible refine Kd.C_drewN ?_ _) | (with_reducible refine Kd.C_drew ?_))); (case side2 => exact HC0.out); rintro e w8 ⟨v206, rfl, ho0, hb⟩; refine ⟨_, rfl, ?_⟩; have n0_ := Aside0.mk (Kd.R_lower ho0 (below_size (by repeat (first | (with_reducible first | exact HB.out | apply below_alloc | apply pw_below_drewN | apply below_drew1) | exact HB.out)))); have n1_ := Aside0.mk (below_step (by repeat (first | (with_reducible first | exact HB.out | apply below_alloc | apply pw_below_drewN | apply below_drew1) | exact HB.out)) hb); clear HB; have HO207 := n0_; have HB := n1_; clear n0_ n1_; (try clear hb); (try clear hb2); (try clear hk); (try clear hi); (try clear ho0); obtain ⟨Ao9, co9, eo9⟩ := Kd.R_slice HO207.out; subst eo9) | ((with_reducible refine gate_callee (f := 59) rfl ?_); refine goesL_ (some 10) rfl rfl Try.func59 (by kernel_rfl) rfl #[.slice Ao9 t205.length co9, .int .i64 4, .int .i64 8, .int .u64 a1] rfl (by (try simp only [List.map_toArray, List.map_cons, List.map_nil]); first | done | rfl | (simp only [List.length_drop, List.length_take]; rfl)) ?_; (with_reducible refine (munimentref5_put.calls k (fun k_ => some k_ = (.slice Ao9 t205.length co9 : Value).ownBlock) (.slice Ao9 t205.length co9) t205 4 8 a1 t208 w _ ?side1 ?side2 A4.out).mono ?_); (case side1 => repeat (first | (with_reducible first | exact HB.out | apply below_alloc | apply pw_below_drewN | apply below_drew1) | exact HB.out)); (case side2 => exact Kd.R_tight rfl HO207.out); rintro e w10 ⟨rfl, hy0, hb, hkp⟩; refine ⟨_, rfl, ?_⟩; have n0_ := Aside0.mk (Kd.R_reok rfl hy0 (fun k_ e_ => HO207.out.1 k_ e_)); have n1_ := Aside0.mk (hb); clear HO207; clear HB; have HO207 := n0_; have HB := n1_; clear n0_ n1_; (try clear hb); (try clear hkp); (try clear hy0); have hlx11 := (Kd.R_reads' HO207.out).1; have q11 : (4 : Int) ≤ ((t205.length : Int) : Int) := of_decide_eq_true (by first | (with_reducible assumption) | assumption); obtain ⟨i011, hi011, _, hsz11, _⟩ := info_parts info5; have hroom11 : t205.length ≤ co9 := (Kd.R_reads' HO207.out).2.1; have hroomc11 : t208.length ≤ co9 := (by rw [← hlx11]; exact hroom11); have hC11 : Kd.C (Kd.int .u8) _ Ao9 t208.length t208 := (Kd.R_reads' HO207.out).2.2; have hcut11 := cut_from (P := Try.prog) 22 5 .i64 Try.underlying22 hi011 1 hsz11 Ao9 t205.length co9 4 (by omega) q11; have hr11 := Kd.C_drop (m := (4 : Int).toNat) (c := co9) hC11 (by omega) hroomc11; obtain ⟨A11, hA11⟩ : ∃ A1, A1 = (if co9 = (4 : Int).toNat then Ao9 else (Ao9 : Option Addr).map (·.add ((4 : Int).toNat * 1))) := ⟨_, rfl⟩; obtain ⟨c11, hc11⟩ : ∃ c1, c1 = co9 - (4 : Int).toNat := ⟨_, rfl⟩; have hy11 : y209.length = t205.length - (4 : Int).toNat := (by rw [Ny209.out, List.length_drop] <;> omega); rw [show (t208).drop (4 : Int).toNat = y209 from Ny209.out.symm] at hr11; replace hr11 : Kd.C (Kd.int .u8) _ A11 y209.length y209 := (by rw [hA11]; exact hr11); rw [← hy11, ← hA11, ← hc11] at hcut11; have HR212 := Aside0.mk hr11; have HC212 := Aside0.mk (show y209.length ≤ c11 from by rw [hy11, hc11]; exact Nat.sub_le_sub_right hroom11 _); clear hr11 hC11 hroom11 hi011 hsz11 hc11 hroomc11; have KY11 := Aside0.mk hy11; have KA11 := Aside0.mk hA11; clear hy11 hA11; have KE11 := Aside0.mk hlx11; have KL11 := Aside0.mk (show 4 ≤ t208.length from by omega); clear hlx11; replace q11 := eq_true q11) | ((with_reducible refine gate_callee (f := 63) rfl ?_); refine goesL_ (some 14) rfl rfl Try.func63 (by kernel_rfl) rfl #[.slice A11 y209.length c11] rfl (by (try simp only [List.map_toArray, List.map_cons, List.map_nil]); first | done | rfl | (simp only [List.length_drop, List.length_take]; rfl)) ?_; (with_reducible refine (munimentref1_Of.calls k _ _ y209 t213 _ ?side1 ?side2 A6.out).mono ?_); (case side1 => repeat (first | exact (by repeat (first | (with_reducible exact HR212.out) | (with_reducible refine Kd.C_alloc ?_ _) | (with_reducible refine Kd.C_drewN ?_ _) | (with_reducible refine Kd.C_drew ?_) | exact HR212.out)) | (with_reducible refine Kd.C_alloc ?_ _) | (with_reducible refine Kd.C_drewN ?_ _) | (with_reducible refine Kd.C_drew ?_))); (case side2 => exact HC212.out); rintro e w' ⟨rfl, ⟨nd, rfl⟩⟩; refine ⟨_, rfl, ?_⟩) | ((with_reducible refine gate_callee (f := 59) rfl ?_); refine goesL_ (some 16) rfl rfl Try.func59 (by kernel_rfl) rfl #[.slice Ao9 t205.length co9, .int .i64 0, .int .i64 4, .int .u64 (IntKind.u64.wrap (t213))] rfl (by (try simp only [List.map_toArray, List.map_cons, List.map_nil]); first | done | rfl | (simp only [List.length_drop, List.length_take]; rfl)) ?_; (with_reducible refine (munimentref5_put.calls k (fun k_ => some k_ = (.slice Ao9 t205.length co9 : Value).ownBlock) (.slice Ao9 t205.length co9) t208 0 4 (IntKind.u64.wrap (t213)) t214 w _ ?side1 ?side2 A7.out).mono ?_); (case side1 => repeat (first | (with_reducible first | exact HB.out | apply below_alloc | apply pw_below_drewN | apply below_drew1) | exact HB.out)); (case side2 => exact Kd.R_tight rfl HO207.out); rintro e w12 ⟨rfl, hy0, hb, hkp⟩; refine ⟨_, rfl, ?_⟩; have n0_ := Aside0.mk (Kd.R_reok rfl hy0 (fun k_ e_ => HO207.out.1 k_ e_)); have n1_ := Aside0.mk (hb); clear HO207; clear HB; have HO207 := n0_; have HB := n1_; clear n0_ n1_; (try clear hb); (try clear hkp); (try clear hy0)))
    go_ret
    exact ⟨_, by first | rfl | (simp [errW_none, errW_some] <;> rfl) | (simp [*, errW_none, errW_some] <;> rfl), by (with_reducible repeat (first | apply Kd.R_alloc | apply Kd.R_drewN | apply Kd.R_drew)); exact HO207.out, by repeat (first | (with_reducible first | exact HB.out | apply below_alloc | apply pw_below_drewN | apply below_drew1) | exact HB.out)⟩
  · rw [if_neg c5] at H
    exact absurd H (by simp)

end Go.Proofs.Ytpogneedafoiaaa.Rf
