/- Contracts by hand: the walk of PageChanges. -/
import Derived.Test.YtpogneedafoiaaaPgAns
import Derived.Test.YtpogneedafoiaaaRfT
namespace Go.Proofs.Ytpogneedafoiaaa.Pg
open Go.RowKit Go.Proofs.YtpogneedafoiaaaW.PrintWords Go.Proofs.YtpogneedafoiaaaW.PrintLast Go.Proofs.YtpogneedafoiaaaW.PrintMore Go.Proofs.Ytpogneedafoiaaa.Bw Go.Proofs.Ytpogneedafoiaaa.Crc Go.Proofs.Ytpogneedafoiaaa.Wordy
set_option linter.unusedVariables false
set_option linter.unusedSimpArgs false

theorem told_any (A B : Option Addr) (c d : Nat) (a b : List Int) (e f : Int) (w : World) (ha : Kd.C (Kd.int .u8) w A a.length a) (hc : a.length ≤ c) (hb : Kd.C (Kd.int .u8) w B b.length b) (hd : b.length ≤ d) (oa : octs a) (ob : octs b) :
    Calls Try.prog 22 #[.slice A a.length c, .int .i64 e, .slice B b.length d, .int .i64 f] w fun r w' => r = .returned (.bool (decide (e = f ∧ a = b))) ∧ Below w.heap.size w w' := by
  refine (Rf.munimentlaw5_told.calls A c a e B d b f _ w ha hc hb hd ?_).mono (by rintro r w' ⟨rfl, n, rfl⟩; exact ⟨rfl, pw_below_drewN (Below.refl _ _) n⟩)
  unfold Rf.munimentlaw5_told.f
  by_cases he : e = f
  · rw [if_pos he, same_str oa ob]
    congr 1
    exact decide_eq_decide.mpr ⟨fun h => ⟨he, h⟩, fun h => h.2⟩
  · rw [if_neg he, decide_eq_false (fun h => he h.1)]
/-- told nothing -/
theorem told_nil (A : Option Addr) (a : List Int) (e f : Int) (w : World) (ha : Kd.C (Kd.int .u8) w A a.length a) (oa : octs a) :
    Calls Try.prog 22 #[.slice A a.length a.length, .int .i64 e, .slice none 0 0, .int .i64 f] w fun r w' => r = .returned (.bool (decide (e = f ∧ a = []))) ∧ Below w.heap.size w w' :=
  told_any A none a.length 0 a [] e f w ha (Nat.le_refl _) (rb_of_reads ⟨rfl, by decide, fun h => absurd h (by decide)⟩) (Nat.le_refl _) oa octs_nil
theorem rgood_calls (A : Option Addr) (c : Nat) (p : List Int) (w : World) (hr : Kd.C (Kd.int .u8) w A p.length p) (hc : p.length ≤ c) (ho : octs p) (hl : p.length ≤ 140737488351232) :
    Calls Try.prog 21 #[.slice A p.length c] w fun e w' => e = .returned (.bool (goodP p)) ∧ Below w.heap.size w w' :=
  Rf.munimentref5_Good.calls 100000 A c p _ w hr hc (rgood_eq p ho hl 100000 (Nat.le_refl _))
theorem rcount_calls (A : Option Addr) (c : Nat) (p : List Int) (w : World) (hr : Kd.C (Kd.int .u8) w A p.length p) (hc : p.length ≤ c) (ho : octs p) (hl : p.length = 512) :
    Calls Try.prog 23 #[.slice A p.length c] w fun e w' => e = .returned (.int .i64 ((cnt p : Nat) : Int)) ∧ Below w.heap.size w w' :=
  (Rf.munimentref5_Count.calls 9 A c p _ w hr hc (rcnt_eq p ho hl 9 (Nat.le_refl _))).mono (by rintro r w' ⟨rfl, n, rfl⟩; exact ⟨rfl, pw_below_drewN (Below.refl _ _) n⟩)
/-- what the reference tells: bytes to be read -/
def Told (r : List Int) (w : World) (v : Value) (w' : World) : Prop := ∃ A' c', v = .slice A' r.length c' ∧ r.length ≤ c' ∧ Kd.C (Kd.int .u8) w' A' r.length r ∧ Below w.heap.size w w'
theorem told_R {w w' : World} {v : Value} {r : List Int} (h : Kd.R (Kd.int .u8) 5 w' w.heap.size (fun _ => True) v r) (hb : Below w.heap.size w w') : Told r w v w' := by
  obtain ⟨A', c', e, h1, h2⟩ := Kd.R_reads h
  exact ⟨A', c', e, h1, h2, hb⟩
section
variable (A : Option Addr) (c : Nat) (p : List Int) (w : World) (hr : Kd.C (Kd.int .u8) w A p.length p) (hc : p.length ≤ c) (ho : octs p) (hg : goodP p = true)
include hr hc ho hg
theorem rinsert_calls (B : Option Addr) (cc : Nat) (l : List Int) (i : Nat) (hr2 : Kd.C (Kd.int .u8) w B l.length l) (hc2 : l.length ≤ cc) (hll : l.length ≤ 140737488351232) (hi : i ≤ cnt p) :
    Calls Try.prog 24 #[.slice A p.length c, .int .i64 i, .slice B l.length cc] w fun e w' => ∃ v, e = .returned (.tuple #[v, .bool (decide ((insAns p i l).2 = 0))]) ∧ Told (insAns p i l).1 w v w' := by
  by_cases hf : (l.length : Int) + 4 ≤ freeP p
  · have e : insAns p i l = (insertP p i l, 0) := by unfold insAns; rw [if_pos hg, if_pos (by omega), if_pos hf]; rfl
    rw [e]
    refine (Rf.munimentref5_Insert.calls 200000 A c p i B cc l _ _ w hr hc hr2 hc2 (rinsert_eq ho hg hi hll hf 200000 (Nat.le_refl _))).mono ?_
    rintro e w' ⟨v, rfl, h1, h2⟩
    exact ⟨v, rfl, told_R h1 h2⟩
  · have e : insAns p i l = ([], 7) := by unfold insAns; rw [if_pos hg, if_pos (by omega), if_neg hf]
    rw [e]
    refine (Rf.munimentref5_Insert.calls 200000 A c p i B cc l _ _ w hr hc hr2 hc2 (rinsert_full ho hg i hll (by omega) 200000 (by omega))).mono ?_
    rintro e w' ⟨v, rfl, h1, h2⟩
    exact ⟨v, rfl, told_R h1 h2⟩
theorem rremove_calls (i : Nat) (hi : i < cnt p) :
    Calls Try.prog 26 #[.slice A p.length c, .int .i64 i] w fun e w' => ∃ v, e = .returned v ∧ Told (removeP p i) w v w' := by
  refine (Rf.munimentref5_Remove.calls 1000 A c p i _ w hr hc (rremove_eq ho hg hi 1000 (Nat.le_refl _))).mono ?_
  rintro e w' ⟨v, rfl, h1, h2⟩
  exact ⟨v, rfl, told_R h1 h2⟩
theorem rreplace_calls (B : Option Addr) (cc : Nat) (l : List Int) (i : Nat) (hr2 : Kd.C (Kd.int .u8) w B l.length l) (hc2 : l.length ≤ cc) (hll : l.length ≤ 140737488351232) (hi : i < cnt p) :
    Calls Try.prog 25 #[.slice A p.length c, .int .i64 i, .slice B l.length cc] w fun e w' => ∃ v, e = .returned (.tuple #[v, .bool (decide ((repAns p i l).2 = 0))]) ∧ Told (repAns p i l).1 w v w' := by
  by_cases hs : l.length ≤ szP p i
  · have e : repAns p i l = (replaceP p i l, 0) := by unfold repAns; rw [if_pos hg, if_pos (by omega), Int.toNat_natCast, if_pos (.inl (by omega))]
    rw [e]
    refine (Rf.munimentref5_Replace.calls 200000 A c p i B cc l _ _ w hr hc hr2 hc2 (rreplace_small ho hg hi hs 200000 (by omega))).mono ?_
    rintro e w' ⟨v, rfl, h1, h2⟩
    exact ⟨v, rfl, told_R h1 h2⟩
  · by_cases hf : (l.length : Int) - szP p i ≤ freeP p
    · have e : repAns p i l = (replaceP p i l, 0) := by unfold repAns; rw [if_pos hg, if_pos (by omega), Int.toNat_natCast, if_pos (.inr hf)]
      rw [e]
      refine (Rf.munimentref5_Replace.calls 200000 A c p i B cc l _ _ w hr hc hr2 hc2 (rreplace_big ho hg hi hll (by omega) hf 200000 (Nat.le_refl _))).mono ?_
      rintro e w' ⟨v, rfl, h1, h2⟩
      exact ⟨v, rfl, told_R h1 h2⟩
    · have e : repAns p i l = ([], 7) := by unfold repAns; rw [if_pos hg, if_pos (by omega), Int.toNat_natCast, if_neg (by omega)]
      rw [e]
      refine (Rf.munimentref5_Replace.calls 200000 A c p i B cc l _ _ w hr hc hr2 hc2 (rreplace_full ho hg hi hll (by omega) (by omega) 200000 (by omega))).mono ?_
      rintro e w' ⟨v, rfl, h1, h2⟩
      exact ⟨v, rfl, told_R h1 h2⟩
end
/-- a code of an answer -/
theorem rinsert_at (A : Option Addr) (c : Nat) (p : List Int) (w : World) (hr : Kd.C (Kd.int .u8) w A p.length p) (hc : p.length ≤ c) (ho : octs p) (hg : goodP p = true) (B : Option Addr) (cc : Nat) (l : List Int) (i : Nat) (i' : Int) (hi' : i' = (i : Int)) (hr2 : Kd.C (Kd.int .u8) w B l.length l) (hc2 : l.length ≤ cc) (hll : l.length ≤ 140737488351232) (hi : i ≤ cnt p) :
    Calls Try.prog 24 #[.slice A p.length c, .int .i64 i', .slice B l.length cc] w fun e w' => ∃ v, e = .returned (.tuple #[v, .bool (decide ((insAns p i' l).2 = 0))]) ∧ Told (insAns p i' l).1 w v w' := by
  subst hi'
  exact rinsert_calls A c p w hr hc ho hg B cc l i hr2 hc2 hll hi
theorem rreplace_at (A : Option Addr) (c : Nat) (p : List Int) (w : World) (hr : Kd.C (Kd.int .u8) w A p.length p) (hc : p.length ≤ c) (ho : octs p) (hg : goodP p = true) (B : Option Addr) (cc : Nat) (l : List Int) (i : Nat) (i' : Int) (hi' : i' = (i : Int)) (hr2 : Kd.C (Kd.int .u8) w B l.length l) (hc2 : l.length ≤ cc) (hll : l.length ≤ 140737488351232) (hi : i < cnt p) :
    Calls Try.prog 25 #[.slice A p.length c, .int .i64 i', .slice B l.length cc] w fun e w' => ∃ v, e = .returned (.tuple #[v, .bool (decide ((repAns p i' l).2 = 0))]) ∧ Told (repAns p i' l).1 w v w' := by
  subst hi'
  exact rreplace_calls A c p w hr hc ho hg B cc l i hr2 hc2 hll hi
theorem rremove_at (A : Option Addr) (c : Nat) (p : List Int) (w : World) (hr : Kd.C (Kd.int .u8) w A p.length p) (hc : p.length ≤ c) (ho : octs p) (hg : goodP p = true) (i : Nat) (i' : Int) (hi' : i' = (i : Int)) (hi : i < cnt p) :
    Calls Try.prog 26 #[.slice A p.length c, .int .i64 i'] w fun e w' => ∃ v, e = .returned v ∧ Told (removeP p i) w v w' := by
  subst hi'
  exact rremove_calls A c p w hr hc ho hg i hi
theorem code_ins (p : List Int) (i : Int) (l : List Int) : 0 ≤ (insAns p i l).2 ∧ (insAns p i l).2 ≤ 7 := by
  unfold insAns
  split
  · split
    · split <;> simp
    · simp
  · simp
theorem code_rem (p : List Int) (i : Int) : 0 ≤ (remAns p i).2 ∧ (remAns p i).2 ≤ 7 := by
  unfold remAns
  split
  · split <;> simp
  · simp
theorem code_rep (p : List Int) (i : Int) (l : List Int) : 0 ≤ (repAns p i l).2 ∧ (repAns p i l).2 ≤ 7 := by
  unfold repAns
  split
  · split
    · split <;> simp
    · simp
  · simp
set_option maxRecDepth 100000 in
set_option maxHeartbeats 4000000 in
theorem changes_bad (A B : Option Addr) (c cc : Nat) (p l : List Int) (i : Int) (w : World) (hr : Kd.C (Kd.int .u8) w A p.length p) (hc : p.length ≤ c) (ho : octs p) (hl : p.length ≤ 140737488351232) (hr2 : Kd.C (Kd.int .u8) w B l.length l) (hc2 : l.length ≤ cc) (hol : octs l) (hll : l.length ≤ 140737488351232) (hg : goodP p = false) :
    Calls Try.prog 4 #[.slice A p.length c, .int .i64 i, .slice B l.length cc] w fun e w' => e = .returned (.bool true) ∧ Below w.heap.size w w' := by
  have HR := Aside0.mk hr
  have HO := Aside0.mk ho
  have HR2 := Aside0.mk hr2
  have HG := Aside0.mk hg
  clear hr ho hr2 hg
  have hfx := insAns_fine HO.out hol i (p := p)
  have hfy := remAns_fine HO.out i (p := p)
  have hfz := repAns_fine HO.out hol i (p := p)
  have hix := insert_ans A c p w HR.out hc HO.out hl B cc l i HR2.out hc2 hll
  have hiy := fun w1 (h : Below w.heap.size w w1) => remove_ans A c p w1 (Kd.C_below HR.out h) hc HO.out hl i
  have hiz := fun w1 (h : Below w.heap.size w w1) => replace_ans A c p w1 (Kd.C_below HR.out h) hc HO.out hl B cc l i (Kd.C_below HR2.out h) hc2 hll
  obtain ⟨⟨x, ex⟩, hx⟩ : ∃ z, insAns p i l = z := ⟨_, rfl⟩
  obtain ⟨⟨y, ey⟩, hy⟩ : ∃ z, remAns p i = z := ⟨_, rfl⟩
  obtain ⟨⟨z, ez⟩, hz⟩ : ∃ z, repAns p i l = z := ⟨_, rfl⟩
  rw [hx] at hix hfx
  rw [hy] at hfy
  rw [hz] at hfz
  have hkx := code_ins p i l
  have hky := code_rem p i
  have hkz := code_rep p i l
  rw [hx] at hkx
  rw [hy] at hky
  rw [hz] at hkz
  have wx : IntKind.i64.wrap ex = ex := IntWalk.i64_in _ (by omega)
  have wy : IntKind.i64.wrap ey = ey := IntWalk.i64_in _ (by omega)
  have wz : IntKind.i64.wrap ez = ez := IntWalk.i64_in _ (by omega)
  have FX := Aside0.mk (show octs x ∧ x.length ≤ 512 from hfx)
  have FY := Aside0.mk (show octs y ∧ y.length ≤ 512 from hfy)
  have FZ := Aside0.mk (show octs z ∧ z.length ≤ 512 from hfz)
  have IY := Aside0.mk hiy
  have IZ := Aside0.mk hiz
  have HX := Aside0.mk hx
  have HY := Aside0.mk hy
  have HZ := Aside0.mk hz
  have HOL := Aside0.mk hol
  clear hfx hfy hfz hiy hiz hx hy hz hkx hky hkz hol
  go_enter Try.func4, Try.ntmps4
  go_wp2_with fail
  refine hix.mono ?_
  clear hix
  rintro e w1 ⟨A1, rfl, m1, hb1⟩
  have M1 := Aside0.mk m1
  have HB1 := Aside0.mk hb1
  clear m1 hb1
  go_wp2_with fail
  have h := IY.out w1 HB1.out
  rw [HY.out] at h
  refine h.mono ?_
  clear h
  rintro e w2 ⟨A2, rfl, m2, hb2⟩
  have M12 := Aside0.mk (M1.out.below hb2)
  have M2 := Aside0.mk m2
  have HB2 := Aside0.mk (below_step HB1.out hb2)
  clear m2 hb2 M1 HB1
  go_wp2_with fail
  have h := IZ.out w2 HB2.out
  rw [HZ.out] at h
  refine h.mono ?_
  clear h
  rintro e w3 ⟨A3, rfl, m3, hb3⟩
  have M13 := Aside0.mk (M12.out.below hb3)
  have M23 := Aside0.mk (M2.out.below hb3)
  have M3 := Aside0.mk m3
  have HB3 := Aside0.mk (below_step HB2.out hb3)
  clear m3 hb3 M12 M2 HB2
  go_wp2_with fail
  refine (awake_x _).mono ?_
  rintro e w4 ⟨rfl, hb⟩
  have M14 := Aside0.mk (M13.out.below hb)
  have M24 := Aside0.mk (M23.out.below hb)
  have M34 := Aside0.mk (M3.out.below hb)
  have HB4 := Aside0.mk (below_step HB3.out hb)
  clear hb M13 M23 M3 HB3
  go_wp2_with fail
  refine (rgood_calls A c p _ (Kd.C_below HR.out HB4.out) hc HO.out hl).mono ?_
  rw [HG.out]
  rintro e w5 ⟨rfl, hb⟩
  have M15 := Aside0.mk (M14.out.below hb)
  have M25 := Aside0.mk (M24.out.below hb)
  have M35 := Aside0.mk (M34.out.below hb)
  have HB5 := Aside0.mk (below_step HB4.out hb)
  clear hb M14 M24 M34 HB4
  have EX : Aside0 (decide (ex = 4 ∧ x = []) = true) := ⟨by
    have h : insAns p i l = ([], 4) := by unfold insAns; rw [HG.out]; rfl
    rw [HX.out] at h
    injection h with h1 h2
    rw [h1, h2]; rfl⟩
  have EY : Aside0 (decide (ey = 4 ∧ y = []) = true) := ⟨by
    have h : remAns p i = ([], 4) := by unfold remAns; rw [HG.out]; rfl
    rw [HY.out] at h
    injection h with h1 h2
    rw [h1, h2]; rfl⟩
  have EZ : Aside0 (decide (ez = 4 ∧ z = []) = true) := ⟨by
    have h : repAns p i l = ([], 4) := by unfold repAns; rw [HG.out]; rfl
    rw [HZ.out] at h
    injection h with h1 h2
    rw [h1, h2]; rfl⟩
  go_wp2_with fail
  have h := told_nil A1 x ex 4 w5 (M15.out.reads (by have := FX.out.2; omega)) FX.out.1
  rw [EX.out] at h
  refine h.mono ?_
  clear h
  rintro e w6 ⟨rfl, hb⟩
  have M26 := Aside0.mk (M25.out.below hb)
  have M36 := Aside0.mk (M35.out.below hb)
  have HB6 := Aside0.mk (below_step HB5.out hb)
  clear hb
  go_wp2_with fail
  have h := told_nil A2 y ey 4 w6 (M26.out.reads (by have := FY.out.2; omega)) FY.out.1
  rw [EY.out] at h
  refine h.mono ?_
  clear h
  rintro e w7 ⟨rfl, hb⟩
  have M37 := Aside0.mk (M36.out.below hb)
  have HB7 := Aside0.mk (below_step HB6.out hb)
  clear hb
  go_wp2_with fail
  have h := told_nil A3 z ez 4 w7 (M37.out.reads (by have := FZ.out.2; omega)) FZ.out.1
  rw [EZ.out] at h
  refine h.mono ?_
  clear h
  rintro e w8 ⟨rfl, hb⟩
  have HB8 := Aside0.mk (below_step HB7.out hb)
  clear hb
  go_wp2
  go_ret
  exact ⟨rfl, HB8.out⟩
set_option maxRecDepth 100000 in
set_option maxHeartbeats 4000000 in
theorem changes_no (A B : Option Addr) (c cc : Nat) (p l : List Int) (i : Int) (w : World) (hr : Kd.C (Kd.int .u8) w A p.length p) (hc : p.length ≤ c) (ho : octs p) (hl : p.length ≤ 140737488351232) (hr2 : Kd.C (Kd.int .u8) w B l.length l) (hc2 : l.length ≤ cc) (hol : octs l) (hll : l.length ≤ 140737488351232) (hg : goodP p = true) (hi : ¬ (0 ≤ i ∧ i ≤ cnt p)) :
    Calls Try.prog 4 #[.slice A p.length c, .int .i64 i, .slice B l.length cc] w fun e w' => e = .returned (.bool true) ∧ Below w.heap.size w w' := by
  have HI := Aside0.mk hi
  clear hi
  have HL5 := Aside0.mk (good_facts hg).1
  have HR := Aside0.mk hr
  have HO := Aside0.mk ho
  have HR2 := Aside0.mk hr2
  have HG := Aside0.mk hg
  clear hr ho hr2 hg
  have hfx := insAns_fine HO.out hol i (p := p)
  have hfy := remAns_fine HO.out i (p := p)
  have hfz := repAns_fine HO.out hol i (p := p)
  have hix := insert_ans A c p w HR.out hc HO.out hl B cc l i HR2.out hc2 hll
  have hiy := fun w1 (h : Below w.heap.size w w1) => remove_ans A c p w1 (Kd.C_below HR.out h) hc HO.out hl i
  have hiz := fun w1 (h : Below w.heap.size w w1) => replace_ans A c p w1 (Kd.C_below HR.out h) hc HO.out hl B cc l i (Kd.C_below HR2.out h) hc2 hll
  obtain ⟨⟨x, ex⟩, hx⟩ : ∃ z, insAns p i l = z := ⟨_, rfl⟩
  obtain ⟨⟨y, ey⟩, hy⟩ : ∃ z, remAns p i = z := ⟨_, rfl⟩
  obtain ⟨⟨z, ez⟩, hz⟩ : ∃ z, repAns p i l = z := ⟨_, rfl⟩
  rw [hx] at hix hfx
  rw [hy] at hfy
  rw [hz] at hfz
  have hkx := code_ins p i l
  have hky := code_rem p i
  have hkz := code_rep p i l
  rw [hx] at hkx
  rw [hy] at hky
  rw [hz] at hkz
  have wx : IntKind.i64.wrap ex = ex := IntWalk.i64_in _ (by omega)
  have wy : IntKind.i64.wrap ey = ey := IntWalk.i64_in _ (by omega)
  have wz : IntKind.i64.wrap ez = ez := IntWalk.i64_in _ (by omega)
  have FX := Aside0.mk (show octs x ∧ x.length ≤ 512 from hfx)
  have FY := Aside0.mk (show octs y ∧ y.length ≤ 512 from hfy)
  have FZ := Aside0.mk (show octs z ∧ z.length ≤ 512 from hfz)
  have IY := Aside0.mk hiy
  have IZ := Aside0.mk hiz
  have HX := Aside0.mk hx
  have HY := Aside0.mk hy
  have HZ := Aside0.mk hz
  have HOL := Aside0.mk hol
  clear hfx hfy hfz hiy hiz hx hy hz hkx hky hkz hol
  go_enter Try.func4, Try.ntmps4
  go_wp2_with fail
  refine hix.mono ?_
  clear hix
  rintro e w1 ⟨A1, rfl, m1, hb1⟩
  have M1 := Aside0.mk m1
  have HB1 := Aside0.mk hb1
  clear m1 hb1
  go_wp2_with fail
  have h := IY.out w1 HB1.out
  rw [HY.out] at h
  refine h.mono ?_
  clear h
  rintro e w2 ⟨A2, rfl, m2, hb2⟩
  have M12 := Aside0.mk (M1.out.below hb2)
  have M2 := Aside0.mk m2
  have HB2 := Aside0.mk (below_step HB1.out hb2)
  clear m2 hb2 M1 HB1
  go_wp2_with fail
  have h := IZ.out w2 HB2.out
  rw [HZ.out] at h
  refine h.mono ?_
  clear h
  rintro e w3 ⟨A3, rfl, m3, hb3⟩
  have M13 := Aside0.mk (M12.out.below hb3)
  have M23 := Aside0.mk (M2.out.below hb3)
  have M3 := Aside0.mk m3
  have HB3 := Aside0.mk (below_step HB2.out hb3)
  clear m3 hb3 M12 M2 HB2
  go_wp2_with fail
  refine (awake_x _).mono ?_
  rintro e w4 ⟨rfl, hb⟩
  have M14 := Aside0.mk (M13.out.below hb)
  have M24 := Aside0.mk (M23.out.below hb)
  have M34 := Aside0.mk (M3.out.below hb)
  have HB4 := Aside0.mk (below_step HB3.out hb)
  clear hb M13 M23 M3 HB3
  go_wp2_with fail
  refine (rgood_calls A c p _ (Kd.C_below HR.out HB4.out) hc HO.out hl).mono ?_
  rw [HG.out]
  rintro e w5 ⟨rfl, hb⟩
  have M15 := Aside0.mk (M14.out.below hb)
  have M25 := Aside0.mk (M24.out.below hb)
  have M35 := Aside0.mk (M34.out.below hb)
  have HB5 := Aside0.mk (below_step HB4.out hb)
  clear hb M14 M24 M34 HB4
  have EX : Aside0 (decide (ex = 1 ∧ x = []) = true) := ⟨by
    have h : insAns p i l = ([], 1) := by unfold insAns; rw [if_pos HG.out, if_neg (by have := HI.out; omega)]
    rw [HX.out] at h
    injection h with h1 h2
    rw [h1, h2]; rfl⟩
  have EY : Aside0 (decide (ey = 1 ∧ y = []) = true) := ⟨by
    have h : remAns p i = ([], 1) := by unfold remAns; rw [if_pos HG.out, if_neg (by have := HI.out; omega)]
    rw [HY.out] at h
    injection h with h1 h2
    rw [h1, h2]; rfl⟩
  have EZ : Aside0 (decide (ez = 1 ∧ z = []) = true) := ⟨by
    have h : repAns p i l = ([], 1) := by unfold repAns; rw [if_pos HG.out, if_neg (by have := HI.out; omega)]
    rw [HZ.out] at h
    injection h with h1 h2
    rw [h1, h2]; rfl⟩
  go_wp2_with fail
  refine (rcount_calls A c p _ (Kd.C_below HR.out HB5.out) hc HO.out HL5.out).mono ?_
  rintro e w6 ⟨rfl, hb⟩
  have M16 := Aside0.mk (M15.out.below hb)
  have M26 := Aside0.mk (M25.out.below hb)
  have M36 := Aside0.mk (M35.out.below hb)
  have HB6 := Aside0.mk (below_step HB5.out hb)
  clear hb M15 M25 M35 HB5
  by_cases h0 : i < 0
  · have q1 : decide (i < 0) = true := decide_eq_true h0
    go_wp2_with fail
    have h := told_nil A1 x ex 1 w6 (M16.out.reads (by have := FX.out.2; omega)) FX.out.1
    rw [EX.out] at h
    refine h.mono ?_
    clear h
    rintro e w7 ⟨rfl, hb⟩
    have M27 := Aside0.mk (M26.out.below hb)
    have M37 := Aside0.mk (M36.out.below hb)
    have HB7 := Aside0.mk (below_step HB6.out hb)
    clear hb
    go_wp2_with fail
    have h := told_nil A2 y ey 1 w7 (M27.out.reads (by have := FY.out.2; omega)) FY.out.1
    rw [EY.out] at h
    refine h.mono ?_
    clear h
    rintro e w8 ⟨rfl, hb⟩
    have M38 := Aside0.mk (M37.out.below hb)
    have HB8 := Aside0.mk (below_step HB7.out hb)
    clear hb
    go_wp2_with fail
    have h := told_nil A3 z ez 1 w8 (M38.out.reads (by have := FZ.out.2; omega)) FZ.out.1
    rw [EZ.out] at h
    refine h.mono ?_
    clear h
    rintro e w9 ⟨rfl, hb⟩
    have HB9 := Aside0.mk (below_step HB8.out hb)
    clear hb
    go_wp2
    go_ret
    exact ⟨rfl, HB9.out⟩
  · have q1 : decide (i < 0) = false := decide_eq_false h0
    have q2 : decide ((cnt p : Int) < i) = true := decide_eq_true (by have := HI.out; omega)
    go_wp2_with fail
    have h := told_nil A1 x ex 1 w6 (M16.out.reads (by have := FX.out.2; omega)) FX.out.1
    rw [EX.out] at h
    refine h.mono ?_
    clear h
    rintro e w7 ⟨rfl, hb⟩
    have M27 := Aside0.mk (M26.out.below hb)
    have M37 := Aside0.mk (M36.out.below hb)
    have HB7 := Aside0.mk (below_step HB6.out hb)
    clear hb
    go_wp2_with fail
    have h := told_nil A2 y ey 1 w7 (M27.out.reads (by have := FY.out.2; omega)) FY.out.1
    rw [EY.out] at h
    refine h.mono ?_
    clear h
    rintro e w8 ⟨rfl, hb⟩
    have M38 := Aside0.mk (M37.out.below hb)
    have HB8 := Aside0.mk (below_step HB7.out hb)
    clear hb
    go_wp2_with fail
    have h := told_nil A3 z ez 1 w8 (M38.out.reads (by have := FZ.out.2; omega)) FZ.out.1
    rw [EZ.out] at h
    refine h.mono ?_
    clear h
    rintro e w9 ⟨rfl, hb⟩
    have HB9 := Aside0.mk (below_step HB8.out hb)
    clear hb
    go_wp2
    go_ret
    exact ⟨rfl, HB9.out⟩
set_option maxRecDepth 100000 in
set_option maxHeartbeats 8000000 in
theorem changes_yes (A B : Option Addr) (c cc : Nat) (p l : List Int) (i : Int) (w : World) (hr : Kd.C (Kd.int .u8) w A p.length p) (hc : p.length ≤ c) (ho : octs p) (hl : p.length ≤ 140737488351232) (hr2 : Kd.C (Kd.int .u8) w B l.length l) (hc2 : l.length ≤ cc) (hol : octs l) (hll : l.length ≤ 140737488351232) (hg : goodP p = true) (hi : 0 ≤ i ∧ i ≤ cnt p) :
    Calls Try.prog 4 #[.slice A p.length c, .int .i64 i, .slice B l.length cc] w fun e w' => e = .returned (.bool true) ∧ Below w.heap.size w w' := by
  obtain ⟨n, hn⟩ : ∃ n : Nat, i = (n : Int) := ⟨i.toNat, by omega⟩
  have q1 : decide (i < 0) = false := decide_eq_false (by omega)
  have q2 : decide ((cnt p : Int) < i) = false := decide_eq_false (by omega)
  have HI := Aside0.mk (show n ≤ cnt p by omega)
  have HIN := Aside0.mk hn
  clear hi hn
  have HL5 := Aside0.mk (good_facts hg).1
  have HR := Aside0.mk hr
  have HO := Aside0.mk ho
  have HR2 := Aside0.mk hr2
  have HG := Aside0.mk hg
  clear hr ho hr2 hg
  have hfx := insAns_fine HO.out hol i (p := p)
  have hfy := remAns_fine HO.out i (p := p)
  have hfz := repAns_fine HO.out hol i (p := p)
  have hix := insert_ans A c p w HR.out hc HO.out hl B cc l i HR2.out hc2 hll
  have hiy := fun w1 (h : Below w.heap.size w w1) => remove_ans A c p w1 (Kd.C_below HR.out h) hc HO.out hl i
  have hiz := fun w1 (h : Below w.heap.size w w1) => replace_ans A c p w1 (Kd.C_below HR.out h) hc HO.out hl B cc l i (Kd.C_below HR2.out h) hc2 hll
  obtain ⟨⟨x, ex⟩, hx⟩ : ∃ z, insAns p i l = z := ⟨_, rfl⟩
  obtain ⟨⟨y, ey⟩, hy⟩ : ∃ z, remAns p i = z := ⟨_, rfl⟩
  obtain ⟨⟨z, ez⟩, hz⟩ : ∃ z, repAns p i l = z := ⟨_, rfl⟩
  rw [hx] at hix hfx
  rw [hy] at hfy
  rw [hz] at hfz
  have hkx := code_ins p i l
  have hky := code_rem p i
  have hkz := code_rep p i l
  rw [hx] at hkx
  rw [hy] at hky
  rw [hz] at hkz
  have wx : IntKind.i64.wrap ex = ex := IntWalk.i64_in _ (by omega)
  have wy : IntKind.i64.wrap ey = ey := IntWalk.i64_in _ (by omega)
  have wz : IntKind.i64.wrap ez = ez := IntWalk.i64_in _ (by omega)
  have FX := Aside0.mk (show octs x ∧ x.length ≤ 512 from hfx)
  have FY := Aside0.mk (show octs y ∧ y.length ≤ 512 from hfy)
  have FZ := Aside0.mk (show octs z ∧ z.length ≤ 512 from hfz)
  have IY := Aside0.mk hiy
  have IZ := Aside0.mk hiz
  have HX := Aside0.mk hx
  have HY := Aside0.mk hy
  have HZ := Aside0.mk hz
  have HOL := Aside0.mk hol
  clear hfx hfy hfz hiy hiz hx hy hz hkx hky hkz hol
  go_enter Try.func4, Try.ntmps4
  go_wp2_with fail
  refine hix.mono ?_
  clear hix
  rintro e w1 ⟨A1, rfl, m1, hb1⟩
  have M1 := Aside0.mk m1
  have HB1 := Aside0.mk hb1
  clear m1 hb1
  go_wp2_with fail
  have h := IY.out w1 HB1.out
  rw [HY.out] at h
  refine h.mono ?_
  clear h
  rintro e w2 ⟨A2, rfl, m2, hb2⟩
  have M12 := Aside0.mk (M1.out.below hb2)
  have M2 := Aside0.mk m2
  have HB2 := Aside0.mk (below_step HB1.out hb2)
  clear m2 hb2 M1 HB1
  go_wp2_with fail
  have h := IZ.out w2 HB2.out
  rw [HZ.out] at h
  refine h.mono ?_
  clear h
  rintro e w3 ⟨A3, rfl, m3, hb3⟩
  have M13 := Aside0.mk (M12.out.below hb3)
  have M23 := Aside0.mk (M2.out.below hb3)
  have M3 := Aside0.mk m3
  have HB3 := Aside0.mk (below_step HB2.out hb3)
  clear m3 hb3 M12 M2 HB2
  go_wp2_with fail
  refine (awake_x _).mono ?_
  rintro e w4 ⟨rfl, hb⟩
  have M14 := Aside0.mk (M13.out.below hb)
  have M24 := Aside0.mk (M23.out.below hb)
  have M34 := Aside0.mk (M3.out.below hb)
  have HB4 := Aside0.mk (below_step HB3.out hb)
  clear hb M13 M23 M3 HB3
  go_wp2_with fail
  refine (rgood_calls A c p _ (Kd.C_below HR.out HB4.out) hc HO.out hl).mono ?_
  rw [HG.out]
  rintro e w5 ⟨rfl, hb⟩
  have M15 := Aside0.mk (M14.out.below hb)
  have M25 := Aside0.mk (M24.out.below hb)
  have M35 := Aside0.mk (M34.out.below hb)
  have HB5 := Aside0.mk (below_step HB4.out hb)
  clear hb M14 M24 M34 HB4
  go_wp2_with fail
  refine (rcount_calls A c p _ (Kd.C_below HR.out HB5.out) hc HO.out HL5.out).mono ?_
  rintro e w6 ⟨rfl, hb⟩
  have M16 := Aside0.mk (M15.out.below hb)
  have M26 := Aside0.mk (M25.out.below hb)
  have M36 := Aside0.mk (M35.out.below hb)
  have HB6 := Aside0.mk (below_step HB5.out hb)
  clear hb M15 M25 M35 HB5
  go_wp2_with fail
  have h := rinsert_at A c p w6 (Kd.C_below HR.out HB6.out) hc HO.out HG.out B cc l n i HIN.out (Kd.C_below HR2.out HB6.out) hc2 hll HI.out
  rw [HX.out] at h
  refine h.mono ?_
  clear h
  rintro e w7 ⟨v7, rfl, Aa, ca, rfl, hca, hra, hb⟩
  have HRA := Aside0.mk hra
  have HCA := Aside0.mk hca
  have M17 := Aside0.mk (M16.out.below hb)
  have M27 := Aside0.mk (M26.out.below hb)
  have M37 := Aside0.mk (M36.out.below hb)
  have HB7 := Aside0.mk (below_step HB6.out hb)
  clear hb hra hca
  by_cases hx0 : ex = 0
  · have q5 : decide (ex = 0) = true := decide_eq_true hx0
    have HX0 := Aside0.mk hx0
    clear hx0
    go_wp2_with fail
    have h := told_any A1 Aa x.length ca x x ex 0 w7 (M17.out.reads (by have := FX.out.2; omega)) (Nat.le_refl _) HRA.out HCA.out FX.out.1 FX.out.1
    rw [decide_eq_true (And.intro HX0.out rfl)] at h
    refine h.mono ?_
    clear h
    rintro e w8 ⟨rfl, hb⟩
    have M28 := Aside0.mk (M27.out.below hb)
    have M38 := Aside0.mk (M37.out.below hb)
    have HB8 := Aside0.mk (below_step HB7.out hb)
    clear hb
    by_cases hn : n = cnt p
    · have q3 : (i == (cnt p : Int)) = true := by rw [HIN.out, hn]; simp
      have EY : decide (ey = 1 ∧ y = []) = true := by
        have h : remAns p i = ([], 1) := by unfold remAns; rw [if_pos HG.out, if_neg (by have := HIN.out; omega)]
        rw [HY.out] at h
        injection h with h1 h2
        rw [h1, h2]; rfl
      have EZ : decide (ez = 1 ∧ z = []) = true := by
        have h : repAns p i l = ([], 1) := by unfold repAns; rw [if_pos HG.out, if_neg (by have := HIN.out; omega)]
        rw [HZ.out] at h
        injection h with h1 h2
        rw [h1, h2]; rfl
      have HEY := Aside0.mk EY
      have HEZ := Aside0.mk EZ
      clear EY EZ hn
      go_wp2_with fail
      have h := told_nil A2 y ey 1 w8 (M28.out.reads (by have := FY.out.2; omega)) FY.out.1
      rw [HEY.out] at h
      refine h.mono ?_
      clear h
      rintro e w9 ⟨rfl, hb⟩
      have M39 := Aside0.mk (M38.out.below hb)
      have HB9 := Aside0.mk (below_step HB8.out hb)
      clear hb
      go_wp2_with fail
      have h := told_nil A3 z ez 1 w9 (M39.out.reads (by have := FZ.out.2; omega)) FZ.out.1
      rw [HEZ.out] at h
      refine h.mono ?_
      clear h
      rintro e w10 ⟨rfl, hb⟩
      have HB10 := Aside0.mk (below_step HB9.out hb)
      clear hb
      go_wp2
      go_ret
      exact ⟨rfl, HB10.out⟩
    · have hnl : n < cnt p := by have := HI.out; omega
      have q3 : (i == (cnt p : Int)) = false := by have := HIN.out; simp; omega
      have HNL := Aside0.mk hnl
      have hyr : remAns p i = (removeP p n, 0) := by unfold remAns; rw [if_pos HG.out, if_pos (by have := HIN.out; omega), HIN.out]; rfl
      rw [HY.out] at hyr
      injection hyr with hy1 hy2
      have HYR := Aside0.mk (And.intro hy1 hy2)
      clear hy1 hy2 hn hnl
      go_wp2_with fail
      have h := rreplace_at A c p w8 (Kd.C_below HR.out HB8.out) hc HO.out HG.out B cc l n i HIN.out (Kd.C_below HR2.out HB8.out) hc2 hll HNL.out
      rw [HZ.out] at h
      refine h.mono ?_
      clear h
      rintro e w9 ⟨v9, rfl, Ab, cb, rfl, hcb, hrb, hb⟩
      have HRB := Aside0.mk hrb
      have HCB := Aside0.mk hcb
      have M29 := Aside0.mk (M28.out.below hb)
      have M39 := Aside0.mk (M38.out.below hb)
      have HB9 := Aside0.mk (below_step HB8.out hb)
      clear hb hrb hcb
      go_wp2_with fail
      have h := rremove_at A c p w9 (Kd.C_below HR.out HB9.out) hc HO.out HG.out n i HIN.out HNL.out
      rw [← HYR.out.1] at h
      refine h.mono ?_
      clear h
      rintro e w10 ⟨v10, rfl, Ar, cr, rfl, hcr, hrr, hb⟩
      have HRR := Aside0.mk hrr
      have HCR := Aside0.mk hcr
      have HRB10 := Aside0.mk (Kd.C_below HRB.out hb)
      have M210 := Aside0.mk (M29.out.below hb)
      have M310 := Aside0.mk (M39.out.below hb)
      have HB10 := Aside0.mk (below_step HB9.out hb)
      clear hb hrr hcr
      go_wp2_with fail
      have h := told_any A2 Ar y.length cr y y ey 0 w10 (M210.out.reads (by have := FY.out.2; omega)) (Nat.le_refl _) HRR.out HCR.out FY.out.1 FY.out.1
      rw [decide_eq_true (And.intro HYR.out.2 rfl)] at h
      refine h.mono ?_
      clear h
      rintro e w11 ⟨rfl, hb⟩
      have HRB11 := Aside0.mk (Kd.C_below HRB10.out hb)
      have M311 := Aside0.mk (M310.out.below hb)
      have HB11 := Aside0.mk (below_step HB10.out hb)
      clear hb
      by_cases hz0 : ez = 0
      · have q4 : decide (ez = 0) = true := decide_eq_true hz0
        have HZ0 := Aside0.mk hz0
        clear hz0
        go_wp2_with fail
        have h := told_any A3 Ab z.length cb z z ez 0 w11 (M311.out.reads (by have := FZ.out.2; omega)) (Nat.le_refl _) HRB11.out HCB.out FZ.out.1 FZ.out.1
        rw [decide_eq_true (And.intro HZ0.out rfl)] at h
        refine h.mono ?_
        clear h
        rintro e w12 ⟨rfl, hb⟩
        have HB12 := Aside0.mk (below_step HB11.out hb)
        clear hb
        go_wp2
        go_ret
        exact ⟨rfl, HB12.out⟩
      · have q4 : decide (ez = 0) = false := decide_eq_false hz0
        have EZ : decide (ez = 7 ∧ z = []) = true := by
          have h := HZ.out
          unfold repAns at h
          rw [if_pos HG.out, if_pos (by have := HNL.out; have := HIN.out; omega)] at h
          split at h
          · injection h with h1 h2
            exact absurd h2.symm hz0
          · injection h with h1 h2
            rw [← h1, ← h2]; rfl
        have HEZ := Aside0.mk EZ
        clear EZ hz0
        go_wp2_with fail
        have h := told_nil A3 z ez 7 w11 (M311.out.reads (by have := FZ.out.2; omega)) FZ.out.1
        rw [HEZ.out] at h
        refine h.mono ?_
        clear h
        rintro e w12 ⟨rfl, hb⟩
        have HB12 := Aside0.mk (below_step HB11.out hb)
        clear hb
        go_wp2
        go_ret
        exact ⟨rfl, HB12.out⟩
  · have q5 : decide (ex = 0) = false := decide_eq_false hx0
    have EX : decide (ex = 7 ∧ x = []) = true := by
      have h := HX.out
      unfold insAns at h
      rw [if_pos HG.out, if_pos (by have := HI.out; have := HIN.out; omega)] at h
      split at h
      · injection h with h1 h2
        exact absurd h2.symm hx0
      · injection h with h1 h2
        rw [← h1, ← h2]; rfl
    have HEX := Aside0.mk EX
    clear EX hx0
    go_wp2_with fail
    have h := told_nil A1 x ex 7 w7 (M17.out.reads (by have := FX.out.2; omega)) FX.out.1
    rw [HEX.out] at h
    refine h.mono ?_
    clear h
    rintro e w8 ⟨rfl, hb⟩
    have M28 := Aside0.mk (M27.out.below hb)
    have M38 := Aside0.mk (M37.out.below hb)
    have HB8 := Aside0.mk (below_step HB7.out hb)
    clear hb
    by_cases hn : n = cnt p
    · have q3 : (i == (cnt p : Int)) = true := by rw [HIN.out, hn]; simp
      have EY : decide (ey = 1 ∧ y = []) = true := by
        have h : remAns p i = ([], 1) := by unfold remAns; rw [if_pos HG.out, if_neg (by have := HIN.out; omega)]
        rw [HY.out] at h
        injection h with h1 h2
        rw [h1, h2]; rfl
      have EZ : decide (ez = 1 ∧ z = []) = true := by
        have h : repAns p i l = ([], 1) := by unfold repAns; rw [if_pos HG.out, if_neg (by have := HIN.out; omega)]
        rw [HZ.out] at h
        injection h with h1 h2
        rw [h1, h2]; rfl
      have HEY := Aside0.mk EY
      have HEZ := Aside0.mk EZ
      clear EY EZ hn
      go_wp2_with fail
      have h := told_nil A2 y ey 1 w8 (M28.out.reads (by have := FY.out.2; omega)) FY.out.1
      rw [HEY.out] at h
      refine h.mono ?_
      clear h
      rintro e w9 ⟨rfl, hb⟩
      have M39 := Aside0.mk (M38.out.below hb)
      have HB9 := Aside0.mk (below_step HB8.out hb)
      clear hb
      go_wp2_with fail
      have h := told_nil A3 z ez 1 w9 (M39.out.reads (by have := FZ.out.2; omega)) FZ.out.1
      rw [HEZ.out] at h
      refine h.mono ?_
      clear h
      rintro e w10 ⟨rfl, hb⟩
      have HB10 := Aside0.mk (below_step HB9.out hb)
      clear hb
      go_wp2
      go_ret
      exact ⟨rfl, HB10.out⟩
    · have hnl : n < cnt p := by have := HI.out; omega
      have q3 : (i == (cnt p : Int)) = false := by have := HIN.out; simp; omega
      have HNL := Aside0.mk hnl
      have hyr : remAns p i = (removeP p n, 0) := by unfold remAns; rw [if_pos HG.out, if_pos (by have := HIN.out; omega), HIN.out]; rfl
      rw [HY.out] at hyr
      injection hyr with hy1 hy2
      have HYR := Aside0.mk (And.intro hy1 hy2)
      clear hy1 hy2 hn hnl
      go_wp2_with fail
      have h := rreplace_at A c p w8 (Kd.C_below HR.out HB8.out) hc HO.out HG.out B cc l n i HIN.out (Kd.C_below HR2.out HB8.out) hc2 hll HNL.out
      rw [HZ.out] at h
      refine h.mono ?_
      clear h
      rintro e w9 ⟨v9, rfl, Ab, cb, rfl, hcb, hrb, hb⟩
      have HRB := Aside0.mk hrb
      have HCB := Aside0.mk hcb
      have M29 := Aside0.mk (M28.out.below hb)
      have M39 := Aside0.mk (M38.out.below hb)
      have HB9 := Aside0.mk (below_step HB8.out hb)
      clear hb hrb hcb
      go_wp2_with fail
      have h := rremove_at A c p w9 (Kd.C_below HR.out HB9.out) hc HO.out HG.out n i HIN.out HNL.out
      rw [← HYR.out.1] at h
      refine h.mono ?_
      clear h
      rintro e w10 ⟨v10, rfl, Ar, cr, rfl, hcr, hrr, hb⟩
      have HRR := Aside0.mk hrr
      have HCR := Aside0.mk hcr
      have HRB10 := Aside0.mk (Kd.C_below HRB.out hb)
      have M210 := Aside0.mk (M29.out.below hb)
      have M310 := Aside0.mk (M39.out.below hb)
      have HB10 := Aside0.mk (below_step HB9.out hb)
      clear hb hrr hcr
      go_wp2_with fail
      have h := told_any A2 Ar y.length cr y y ey 0 w10 (M210.out.reads (by have := FY.out.2; omega)) (Nat.le_refl _) HRR.out HCR.out FY.out.1 FY.out.1
      rw [decide_eq_true (And.intro HYR.out.2 rfl)] at h
      refine h.mono ?_
      clear h
      rintro e w11 ⟨rfl, hb⟩
      have HRB11 := Aside0.mk (Kd.C_below HRB10.out hb)
      have M311 := Aside0.mk (M310.out.below hb)
      have HB11 := Aside0.mk (below_step HB10.out hb)
      clear hb
      by_cases hz0 : ez = 0
      · have q4 : decide (ez = 0) = true := decide_eq_true hz0
        have HZ0 := Aside0.mk hz0
        clear hz0
        go_wp2_with fail
        have h := told_any A3 Ab z.length cb z z ez 0 w11 (M311.out.reads (by have := FZ.out.2; omega)) (Nat.le_refl _) HRB11.out HCB.out FZ.out.1 FZ.out.1
        rw [decide_eq_true (And.intro HZ0.out rfl)] at h
        refine h.mono ?_
        clear h
        rintro e w12 ⟨rfl, hb⟩
        have HB12 := Aside0.mk (below_step HB11.out hb)
        clear hb
        go_wp2
        go_ret
        exact ⟨rfl, HB12.out⟩
      · have q4 : decide (ez = 0) = false := decide_eq_false hz0
        have EZ : decide (ez = 7 ∧ z = []) = true := by
          have h := HZ.out
          unfold repAns at h
          rw [if_pos HG.out, if_pos (by have := HNL.out; have := HIN.out; omega)] at h
          split at h
          · injection h with h1 h2
            exact absurd h2.symm hz0
          · injection h with h1 h2
            rw [← h1, ← h2]; rfl
        have HEZ := Aside0.mk EZ
        clear EZ hz0
        go_wp2_with fail
        have h := told_nil A3 z ez 7 w11 (M311.out.reads (by have := FZ.out.2; omega)) FZ.out.1
        rw [HEZ.out] at h
        refine h.mono ?_
        clear h
        rintro e w12 ⟨rfl, hb⟩
        have HB12 := Aside0.mk (below_step HB11.out hb)
        clear hb
        go_wp2
        go_ret
        exact ⟨rfl, HB12.out⟩
theorem changes_walk (a0 : Option Addr) (len0 cap0 : Nat) (z0 : List Int) (a1 : Int) (a2 : Option Addr) (len2 cap2 : Nat) (z2 : List Int) (w : World) (w0 : (a0 = none ∧ len0 = 0 ∧ cap0 = 0 ∧ z0 = []) ∨ ∃ x, a0 = some x ∧ len0 ≤ cap0 ∧ cap0 ≤ maxLen ∧ z0.length = cap0 ∧ (∀ i, i < z0.length → w.cell? (x.add i) = some (.int .u8 (z0.getD i 0))) ∧ ∀ n ∈ z0, (Lit.int .u8 n).wf = true) (y0 : len0 * 1 ≤ 140737488351232) (w1 : (Lit.int .i64 a1).wf = true) (w2 : (a2 = none ∧ len2 = 0 ∧ cap2 = 0 ∧ z2 = []) ∨ ∃ x, a2 = some x ∧ len2 ≤ cap2 ∧ cap2 ≤ maxLen ∧ z2.length = cap2 ∧ (∀ i, i < z2.length → w.cell? (x.add i) = some (.int .u8 (z2.getD i 0))) ∧ ∀ n ∈ z2, (Lit.int .u8 n).wf = true) (y2 : len2 * 1 ≤ 140737488351232) :
    Calls Try.prog 4 #[.slice a0 len0 cap0, .int .i64 a1, .slice a2 len2 cap2] w fun e w' => e = .returned (.bool true) ∧ Below w.heap.size w w' := by
  obtain ⟨l0, rfl, hr0, hm0, hw0, hc0⟩ := ReadsInt.ofRowC w0
  obtain ⟨l2, rfl, hr2, hm2, hw2, hc2⟩ := ReadsInt.ofRowC w2
  have hr := rb_of_reads hr0
  have ho := octs_wf hw0
  have hl : l0.length ≤ 140737488351232 := by omega
  have hr2' := rb_of_reads hr2
  have ho2 := octs_wf hw2
  have hl2 : l2.length ≤ 140737488351232 := by omega
  cases hg : goodP l0 with
  | false => exact changes_bad a0 a2 cap0 cap2 l0 l2 a1 w hr hc0 ho hl hr2' hc2 ho2 hl2 hg
  | true =>
    by_cases hi : 0 ≤ a1 ∧ a1 ≤ cnt l0
    · exact changes_yes a0 a2 cap0 cap2 l0 l2 a1 w hr hc0 ho hl hr2' hc2 ho2 hl2 hg hi
    · exact changes_no a0 a2 cap0 cap2 l0 l2 a1 w hr hc0 ho hl hr2' hc2 ho2 hl2 hg hi
end Go.Proofs.Ytpogneedafoiaaa.Pg
