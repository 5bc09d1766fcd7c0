/- Contracts by hand: Check. -/
import Derived.Test.YtpogneedafoiaaaPgK
import Derived.Laws.Cover3
import Derived.ChangeKeysEq
import Derived.Deep.MidRow
namespace Go.Proofs.Ytpogneedafoiaaa.Pg
open Go.RowKit Go.Proofs.YtpogneedafoiaaaW.PrintWords Go.Proofs.YtpogneedafoiaaaW.PrintLast Go.Proofs.YtpogneedafoiaaaW.PrintMore Go.Proofs.Ytpogneedafoiaaa.Bw Go.Proofs.Ytpogneedafoiaaa.Crc Go.Proofs.Ytpogneedafoiaaa.Wordy
set_option linter.unusedVariables false
set_option linter.unusedSimpArgs false


theorem und83 : Try.prog.underlying 83 = some (.array 512 5) := by kernel_rfl
theorem inf83 : (Try.prog.info? 83).map (·.size) = some 512 := by kernel_rfl
theorem load83 {w : World} {ad : Addr} {p : List Int} (h : Kd.C (Kd.int .u8) w (some ad) 512 p) : (Instr.loadAt 83 (.pointer (some ad))).run Try.prog w = .ok (.agg (nums .u8 p).toArray) w := by
  have hr := rb_reads h
  have hn : p.length = 512 := hr.1
  have hl : (loadCells ad 512).run Try.prog w = .ok (nums .u8 p).toArray w := by
    have := run_loadCells_list (P := Try.prog) w ad (nums .u8 p) (fun j v hj => by
      have hjl : j < p.length := by
        rcases Nat.lt_or_ge j p.length with h' | h'
        · exact h'
        · unfold nums at hj; rw [List.getElem?_eq_none (by rw [List.length_map]; exact h')] at hj
          cases hj
      obtain ⟨ad', he', hc⟩ := hr.2.2 (by omega)
      injection he' with he'
      subst he'
      rw [hc j (by omega)]
      unfold nums at hj
      rw [List.getElem?_map, List.getElem?_eq_getElem hjl] at hj
      simp at hj
      subst hj
      simp [List.getD_eq_getElem?_getD, List.getElem?_eq_getElem hjl])
    simpa [hn, nums] using this
  cases hq : Try.prog.info? 83 with
  | none => have := inf83; simp [hq] at this
  | some i =>
    have hs : i.size = 512 := by simpa [hq] using inf83
    have hagg : (isAgg 83).run Try.prog w = .ok true w := by
      unfold isAgg
      rw [Sem.run_bind, run_underlying und83 w]
      rfl
    simp [Instr.loadAt, Instr.sureAddr, loadVar, hagg, run_sizeOf w hq, hs, hl]
set_option maxRecDepth 100000 in
theorem built83 : Try.prog.built 83 [] = some (nums .u8 (List.replicate 512 0)).toArray := by kernel_rfl
theorem pk5 : Try.prog.plainKey 5 = true := by kernel_rfl
theorem zc83 : Try.zeroCells83 = (nums .u8 (List.replicate 512 0)).toArray := by kernel_rfl
theorem cells5 : Try.prog.cellsOf 5 = 1 := by kernel_rfl
theorem nums_at {xs : List Int} {i : Nat} (h : i < xs.length) : (nums .u8 xs).toArray[i]? = some (.int .u8 (xs.getD i 0)) := by
  simp [nums, List.getD_eq_getElem?_getD, List.getElem?_eq_getElem h]
theorem eqItems_run (w : World) (d : Nat) (xs ys : List Int) : ∀ (is : List Nat), (∀ i ∈ is, i < xs.length ∧ i < ys.length) →
    (Op.eqItems (d + 1) 5 1 (nums .u8 xs).toArray (nums .u8 ys).toArray is).run Try.prog w = .ok (is.all fun i => xs.getD i 0 == ys.getD i 0) w := by
  intro is
  induction is with
  | nil => intro _; simp [Op.eqItems]
  | cons i is ih =>
    intro h
    have hi := h i (by simp)
    have p1 := run_part_plain (P := Try.prog) w pk5 (nums_at hi.1)
    have p2 := run_part_plain (P := Try.prog) w pk5 (nums_at hi.2)
    have p3 := run_equalIn_int (P := Try.prog) w d 5 .u8 .u8 (xs.getD i 0) (ys.getD i 0) Try.underlying5
    simp only [Op.eqItems, Sem.run_bind, Nat.mul_one, p1, p2, p3, Result.andThen_ok, List.all_cons]
    cases hb : (xs.getD i 0 == ys.getD i 0)
    · simp
    · simpa using ih (fun j hj => h j (by simp [hj]))
def zeroB (p : List Int) : Bool := (List.range 512).all fun i => p.getD i 0 == (List.replicate 512 (0 : Int)).getD i 0
theorem eql83 (w : World) (p : List Int) (hl : p.length = 512) : (Op.equalIn 10000 83 (.agg (nums .u8 p).toArray) (.agg Try.zeroCells83)).run Try.prog w = .ok (zeroB p) w := by
  rw [zc83]
  have hi : ∃ i, Try.prog.info? 5 = some i := by
    cases h : Try.prog.info? 5 with
    | some i => exact ⟨i, rfl⟩
    | none => have := zero5; rw [h] at this; cases this
  obtain ⟨i, hi⟩ := hi
  have h := run_equalIn_array (P := Try.prog) w 9999 (nums .u8 p).toArray (nums .u8 (List.replicate 512 0)).toArray und83 hi
  rw [show 9999 + 1 = 10000 from rfl, cells5] at h
  rw [h]
  exact eqItems_run w 9998 p _ _ (fun j hj => by rw [List.length_replicate, hl]; have := List.mem_range.mp hj; exact ⟨this, this⟩)
theorem crc508 (ad : Addr) (c : Nat) (p : List Int) (w : World) (hr : Kd.C (Kd.int .u8) w (some ad) 512 p) (hc : 512 ≤ c) (ho : octs p) (hl : p.length = 512) :
    Calls Try.prog 60 #[.slice (some ⟨ad.block, ad.off + 4, none⟩) 508 (c - 4)] w fun e w' => e = .returned (.int .u32 (more 0 (p.drop 4))) ∧ Below w.heap.size w w' := by
  have h8 : ((p.drop 4).take 508).length = 508 := by rw [List.length_take, List.length_drop]; omega
  have ht : (p.drop 4).take 508 = p.drop 4 := List.take_of_length_le (by rw [List.length_drop]; omega)
  have h := crc_calls (some (ad.add 4)) (c - 4) ((p.drop 4).take 508) w (by rw [h8]; exact rb_cut hr 4 508 (by omega)) (by omega) (octs_take (octs_drop ho _) _) (by omega)
  rw [h8, ht, show ad.add 4 = (⟨ad.block, ad.off + 4, none⟩ : Addr) by simp [Addr.add]] at h
  refine h.mono ?_
  rintro e w' ⟨rfl, n, rfl⟩
  exact ⟨rfl, pw_below_drewN (Below.refl _ _) n⟩
def checkP (p : List Int) : Int := if zeroB p then 0 else if goodP p then (if numAt p 0 4 = more 0 (p.drop 4) then 0 else 8) else 4
set_option maxRecDepth 100000 in
set_option maxHeartbeats 4000000 in
theorem checkF_zero (ad : Addr) (c : Nat) (p : List Int) (w : World) (hr : Kd.C (Kd.int .u8) w (some ad) 512 p) (hc : 512 ≤ c) (ho : octs p) (hl : p.length = 512) (hz : zeroB p = true) :
    Calls Try.prog 29 #[.slice (some ad) 512 c] w fun e w' => e = .returned (.int .i64 0) ∧ Below w.heap.size w w' := by
  have HR := Aside0.mk hr
  have HO := Aside0.mk ho
  have hat : ∀ w, (Instr.arrayAt 83 (.slice (some ad) 512 c)).run Try.prog w = .ok (.pointer (some ad)) w := fun w => run_arrayAt w 83 _ 512 _ 512 c und83 (Nat.le_refl _)
  have hld := load83 hr
  clear hr ho
  go_enter Try.func29, Try.ntmps29
  go_wp2_with (first | (simp only [hat]))
  unfold Oper.wp
  simp [execOp, Result.andThen]
  erw [hld]
  go_wp2_with fail
  rw [eql83 _ _ hl]
  rw [hz]
  simp only [Result.andThen_ok]
  go_wp2
  go_ret
  exact ⟨rfl, Below.refl _ _⟩
set_option maxRecDepth 100000 in
set_option maxHeartbeats 4000000 in
theorem checkF_bad (ad : Addr) (c : Nat) (p : List Int) (w : World) (hr : Kd.C (Kd.int .u8) w (some ad) 512 p) (hc : 512 ≤ c) (ho : octs p) (hl : p.length = 512) (hz : zeroB p = false) (hg : goodP p = false) :
    Calls Try.prog 29 #[.slice (some ad) 512 c] w fun e w' => e = .returned (.int .i64 4) ∧ Below w.heap.size w w' := by
  have HR := Aside0.mk hr
  have HO := Aside0.mk ho
  have hat : ∀ w, (Instr.arrayAt 83 (.slice (some ad) 512 c)).run Try.prog w = .ok (.pointer (some ad)) w := fun w => run_arrayAt w 83 _ 512 _ 512 c und83 (Nat.le_refl _)
  have hld := load83 hr
  clear hr ho
  go_enter Try.func29, Try.ntmps29
  go_wp2_with (first | (simp only [hat]))
  unfold Oper.wp
  simp [execOp, Result.andThen]
  erw [hld]
  go_wp2_with fail
  rw [eql83 _ _ hl]
  rw [hz]
  simp only [Result.andThen_ok]
  go_wp2_with fail
  have hob := of_bad (some ad) c p w (by rw [hl]; exact HR.out) (by omega) HO.out (by omega) hg
  rw [hl] at hob
  refine hob.mono ?_
  rintro e w1 ⟨rfl, hb⟩
  have HB := Aside0.mk hb
  clear hb hob
  go_wp2
  go_ret
  exact ⟨rfl, below_alloc HB.out _⟩
set_option maxRecDepth 100000 in
set_option maxHeartbeats 4000000 in
theorem checkF_good (ad : Addr) (c : Nat) (p : List Int) (w : World) (hr : Kd.C (Kd.int .u8) w (some ad) 512 p) (hc : 512 ≤ c) (ho : octs p) (hl : p.length = 512) (hz : zeroB p = false) (hg : goodP p = true) :
    Calls Try.prog 29 #[.slice (some ad) 512 c] w fun e w' => e = .returned (.int .i64 (if numAt p 0 4 = more 0 (p.drop 4) then 0 else 8)) ∧ Below w.heap.size w w' := by
  have HR := Aside0.mk hr
  have HO := Aside0.mk ho
  have hat : ∀ w, (Instr.arrayAt 83 (.slice (some ad) 512 c)).run Try.prog w = .ok (.pointer (some ad)) w := fun w => run_arrayAt w 83 _ 512 _ 512 c und83 (Nat.le_refl _)
  have hld := load83 hr
  clear hr ho
  go_enter Try.func29, Try.ntmps29
  go_wp2_with (first | (simp only [hat]))
  unfold Oper.wp
  simp [execOp, Result.andThen]
  erw [hld]
  go_wp2_with fail
  rw [eql83 _ _ hl]
  rw [hz]
  simp only [Result.andThen_ok]
  go_wp2_with fail
  refine (of_good (some ad) c p _ HR.out hc HO.out hl hg).mono ?_
  rintro e w1 ⟨rfl, hb⟩
  have HB := Aside0.mk (below_alloc hb (.cells #[.slice (some ad) 512 c] 65))
  have HR1 := Aside0.mk (Kd.C_below HR.out HB.out)
  clear hb
  go_wp2_with fail
  have hw1 : IntKind.i64.wrap (more 0 (p.drop 4)) = more 0 (p.drop 4) := IntWalk.i64_in _ (by have := more_range (s := 0) (l := p.drop 4) (by decide) (octs_drop HO.out 4); omega)
  have k2 : ¬ c = 4 := by omega
  go_region_held3 (fun w' => w'.cell? ⟨w1.heap.size, 0, none⟩ = some (.slice (some ad) 512 c) ∧ Below w.heap.size w w' ∧ Kd.C (Kd.int .u8) w' (some ad) 512 p)
    (first | (exact ⟨by simp, HB.out.drew, Kd.C_below HR.out HB.out.drew⟩) | (exact ⟨by simp, HB.out, HR1.out⟩) | (go_split_ands; exact ⟨pw_cell_below hb (by assumption), below_step (by assumption) hb, Kd.C_below HR.out (below_step (by assumption) hb)⟩))
    (first | (go_at_call 62; (with_reducible refine (get5 (some ad) c p _ ?_ hc HO.out hl _ _ (by omega) (by omega) (by omega) (by omega)).mono ?_); (go_split_ands; assumption); rintro e w2 ⟨rfl, hb⟩) | (go_at_call 60; (with_reducible refine (crc508 ad c p _ ?_ hc HO.out hl).mono ?_); (go_split_ands; assumption); rintro e w2 ⟨rfl, hb⟩))
  go_split_ands
  have HBz := Aside0.mk (show Below w.heap.size w _ by assumption)
  have hgi := gI_of p (a := 0) (s := 4) (at_ := 0) (size := 4) rfl rfl
  by_cases hx : ((numAt p 0 4 : Nat) : Int) = more 0 (p.drop 4)
  · have hy : (gI p 0 4 != more 0 (p.drop 4)) = false := by rw [hgi, hx]; simp
    go_wp2
    go_ret
    exact ⟨by first | rfl | (rw [if_pos hx]), HBz.out⟩
  · have hy : (gI p 0 4 != more 0 (p.drop 4)) = true := by rw [hgi]; simp [bne, hx]
    go_wp2
    go_ret
    exact ⟨by first | rfl | (rw [if_neg hx]), HBz.out⟩
theorem checkF (ad : Addr) (c : Nat) (p : List Int) (w : World) (hr : Kd.C (Kd.int .u8) w (some ad) 512 p) (hc : 512 ≤ c) (ho : octs p) (hl : p.length = 512) :
    Calls Try.prog 29 #[.slice (some ad) 512 c] w fun e w' => e = .returned (.int .i64 (checkP p)) ∧ Below w.heap.size w w' := by
  unfold checkP
  cases hz : zeroB p
  · cases hg : goodP p
    · exact checkF_bad ad c p w hr hc ho hl hz hg
    · exact checkF_good ad c p w hr hc ho hl hz hg
  · exact checkF_zero ad c p w hr hc ho hl hz
end Go.Proofs.Ytpogneedafoiaaa.Pg
