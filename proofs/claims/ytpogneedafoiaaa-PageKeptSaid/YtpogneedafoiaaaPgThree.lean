/- Contracts by hand, and plain words about them: PgK, PgL, PgM, PgS, PgT. -/
import Derived.Test.YtpogneedafoiaaaPgTwo
import Derived.Laws.Cover3
import Derived.ChangeKeysEq
import Derived.Deep.MidRow
namespace Go.Proofs.Ytpogneedafoiaaa.Pg
open Go.RowKit Go.Proofs.YtpogneedafoiaaaW.PrintWords Go.Proofs.YtpogneedafoiaaaW.PrintLast Go.Proofs.YtpogneedafoiaaaW.PrintMore Go.Proofs.Ytpogneedafoiaaa.Bw Go.Proofs.Ytpogneedafoiaaa.Crc Go.Proofs.Ytpogneedafoiaaa.Wordy
set_option linter.unusedVariables false
set_option linter.unusedSimpArgs false

theorem cellK {W : World} {ad : Addr} {p : List Int} (h : Kd.C (Kd.int .u8) W (some ad) 512 p) (j : Nat) (hj : j + 1 < 512) : W.cell? ⟨ad.block, ad.off + (j + 1), none⟩ = some (.int .u8 (p.getD (j + 1) 0)) := by
  obtain ⟨ad', he, hx⟩ := (rb_reads h).2.2 (by decide)
  injection he with he
  subst he
  have := hx (j + 1) hj
  rwa [show ad.add (j + 1) = (⟨ad.block, ad.off + (j + 1), none⟩ : Addr) by simp [Addr.add]] at this
theorem word8 (ad : Addr) (c : Nat) (p : List Int) (w : World) (hr : Kd.C (Kd.int .u8) w (some ad) 512 p) (hc : 512 ≤ c) (ho : octs p) (hl : p.length = 512) :
    Calls Try.prog 61 #[.slice (some ⟨ad.block, ad.off + 4, none⟩) 8 (c - 4)] w fun e w' => e = .returned (.int .u64 ((numAt p 4 8 : Nat) : Int)) ∧ Below w.heap.size w w' := by
  have h8 : ((p.drop 4).take 8).length = 8 := by rw [List.length_take, List.length_drop]; omega
  have h := word_calls (some (ad.add 4)) (c - 4) ((p.drop 4).take 8) w (by rw [h8]; exact rb_cut hr 4 8 (by omega)) (by omega) (octs_take (octs_drop ho _) _) (by omega)
  rw [h8, show ad.add 4 = (⟨ad.block, ad.off + 4, none⟩ : Addr) by simp [Addr.add]] at h
  refine h.mono ?_
  rintro e w' ⟨rfl, n, rfl⟩
  exact ⟨rfl, pw_below_drewN (Below.refl _ _) n⟩
set_option maxHeartbeats 2000000 in
theorem headF_bad (A : Option Addr) (c : Nat) (p : List Int) (w : World) (hr : Kd.C (Kd.int .u8) w A p.length p) (hc : p.length ≤ c) (ho : octs p) (hl : p.length ≤ 140737488351232) (hg : goodP p = false) :
    Calls Try.prog 28 #[.slice A p.length c] w fun e w' => e = .returned (.tuple #[.int .i64 0, .int .u64 0, .int .i64 0, .int .i64 0, .int .i64 4]) ∧ Below w.heap.size w w' := by
  have HR := Aside0.mk hr
  have HO := Aside0.mk ho
  have HG := Aside0.mk hg
  clear hr ho hg
  go_enter Try.func28, Try.ntmps28
  go_wp2_with fail
  refine (of_bad A c p _ HR.out hc HO.out hl HG.out).mono ?_
  rintro e w1 ⟨rfl, hb⟩
  have HB := Aside0.mk hb
  clear hb
  go_wp2
  refine bodyPost_ret (v := .tuple #[.int .i64 0, .int .u64 0, .int .i64 0, .int .i64 0, .int .i64 4]) (by simp [results, Try.f28, go_sem]) rfl ⟨rfl, below_alloc HB.out _⟩
set_option maxHeartbeats 4000000 in
theorem headF_good (A : Option Addr) (c : Nat) (p : List Int) (w : World) (hr : Kd.C (Kd.int .u8) w A 512 p) (hc : 512 ≤ c) (ho : octs p) (hl : p.length = 512) (hg : goodP p = true) :
    Calls Try.prog 28 #[.slice A 512 c] w fun e w' => e = .returned (.tuple #[.int .i64 (p.getD 12 0), .int .u64 ((numAt p 4 8 : Nat) : Int), .int .i64 ((numAt p 18 4 : Nat) : Int), .int .i64 ((numAt p 22 4 : Nat) : Int), .int .i64 0]) ∧ Below w.heap.size w w' := by
  obtain ⟨ad, rfl⟩ := rb_some hr (by omega)
  have hw12 : IntKind.i64.wrap (p[12]?.getD 0) = p[12]?.getD 0 := by
    have hx : p[12]?.getD 0 = p[12]'(by omega) := by rw [List.getElem?_eq_getElem (by omega)]; rfl
    have := ho _ (List.getElem_mem (l := p) (n := 12) (by omega))
    rw [hx]
    exact IntWalk.i64_in _ (by omega)
  have k1 : (12 : Int) ≤ (c : Int) := by omega
  have k2 : ¬ c = 4 := by omega
  have HR := Aside0.mk hr
  have HO := Aside0.mk ho
  have HG := Aside0.mk hg
  have HL := Aside0.mk hl
  clear hr ho hg hl
  go_enter Try.func28, Try.ntmps28
  go_wp2_with fail
  refine (of_good (some ad) c p _ HR.out hc HO.out HL.out HG.out).mono ?_
  rintro e w1 ⟨rfl, hb⟩
  have HB := Aside0.mk (below_alloc hb (.cells #[.slice (some ad) 512 c] 65))
  have HR1 := Aside0.mk (Kd.C_below HR.out HB.out)
  clear hb
  go_wp2_with fail
  go_region_held3 (fun w' => w'.cell? ⟨w1.heap.size, 0, none⟩ = some (.slice (some ad) 512 c) ∧ Below w.heap.size w w' ∧ Kd.C (Kd.int .u8) w' (some ad) 512 p ∧ w'.cell? ⟨ad.block, ad.off + 12, none⟩ = some (.int .u8 (p.getD 12 0)))
    (first | (exact ⟨by simp, HB.out.drew, Kd.C_below HR.out HB.out.drew, cellK (Kd.C_below HR.out HB.out.drew) 11 (by decide)⟩) | (exact ⟨by simp, HB.out, HR1.out, cellK HR1.out 11 (by decide)⟩) | (go_split_ands; exact ⟨pw_cell_below hb (by assumption), below_step (by assumption) hb, Kd.C_below HR.out (below_step (by assumption) hb), cellK (Kd.C_below HR.out (below_step (by assumption) hb)) 11 (by decide)⟩))
    (first | (go_at_call 62; (with_reducible refine (get5 (some ad) c p _ ?_ hc HO.out HL.out _ _ (by omega) (by omega) (by omega) (by omega)).mono ?_); (go_split_ands; assumption); rintro e w2 ⟨rfl, hb⟩) | (go_at_call 61; (with_reducible refine (word8 ad c p _ ?_ hc HO.out HL.out).mono ?_); (go_split_ands; assumption); rintro e w2 ⟨rfl, hb⟩))
  go_split_ands
  have HBz := Aside0.mk (show Below w.heap.size w _ by assumption)
  go_wp2
  refine bodyPost_ret (v := .tuple #[.int .i64 (p[12]?.getD 0), .int .u64 ((numAt p 4 8 : Nat) : Int), .int .i64 (gI p 18 4), .int .i64 (gI p 22 4), .int .i64 0]) (by simp [results, Try.f28, go_sem, hw12]) rfl ⟨?_, HBz.out⟩
  rw [gI_of p (a := 18) (s := 4) (at_ := 18) (size := 4) rfl rfl, gI_of p (a := 22) (s := 4) (at_ := 22) (size := 4) rfl rfl, List.getD_eq_getElem?_getD]
end Go.Proofs.Ytpogneedafoiaaa.Pg
namespace Go.Proofs.Ytpogneedafoiaaa.Pg
open Go.RowKit Go.Proofs.YtpogneedafoiaaaW.PrintWords Go.Proofs.YtpogneedafoiaaaW.PrintLast Go.Proofs.YtpogneedafoiaaaW.PrintMore Go.Proofs.Ytpogneedafoiaaa.Bw Go.Proofs.Ytpogneedafoiaaa.Crc Go.Proofs.Ytpogneedafoiaaa.Wordy
set_option linter.unusedVariables false
set_option linter.unusedSimpArgs false


theorem und83 : Try.prog.underlying 83 = some (.array 512 5) := by kernel_rfl
theorem inf83 : (Try.prog.info? 83).map (·.size) = some 512 := by kernel_rfl
theorem load83 {w : World} {ad : Addr} {p : List Int} (h : Kd.C (Kd.int .u8) w (some ad) 512 p) : (Instr.loadAt 83 (.pointer (some ad))).run Try.prog w = .ok (.agg (nums .u8 p).toArray) w := by
  have hr := rb_reads h
  have hn : p.length = 512 := hr.1
  have hl : (loadCells ad 512).run Try.prog w = .ok (nums .u8 p).toArray w := by
    have := run_loadCells_list (P := Try.prog) w ad (nums .u8 p) (fun j v hj => by
      have hjl : j < p.length := by
        rcases Nat.lt_or_ge j p.length with h' | h'
        · exact h'
        · unfold nums at hj; rw [List.getElem?_eq_none (by rw [List.length_map]; exact h')] at hj
          cases hj
      obtain ⟨ad', he', hc⟩ := hr.2.2 (by omega)
      injection he' with he'
      subst he'
      rw [hc j (by omega)]
      unfold nums at hj
      rw [List.getElem?_map, List.getElem?_eq_getElem hjl] at hj
      simp at hj
      subst hj
      simp [List.getD_eq_getElem?_getD, List.getElem?_eq_getElem hjl])
    simpa [hn, nums] using this
  cases hq : Try.prog.info? 83 with
  | none => have := inf83; simp [hq] at this
  | some i =>
    have hs : i.size = 512 := by simpa [hq] using inf83
    have hagg : (isAgg 83).run Try.prog w = .ok true w := by
      unfold isAgg
      rw [Sem.run_bind, run_underlying und83 w]
      rfl
    simp [Instr.loadAt, Instr.sureAddr, loadVar, hagg, run_sizeOf w hq, hs, hl]
set_option maxRecDepth 100000 in
theorem built83 : Try.prog.built 83 [] = some (nums .u8 (List.replicate 512 0)).toArray := by kernel_rfl
theorem pk5 : Try.prog.plainKey 5 = true := by kernel_rfl
theorem zc83 : Try.zeroCells83 = (nums .u8 (List.replicate 512 0)).toArray := by kernel_rfl
theorem cells5 : Try.prog.cellsOf 5 = 1 := by kernel_rfl
theorem nums_at {xs : List Int} {i : Nat} (h : i < xs.length) : (nums .u8 xs).toArray[i]? = some (.int .u8 (xs.getD i 0)) := by
  simp [nums, List.getD_eq_getElem?_getD, List.getElem?_eq_getElem h]
theorem eqItems_run (w : World) (d : Nat) (xs ys : List Int) : ∀ (is : List Nat), (∀ i ∈ is, i < xs.length ∧ i < ys.length) →
    (Op.eqItems (d + 1) 5 1 (nums .u8 xs).toArray (nums .u8 ys).toArray is).run Try.prog w = .ok (is.all fun i => xs.getD i 0 == ys.getD i 0) w := by
  intro is
  induction is with
  | nil => intro _; simp [Op.eqItems]
  | cons i is ih =>
    intro h
    have hi := h i (by simp)
    have p1 := run_part_plain (P := Try.prog) w pk5 (nums_at hi.1)
    have p2 := run_part_plain (P := Try.prog) w pk5 (nums_at hi.2)
    have p3 := run_equalIn_int (P := Try.prog) w d 5 .u8 .u8 (xs.getD i 0) (ys.getD i 0) Try.underlying5
    simp only [Op.eqItems, Sem.run_bind, Nat.mul_one, p1, p2, p3, Result.andThen_ok, List.all_cons]
    cases hb : (xs.getD i 0 == ys.getD i 0)
    · simp
    · simpa using ih (fun j hj => h j (by simp [hj]))
def zeroB (p : List Int) : Bool := (List.range 512).all fun i => p.getD i 0 == (List.replicate 512 (0 : Int)).getD i 0
theorem eql83 (w : World) (p : List Int) (hl : p.length = 512) : (Op.equalIn 10000 83 (.agg (nums .u8 p).toArray) (.agg Try.zeroCells83)).run Try.prog w = .ok (zeroB p) w := by
  rw [zc83]
  have hi : ∃ i, Try.prog.info? 5 = some i := by
    cases h : Try.prog.info? 5 with
    | some i => exact ⟨i, rfl⟩
    | none => have := zero5; rw [h] at this; cases this
  obtain ⟨i, hi⟩ := hi
  have h := run_equalIn_array (P := Try.prog) w 9999 (nums .u8 p).toArray (nums .u8 (List.replicate 512 0)).toArray und83 hi
  rw [show 9999 + 1 = 10000 from rfl, cells5] at h
  rw [h]
  exact eqItems_run w 9998 p _ _ (fun j hj => by rw [List.length_replicate, hl]; have := List.mem_range.mp hj; exact ⟨this, this⟩)
theorem crc508 (ad : Addr) (c : Nat) (p : List Int) (w : World) (hr : Kd.C (Kd.int .u8) w (some ad) 512 p) (hc : 512 ≤ c) (ho : octs p) (hl : p.length = 512) :
    Calls Try.prog 60 #[.slice (some ⟨ad.block, ad.off + 4, none⟩) 508 (c - 4)] w fun e w' => e = .returned (.int .u32 (more 0 (p.drop 4))) ∧ Below w.heap.size w w' := by
  have h8 : ((p.drop 4).take 508).length = 508 := by rw [List.length_take, List.length_drop]; omega
  have ht : (p.drop 4).take 508 = p.drop 4 := List.take_of_length_le (by rw [List.length_drop]; omega)
  have h := crc_calls (some (ad.add 4)) (c - 4) ((p.drop 4).take 508) w (by rw [h8]; exact rb_cut hr 4 508 (by omega)) (by omega) (octs_take (octs_drop ho _) _) (by omega)
  rw [h8, ht, show ad.add 4 = (⟨ad.block, ad.off + 4, none⟩ : Addr) by simp [Addr.add]] at h
  refine h.mono ?_
  rintro e w' ⟨rfl, n, rfl⟩
  exact ⟨rfl, pw_below_drewN (Below.refl _ _) n⟩
def checkP (p : List Int) : Int := if zeroB p then 0 else if goodP p then (if numAt p 0 4 = more 0 (p.drop 4) then 0 else 8) else 4
set_option maxRecDepth 100000 in
set_option maxHeartbeats 4000000 in
theorem checkF_zero (ad : Addr) (c : Nat) (p : List Int) (w : World) (hr : Kd.C (Kd.int .u8) w (some ad) 512 p) (hc : 512 ≤ c) (ho : octs p) (hl : p.length = 512) (hz : zeroB p = true) :
    Calls Try.prog 29 #[.slice (some ad) 512 c] w fun e w' => e = .returned (.int .i64 0) ∧ Below w.heap.size w w' := by
  have HR := Aside0.mk hr
  have HO := Aside0.mk ho
  have hat : ∀ w, (Instr.arrayAt 83 (.slice (some ad) 512 c)).run Try.prog w = .ok (.pointer (some ad)) w := fun w => run_arrayAt w 83 _ 512 _ 512 c und83 (Nat.le_refl _)
  have hld := load83 hr
  clear hr ho
  go_enter Try.func29, Try.ntmps29
  go_wp2_with (first | (simp only [hat]))
  unfold Oper.wp
  simp [execOp, Result.andThen]
  erw [hld]
  go_wp2_with fail
  rw [eql83 _ _ hl]
  rw [hz]
  simp only [Result.andThen_ok]
  go_wp2
  go_ret
  exact ⟨rfl, Below.refl _ _⟩
set_option maxRecDepth 100000 in
set_option maxHeartbeats 4000000 in
theorem checkF_bad (ad : Addr) (c : Nat) (p : List Int) (w : World) (hr : Kd.C (Kd.int .u8) w (some ad) 512 p) (hc : 512 ≤ c) (ho : octs p) (hl : p.length = 512) (hz : zeroB p = false) (hg : goodP p = false) :
    Calls Try.prog 29 #[.slice (some ad) 512 c] w fun e w' => e = .returned (.int .i64 4) ∧ Below w.heap.size w w' := by
  have HR := Aside0.mk hr
  have HO := Aside0.mk ho
  have hat : ∀ w, (Instr.arrayAt 83 (.slice (some ad) 512 c)).run Try.prog w = .ok (.pointer (some ad)) w := fun w => run_arrayAt w 83 _ 512 _ 512 c und83 (Nat.le_refl _)
  have hld := load83 hr
  clear hr ho
  go_enter Try.func29, Try.ntmps29
  go_wp2_with (first | (simp only [hat]))
  unfold Oper.wp
  simp [execOp, Result.andThen]
  erw [hld]
  go_wp2_with fail
  rw [eql83 _ _ hl]
  rw [hz]
  simp only [Result.andThen_ok]
  go_wp2_with fail
  have hob := of_bad (some ad) c p w (by rw [hl]; exact HR.out) (by omega) HO.out (by omega) hg
  rw [hl] at hob
  refine hob.mono ?_
  rintro e w1 ⟨rfl, hb⟩
  have HB := Aside0.mk hb
  clear hb hob
  go_wp2
  go_ret
  exact ⟨rfl, below_alloc HB.out _⟩
set_option maxRecDepth 100000 in
set_option maxHeartbeats 4000000 in
theorem checkF_good (ad : Addr) (c : Nat) (p : List Int) (w : World) (hr : Kd.C (Kd.int .u8) w (some ad) 512 p) (hc : 512 ≤ c) (ho : octs p) (hl : p.length = 512) (hz : zeroB p = false) (hg : goodP p = true) :
    Calls Try.prog 29 #[.slice (some ad) 512 c] w fun e w' => e = .returned (.int .i64 (if numAt p 0 4 = more 0 (p.drop 4) then 0 else 8)) ∧ Below w.heap.size w w' := by
  have HR := Aside0.mk hr
  have HO := Aside0.mk ho
  have hat : ∀ w, (Instr.arrayAt 83 (.slice (some ad) 512 c)).run Try.prog w = .ok (.pointer (some ad)) w := fun w => run_arrayAt w 83 _ 512 _ 512 c und83 (Nat.le_refl _)
  have hld := load83 hr
  clear hr ho
  go_enter Try.func29, Try.ntmps29
  go_wp2_with (first | (simp only [hat]))
  unfold Oper.wp
  simp [execOp, Result.andThen]
  erw [hld]
  go_wp2_with fail
  rw [eql83 _ _ hl]
  rw [hz]
  simp only [Result.andThen_ok]
  go_wp2_with fail
  refine (of_good (some ad) c p _ HR.out hc HO.out hl hg).mono ?_
  rintro e w1 ⟨rfl, hb⟩
  have HB := Aside0.mk (below_alloc hb (.cells #[.slice (some ad) 512 c] 65))
  have HR1 := Aside0.mk (Kd.C_below HR.out HB.out)
  clear hb
  go_wp2_with fail
  have hw1 : IntKind.i64.wrap (more 0 (p.drop 4)) = more 0 (p.drop 4) := IntWalk.i64_in _ (by have := more_range (s := 0) (l := p.drop 4) (by decide) (octs_drop HO.out 4); omega)
  have k2 : ¬ c = 4 := by omega
  go_region_held3 (fun w' => w'.cell? ⟨w1.heap.size, 0, none⟩ = some (.slice (some ad) 512 c) ∧ Below w.heap.size w w' ∧ Kd.C (Kd.int .u8) w' (some ad) 512 p)
    (first | (exact ⟨by simp, HB.out.drew, Kd.C_below HR.out HB.out.drew⟩) | (exact ⟨by simp, HB.out, HR1.out⟩) | (go_split_ands; exact ⟨pw_cell_below hb (by assumption), below_step (by assumption) hb, Kd.C_below HR.out (below_step (by assumption) hb)⟩))
    (first | (go_at_call 62; (with_reducible refine (get5 (some ad) c p _ ?_ hc HO.out hl _ _ (by omega) (by omega) (by omega) (by omega)).mono ?_); (go_split_ands; assumption); rintro e w2 ⟨rfl, hb⟩) | (go_at_call 60; (with_reducible refine (crc508 ad c p _ ?_ hc HO.out hl).mono ?_); (go_split_ands; assumption); rintro e w2 ⟨rfl, hb⟩))
  go_split_ands
  have HBz := Aside0.mk (show Below w.heap.size w _ by assumption)
  have hgi := gI_of p (a := 0) (s := 4) (at_ := 0) (size := 4) rfl rfl
  by_cases hx : ((numAt p 0 4 : Nat) : Int) = more 0 (p.drop 4)
  · have hy : (gI p 0 4 != more 0 (p.drop 4)) = false := by rw [hgi, hx]; simp
    go_wp2
    go_ret
    exact ⟨by first | rfl | (rw [if_pos hx]), HBz.out⟩
  · have hy : (gI p 0 4 != more 0 (p.drop 4)) = true := by rw [hgi]; simp [bne, hx]
    go_wp2
    go_ret
    exact ⟨by first | rfl | (rw [if_neg hx]), HBz.out⟩
theorem checkF (ad : Addr) (c : Nat) (p : List Int) (w : World) (hr : Kd.C (Kd.int .u8) w (some ad) 512 p) (hc : 512 ≤ c) (ho : octs p) (hl : p.length = 512) :
    Calls Try.prog 29 #[.slice (some ad) 512 c] w fun e w' => e = .returned (.int .i64 (checkP p)) ∧ Below w.heap.size w w' := by
  unfold checkP
  cases hz : zeroB p
  · cases hg : goodP p
    · exact checkF_bad ad c p w hr hc ho hl hz hg
    · exact checkF_good ad c p w hr hc ho hl hz hg
  · exact checkF_zero ad c p w hr hc ho hl hz
end Go.Proofs.Ytpogneedafoiaaa.Pg
namespace Go.Proofs.Ytpogneedafoiaaa.Pg
open Go.RowKit Go.Proofs.YtpogneedafoiaaaW.PrintWords Go.Proofs.YtpogneedafoiaaaW.PrintLast Go.Proofs.YtpogneedafoiaaaW.PrintMore Go.Proofs.Ytpogneedafoiaaa.Bw Go.Proofs.Ytpogneedafoiaaa.Crc Go.Proofs.Ytpogneedafoiaaa.Wordy
set_option linter.unusedVariables false
set_option linter.unusedSimpArgs false

theorem conv_const (w : World) (C : Array Value) (g n c : Nat) (hg : g = w.heap.size) :
    (convert 22 22 (.slice (some ⟨g, 0, none⟩) n c)).run Try.prog (w.alloc (.cells C 5)) = .ok (.slice (some ⟨g, 0, none⟩) n c) (w.alloc (.cells C 5 (C.size, C.size + 1))) := by
  subst hg
  exact Lib.run_convert_bytes_const (P := Try.prog) w 22 5 C n c Try.underlying22 Try.underlying5
/-- A slice over a block that is known whole. -/
theorem C_block {w : World} {g e : Nat} {fz : Nat × Nat} {xs : List Int} (h : w.heap[g]? = some (.cells (nums .u8 xs).toArray e fz)) (hl : xs.length ≤ 9223372036854775807) : Kd.C (Kd.int .u8) w (some ⟨g, 0, none⟩) xs.length xs := by
  refine Kd.C_of_reads (d := (0 : Int)) ⟨rfl, hl, fun _ => ⟨_, rfl, fun j hj => ?_⟩⟩
  have : (⟨g, 0, none⟩ : Addr).add j = ⟨g, j, none⟩ := add_plain g j
  rw [this]
  unfold World.cell?
  simp only [h]
  simp [nums, List.getElem?_eq_getElem hj, List.getD_eq_getElem?_getD]
def q1 : List Int := insertP (newP 1) 0 [97, 98]
set_option maxRecDepth 100000 in
theorem new1_facts : octs (newP 1) ∧ (newP 1).length = 512 ∧ goodP (newP 1) = true ∧ cnt (newP 1) = 0 ∧ freeP (newP 1) = 486 := by
  refine ⟨?_, ?_, ?_, ?_, ?_⟩
  · unfold octs; decide +kernel
  all_goals decide +kernel
set_option maxRecDepth 100000 in
theorem q1_facts : octs q1 ∧ q1.length = 512 ∧ goodP q1 = true ∧ cnt q1 = 1 ∧ frm q1 0 = 510 ∧ szP q1 0 = 2 ∧ cellP q1 0 = [97, 98] := by
  refine ⟨?_, ?_, ?_, ?_, ?_, ?_, ?_⟩
  · unfold octs; decide +kernel
  all_goals decide +kernel
theorem insert_at (A B : Option Addr) (c cc n : Nat) (p l : List Int) (i : Nat) (i' : Int) (w : World) (hi' : i' = (i : Int)) (hn : n = l.length) (hr : Kd.C (Kd.int .u8) w A 512 p) (hc : 512 ≤ c) (ho : octs p) (hl : p.length = 512) (hg : goodP p = true) (hr2 : Kd.C (Kd.int .u8) w B l.length l) (hc2 : l.length ≤ cc) (hi : i ≤ cnt p) (hll : l.length ≤ 140737488351232) (hfree : (l.length : Int) + 4 ≤ freeP p) :
    Calls Try.prog 17 #[.slice A 512 c, .int .i64 i', .slice B n cc] w fun e w' => ∃ g, e = .returned (.tuple #[.slice (some ⟨g, 0, none⟩) 512 512, .int .i64 0]) ∧ w.heap.size ≤ g ∧ Blk w' 5 g (insertP p i l) ∧ Below w.heap.size w w' := by
  subst hi' hn
  exact insert_good A B c cc p l i w hr hc ho hl hg hr2 hc2 hi hll hfree
theorem cell_at (A : Option Addr) (c : Nat) (p : List Int) (i : Nat) (i' : Int) (w : World) (hi' : i' = (i : Int)) (hr : Kd.C (Kd.int .u8) w A 512 p) (hc : 512 ≤ c) (ho : octs p) (hl : p.length = 512) (hg : goodP p = true) (hi : i < cnt p) (hi2 : 30 + 4 * i ≤ 512) (hfit : frm p i + szP p i ≤ 512) :
    Calls Try.prog 34 #[.slice A 512 c, .int .i64 i'] w fun e w' => ∃ g, e = .returned (.tuple #[.slice (some ⟨g, 0, none⟩) (szP p i) (szP p i), .int .i64 0]) ∧ w.heap.size ≤ g ∧ Blk w' 5 g (cellP p i) ∧ Below w.heap.size w w' := by
  subst hi'
  exact cellF_good A c p i w hr hc ho hl hg hi hi2 hfit
set_option maxHeartbeats 4000000 in
theorem awake_x (w : World) : Calls Try.prog 11 #[] w fun e w' => e = .returned (.bool true) ∧ Below w.heap.size w w' := by
  obtain ⟨ho, hl, hg, hcn, hf⟩ := new1_facts
  obtain ⟨ho2, hl2, hg2, hcn2, hf2, hs2, hce2⟩ := q1_facts
  have HO := Aside0.mk ho
  have HL := Aside0.mk hl
  have HG := Aside0.mk hg
  have HCN := Aside0.mk hcn
  have HF := Aside0.mk hf
  have HO2 := Aside0.mk ho2
  have HL2 := Aside0.mk hl2
  have HG2 := Aside0.mk hg2
  have HCN2 := Aside0.mk hcn2
  have HF2 := Aside0.mk hf2
  have HS2 := Aside0.mk hs2
  have HCE2 := Aside0.mk hce2
  clear ho hl hg hcn hf ho2 hl2 hg2 hcn2 hf2 hs2 hce2
  go_enter Try.func11, Try.ntmps11
  go_wp2_with fail
  refine (new_good 1 _ (by decide)).mono ?_
  rintro e w1 ⟨g, rfl, hg1, hbk, hb⟩
  have HBk := Aside0.mk hbk
  have HB := Aside0.mk hb
  clear hbk hb
  have kc := conv_const w1 #[Value.int IntKind.u8 97, Value.int IntKind.u8 98] w1.heap.size 2 2 rfl
  go_wp2_with (first | (simp only [kc]))
  have HBa := Aside0.mk (below_alloc HB.out (.cells #[Value.int IntKind.u8 97, Value.int IntKind.u8 98] 5 (2, 3)))
  refine (insert_at (some ⟨g, 0, none⟩) (some ⟨w1.heap.size, 0, none⟩) 512 2 2 (newP 1) [97, 98] 0 _ _ rfl rfl (blk_rb5 (HBk.out.below (below_alloc (Below.refl _ _) _)) HL.out) (Nat.le_refl _) HO.out HL.out HG.out (C_block (xs := [97, 98]) (heap_new _ _ _ rfl) (by decide)) (Nat.le_refl _) (Nat.zero_le _) (by decide) (by rw [HF.out]; decide)).mono ?_
  rintro e w2 ⟨g2, rfl, hg2, hbk2, hb2⟩
  have HBk2 := Aside0.mk (show Blk w2 5 g2 q1 from hbk2)
  have HB2 := Aside0.mk (below_step HBa.out hb2)
  clear hbk2 hb2
  go_wp2_with fail
  refine (cell_at (some ⟨g2, 0, none⟩) 512 q1 0 _ _ rfl (blk_rb5 HBk2.out HL2.out) (Nat.le_refl _) HO2.out HL2.out HG2.out (by rw [HCN2.out]; decide) (by decide) (by rw [HF2.out, HS2.out]; decide)).mono ?_
  rw [HS2.out, HCE2.out]
  rintro e w3 ⟨g3, rfl, hg3, hbk3, hb3⟩
  have HBk3 := Aside0.mk hbk3
  have HB3 := Aside0.mk (below_step HB2.out hb3)
  clear hbk3 hb3
  have hstr : (convert 22 9 (.slice (some ⟨g3, 0, none⟩) 2 2)).run Try.prog w3 = .ok (.string (strOfNums [97, 98])) w3 := Kd.C_string Try.underlying22 Try.underlying5 Try.underlying9 (HBk3.out.rb (by decide))
  go_wp2_with (first | (simp only [hstr]))
  go_ret
  refine ⟨?_, HB3.out⟩
  show Ending.returned (.bool ((strOfNums [97, 98]).toList == [97, 98])) = _
  rw [show ((strOfNums [97, 98]).toList == [97, 98]) = true by decide +kernel]
end Go.Proofs.Ytpogneedafoiaaa.Pg
namespace Go.Proofs.Ytpogneedafoiaaa.Pg
open Go.RowKit Go.Proofs.YtpogneedafoiaaaW.PrintWords Go.Proofs.YtpogneedafoiaaaW.PrintLast Go.Proofs.YtpogneedafoiaaaW.PrintMore Go.Proofs.Ytpogneedafoiaaa.Bw Go.Proofs.Ytpogneedafoiaaa.Crc Go.Proofs.Ytpogneedafoiaaa.Wordy
set_option linter.unusedVariables false
set_option linter.unusedSimpArgs false

theorem numAt_tail {p q : List Int} (h : p.drop 12 = q.drop 12) {b : Nat} (s : Nat) (hb : 12 ≤ b) : numAt p b s = numAt q b s := by
  unfold numAt
  rw [show b = 12 + (b - 12) by omega, ← List.drop_drop, ← List.drop_drop, h]
theorem chkB_tail {p q : List Int} (h : p.drop 12 = q.drop 12) : ∀ (d i : Nat) (T : List Bool), chkB p T i d = chkB q T i d := by
  intro d
  induction d with
  | zero => intro i T; rfl
  | succ d ih =>
    intro i T
    have e1 : frm p i = frm q i := numAt_tail h 2 (by omega)
    have e2 : szP p i = szP q i := numAt_tail h 2 (by omega)
    have e3 : lowP p = lowP q := numAt_tail h 2 (by omega)
    simp only [chkB, e1, e2, e3]
    rw [show (fun T' => chkB p T' (i + 1) d) = (fun T' => chkB q T' (i + 1) d) from funext fun T' => ih (i + 1) T']
theorem goodP_tail {p q : List Int} (hl : p.length = q.length) (h : p.drop 12 = q.drop 12) : goodP p = goodP q := by
  have e1 : cnt p = cnt q := numAt_tail h 2 (by omega)
  have e3 : lowP p = lowP q := numAt_tail h 2 (by omega)
  have e4 : p.getD 13 0 = q.getD 13 0 := by
    have := congrArg (fun l => l.getD 1 0) h
    simpa [List.getD_eq_getElem?_getD] using this
  unfold goodP
  rw [hl, e1, e3, e4, chkB_tail h]
theorem drop_over {p l : List Int} {a b : Nat} (h : a + l.length ≤ p.length) (hb : a + l.length ≤ b) : (over p a l).drop b = p.drop b := by
  have e : (p.take a ++ l).length = a + l.length := by rw [List.length_append, List.length_take]; omega
  have e2 : over p a l = (p.take a ++ l) ++ p.drop (a + l.length) := by unfold over; rw [List.append_assoc]
  rw [e2, List.drop_append, List.drop_eq_nil_of_le (by omega), List.nil_append, e, List.drop_drop]
  congr 1
  omega
theorem sealB_len {p : List Int} (hl : p.length = 512) (lsn : Int) : (sealB p lsn).length = 512 := over_len hl (by rw [leB_length]; decide)
theorem sealP_len {p : List Int} (hl : p.length = 512) (lsn : Int) : (sealP p lsn).length = 512 := over_len (sealB_len hl lsn) (by rw [leB_length]; decide)
theorem sealP_octs {p : List Int} (ho : octs p) (lsn : Int) : octs (sealP p lsn) := over_octs (over_octs ho _ (leB_octs _ _)) _ (leB_octs _ _)
theorem sealP_tail {p : List Int} (hl : p.length = 512) (lsn : Int) : (sealP p lsn).drop 12 = p.drop 12 := by
  unfold sealP sealB
  rw [drop_over (by rw [leB_length, over_len hl (by rw [leB_length]; decide)]; decide) (by rw [leB_length]; decide), drop_over (by rw [leB_length, hl]; decide) (by rw [leB_length]; decide)]
theorem sealP_drop4 {p : List Int} (hl : p.length = 512) (lsn : Int) : (sealP p lsn).drop 4 = (sealB p lsn).drop 4 := by
  unfold sealP
  exact drop_over (by rw [leB_length, sealB_len hl]; decide) (by rw [leB_length]; decide)
theorem sealP_good {p : List Int} (hl : p.length = 512) (lsn : Int) : goodP (sealP p lsn) = goodP p := goodP_tail (by rw [sealP_len hl, hl]) (sealP_tail hl lsn)
theorem sealP_kind {p : List Int} (hl : p.length = 512) (lsn : Int) : (sealP p lsn).getD 12 0 = p.getD 12 0 := by
  have := congrArg (fun l => l.getD 0 0) (sealP_tail hl lsn)
  simpa [List.getD_eq_getElem?_getD] using this
theorem sealP_sum {p : List Int} (hl : p.length = 512) (ho : octs p) (lsn : Int) : ((numAt (sealP p lsn) 0 4 : Nat) : Int) = more 0 ((sealP p lsn).drop 4) := by
  rw [sealP_drop4 hl]
  have hr := more_range (s := 0) (l := (sealB p lsn).drop 4) (by decide) (octs_drop (over_octs ho _ (leB_octs _ _)) 4)
  obtain ⟨n, hn⟩ : ∃ n : Nat, more 0 ((sealB p lsn).drop 4) = (n : Int) := ⟨(more 0 ((sealB p lsn).drop 4)).toNat, by omega⟩
  unfold sealP
  rw [hn]
  rw [hn] at hr
  have h32 : (2 : Nat) ^ (8 * 4) = 4294967296 := by decide
  rw [numAt_over_leB (by rw [sealB_len hl]; decide) (by rw [h32]; omega)]
theorem sealP_lsn {p : List Int} (hl : p.length = 512) (n : Nat) (hn : n < 18446744073709551616) : numAt (sealP p (n : Int)) 4 8 = n := by
  have h : numAt (sealP p (n : Int)) 4 8 = numAt (sealB p (n : Int)) 4 8 := by
    unfold numAt
    rw [sealP_drop4 hl]
  rw [h]
  unfold sealB
  have h64 : (2 : Nat) ^ (8 * 8) = 18446744073709551616 := by decide
  exact numAt_over_leB (by rw [hl]; decide) (by rw [h64]; omega)
theorem zeroB_iff {p : List Int} : zeroB p = true ↔ ∀ i, i < 512 → p.getD i 0 = 0 := by
  unfold zeroB
  rw [List.all_eq_true]
  have hz : ∀ i, (List.replicate 512 (0 : Int)).getD i 0 = 0 := by
    intro i
    rw [List.getD_eq_getElem?_getD, List.getElem?_replicate]
    split <;> rfl
  constructor
  · intro h i hi
    have := h i (List.mem_range.mpr hi)
    rw [hz] at this
    simpa using this
  · intro h i hi
    rw [h i (List.mem_range.mp hi), hz]
    simp
theorem checkP_seal {p : List Int} (hl : p.length = 512) (ho : octs p) (hg : goodP p = true) (lsn : Int) : checkP (sealP p lsn) = 0 := by
  unfold checkP
  rw [sealP_good hl, hg, sealP_sum hl ho]
  simp
def bitPage (j m : Nat) : List Int := (List.replicate 512 (0 : Int)).set j ((2 ^ m : Nat) : Int)
set_option maxRecDepth 100000 in
theorem bit16 : ∀ m, m < 8 → ((numAt (bitPage 16 m) 0 4 : Nat) : Int) ≠ more 0 ((bitPage 16 m).drop 4) := by decide +kernel
set_option maxRecDepth 100000 in
theorem bit17 : ∀ m, m < 8 → ((numAt (bitPage 17 m) 0 4 : Nat) : Int) ≠ more 0 ((bitPage 17 m).drop 4) := by decide +kernel
theorem getD_set (l : List Int) (j i : Nat) (v : Int) (hj : j < l.length) : (l.set j v).getD i 0 = if i = j then v else l.getD i 0 := by
  rw [List.getD_eq_getElem?_getD, List.getD_eq_getElem?_getD, List.getElem?_set]
  by_cases h : j = i
  · subst h; simp [hj]
  · rw [if_neg h, if_neg (fun e => h e.symm)]
theorem list_ext_getD {a b : List Int} (hl : a.length = b.length) (h : ∀ i, i < a.length → a.getD i 0 = b.getD i 0) : a = b := by
  apply List.ext_getElem hl
  intro i h1 h2
  have := h i h1
  rw [List.getD_eq_getElem?_getD, List.getD_eq_getElem?_getD, List.getElem?_eq_getElem h1, List.getElem?_eq_getElem h2] at this
  exact this
theorem xor_ne (a b : Nat) (hb : b ≠ 0) : a ^^^ b ≠ a := by
  intro h
  have h2 : a ^^^ b = a ^^^ 0 := by rw [Nat.xor_zero]; exact h
  exact hb (xor_left_cancel h2)
theorem flip_tells {q : List Int} (ho : octs q) (hl : q.length = 512) (hg : goodP q = true) (hs : ((numAt q 0 4 : Nat) : Int) = more 0 (q.drop 4)) (j m : Nat) (hj : j < 512) (hm : m < 8) :
    checkP (q.set j (((q.getD j 0).toNat ^^^ 2 ^ m : Nat) : Int)) ≠ 0 := by
  obtain ⟨r, hr⟩ : ∃ r, q.set j (((q.getD j 0).toNat ^^^ 2 ^ m : Nat) : Int) = r := ⟨_, rfl⟩
  rw [hr]
  have hp2 : (2 : Nat) ^ m ≠ 0 := Nat.pos_iff_ne_zero.mp (Nat.two_pow_pos m)
  have hrg : ∀ i, r.getD i 0 = if i = j then (((q.getD j 0).toNat ^^^ 2 ^ m : Nat) : Int) else q.getD i 0 := fun i => by rw [← hr, getD_set _ _ _ _ (by omega)]
  unfold checkP
  cases hz : zeroB r with
  | true =>
    exfalso
    have hz0 := zeroB_iff.mp hz
    have hq0 : ∀ i, i < 512 → i ≠ j → q.getD i 0 = 0 := fun i hi hne => by have := hz0 i hi; rw [hrg, if_neg hne] at this; exact this
    have hqj : q.getD j 0 = ((2 ^ m : Nat) : Int) := by
      have := hz0 j hj
      rw [hrg, if_pos rfl] at this
      have h3 : (q.getD j 0).toNat ^^^ 2 ^ m = 0 := by exact_mod_cast this
      have h4 : (q.getD j 0).toNat = 2 ^ m := by
        have h5 : 2 ^ m ^^^ (q.getD j 0).toNat = 2 ^ m ^^^ 2 ^ m := by rw [Nat.xor_self, Nat.xor_comm]; exact h3
        exact xor_left_cancel h5
      have := octs_getD ho j
      omega
    have hlow : lowP q = (q.getD 16 0).toNat + 256 * (q.getD 17 0).toNat := by
      unfold lowP numAt
      rw [cut_eq q 16 2 (by omega)]
      simp [List.range_succ, num]
    have hgf := (good_facts hg).2.2.1
    have hqe : q = bitPage j m := by
      refine list_ext_getD (by unfold bitPage; rw [List.length_set, List.length_replicate]; exact hl) (fun i hi => ?_)
      unfold bitPage
      rw [getD_set _ _ _ _ (by rw [List.length_replicate]; exact hj)]
      by_cases hij : i = j
      · rw [if_pos hij, hij, hqj]
      · rw [if_neg hij, hq0 i (by omega) hij, List.getD_eq_getElem?_getD, List.getElem?_replicate]
        split <;> rfl
    by_cases h16 : j = 16
    · subst h16; rw [hqe] at hs; exact bit16 m hm hs
    · by_cases h17 : j = 17
      · subst h17; rw [hqe] at hs; exact bit17 m hm hs
      · rw [hlow, hq0 16 (by decide) (fun e => h16 e.symm), hq0 17 (by decide) (fun e => h17 e.symm)] at hgf
        simp at hgf
  | false =>
    cases hgr : goodP r with
    | false => simp
    | true =>
      have hne : ((numAt r 0 4 : Nat) : Int) ≠ more 0 (r.drop 4) := by
        by_cases h4 : j < 4
        · have e1 : r.drop 4 = q.drop 4 := by rw [← hr, List.drop_set]; rw [if_pos h4]
          have e2 : numAt r 0 4 = numAt q 0 4 ^^^ 2 ^ (8 * j + m) := by
            unfold numAt
            rw [← hr, List.drop_zero, List.drop_zero, List.take_set]
            have := num_set (q.take 4) j m (octs_take ho 4) (by rw [List.length_take]; omega) hm
            have e0 : (q.take 4).getD j 0 = q.getD j 0 := by rw [List.getD_eq_getElem?_getD, List.getD_eq_getElem?_getD, List.getElem?_take, if_pos h4]
            rw [e0] at this
            exact this
          rw [e1, ← hs, e2]
          intro h
          exact xor_ne _ _ (Nat.pos_iff_ne_zero.mp (Nat.two_pow_pos _)) (by exact_mod_cast h)
        · have e1 : numAt r 0 4 = numAt q 0 4 := by
            unfold numAt
            rw [← hr, List.drop_zero, List.drop_zero, List.take_set, List.set_eq_of_length_le (by rw [List.length_take]; omega)]
          have e2 : r.drop 4 = (q.drop 4).set (j - 4) ((((q.drop 4).getD (j - 4) 0).toNat ^^^ 2 ^ m : Nat) : Int) := by
            have e0 : (q.drop 4).getD (j - 4) 0 = q.getD j 0 := by rw [List.getD_eq_getElem?_getD, List.getD_eq_getElem?_getD, List.getElem?_drop, show 4 + (j - 4) = j by omega]
            rw [e0, ← hr, List.drop_set, if_neg h4]
          have hn := num_set (q.drop 4) (j - 4) m (octs_drop ho 4) (by rw [List.length_drop]; omega) hm
          rw [← e2] at hn
          intro h
          rw [e1, hs] at h
          have hor : octs (r.drop 4) := by
            rw [e2]
            refine octs_set (octs_drop ho 4) _ ⟨Int.natCast_nonneg _, ?_⟩
            have h8 : ((q.drop 4).getD (j - 4) 0).toNat < 2 ^ 8 := by have := octs_getD (octs_drop ho 4) (j - 4); omega
            have hp : 2 ^ m < 2 ^ 8 := Nat.pow_lt_pow_right (by decide) hm
            have := Nat.xor_lt_two_pow h8 hp
            simp only [Nat.reducePow] at this
            omega
          have ht := (more_tells (s := 0) (a := q.drop 4) (b := r.drop 4) (row := 1) (k := 8 * (j - 4) + m) (octs_drop ho 4) hor (by rw [e2, List.length_set]) (by decide) (by rw [List.length_drop]; omega) (by rw [hn, Nat.one_mul])).mp h
          rw [← ht] at hn
          exact xor_ne _ _ (Nat.pos_iff_ne_zero.mp (Nat.two_pow_pos _)) hn.symm
      simp [hne]
end Go.Proofs.Ytpogneedafoiaaa.Pg
namespace Go.Proofs.Ytpogneedafoiaaa.Pg
open Go.RowKit Go.Proofs.YtpogneedafoiaaaW.PrintWords Go.Proofs.YtpogneedafoiaaaW.PrintLast Go.Proofs.YtpogneedafoiaaaW.PrintMore Go.Proofs.Ytpogneedafoiaaa.Bw Go.Proofs.Ytpogneedafoiaaa.Crc Go.Proofs.Ytpogneedafoiaaa.Wordy
set_option linter.unusedVariables false
set_option linter.unusedSimpArgs false

theorem i64_and4095 (n : Int) : bits .and .i64 n 4095 = n % 4096 := by
  have h127 : (BitVec.ofInt 64 4095).toNat = 2 ^ 12 - 1 := by decide
  have key : (BitVec.ofInt 64 n &&& BitVec.ofInt 64 4095).toNat = (n % ((2 ^ 64 : Nat) : Int)).toNat % 2 ^ 12 := by
    rw [BitVec.toNat_and, BitVec.toNat_ofInt, h127, Nat.and_two_pow_sub_one_eq_mod]
  show IntKind.i64.wrap ((BitVec.ofInt 64 n &&& BitVec.ofInt 64 4095).toNat : Nat) = n % 4096
  rw [key, IntKind.wrap_i64]
  omega
theorem and4095 (n : Int) : ∃ k : Nat, bits .and .i64 n 4095 = (k : Int) ∧ k < 4096 :=
  ⟨(n % 4096).toNat, by rw [i64_and4095]; omega, by omega⟩
theorem shl_u8 (m : Nat) (hm8 : m < 8) : shl .u8 1 ((m : Nat) : Int) = ((2 ^ m : Nat) : Int) := by
  unfold shl
  rw [Int.toNat_natCast, Nat.min_eq_left (by show _ ≤ 8; omega), IntKind.wrap_u8, Int.one_mul]
  have : 2 ^ m < 2 ^ 8 := Nat.pow_lt_pow_right (by decide) hm8
  simp only [Nat.reducePow] at this
  have h2 : ((2 : Int) ^ m) = ((2 ^ m : Nat) : Int) := by exact_mod_cast rfl
  rw [h2]
  generalize 2 ^ m = q at this
  omega
theorem xor_u8 (v : Int) (m : Nat) (hv : 0 ≤ v ∧ v < 256) (hm8 : m < 8) : Go.bits .xor .u8 v ((2 ^ m : Nat) : Int) = ((v.toNat ^^^ 2 ^ m : Nat) : Int) := by
  have hp8 : 2 ^ m < 256 := by
    have : 2 ^ m < 2 ^ 8 := Nat.pow_lt_pow_right (by decide) hm8
    simpa using this
  have := u8_xor_nat v.toNat (2 ^ m) (by omega) hp8
  rw [← this]
  congr 1
  omega
set_option maxHeartbeats 4000000 in
theorem seals_good (A : Option Addr) (c : Nat) (p : List Int) (lsn bit : Int) (w : World) (hr : Kd.C (Kd.int .u8) w A 512 p) (hc : 512 ≤ c) (ho : octs p) (hl : p.length = 512) (hg : goodP p = true) (h0 : 0 ≤ lsn ∧ lsn < 18446744073709551616) (hb : -9223372036854775808 ≤ bit ∧ bit ≤ 9223372036854775807) :
    Calls Try.prog 5 #[.slice A 512 c, .int .u64 lsn, .int .i64 bit] w fun e w' => e = .returned (.bool true) ∧ Below w.heap.size w w' := by
  obtain ⟨ad, rfl⟩ := rb_some hr (by omega)
  obtain ⟨n, rfl⟩ : ∃ n : Nat, lsn = (n : Int) := ⟨lsn.toNat, by omega⟩
  have HS := Aside0.mk (sealP_len hl (n : Int))
  have HSO := Aside0.mk (sealP_octs ho (n : Int))
  have HSG := Aside0.mk (show goodP (sealP p n) = true by rw [sealP_good hl]; exact hg)
  have HSC := Aside0.mk (checkP_seal hl ho hg (n : Int))
  have HSL := Aside0.mk (sealP_lsn hl n (by omega))
  have HSK := Aside0.mk (sealP_kind hl (n : Int))
  have HSS := Aside0.mk (sealP_sum hl ho (n : Int))
  have HR := Aside0.mk hr
  have HO := Aside0.mk ho
  have HG := Aside0.mk hg
  have HL := Aside0.mk hl
  have k12 : p.getD 12 0 = p[12]?.getD 0 := List.getD_eq_getElem?_getD ..
  have hw12 : IntKind.i64.wrap (p[12]?.getD 0) = p[12]?.getD 0 := by
    have := octs_getD ho 12
    rw [k12] at this
    exact IntWalk.i64_in _ (by omega)
  obtain ⟨k, hk, hk2⟩ := and4095 bit
  clear hr ho hg hl
  go_enter Try.func5, Try.ntmps5
  go_wp2_with fail
  refine (awake_x _).mono ?_
  rintro e w1 ⟨rfl, hb1⟩
  have HB1 := Aside0.mk hb1
  clear hb1
  go_wp2_with fail
  refine (seal_good (some ad) c p (n : Int) _ (Kd.C_below HR.out HB1.out) hc HO.out HL.out HG.out h0.1).mono ?_
  rintro e w2 ⟨g, rfl, hg1, hbk, hb2⟩
  have HB2 := Aside0.mk (below_step HB1.out hb2)
  have HBk := Aside0.mk hbk
  have hgw : w.heap.size ≤ g := by have := HB1.out.size; omega
  clear hbk hb2
  go_wp2_with fail
  refine (headF_good (some ⟨g, 0, none⟩) 512 (sealP p n) _ (blk_rb5 HBk.out HS.out) (Nat.le_refl _) HSO.out HS.out HSG.out).mono ?_
  rw [HSL.out, HSK.out, k12]
  rintro e w3 ⟨rfl, hb3⟩
  have HB3 := Aside0.mk (below_step HB2.out hb3)
  have HBk3 := Aside0.mk (HBk.out.below hb3)
  clear hb3
  have hc12 := cellK (Kd.C_below HR.out HB3.out) 11 (by decide)
  rw [show 11 + 1 = 12 from rfl, k12] at hc12
  go_wp2_with fail
  refine (checkF ⟨g, 0, none⟩ 512 (sealP p n) _ (blk_rb5 HBk3.out HS.out) (Nat.le_refl _) HSO.out HS.out).mono ?_
  rw [HSC.out]
  rintro e w4 ⟨rfl, hb4⟩
  have HB4 := Aside0.mk (below_step HB3.out hb4)
  have HBk4 := Aside0.mk (HBk3.out.below hb4)
  have hc12 := cellK (Kd.C_below HR.out HB4.out) 11 (by decide)
  rw [show 11 + 1 = 12 from rfl, k12] at hc12
  clear hb4
  have hcj := Blk.cell HBk4.out (k / 8) (by rw [HS.out]; omega)
  have hfj := Blk.free HBk4.out (k / 8)
  go_wp2_with fail
  have hx : bits BinOp.xor IntKind.u8 ((sealP p (n : Int))[k / 8]?.getD 0) (2 ^ (k % 8) % 256) = ((((sealP p (n : Int)).getD (k / 8) 0).toNat ^^^ 2 ^ (k % 8) : Nat) : Int) := by
    have hm8 : k % 8 < 8 := by omega
    have e2 : (2 : Int) ^ (k % 8) % 256 = ((2 ^ (k % 8) : Nat) : Int) := by
      have : 2 ^ (k % 8) < 2 ^ 8 := Nat.pow_lt_pow_right (by decide) hm8
      simp only [Nat.reducePow] at this
      have h2 : ((2 : Int) ^ (k % 8)) = ((2 ^ (k % 8) : Nat) : Int) := by exact_mod_cast rfl
      rw [h2]
      generalize 2 ^ (k % 8) = q at this
      omega
    rw [e2, ← List.getD_eq_getElem?_getD]
    exact xor_u8 _ _ (octs_getD HSO.out _) hm8
  rw [hx]
  have hfl := flip_tells HSO.out HS.out HSG.out HSS.out (k / 8) (k % 8) (by omega) (by omega)
  have hv : (0 : Int) ≤ ((((sealP p (n : Int)).getD (k / 8) 0).toNat ^^^ 2 ^ (k % 8) : Nat) : Int) ∧ ((((sealP p (n : Int)).getD (k / 8) 0).toNat ^^^ 2 ^ (k % 8) : Nat) : Int) < 256 := by
    refine ⟨Int.natCast_nonneg _, ?_⟩
    have h8 : ((sealP p (n : Int)).getD (k / 8) 0).toNat < 2 ^ 8 := by have := octs_getD HSO.out (k / 8); omega
    have hp : 2 ^ (k % 8) < 2 ^ 8 := Nat.pow_lt_pow_right (by decide) (by omega)
    have := Nat.xor_lt_two_pow h8 hp
    simp only [Nat.reducePow] at this
    omega
  generalize ((((sealP p (n : Int)).getD (k / 8) 0).toNat ^^^ 2 ^ (k % 8) : Nat) : Int) = V at hfl hv
  have HB5 := Aside0.mk (Blk.set HBk4.out (k / 8) V)
  have HBl5 := Aside0.mk (HB4.out.setCell (p := ⟨g, k / 8, none⟩) hgw (.int .u8 V))
  have HSr := Aside0.mk (show ((sealP p (n : Int)).set (k / 8) V).length = 512 by rw [List.length_set]; exact HS.out)
  refine (checkF ⟨g, 0, none⟩ 512 _ _ (blk_rb5 HB5.out HSr.out) (Nat.le_refl _) (octs_set HSO.out _ hv) HSr.out).mono ?_
  rintro e w6 ⟨rfl, hb6⟩
  have HB6 := Aside0.mk (below_step HBl5.out hb6)
  have hne : (checkP ((sealP p (n : Int)).set (k / 8) V) != 0) = true := by simp [bne, hfl]
  clear hb6
  go_wp2
  go_ret
  exact ⟨rfl, HB6.out⟩
set_option maxHeartbeats 4000000 in
theorem seals_bad (A : Option Addr) (c : Nat) (p : List Int) (lsn bit : Int) (w : World) (hr : Kd.C (Kd.int .u8) w A p.length p) (hc : p.length ≤ c) (ho : octs p) (hl : p.length ≤ 140737488351232) (hg : goodP p = false) :
    Calls Try.prog 5 #[.slice A p.length c, .int .u64 lsn, .int .i64 bit] w fun e w' => e = .returned (.bool true) ∧ Below w.heap.size w w' := by
  have HR := Aside0.mk hr
  have HO := Aside0.mk ho
  have HG := Aside0.mk hg
  clear hr ho hg
  go_enter Try.func5, Try.ntmps5
  go_wp2_with fail
  refine (awake_x _).mono ?_
  rintro e w1 ⟨rfl, hb1⟩
  have HB1 := Aside0.mk hb1
  clear hb1
  go_wp2_with fail
  refine (seal_bad A c p lsn _ (Kd.C_below HR.out HB1.out) hc HO.out hl HG.out).mono ?_
  rintro e w2 ⟨rfl, hb2⟩
  have HB2 := Aside0.mk (below_step HB1.out hb2)
  clear hb2
  go_wp2_with fail
  refine (good_calls A c p _ (Kd.C_below HR.out HB2.out) hc HO.out hl).mono ?_
  rw [HG.out]
  rintro e w3 ⟨rfl, hb3⟩
  have HB3 := Aside0.mk (below_step HB2.out hb3)
  clear hb3
  go_wp2
  go_ret
  exact ⟨rfl, HB3.out⟩
theorem octs_wf {l : List Int} (h : ∀ x ∈ l, (Lit.int .u8 x).wf = true) : octs l := by
  intro x hx
  have := h x hx
  simp [Lit.wf, IntKind.min, IntKind.max, IntKind.bits, IntKind.signed] at this
  omega
theorem wf_i64 {n : Int} (h : (Lit.int .i64 n).wf = true) : -9223372036854775808 ≤ n ∧ n ≤ 9223372036854775807 := by
  simp [Lit.wf, IntKind.min, IntKind.max, IntKind.bits, IntKind.signed] at h
  omega
theorem wf_u64 {n : Int} (h : (Lit.int .u64 n).wf = true) : 0 ≤ n ∧ n < 18446744073709551616 := by
  simp [Lit.wf, IntKind.min, IntKind.max, IntKind.bits, IntKind.signed] at h
  omega
theorem seals_walk (a0 : Option Addr) (len0 cap0 : Nat) (z0 : List Int) (a1 a2 : Int) (w : World) (w0 : (a0 = none ∧ len0 = 0 ∧ cap0 = 0 ∧ z0 = []) ∨ ∃ x, a0 = some x ∧ len0 ≤ cap0 ∧ cap0 ≤ maxLen ∧ z0.length = cap0 ∧ (∀ i, i < z0.length → w.cell? (x.add i) = some (.int .u8 (z0.getD i 0))) ∧ ∀ n ∈ z0, (Lit.int .u8 n).wf = true) (y0 : len0 * 1 ≤ 140737488351232) (w1 : (Lit.int .u64 a1).wf = true) (w2 : (Lit.int .i64 a2).wf = true) :
    Calls Try.prog 5 #[.slice a0 len0 cap0, .int .u64 a1, .int .i64 a2] w fun e w' => e = .returned (.bool true) ∧ Below w.heap.size w w' := by
  obtain ⟨l0, rfl, hr0, hm0, hw0, hc0⟩ := ReadsInt.ofRowC w0
  have hr := rb_of_reads hr0
  have ho := octs_wf hw0
  have h1 := wf_u64 w1
  have h2 := wf_i64 w2
  have hl : l0.length ≤ 140737488351232 := by omega
  cases hg : goodP l0 with
  | false => exact seals_bad a0 cap0 l0 a1 a2 w hr hc0 ho hl hg
  | true =>
    have hl5 := (good_facts hg).1
    have h := seals_good a0 cap0 l0 a1 a2 w (by rw [← hl5]; exact hr) (by omega) ho hl5 hg (by omega) (by omega)
    rw [← hl5] at h
    exact h
end Go.Proofs.Ytpogneedafoiaaa.Pg
