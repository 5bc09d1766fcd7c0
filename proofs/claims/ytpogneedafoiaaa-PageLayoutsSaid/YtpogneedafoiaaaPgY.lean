/- Contracts by hand: the walk of PageLayouts. -/
import Derived.Test.YtpogneedafoiaaaPgFour
import Derived.Test.YtpogneedafoiaaaPgV
import Derived.Test.YtpogneedafoiaaaPgU
namespace Go.Proofs.Ytpogneedafoiaaa.Pg
open Go.RowKit Go.Proofs.YtpogneedafoiaaaW.PrintWords Go.Proofs.YtpogneedafoiaaaW.PrintLast Go.Proofs.YtpogneedafoiaaaW.PrintMore Go.Proofs.Ytpogneedafoiaaa.Bw Go.Proofs.Ytpogneedafoiaaa.Crc Go.Proofs.Ytpogneedafoiaaa.Wordy
set_option linter.unusedVariables false
set_option linter.unusedSimpArgs false

theorem i64_and511 (n : Int) : bits .and .i64 n 511 = n % 512 := by
  have h127 : (BitVec.ofInt 64 511).toNat = 2 ^ 9 - 1 := by decide
  have key : (BitVec.ofInt 64 n &&& BitVec.ofInt 64 511).toNat = (n % ((2 ^ 64 : Nat) : Int)).toNat % 2 ^ 9 := by
    rw [BitVec.toNat_and, BitVec.toNat_ofInt, h127, Nat.and_two_pow_sub_one_eq_mod]
  show IntKind.i64.wrap ((BitVec.ofInt 64 n &&& BitVec.ofInt 64 511).toNat : Nat) = n % 512
  rw [key, IntKind.wrap_i64]
  omega
theorem and511 (n : Int) : ∃ k : Nat, bits .and .i64 n 511 = (k : Int) ∧ k < 512 :=
  ⟨(n % 512).toNat, by rw [i64_and511]; omega, by omega⟩
theorem reflow (A : Option Addr) (c : Nat) (p : List Int) (w : World) (hr : Kd.C (Kd.int .u8) w A 512 p) (hc : 512 ≤ c) (ho : octs p) (hl : p.length = 512) :
    Calls Try.prog 18 #[.slice A 512 c] w fun e w' => e = .returned (.int .i64 ((lowP p : Nat) : Int)) ∧ Drawn0 w w' := by
  have h := Rf.munimentref5_Low.calls 9 A c p _ w (by rw [hl]; exact hr) (by omega) (rlow_eq p ho hl 9 (Nat.le_refl _))
  rw [hl] at h
  exact h
set_option maxRecDepth 100000 in
set_option maxHeartbeats 4000000 in
theorem layouts_bad (A : Option Addr) (c : Nat) (p : List Int) (x : Int) (w : World) (hr : Kd.C (Kd.int .u8) w A p.length p) (hc : p.length ≤ c) (ho : octs p) (hl : p.length ≤ 140737488351232) (hg : goodP p = false) :
    Calls Try.prog 3 #[.slice A p.length c, .int .i64 x] w fun e w' => e = .returned (.bool true) ∧ Below w.heap.size w w' := by
  have HR := Aside0.mk hr
  have HO := Aside0.mk ho
  have HG := Aside0.mk hg
  clear hr ho hg
  go_enter Try.func3, Try.ntmps3
  go_wp2_with fail
  refine (awake_x _).mono ?_
  rintro e w1 ⟨rfl, hb1⟩
  have HB1 := Aside0.mk hb1
  clear hb1
  go_wp2_with fail
  refine (compact_bad A c p _ (Kd.C_below HR.out HB1.out) hc HO.out hl HG.out).mono ?_
  rintro e w2 ⟨rfl, hb2⟩
  have HB2 := Aside0.mk (below_step HB1.out hb2)
  clear hb2
  go_wp2_with fail
  refine (good_calls A c p _ (Kd.C_below HR.out HB2.out) hc HO.out hl).mono ?_
  rw [HG.out]
  rintro e w3 ⟨rfl, hb3⟩
  have HB3 := Aside0.mk (below_step HB2.out hb3)
  clear hb3
  go_wp2
  go_ret
  exact ⟨rfl, HB3.out⟩
set_option maxRecDepth 100000 in
set_option maxHeartbeats 8000000 in
theorem layouts_good (A : Option Addr) (c : Nat) (p : List Int) (x : Int) (w : World) (hr : Kd.C (Kd.int .u8) w A 512 p) (hc : 512 ≤ c) (ho : octs p) (hl : p.length = 512) (hg : goodP p = true) :
    Calls Try.prog 3 #[.slice A 512 c, .int .i64 x] w fun e w' => e = .returned (.bool true) ∧ Below w.heap.size w w' := by
  have hf := fits_of_good hg
  obtain ⟨q, hq⟩ : ∃ q, anewP p = q := ⟨_, rfl⟩
  have ql : q.length = 512 := by rw [← hq]; exact anew_length hl hf
  have qo : octs q := by rw [← hq]; exact anew_octs ho
  have qg : goodP q = true := by rw [← hq]; exact anew_good hg
  have qf : Fits q := fits_of_good qg
  have qq : anewP q = q := by rw [← hq]; exact anew_twice hl ho hf
  have qfr : freeP q = freeP p := by rw [← hq]; exact anew_free hl hf
  have qce : cellsP q = cellsP p := by rw [← hq]; exact anew_cells hl hf
  have qc : cnt q = cnt p := by rw [← hq]; exact anew_cnt hl hf
  have qw := good_iff.mp qg
  have pw := good_iff.mp hg
  have qlow : lowP q = 512 - sumSz p (cnt p) := by rw [← hq]; exact anew_low hl hf
  have HQ := Aside0.mk (And.intro ql (And.intro qo qg))
  have HQf := Aside0.mk qf
  have HQQ := Aside0.mk qq
  have HQfr := Aside0.mk qfr
  have HQce := Aside0.mk qce
  have HQc := Aside0.mk qc
  have HQw := Aside0.mk qw
  have HQl := Aside0.mk qlow
  have Hq := Aside0.mk hq
  have HPw := Aside0.mk pw
  have HF := Aside0.mk hf
  have HR := Aside0.mk hr
  have HO := Aside0.mk ho
  have HG := Aside0.mk hg
  have HL := Aside0.mk hl
  have hn5 : 26 + 4 * cnt p ≤ 512 := by have := pw.slots; have := pw.low; omega
  obtain ⟨k, hk, hk2⟩ := and511 x
  have HFr := Aside0.mk (show -65536 ≤ freeP p ∧ freeP p ≤ 486 by
    unfold freeP
    have := hf.1
    omega)
  clear hr ho hg hl ql qo qg qf qq qfr qce qc qw pw qlow hf hq
  go_enter Try.func3, Try.ntmps3
  go_wp2_with fail
  refine (awake_x _).mono ?_
  rintro e w1 ⟨rfl, hb1⟩
  have HB1 := Aside0.mk hb1
  clear hb1
  go_wp2_with fail
  refine (compact_good A c p _ (Kd.C_below HR.out HB1.out) hc HO.out HL.out HG.out HF.out).mono ?_
  rw [Hq.out]
  rintro e w2 ⟨g, rfl, hg1, hbk, hb2⟩
  have HB2 := Aside0.mk (below_step HB1.out hb2)
  have HBk2 := Aside0.mk hbk
  clear hbk hb2
  go_wp2_with fail
  refine (cells_p A c p _ (Kd.C_below HR.out HB2.out) hc HO.out HL.out HG.out).mono ?_
  rintro e w3 ⟨A3, c3, rfl, hc3, hr3, hb⟩
  have HB3 := Aside0.mk (below_step HB2.out hb)
  have HBk3 := Aside0.mk (HBk2.out.below hb)
  have HR3 := Aside0.mk hr3
  clear hb hr3
  go_wp2_with fail
  refine (cells_p (some ⟨g, 0, none⟩) 512 q _ (blk_rb5 HBk3.out HQ.out.1) (Nat.le_refl _) HQ.out.2.1 HQ.out.1 HQ.out.2.2).mono ?_
  rw [HQce.out]
  rintro e w4 ⟨A4, c4, rfl, hc4, hr4, hb⟩
  have HB4 := Aside0.mk (below_step HB3.out hb)
  have HBk4 := Aside0.mk (HBk3.out.below hb)
  have HR34 := Aside0.mk (Kd.C_below HR3.out hb)
  have HR4 := Aside0.mk hr4
  clear hb hr4
  go_wp2_with fail
  refine (freeF_good A c p _ (Kd.C_below HR.out HB4.out) hc HO.out HL.out HG.out hn5).mono ?_
  rintro e w5 ⟨rfl, hb⟩
  have HB5 := Aside0.mk (below_step HB4.out hb)
  have HBk5 := Aside0.mk (HBk4.out.below hb)
  have HR35 := Aside0.mk (Kd.C_below HR34.out hb)
  have HR45 := Aside0.mk (Kd.C_below HR4.out hb)
  clear hb
  go_wp2_with fail
  refine (freeF_good (some ⟨g, 0, none⟩) 512 q _ (blk_rb5 HBk5.out HQ.out.1) (Nat.le_refl _) HQ.out.2.1 HQ.out.1 HQ.out.2.2 (by rw [HQc.out]; exact hn5)).mono ?_
  rw [HQfr.out]
  rintro e w6 ⟨rfl, hb⟩
  have HB6 := Aside0.mk (below_step HB5.out hb)
  have HBk6 := Aside0.mk (HBk5.out.below hb)
  have HR36 := Aside0.mk (Kd.C_below HR35.out hb)
  have HR46 := Aside0.mk (Kd.C_below HR45.out hb)
  clear hb
  go_wp2_with fail
  refine (compact_good (some ⟨g, 0, none⟩) 512 q _ (blk_rb5 HBk6.out HQ.out.1) (Nat.le_refl _) HQ.out.2.1 HQ.out.1 HQ.out.2.2 HQf.out).mono ?_
  rw [HQQ.out]
  rintro e w7 ⟨g7, rfl, hg7, hbk, hb⟩
  have HB7 := Aside0.mk (below_step HB6.out hb)
  have HBk7 := Aside0.mk (HBk6.out.below hb)
  have HBr7 := Aside0.mk hbk
  have HR37 := Aside0.mk (Kd.C_below HR36.out hb)
  have HR47 := Aside0.mk (Kd.C_below HR46.out hb)
  clear hb hbk
  have hcv1 : (convert 22 9 (.slice (some ⟨g, 0, none⟩) 512 512)).run Try.prog w7 = .ok (.string (strOfNums q)) w7 := Kd.C_string Try.underlying22 Try.underlying5 Try.underlying9 (blk_rb5 HBk7.out HQ.out.1)
  have hcv2 : (convert 22 9 (.slice (some ⟨g7, 0, none⟩) 512 512)).run Try.prog w7 = .ok (.string (strOfNums q)) w7 := Kd.C_string Try.underlying22 Try.underlying5 Try.underlying9 (blk_rb5 HBr7.out HQ.out.1)
  go_wp2_with fail
  have hll := lists_x A3 A4 c3 c4 (cellsP p) (cellsP p) _ HR37.out HR47.out hc3 hc4 (octs_cells HO.out) (octs_cells HO.out)
  rw [decide_eq_true rfl] at hll
  refine hll.mono ?_
  clear hll hcv1 hcv2
  rintro e w8 ⟨rfl, hb⟩
  have HB8 := Aside0.mk (below_step HB7.out hb)
  have HBk8 := Aside0.mk (HBk7.out.below hb)
  clear hb HR37 HR47 HR36 HR46 HR35 HR45 HR34 HR4 HR3 HBk7 HBr7 HB7 HB6 HB5 HB4 HB3 HB2 HB1 HBk2 HBk3 HBk4 HBk5 HBk6
  have hf1 := HFr.out.1
  have hf2 := HFr.out.2
  by_cases h4 : freeP p < 4
  · have q4 : decide (freeP p < 4) = true := decide_eq_true h4
    go_wp2_with fail
    refine (full_at (some ⟨g, 0, none⟩) none 512 0 0 q 0 _ _ rfl (blk_rb5 HBk8.out HQ.out.1) (Nat.le_refl _) HQ.out.2.1 HQ.out.1 HQ.out.2.2 (Nat.zero_le _) (by decide) (by rw [HQfr.out]; omega)).mono ?_
    rintro e w9 ⟨rfl, hb⟩
    have HB9 := Aside0.mk (below_step HB8.out hb)
    clear hb
    go_wp2
    go_ret
    exact ⟨rfl, HB9.out⟩
  · have q4 : decide (freeP p < 4) = false := decide_eq_false h4
    have hwr : IntKind.i64.wrap (freeP p - 4) = freeP p - 4 := IntWalk.i64_in _ (by omega)
    go_wp2_with (refine wl_make rfl _ _ rfl k (by omega) rfl rfl ?_; intro w9 hb9 hl9)
    have HB9 := Aside0.mk (below_step HB8.out hl9)
    have HBk9 := Aside0.mk (HBk8.out.below hl9)
    have HZ9 := Aside0.mk hb9
    clear hb9 hl9
    by_cases h5 : freeP p - 4 < k
    · have q5 : decide (freeP p - 4 < k) = true := decide_eq_true h5
      refine (full_at (some ⟨g, 0, none⟩) _ 512 k k q (cnt p) _ _ (by rw [cellsP_length]) (blk_rb5 HBk9.out HQ.out.1) (Nat.le_refl _) HQ.out.2.1 HQ.out.1 HQ.out.2.2 (by rw [HQc.out]; exact Nat.le_refl _) (by omega) (by rw [HQfr.out]; omega)).mono ?_
      rintro e wa ⟨rfl, hb⟩
      have HBa := Aside0.mk (below_step HB9.out hb)
      clear hb
      go_wp2
      go_ret
      exact ⟨rfl, HBa.out⟩
    · have q5 : decide (freeP p - 4 < k) = false := decide_eq_false h5
      have hfit : ((List.replicate k (0 : Int)).length : Int) + 4 ≤ freeP q := by rw [List.length_replicate, HQfr.out]; omega
      have HSl := Aside0.mk (insertP_len (l := List.replicate k 0) HQ.out.2.2 (i := cnt p) (by rw [HQc.out]; exact Nat.le_refl _) hfit)
      have hqlow := HQl.out
      have hlow5 : lowP q ≤ 512 := HQw.out.low
      have HTl := Aside0.mk (insert_tail (l := List.replicate k 0) HQw.out (by
        rw [List.length_replicate, HQc.out, hqlow]
        rw [List.length_replicate] at hfit
        rw [HQfr.out] at hfit
        unfold freeP at hfit
        omega))
      rw [HQc.out] at HTl
      refine (insert_at (some ⟨g, 0, none⟩) _ 512 k k q (List.replicate k 0) (cnt p) _ _ (by rw [cellsP_length]) (by rw [List.length_replicate]) (blk_rb5 HBk9.out HQ.out.1) (Nat.le_refl _) HQ.out.2.1 HQ.out.1 HQ.out.2.2 (blk_len HZ9.out (by rfl) (by rw [List.length_replicate]; omega)) (by rw [List.length_replicate]; exact Nat.le_refl _) (by rw [HQc.out]; exact Nat.le_refl _) (by rw [List.length_replicate]; omega) hfit).mono ?_
      obtain ⟨s, hs⟩ : ∃ s, insertP q (cnt p) (List.replicate k 0) = s := ⟨_, rfl⟩
      rw [hs] at HTl HSl ⊢
      clear hs hfit hqlow
      rintro e wa ⟨gs, rfl, hgs, hbk, hb⟩
      have HBa := Aside0.mk (below_step HB9.out hb)
      have HBka := Aside0.mk (HBk9.out.below hb)
      have HSa := Aside0.mk hbk
      clear hb hbk
      have hcut : ∀ (r : List Int) (gr : Nat), r.length = 512 → Blk wa 5 gr r → ∀ n, Kd.C (Kd.int .u8) (wa.drewN n) (some ⟨gr, lowP q, none⟩) (512 - lowP q) (r.drop (lowP q)) := fun r gr hrl hrb n => by
        have h := rb_cutB hrb hrl (lowP q) (512 - lowP q) (by omega)
        rw [List.take_of_length_le (by rw [List.length_drop, hrl]; exact Nat.le_refl _)] at h
        exact Kd.C_drewN h n
      have hnil : ∀ gr n, Kd.C (Kd.int .u8) (wa.drewN n) (some ⟨gr, 0, none⟩) 0 [] := fun gr n => rb_of_reads ⟨rfl, by decide, fun h => absurd h (by decide)⟩
      have hcs : ∀ n, Calls Try.prog 18 #[.slice (some ⟨g, 0, none⟩) 512 512] (wa.drewN n) fun e w'' => e = .returned (.int .i64 ((lowP q : Nat) : Int)) ∧ ∃ m, w'' = wa.drewN m := fun n => Calls.quiet_of ((reflow (some ⟨g, 0, none⟩) 512 q (wa.drewN n) (Kd.C_drewN (blk_rb5 HBka.out HQ.out.1) n) (Nat.le_refl _) HQ.out.2.1 HQ.out.1).mono (by rintro e w' ⟨rfl, m, rfl⟩; exact ⟨rfl, m, rfl⟩))
      have HCS := Aside0.mk hcs
      clear hcs
      by_cases h6 : 512 = lowP q
      · have hcv1 : ∀ n, (convert 22 9 (.slice (some ⟨gs, 0, none⟩) (512 - lowP q) (512 - lowP q))).run Try.prog (wa.drewN n) = .ok (.string (strOfNums [])) (wa.drewN n) := fun n => by rw [← h6]; exact Kd.C_string Try.underlying22 Try.underlying5 Try.underlying9 (hnil gs n)
        have hcv2 : ∀ n, (convert 22 9 (.slice (some ⟨g, 0, none⟩) (512 - lowP q) (512 - lowP q))).run Try.prog (wa.drewN n) = .ok (.string (strOfNums [])) (wa.drewN n) := fun n => by rw [← h6]; exact Kd.C_string Try.underlying22 Try.underlying5 Try.underlying9 (hnil g n)
        have hq6 : (512 = lowP q) = True := eq_true h6
        clear hcut hnil h6
        go_wp2
        go_quiet (first | (go_at_call 18; exact HCS.out _))
        go_wp2
        go_ret
        exact ⟨rfl, pw_below_drewN HBa.out _⟩
      · have hcv1 : ∀ n, (convert 22 9 (.slice (some ⟨gs, lowP q, none⟩) (512 - lowP q) (512 - lowP q))).run Try.prog (wa.drewN n) = .ok (.string (strOfNums (s.drop (lowP q)))) (wa.drewN n) := fun n => Kd.C_string Try.underlying22 Try.underlying5 Try.underlying9 (hcut s gs HSl.out HSa.out n)
        have hcv2 : ∀ n, (convert 22 9 (.slice (some ⟨g, lowP q, none⟩) (512 - lowP q) (512 - lowP q))).run Try.prog (wa.drewN n) = .ok (.string (strOfNums (s.drop (lowP q)))) (wa.drewN n) := fun n => by rw [HTl.out]; exact Kd.C_string Try.underlying22 Try.underlying5 Try.underlying9 (hcut q g HQ.out.1 HBka.out n)
        clear hcut hnil
        go_wp2
        go_quiet (first | (go_at_call 18; exact HCS.out _))
        go_wp2
        go_ret
        exact ⟨rfl, pw_below_drewN HBa.out _⟩
theorem layouts_walk (a0 : Option Addr) (len0 cap0 : Nat) (z0 : List Int) (a1 : Int) (w : World) (w0 : (a0 = none ∧ len0 = 0 ∧ cap0 = 0 ∧ z0 = []) ∨ ∃ x, a0 = some x ∧ len0 ≤ cap0 ∧ cap0 ≤ maxLen ∧ z0.length = cap0 ∧ (∀ i, i < z0.length → w.cell? (x.add i) = some (.int .u8 (z0.getD i 0))) ∧ ∀ n ∈ z0, (Lit.int .u8 n).wf = true) (y0 : len0 * 1 ≤ 140737488351232) (w1 : (Lit.int .i64 a1).wf = true) :
    Calls Try.prog 3 #[.slice a0 len0 cap0, .int .i64 a1] w fun e w' => e = .returned (.bool true) ∧ Below w.heap.size w w' := by
  obtain ⟨l0, rfl, hr0, hm0, hw0, hc0⟩ := ReadsInt.ofRowC w0
  have hr := rb_of_reads hr0
  have ho := octs_wf hw0
  have hl : l0.length ≤ 140737488351232 := by omega
  cases hg : goodP l0 with
  | false => exact layouts_bad a0 cap0 l0 a1 w hr hc0 ho hl hg
  | true =>
    have hl5 := (good_facts hg).1
    have h := layouts_good a0 cap0 l0 a1 w (by rw [← hl5]; exact hr) (by omega) ho hl5 hg
    rw [← hl5] at h
    exact h
end Go.Proofs.Ytpogneedafoiaaa.Pg
