/- Contracts by hand: the walk of PageHeads. -/
import Derived.Test.YtpogneedafoiaaaPgFour
import Derived.Test.YtpogneedafoiaaaPgThree
namespace Go.Proofs.Ytpogneedafoiaaa.Pg
open Go.RowKit Go.Proofs.YtpogneedafoiaaaW.PrintWords Go.Proofs.YtpogneedafoiaaaW.PrintLast Go.Proofs.YtpogneedafoiaaaW.PrintMore Go.Proofs.Ytpogneedafoiaaa.Bw Go.Proofs.Ytpogneedafoiaaa.Crc Go.Proofs.Ytpogneedafoiaaa.Wordy
set_option linter.unusedVariables false
set_option linter.unusedSimpArgs false

theorem cells_p (A : Option Addr) (c : Nat) (p : List Int) (w : World) (hr : Kd.C (Kd.int .u8) w A 512 p) (hc : 512 ≤ c) (ho : octs p) (hl : p.length = 512) (hg : goodP p = true) :
    Calls Try.prog 14 #[.slice A 512 c] w fun e w' => ∃ A' c', e = .returned (.tuple #[.slice A' (cellsP p).length c', .int .i64 0]) ∧ (cellsP p).length ≤ c' ∧ Kd.C (Kd.slice 5 (Kd.int .u8)) w' A' (cellsP p).length (cellsP p) ∧ Below w.heap.size w w' := by
  refine (cells_x A c p w hr hc ho hl hg).mono ?_
  rintro e w' ⟨v, rfl, hs, hb⟩
  obtain ⟨A', c', rfl, h1, h2⟩ := Kd.S_reads hs
  exact ⟨A', c', rfl, h1, h2, hb⟩
set_option maxRecDepth 100000 in
set_option maxHeartbeats 4000000 in
theorem heads_bad (A : Option Addr) (c : Nat) (p : List Int) (x y lsn : Int) (w : World) (hr : Kd.C (Kd.int .u8) w A p.length p) (hc : p.length ≤ c) (ho : octs p) (hl : p.length ≤ 140737488351232) (hg : goodP p = false) :
    Calls Try.prog 8 #[.slice A p.length c, .int .i64 x, .int .i64 y, .int .u64 lsn] w fun e w' => e = .returned (.bool true) ∧ Below w.heap.size w w' := by
  have HR := Aside0.mk hr
  have HO := Aside0.mk ho
  have HG := Aside0.mk hg
  clear hr ho hg
  go_enter Try.func8, Try.ntmps8
  go_wp2_with fail
  refine (awake_x _).mono ?_
  rintro e w1 ⟨rfl, hb1⟩
  have HB1 := Aside0.mk hb1
  clear hb1
  go_wp2_with fail
  refine (set_bad A c p x y _ (Kd.C_below HR.out HB1.out) hc HO.out hl HG.out).mono ?_
  rintro e w2 ⟨rfl, hb2⟩
  have HB2 := Aside0.mk (below_step HB1.out hb2)
  clear hb2
  go_wp2_with fail
  refine (good_calls A c p _ (Kd.C_below HR.out HB2.out) hc HO.out hl).mono ?_
  rw [HG.out]
  rintro e w3 ⟨rfl, hb3⟩
  have HB3 := Aside0.mk (below_step HB2.out hb3)
  clear hb3
  go_wp2
  go_ret
  exact ⟨rfl, HB3.out⟩
set_option maxRecDepth 100000 in
set_option maxHeartbeats 4000000 in
theorem heads_no (A : Option Addr) (c : Nat) (p : List Int) (x y lsn : Int) (w : World) (hr : Kd.C (Kd.int .u8) w A 512 p) (hc : 512 ≤ c) (ho : octs p) (hl : p.length = 512) (hg : goodP p = true) (hx : ¬ (0 ≤ x ∧ x ≤ 4294967295 ∧ 0 ≤ y ∧ y ≤ 4294967295)) :
    Calls Try.prog 8 #[.slice A 512 c, .int .i64 x, .int .i64 y, .int .u64 lsn] w fun e w' => e = .returned (.bool true) ∧ Below w.heap.size w w' := by
  have HR := Aside0.mk hr
  have HO := Aside0.mk ho
  have HG := Aside0.mk hg
  have HL := Aside0.mk hl
  have HX := Aside0.mk hx
  clear hr ho hg hl hx
  go_enter Try.func8, Try.ntmps8
  go_wp2_with fail
  refine (awake_x _).mono ?_
  rintro e w1 ⟨rfl, hb1⟩
  have HB1 := Aside0.mk hb1
  clear hb1
  go_wp2_with fail
  refine (set_no A c p x y _ (Kd.C_below HR.out HB1.out) hc HO.out HL.out HG.out HX.out).mono ?_
  rintro e w2 ⟨rfl, hb2⟩
  have HB2 := Aside0.mk (below_step HB1.out hb2)
  clear hb2
  go_wp2_with fail
  refine (good5 A c p _ (Kd.C_below HR.out HB2.out) hc HO.out HL.out).mono ?_
  rw [HG.out]
  rintro e w3 ⟨rfl, hb3⟩
  have HB3 := Aside0.mk (below_step HB2.out hb3)
  clear hb3
  go_wp2
  go_ret
  exact ⟨rfl, HB3.out⟩
set_option maxRecDepth 100000 in
set_option maxHeartbeats 4000000 in
theorem heads_good (A : Option Addr) (c : Nat) (p : List Int) (x y lsn : Int) (w : World) (hr : Kd.C (Kd.int .u8) w A 512 p) (hc : 512 ≤ c) (ho : octs p) (hl : p.length = 512) (hg : goodP p = true) (hx : 0 ≤ x ∧ x ≤ 4294967295 ∧ 0 ≤ y ∧ y ≤ 4294967295) (h0 : 0 ≤ lsn ∧ lsn < 18446744073709551616) :
    Calls Try.prog 8 #[.slice A 512 c, .int .i64 x, .int .i64 y, .int .u64 lsn] w fun e w' => e = .returned (.bool true) ∧ Below w.heap.size w w' := by
  obtain ⟨n, rfl⟩ : ∃ n : Nat, lsn = (n : Int) := ⟨lsn.toNat, by omega⟩
  obtain ⟨x, rfl⟩ : ∃ n : Nat, x = (n : Int) := ⟨x.toNat, by omega⟩
  obtain ⟨y, rfl⟩ : ∃ n : Nat, y = (n : Int) := ⟨y.toNat, by omega⟩
  obtain ⟨q, hq⟩ : ∃ q, setP p x y = q := ⟨_, rfl⟩
  have agq : Agree p q := by rw [← hq]; exact agree_set hl _ _
  obtain ⟨s, hs⟩ : ∃ s, sealP q n = s := ⟨_, rfl⟩
  have ags : Agree q s := by rw [← hs]; exact agree_seal agq.2.1 _
  obtain ⟨t, ht⟩ : ∃ t, setP s 0 0 = t := ⟨_, rfl⟩
  have agt : Agree s t := by rw [← ht]; exact agree_set ags.2.1 _ _
  have oq : octs q := by rw [← hq]; exact setP_octs ho _ _
  have os : octs s := by rw [← hs]; exact sealP_octs oq _
  have ot : octs t := by rw [← ht]; exact setP_octs os _ _
  have gq : goodP q = true := by rw [← agq.good]; exact hg
  have gs : goodP s = true := by rw [← ags.good]; exact gq
  have gt : goodP t = true := by rw [← agt.good]; exact gs
  have ck : p.getD 12 0 = s.getD 12 0 := agree_kind (agq.trans ags)
  have cce : cellsP p = cellsP s := (agq.trans ags).cells hg
  have nl : numAt s 4 8 = n := by rw [← hs]; exact sealP_lsn agq.2.1 n (by omega)
  have nx : numAt s 18 4 = x := by rw [← hs, sealP_num agq.2.1 _ (by omega) (by omega), ← hq]; exact setP_link hl x _ (by omega)
  have ny : numAt s 22 4 = y := by rw [← hs, sealP_num agq.2.1 _ (by omega) (by omega), ← hq]; exact setP_extra hl _ y (by omega)
  have tl : numAt t 4 8 = n := by rw [← ht, setP_lsn ags.2.1]; exact nl
  have tx : numAt t 18 4 = 0 := by rw [← ht]; exact setP_link ags.2.1 0 _ (by omega)
  have ty : numAt t 22 4 = 0 := by rw [← ht]; exact setP_extra ags.2.1 _ 0 (by omega)
  have chk : checkP s = 0 := by rw [← hs]; exact checkP_seal agq.2.1 oq gq n
  have HX := Aside0.mk hx
  have HQ := Aside0.mk (And.intro agq.2.1 (And.intro oq gq))
  have HS := Aside0.mk (And.intro ags.2.1 (And.intro os gs))
  have HT := Aside0.mk (And.intro agt.2.1 (And.intro ot gt))
  have Hq := Aside0.mk hq
  have Hs := Aside0.mk hs
  have Ht := Aside0.mk ht
  have HCK := Aside0.mk ck
  have HCE := Aside0.mk cce
  have HNs := Aside0.mk (And.intro nl (And.intro nx ny))
  have HNt := Aside0.mk (And.intro tl (And.intro tx ty))
  have HCH := Aside0.mk chk
  have HR := Aside0.mk hr
  have HO := Aside0.mk ho
  have HG := Aside0.mk hg
  have HL := Aside0.mk hl
  have HN0 := Aside0.mk h0.1
  clear hr ho hg hl hx hq hs ht ck cce nl nx ny tl tx ty chk oq os ot gq gs gt agq ags agt h0
  go_enter Try.func8, Try.ntmps8
  go_wp2_with fail
  refine (awake_x _).mono ?_
  rintro e w1 ⟨rfl, hb1⟩
  have HB1 := Aside0.mk hb1
  clear hb1
  go_wp2_with fail
  refine (set_good A c p x y _ (Kd.C_below HR.out HB1.out) hc HO.out HL.out HG.out HX.out).mono ?_
  rw [Hq.out]
  rintro e w2 ⟨g, rfl, hg1, hbk, hb2⟩
  have HB2 := Aside0.mk (below_step HB1.out hb2)
  have HBk := Aside0.mk hbk
  clear hbk hb2
  go_wp2_with fail
  refine (seal_good (some ⟨g, 0, none⟩) 512 q (n : Int) _ (blk_rb5 HBk.out HQ.out.1) (Nat.le_refl _) HQ.out.2.1 HQ.out.1 HQ.out.2.2 HN0.out).mono ?_
  rw [Hs.out]
  rintro e w3 ⟨g2, rfl, hg2, hbk, hb2⟩
  have HB3 := Aside0.mk (below_step HB2.out hb2)
  have HBs := Aside0.mk hbk
  clear hbk hb2
  go_wp2_with fail
  refine (headF_good A c p _ (Kd.C_below HR.out HB3.out) hc HO.out HL.out HG.out).mono ?_
  rintro e w4 ⟨rfl, hb⟩
  have HB4 := Aside0.mk (below_step HB3.out hb)
  have HBs4 := Aside0.mk (HBs.out.below hb)
  clear hb
  go_wp2_with fail
  refine (headF_good (some ⟨g2, 0, none⟩) 512 s _ (blk_rb5 HBs4.out HS.out.1) (Nat.le_refl _) HS.out.2.1 HS.out.1 HS.out.2.2).mono ?_
  rw [HNs.out.1, HNs.out.2.1, HNs.out.2.2, ← HCK.out]
  rintro e w5 ⟨rfl, hb⟩
  have HB5 := Aside0.mk (below_step HB4.out hb)
  have HBs5 := Aside0.mk (HBs4.out.below hb)
  clear hb
  go_wp2_with fail
  refine (cells_p A c p _ (Kd.C_below HR.out HB5.out) hc HO.out HL.out HG.out).mono ?_
  rintro e w6 ⟨A6, c6, rfl, hc6, hr6, hb⟩
  have HB6 := Aside0.mk (below_step HB5.out hb)
  have HBs6 := Aside0.mk (HBs5.out.below hb)
  have HR6 := Aside0.mk hr6
  clear hb hr6
  go_wp2_with fail
  refine (cells_p (some ⟨g2, 0, none⟩) 512 s _ (blk_rb5 HBs6.out HS.out.1) (Nat.le_refl _) HS.out.2.1 HS.out.1 HS.out.2.2).mono ?_
  rw [← HCE.out]
  rintro e w7 ⟨A7, c7, rfl, hc7, hr7, hb⟩
  have HB7 := Aside0.mk (below_step HB6.out hb)
  have HBs7 := Aside0.mk (HBs6.out.below hb)
  have HR67 := Aside0.mk (Kd.C_below HR6.out hb)
  have HR7 := Aside0.mk hr7
  clear hb hr7
  go_wp2_with fail
  refine (set_good (some ⟨g2, 0, none⟩) 512 s 0 0 _ (blk_rb5 HBs7.out HS.out.1) (Nat.le_refl _) HS.out.2.1 HS.out.1 HS.out.2.2 (by decide)).mono ?_
  rw [Ht.out]
  rintro e w8 ⟨g3, rfl, hg3, hbk, hb⟩
  have HB8 := Aside0.mk (below_step HB7.out hb)
  have HBs8 := Aside0.mk (HBs7.out.below hb)
  have HBt8 := Aside0.mk hbk
  have HR68 := Aside0.mk (Kd.C_below HR67.out hb)
  have HR78 := Aside0.mk (Kd.C_below HR7.out hb)
  clear hb hbk
  go_wp2_with fail
  refine (headF_good (some ⟨g3, 0, none⟩) 512 t _ (blk_rb5 HBt8.out HT.out.1) (Nat.le_refl _) HT.out.2.1 HT.out.1 HT.out.2.2).mono ?_
  rw [HNt.out.1, HNt.out.2.1, HNt.out.2.2]
  rintro e w9 ⟨rfl, hb⟩
  have HB9 := Aside0.mk (below_step HB8.out hb)
  have HBs9 := Aside0.mk (HBs8.out.below hb)
  have HR69 := Aside0.mk (Kd.C_below HR68.out hb)
  have HR79 := Aside0.mk (Kd.C_below HR78.out hb)
  clear hb
  go_wp2_with fail
  have hll := lists_x A6 A7 c6 c7 (cellsP p) (cellsP p) _ HR69.out HR79.out hc6 hc7 (octs_cells HO.out) (octs_cells HO.out)
  rw [decide_eq_true rfl] at hll
  refine hll.mono ?_
  rintro e wa ⟨rfl, hb⟩
  have HBa := Aside0.mk (below_step HB9.out hb)
  have HBsa := Aside0.mk (HBs9.out.below hb)
  clear hb hll
  go_wp2_with fail
  refine (checkF ⟨g2, 0, none⟩ 512 s _ (blk_rb5 HBsa.out HS.out.1) (Nat.le_refl _) HS.out.2.1 HS.out.1).mono ?_
  rw [HCH.out]
  rintro e wb ⟨rfl, hb⟩
  have HBb := Aside0.mk (below_step HBa.out hb)
  clear hb
  go_wp2
  go_ret
  exact ⟨rfl, HBb.out⟩
theorem heads_walk (a0 : Option Addr) (len0 cap0 : Nat) (z0 : List Int) (a1 a2 a3 : Int) (w : World) (w0 : (a0 = none ∧ len0 = 0 ∧ cap0 = 0 ∧ z0 = []) ∨ ∃ x, a0 = some x ∧ len0 ≤ cap0 ∧ cap0 ≤ maxLen ∧ z0.length = cap0 ∧ (∀ i, i < z0.length → w.cell? (x.add i) = some (.int .u8 (z0.getD i 0))) ∧ ∀ n ∈ z0, (Lit.int .u8 n).wf = true) (y0 : len0 * 1 ≤ 140737488351232) (w1 : (Lit.int .i64 a1).wf = true) (w2 : (Lit.int .i64 a2).wf = true) (w3 : (Lit.int .u64 a3).wf = true) :
    Calls Try.prog 8 #[.slice a0 len0 cap0, .int .i64 a1, .int .i64 a2, .int .u64 a3] w fun e w' => e = .returned (.bool true) ∧ Below w.heap.size w w' := by
  obtain ⟨l0, rfl, hr0, hm0, hw0, hc0⟩ := ReadsInt.ofRowC w0
  have hr := rb_of_reads hr0
  have ho := octs_wf hw0
  have h3 := wf_u64 w3
  have hl : l0.length ≤ 140737488351232 := by omega
  cases hg : goodP l0 with
  | false => exact heads_bad a0 cap0 l0 a1 a2 a3 w hr hc0 ho hl hg
  | true =>
    have hl5 := (good_facts hg).1
    by_cases hx : 0 ≤ a1 ∧ a1 ≤ 4294967295 ∧ 0 ≤ a2 ∧ a2 ≤ 4294967295
    · have h := heads_good a0 cap0 l0 a1 a2 a3 w (by rw [← hl5]; exact hr) (by omega) ho hl5 hg hx h3
      rw [← hl5] at h
      exact h
    · have h := heads_no a0 cap0 l0 a1 a2 a3 w (by rw [← hl5]; exact hr) (by omega) ho hl5 hg hx
      rw [← hl5] at h
      exact h
end Go.Proofs.Ytpogneedafoiaaa.Pg
