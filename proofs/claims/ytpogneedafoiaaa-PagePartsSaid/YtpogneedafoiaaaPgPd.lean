/- Contracts by hand: the walk of PageParts. -/
import Derived.Test.YtpogneedafoiaaaPgPb
namespace Go.Proofs.Ytpogneedafoiaaa.Pg
open Go.RowKit Go.Proofs.YtpogneedafoiaaaW.PrintWords Go.Proofs.YtpogneedafoiaaaW.PrintLast Go.Proofs.YtpogneedafoiaaaW.PrintMore Go.Proofs.Ytpogneedafoiaaa.Bw Go.Proofs.Ytpogneedafoiaaa.Crc Go.Proofs.Ytpogneedafoiaaa.Wordy
set_option linter.unusedVariables false
set_option linter.unusedSimpArgs false

set_option maxRecDepth 100000 in
set_option maxHeartbeats 16000000 in
theorem parts_no_ok_ok (A : Option Addr) (c : Nat) (p : List Int) (kind i link extra lsn : Int) (w : World) (hr : Kd.C (Kd.int .u8) w A 512 p) (hc : 512 ≤ c) (ho : octs p) (hl : p.length = 512) (hg : goodP p = true) (hk : ¬ (0 ≤ kind ∧ kind ≤ 255)) (hi : 0 ≤ i ∧ i < cnt p) (hlk : 0 ≤ link ∧ link ≤ 4294967295 ∧ 0 ≤ extra ∧ extra ≤ 4294967295) (hlsn : 0 ≤ lsn) :
    Calls Try.prog 9 #[.slice A 512 c, .int .i64 kind, .int .i64 i, .int .i64 link, .int .i64 extra, .int .u64 lsn] w fun e w' => e = .returned (.bool true) ∧ Below w.heap.size w w' := by
  have HR := Aside0.mk hr
  have HO := Aside0.mk ho
  have HG := Aside0.mk hg
  have hfq := newAns_fine kind
  have hkq := code_new kind
  obtain ⟨⟨q, eq⟩, hq⟩ : ∃ z, newAns kind = z := ⟨_, rfl⟩
  rw [hq] at hfq hkq
  have FQ := Aside0.mk (show octs q ∧ q.length ≤ 512 from hfq)
  have HQ := Aside0.mk hq
  have wq : IntKind.i64.wrap eq = eq := IntWalk.i64_in _ (by omega)
  have HKA := checkA_range p
  obtain ⟨ca, hca⟩ : ∃ x, checkA p = x := ⟨_, rfl⟩
  rw [hca] at HKA
  have wca : IntKind.i64.wrap ca = ca := IntWalk.i64_in _ (by omega)
  have HCA := Aside0.mk hca
  clear hfq hkq hq hca hr ho hg
  have HL := Aside0.mk hl
  have HW := Aside0.mk (good_iff.mp HG.out)
  have hn5 : 26 + 4 * cnt p ≤ 512 := by have := HW.out.slots; have := HW.out.low; omega
  have HN5 := Aside0.mk hn5
  have hfc := cellAns_fine HO.out i (p := p)
  obtain ⟨⟨cc, ec⟩, hcc⟩ : ∃ z, cellAns p i = z := ⟨_, rfl⟩
  rw [hcc] at hfc
  have FC := Aside0.mk (show octs cc ∧ cc.length ≤ 512 from hfc)
  have HCC := Aside0.mk hcc
  have hfz := setAns_fine HO.out link extra (p := p)
  have hkz := code_set p link extra
  obtain ⟨⟨z, ez⟩, hz⟩ : ∃ y, setAns p link extra = y := ⟨_, rfl⟩
  rw [hz] at hfz hkz
  have FZ := Aside0.mk (show octs z ∧ z.length ≤ 512 from hfz)
  have HZ := Aside0.mk hz
  have wz : IntKind.i64.wrap ez = ez := IntWalk.i64_in _ (by omega)
  clear hfc hcc hfz hkz hz hl hn5
  have h1 : eq = 1 ∧ q = [] := by
    have h : newAns kind = ([], 1) := by unfold newAns; rw [if_neg hk]
    rw [HQ.out] at h
    injection h with h1 h2
    exact ⟨h2, h1⟩
  obtain ⟨h1, h2⟩ := h1
  subst h1 h2
  have hk2 : kind < 0 ∨ 255 < kind := by omega
  have HK2 := Aside0.mk hk2
  clear hk hk2
  have HN0 := Aside0.mk hlsn
  obtain ⟨ad, rfl⟩ := rb_some HR.out (by decide)
  have hw12 : IntKind.i64.wrap (p[12]?.getD 0) = p[12]?.getD 0 := by
    have hx : p[12]?.getD 0 = p[12]'(by have := HL.out; omega) := by rw [List.getElem?_eq_getElem (by have := HL.out; omega)]; rfl
    have := HO.out _ (List.getElem_mem (l := p) (n := 12) (by have := HL.out; omega))
    rw [hx]
    exact IntWalk.i64_in _ (by omega)
  have k12 : p.getD 12 0 = p[12]?.getD 0 := List.getD_eq_getElem?_getD ..
  have g18 : numAt p 18 4 < 4294967296 := by have := numAt_lt p HO.out 18 4; simpa using this
  have g22 : numAt p 22 4 < 4294967296 := by have := numAt_lt p HO.out 22 4; simpa using this
  have hw18 : IntKind.i64.wrap ((numAt p 18 4 : Nat) : Int) = ((numAt p 18 4 : Nat) : Int) := IntWalk.i64_in _ (by omega)
  have hw22 : IntKind.i64.wrap ((numAt p 22 4 : Nat) : Int) = ((numAt p 22 4 : Nat) : Int) := IntWalk.i64_in _ (by omega)
  clear g18 g22 hlsn
  have q3 : decide (i < 0) = false := decide_eq_false (by omega)
  have q4 : decide ((cnt p : Int) ≤ i) = false := decide_eq_false (by omega)
  have hcx : cc = cellP p i.toNat ∧ ec = 0 := by
    have h : cellAns p i = (cellP p i.toNat, 0) := by unfold cellAns; rw [if_pos HG.out, if_pos hi]
    rw [HCC.out] at h
    injection h with h1 h2
    exact ⟨h1, h2⟩
  obtain ⟨hcx, hce0⟩ := hcx
  subst hce0
  have HRD := Aside0.mk (show Rf.rd_L2 (cellsP p) i = cc by
    unfold Rf.rd_L2 cellsP
    rw [List.getD_eq_getElem?_getD, List.getElem?_map, List.getElem?_range (by omega), hcx]
    rfl)
  have HCI := Aside0.mk (show 0 ≤ i ∧ i < ((cellsP p).length : Int) by rw [cellsP_length]; omega)
  clear hcx
  have l1 : decide (link < 0) = false := decide_eq_false (by omega)
  have l2 : decide (4294967296 ≤ link) = false := decide_eq_false (by omega)
  have l3 : decide (extra < 0) = false := decide_eq_false (by omega)
  have l4 : decide (4294967296 ≤ extra) = false := decide_eq_false (by omega)
  have HLK := Aside0.mk hlk
  have HTZ : Aside0 (decide (ez = 0 ∧ z = setP p link extra) = true) := ⟨by
    have h : setAns p link extra = (setP p link extra, 0) := by unfold setAns; rw [if_pos HG.out, if_pos hlk]
    rw [HZ.out] at h
    injection h with h1 h2
    rw [h1, h2]; simp⟩
  clear hi hlk
  go_enter Try.func9, Try.ntmps9
  go_wp2_with fail
  have h := new_ans kind w
  rw [HQ.out] at h
  refine h.mono ?_
  clear h
  rintro e w1 ⟨AQ, rfl, mq, hb⟩
  have HB1 := Aside0.mk hb
  have MQ := Aside0.mk mq
  clear hb mq
  go_wp2_with fail
  have h := countF_good (some ad) c p w1 (sR HR HB1) hc HO.out HL.out HG.out
  refine h.mono ?_
  clear h
  rintro e w2 ⟨rfl, hb⟩
  have HB2 := sB HB1 hb
  replace MQ := sM MQ hb
  clear hb  HB1
  go_wp2_with fail
  have h := freeF_good (some ad) c p w2 (sR HR HB2) hc HO.out HL.out HG.out HN5.out
  refine h.mono ?_
  clear h
  rintro e w3 ⟨rfl, hb⟩
  have HB3 := sB HB2 hb
  replace MQ := sM MQ hb
  clear hb  HB2
  go_wp2_with fail
  have h := cell_ans (some ad) c p w3 (sL HL HR HB3) (sH HL hc) HO.out (sN HL) i
  rw [HL.out, HCC.out] at h
  refine h.mono ?_
  clear h
  rintro e w4 ⟨AC, rfl, mc, hb⟩
  have HB4 := sB HB3 hb
  replace MQ := sM MQ hb
  have MC := Aside0.mk mc
  clear hb mc HB3
  go_wp2_with fail
  have h := cells_p (some ad) c p w4 (sR HR HB4) hc HO.out HL.out HG.out
  refine h.mono ?_
  clear h
  rintro e w5 ⟨AL, cl, rfl, hcl, hrl, hb⟩
  have HB5 := sB HB4 hb
  replace MQ := sM MQ hb
  replace MC := sM MC hb
  have CL := Aside0.mk hrl
  clear hb hrl HB4
  have HCL := Aside0.mk hcl
  clear hcl
  go_wp2_with fail
  have h := awake_x w5
  refine h.mono ?_
  clear h
  rintro e w6 ⟨rfl, hb⟩
  have HB6 := sB HB5 hb
  replace CL := sC CL hb
  replace MQ := sM MQ hb
  replace MC := sM MC hb
  clear hb  HB5
  go_wp2_with fail
  have h := check_any (some ad) c p w6 (sL HL HR HB6) (sH HL hc) HO.out (sN HL)
  rw [HL.out, HCA.out] at h
  refine h.mono ?_
  clear h
  rintro e w7 ⟨rfl, hb⟩
  have HB7 := sB HB6 hb
  replace CL := sC CL hb
  replace MQ := sM MQ hb
  replace MC := sM MC hb
  clear hb  HB6
  go_wp2_with fail
  have h := rcheck_calls (some ad) c p w7 (sL HL HR HB7) (sH HL hc) HO.out (sN HL)
  rw [HL.out, HCA.out] at h
  refine h.mono ?_
  clear h
  rintro e w8 ⟨rfl, hb⟩
  have HB8 := sB HB7 hb
  replace CL := sC CL hb
  replace MQ := sM MQ hb
  replace MC := sM MC hb
  clear hb  HB7
  go_wp2_with fail
  have h := good_calls (some ad) c p w8 (sL HL HR HB8) (sH HL hc) HO.out (sN HL)
  rw [HL.out, HG.out] at h
  refine h.mono ?_
  clear h
  rintro e w9 ⟨rfl, hb⟩
  have HB9 := sB HB8 hb
  replace CL := sC CL hb
  replace MQ := sM MQ hb
  replace MC := sM MC hb
  clear hb  HB8
  go_wp2_with fail
  have h := rgood_calls (some ad) c p w9 (sL HL HR HB9) (sH HL hc) HO.out (sN HL)
  rw [HL.out, HG.out] at h
  refine h.mono ?_
  clear h
  rintro e w10 ⟨rfl, hb⟩
  have HB10 := sB HB9 hb
  replace CL := sC CL hb
  replace MQ := sM MQ hb
  replace MC := sM MC hb
  clear hb  HB9
  rcases HK2.out with hk3 | hk3
  · have q1 : decide (kind < 0) = true := decide_eq_true hk3
    clear hk3
    go_wp2_with fail
    have h := compact_good (some ad) c p w10 (sR HR HB10) hc HO.out HL.out HG.out (fits_of_good HG.out)
    refine h.mono ?_
    clear h
    rintro e w11 ⟨gx, rfl, hgx, hbx, hb⟩
    have HB11 := sB HB10 hb
    replace CL := sC CL hb
    replace MC := sM MC hb
    have HX := Aside0.mk hbx
    clear hb hbx HB10
    go_wp2_with fail
    have h := seal_good (some ad) c p lsn w11 (sR HR HB11) hc HO.out HL.out HG.out HN0.out
    refine h.mono ?_
    clear h
    rintro e w12 ⟨gy, rfl, hgy, hby, hb⟩
    have HB12 := sB HB11 hb
    replace CL := sC CL hb
    replace MC := sM MC hb
    replace HX := sK HX hb
    have HY := Aside0.mk hby
    clear hb hby HB11
    go_wp2_with fail
    have h := set_ans (some ad) c p w12 (sL HL HR HB12) (sH HL hc) HO.out (sN HL) link extra
    rw [HL.out, HZ.out] at h
    refine h.mono ?_
    clear h
    rintro e w13 ⟨AZ, rfl, mz, hb⟩
    have HB13 := sB HB12 hb
    replace CL := sC CL hb
    replace MC := sM MC hb
    replace HX := sK HX hb
    replace HY := sK HY hb
    have MZ := Aside0.mk mz
    clear hb mz HB12
    go_wp2_with fail
    have h := headF_good (some ad) c p w13 (sR HR HB13) hc HO.out HL.out HG.out
    refine h.mono ?_
    clear h
    rintro e w14 ⟨rfl, hb⟩
    have HB14 := sB HB13 hb
    replace CL := sC CL hb
    replace MC := sM MC hb
    replace HX := sK HX hb
    replace HY := sK HY hb
    replace MZ := sM MZ hb
    clear hb  HB13
    go_wp2_with fail
    have h := rgood_calls (some ad) c p w14 (sL HL HR HB14) (sH HL hc) HO.out (sN HL)
    rw [HL.out, HG.out] at h
    refine h.mono ?_
    clear h
    rintro e w15 ⟨rfl, hb⟩
    have HB15 := sB HB14 hb
    replace CL := sC CL hb
    replace MC := sM MC hb
    replace HX := sK HX hb
    replace HY := sK HY hb
    replace MZ := sM MZ hb
    clear hb  HB14
    go_wp2_with fail
    have h := rcount_calls (some ad) c p w15 (sL HL HR HB15) (sH HL hc) HO.out HL.out
    rw [HL.out] at h
    refine h.mono ?_
    clear h
    rintro e w16 ⟨rfl, hb⟩
    have HB16 := sB HB15 hb
    replace CL := sC CL hb
    replace MC := sM MC hb
    replace HX := sK HX hb
    replace HY := sK HY hb
    replace MZ := sM MZ hb
    clear hb  HB15
    go_wp2_with fail
    have h := rfree_calls (some ad) c p w16 (sL HL HR HB16) (sH HL hc) HO.out HG.out
    rw [HL.out] at h
    refine h.mono ?_
    clear h
    rintro e w17 ⟨rfl, hb⟩
    have HB17 := sB HB16 hb
    replace CL := sC CL hb
    replace MC := sM MC hb
    replace HX := sK HX hb
    replace HY := sK HY hb
    replace MZ := sM MZ hb
    clear hb  HB16
    go_wp2_with fail
    have h := rcells_calls (some ad) c p w17 (sL HL HR HB17) (sH HL hc) HO.out HG.out
    rw [HL.out] at h
    refine h.mono ?_
    clear h
    rintro e w18 ⟨AE, ce, rfl, hce, hre, hb⟩
    have HB18 := sB HB17 hb
    replace CL := sC CL hb
    replace MC := sM MC hb
    replace HX := sK HX hb
    replace HY := sK HY hb
    replace MZ := sM MZ hb
    have CE := Aside0.mk hre
    clear hb hre HB17
    have HCE := Aside0.mk hce
    clear hce
    go_wp2_with fail
    have h := lists_x AL AE cl ce (cellsP p) (cellsP p) w18 CL.out CE.out HCL.out HCE.out (octs_cells HO.out) (octs_cells HO.out)
    rw [decide_eq_true rfl] at h
    refine h.mono ?_
    clear h
    rintro e w19 ⟨rfl, hb⟩
    have HB19 := sB HB18 hb
    replace CL := sC CL hb
    replace CE := sC CE hb
    replace MC := sM MC hb
    replace HX := sK HX hb
    replace HY := sK HY hb
    replace MZ := sM MZ hb
    clear hb  HB18
    obtain ⟨ad1, A1, c1, e1, hx1, hl1, hr1⟩ := Rf.at_L2 CL.out i HCI.out.1 HCI.out.2
    subst e1
    rw [HRD.out] at hx1 hl1 hr1
    have hcv1 : ∀ n, (convert 22 9 (.slice A1 cc.length c1)).run Try.prog (w19.drewN n) = .ok (.string (strOfNums cc)) (w19.drewN n) := fun n => Kd.C_string (P := Try.prog) (A := A1) (c := c1) Try.underlying22 Try.underlying5 Try.underlying9 (Kd.C_drewN hr1 n)
    have hcv2 : ∀ n, (convert 22 9 (.slice AC cc.length cc.length)).run Try.prog (w19.drewN n) = .ok (.string (strOfNums cc)) (w19.drewN n) := fun n => Kd.C_string (P := Try.prog) (A := AC) (c := cc.length) Try.underlying22 Try.underlying5 Try.underlying9 (Kd.C_drewN (MC.out.reads (by have := FC.out.2; omega)) n)
    have pi0 := eq_true HCI.out.1
    have pi1 := eq_true HCI.out.2
    go_wp2
    go_quiet (fail)
    clear pi0 pi1 hcv1 hcv2 hx1 hl1 hr1
    obtain ⟨w20, hw⟩ : ∃ W, w19.drewN nq = W := ⟨_, rfl⟩
    have HB20 := Aside0.mk (show Below w.heap.size w w20 from hw ▸ pw_below_drewN HB19.out nq)
    have hbq := show Below w19.heap.size w19 w20 from hw ▸ pw_below_drewN (Below.refl _ _) nq
    replace HX := sK HX hbq
    replace HY := sK HY hbq
    replace MZ := sM MZ hbq
    rw [hw]
    clear hw hbq HB19
    go_wp2_with fail
    have h := rset_calls (some ad) c p w20 (sL HL HR HB20) (sH HL hc) HG.out link extra HLK.out
    rw [HL.out] at h
    refine h.mono ?_
    clear h
    rintro e w21 ⟨vx, rfl, AS, cs, rfl, hcs, hrs, hb⟩
    have HB21 := sB HB20 hb
    replace HX := sK HX hb
    replace HY := sK HY hb
    replace MZ := sM MZ hb
    have CS := Aside0.mk hrs
    clear hb hrs HB20
    have HCS := Aside0.mk hcs
    clear hcs
    go_wp2_with fail
    have h := told_any AZ AS z.length cs z (setP p link extra) ez 0 w21 (MZ.out.reads (by have := FZ.out.2; omega)) (Nat.le_refl _) CS.out HCS.out FZ.out.1 (setP_octs HO.out _ _)
    rw [HTZ.out] at h
    refine h.mono ?_
    clear h
    rintro e w22 ⟨rfl, hb⟩
    have HB22 := sB HB21 hb
    replace CS := sC CS hb
    replace HX := sK HX hb
    replace HY := sK HY hb
    replace MZ := sM MZ hb
    clear hb  HB21
    go_wp2_with fail
    have h := rcompact_calls (some ad) c p w22 (sL HL HR HB22) (sH HL hc) HO.out HG.out
    rw [HL.out] at h
    refine h.mono ?_
    clear h
    rintro e w23 ⟨vx, rfl, AX, cx, rfl, hcx, hrx, hb⟩
    have HB23 := sB HB22 hb
    replace HX := sK HX hb
    replace HY := sK HY hb
    have CX := Aside0.mk hrx
    clear hb hrx HB22
    have HCX := Aside0.mk hcx
    clear hcx
    go_wp2_with fail
    rw [anew_length HL.out (fits_of_good HG.out)]
    have h := told_any (some ⟨gx, 0, none⟩) AX 512 cx (anewP p) (anewP p) 0 0 w23 (by rw [anew_length HL.out (fits_of_good HG.out)]; exact blk_rb5 HX.out (anew_length HL.out (fits_of_good HG.out))) (by rw [anew_length HL.out (fits_of_good HG.out)]; exact Nat.le_refl _) CX.out HCX.out (anew_octs HO.out) (anew_octs HO.out)
    rw [decide_eq_true (And.intro rfl rfl), anew_length HL.out (fits_of_good HG.out)] at h
    refine h.mono ?_
    clear h
    rintro e w24 ⟨rfl, hb⟩
    have HB24 := sB HB23 hb
    replace CX := sC CX hb
    replace HX := sK HX hb
    replace HY := sK HY hb
    clear hb  HB23
    go_wp2_with fail
    have h := rseal_calls (some ad) c p w24 (sL HL HR HB24) (sH HL hc) HO.out HG.out lsn HN0.out
    rw [HL.out] at h
    refine h.mono ?_
    clear h
    rintro e w25 ⟨vx, rfl, AY, cy, rfl, hcy, hry, hb⟩
    have HB25 := sB HB24 hb
    replace HY := sK HY hb
    have CY := Aside0.mk hry
    clear hb hry HB24
    have HCY := Aside0.mk hcy
    clear hcy
    go_wp2_with fail
    rw [sealP_len HL.out]
    have h := told_any (some ⟨gy, 0, none⟩) AY 512 cy (sealP p lsn) (sealP p lsn) 0 0 w25 (by rw [sealP_len HL.out]; exact blk_rb5 HY.out (sealP_len HL.out lsn)) (by rw [sealP_len HL.out]; exact Nat.le_refl _) CY.out HCY.out (sealP_octs HO.out lsn) (sealP_octs HO.out lsn)
    rw [decide_eq_true (And.intro rfl rfl), sealP_len HL.out] at h
    refine h.mono ?_
    clear h
    rintro e w26 ⟨rfl, hb⟩
    have HB26 := sB HB25 hb
    replace CY := sC CY hb
    replace HY := sK HY hb
    clear hb  HB25
    have hc12 := cellK (Kd.C_below HR.out HB26.out) 11 (by decide)
    rw [show 11 + 1 = 12 from rfl, List.getD_eq_getElem?_getD] at hc12
    go_wp2_with fail
    have h := rget_calls (some ad) c p w26 (sL HL HR HB26) (sH HL hc) HO.out HG.out 4 8 4 8 rfl rfl (by decide) (by decide)
    rw [HL.out] at h
    refine h.mono ?_
    clear h
    rintro e w27 ⟨rfl, hb⟩
    have HB27 := sB HB26 hb
    clear hb  HB26
    go_wp2_with fail
    have h := rget_calls (some ad) c p w27 (sL HL HR HB27) (sH HL hc) HO.out HG.out 18 4 18 4 rfl rfl (by decide) (by decide)
    rw [HL.out] at h
    refine h.mono ?_
    clear h
    rintro e w28 ⟨rfl, hb⟩
    have HB28 := sB HB27 hb
    clear hb  HB27
    go_wp2_with fail
    have h := rget_calls (some ad) c p w28 (sL HL HR HB28) (sH HL hc) HO.out HG.out 22 4 22 4 rfl rfl (by decide) (by decide)
    rw [HL.out] at h
    refine h.mono ?_
    clear h
    rintro e w29 ⟨rfl, hb⟩
    have HB29 := sB HB28 hb
    clear hb  HB28
    go_wp2
    go_ret
    exact ⟨rfl, HB29.out⟩
  · have q1 : decide (kind < 0) = false := decide_eq_false (by omega)
    have q2 : decide (255 < kind) = true := decide_eq_true hk3
    clear hk3
    go_wp2_with fail
    have h := compact_good (some ad) c p w10 (sR HR HB10) hc HO.out HL.out HG.out (fits_of_good HG.out)
    refine h.mono ?_
    clear h
    rintro e w11 ⟨gx, rfl, hgx, hbx, hb⟩
    have HB11 := sB HB10 hb
    replace CL := sC CL hb
    replace MC := sM MC hb
    have HX := Aside0.mk hbx
    clear hb hbx HB10
    go_wp2_with fail
    have h := seal_good (some ad) c p lsn w11 (sR HR HB11) hc HO.out HL.out HG.out HN0.out
    refine h.mono ?_
    clear h
    rintro e w12 ⟨gy, rfl, hgy, hby, hb⟩
    have HB12 := sB HB11 hb
    replace CL := sC CL hb
    replace MC := sM MC hb
    replace HX := sK HX hb
    have HY := Aside0.mk hby
    clear hb hby HB11
    go_wp2_with fail
    have h := set_ans (some ad) c p w12 (sL HL HR HB12) (sH HL hc) HO.out (sN HL) link extra
    rw [HL.out, HZ.out] at h
    refine h.mono ?_
    clear h
    rintro e w13 ⟨AZ, rfl, mz, hb⟩
    have HB13 := sB HB12 hb
    replace CL := sC CL hb
    replace MC := sM MC hb
    replace HX := sK HX hb
    replace HY := sK HY hb
    have MZ := Aside0.mk mz
    clear hb mz HB12
    go_wp2_with fail
    have h := headF_good (some ad) c p w13 (sR HR HB13) hc HO.out HL.out HG.out
    refine h.mono ?_
    clear h
    rintro e w14 ⟨rfl, hb⟩
    have HB14 := sB HB13 hb
    replace CL := sC CL hb
    replace MC := sM MC hb
    replace HX := sK HX hb
    replace HY := sK HY hb
    replace MZ := sM MZ hb
    clear hb  HB13
    go_wp2_with fail
    have h := rgood_calls (some ad) c p w14 (sL HL HR HB14) (sH HL hc) HO.out (sN HL)
    rw [HL.out, HG.out] at h
    refine h.mono ?_
    clear h
    rintro e w15 ⟨rfl, hb⟩
    have HB15 := sB HB14 hb
    replace CL := sC CL hb
    replace MC := sM MC hb
    replace HX := sK HX hb
    replace HY := sK HY hb
    replace MZ := sM MZ hb
    clear hb  HB14
    go_wp2_with fail
    have h := rcount_calls (some ad) c p w15 (sL HL HR HB15) (sH HL hc) HO.out HL.out
    rw [HL.out] at h
    refine h.mono ?_
    clear h
    rintro e w16 ⟨rfl, hb⟩
    have HB16 := sB HB15 hb
    replace CL := sC CL hb
    replace MC := sM MC hb
    replace HX := sK HX hb
    replace HY := sK HY hb
    replace MZ := sM MZ hb
    clear hb  HB15
    go_wp2_with fail
    have h := rfree_calls (some ad) c p w16 (sL HL HR HB16) (sH HL hc) HO.out HG.out
    rw [HL.out] at h
    refine h.mono ?_
    clear h
    rintro e w17 ⟨rfl, hb⟩
    have HB17 := sB HB16 hb
    replace CL := sC CL hb
    replace MC := sM MC hb
    replace HX := sK HX hb
    replace HY := sK HY hb
    replace MZ := sM MZ hb
    clear hb  HB16
    go_wp2_with fail
    have h := rcells_calls (some ad) c p w17 (sL HL HR HB17) (sH HL hc) HO.out HG.out
    rw [HL.out] at h
    refine h.mono ?_
    clear h
    rintro e w18 ⟨AE, ce, rfl, hce, hre, hb⟩
    have HB18 := sB HB17 hb
    replace CL := sC CL hb
    replace MC := sM MC hb
    replace HX := sK HX hb
    replace HY := sK HY hb
    replace MZ := sM MZ hb
    have CE := Aside0.mk hre
    clear hb hre HB17
    have HCE := Aside0.mk hce
    clear hce
    go_wp2_with fail
    have h := lists_x AL AE cl ce (cellsP p) (cellsP p) w18 CL.out CE.out HCL.out HCE.out (octs_cells HO.out) (octs_cells HO.out)
    rw [decide_eq_true rfl] at h
    refine h.mono ?_
    clear h
    rintro e w19 ⟨rfl, hb⟩
    have HB19 := sB HB18 hb
    replace CL := sC CL hb
    replace CE := sC CE hb
    replace MC := sM MC hb
    replace HX := sK HX hb
    replace HY := sK HY hb
    replace MZ := sM MZ hb
    clear hb  HB18
    obtain ⟨ad1, A1, c1, e1, hx1, hl1, hr1⟩ := Rf.at_L2 CL.out i HCI.out.1 HCI.out.2
    subst e1
    rw [HRD.out] at hx1 hl1 hr1
    have hcv1 : ∀ n, (convert 22 9 (.slice A1 cc.length c1)).run Try.prog (w19.drewN n) = .ok (.string (strOfNums cc)) (w19.drewN n) := fun n => Kd.C_string (P := Try.prog) (A := A1) (c := c1) Try.underlying22 Try.underlying5 Try.underlying9 (Kd.C_drewN hr1 n)
    have hcv2 : ∀ n, (convert 22 9 (.slice AC cc.length cc.length)).run Try.prog (w19.drewN n) = .ok (.string (strOfNums cc)) (w19.drewN n) := fun n => Kd.C_string (P := Try.prog) (A := AC) (c := cc.length) Try.underlying22 Try.underlying5 Try.underlying9 (Kd.C_drewN (MC.out.reads (by have := FC.out.2; omega)) n)
    have pi0 := eq_true HCI.out.1
    have pi1 := eq_true HCI.out.2
    go_wp2
    go_quiet (fail)
    clear pi0 pi1 hcv1 hcv2 hx1 hl1 hr1
    obtain ⟨w20, hw⟩ : ∃ W, w19.drewN nq = W := ⟨_, rfl⟩
    have HB20 := Aside0.mk (show Below w.heap.size w w20 from hw ▸ pw_below_drewN HB19.out nq)
    have hbq := show Below w19.heap.size w19 w20 from hw ▸ pw_below_drewN (Below.refl _ _) nq
    replace HX := sK HX hbq
    replace HY := sK HY hbq
    replace MZ := sM MZ hbq
    rw [hw]
    clear hw hbq HB19
    go_wp2_with fail
    have h := rset_calls (some ad) c p w20 (sL HL HR HB20) (sH HL hc) HG.out link extra HLK.out
    rw [HL.out] at h
    refine h.mono ?_
    clear h
    rintro e w21 ⟨vx, rfl, AS, cs, rfl, hcs, hrs, hb⟩
    have HB21 := sB HB20 hb
    replace HX := sK HX hb
    replace HY := sK HY hb
    replace MZ := sM MZ hb
    have CS := Aside0.mk hrs
    clear hb hrs HB20
    have HCS := Aside0.mk hcs
    clear hcs
    go_wp2_with fail
    have h := told_any AZ AS z.length cs z (setP p link extra) ez 0 w21 (MZ.out.reads (by have := FZ.out.2; omega)) (Nat.le_refl _) CS.out HCS.out FZ.out.1 (setP_octs HO.out _ _)
    rw [HTZ.out] at h
    refine h.mono ?_
    clear h
    rintro e w22 ⟨rfl, hb⟩
    have HB22 := sB HB21 hb
    replace CS := sC CS hb
    replace HX := sK HX hb
    replace HY := sK HY hb
    replace MZ := sM MZ hb
    clear hb  HB21
    go_wp2_with fail
    have h := rcompact_calls (some ad) c p w22 (sL HL HR HB22) (sH HL hc) HO.out HG.out
    rw [HL.out] at h
    refine h.mono ?_
    clear h
    rintro e w23 ⟨vx, rfl, AX, cx, rfl, hcx, hrx, hb⟩
    have HB23 := sB HB22 hb
    replace HX := sK HX hb
    replace HY := sK HY hb
    have CX := Aside0.mk hrx
    clear hb hrx HB22
    have HCX := Aside0.mk hcx
    clear hcx
    go_wp2_with fail
    rw [anew_length HL.out (fits_of_good HG.out)]
    have h := told_any (some ⟨gx, 0, none⟩) AX 512 cx (anewP p) (anewP p) 0 0 w23 (by rw [anew_length HL.out (fits_of_good HG.out)]; exact blk_rb5 HX.out (anew_length HL.out (fits_of_good HG.out))) (by rw [anew_length HL.out (fits_of_good HG.out)]; exact Nat.le_refl _) CX.out HCX.out (anew_octs HO.out) (anew_octs HO.out)
    rw [decide_eq_true (And.intro rfl rfl), anew_length HL.out (fits_of_good HG.out)] at h
    refine h.mono ?_
    clear h
    rintro e w24 ⟨rfl, hb⟩
    have HB24 := sB HB23 hb
    replace CX := sC CX hb
    replace HX := sK HX hb
    replace HY := sK HY hb
    clear hb  HB23
    go_wp2_with fail
    have h := rseal_calls (some ad) c p w24 (sL HL HR HB24) (sH HL hc) HO.out HG.out lsn HN0.out
    rw [HL.out] at h
    refine h.mono ?_
    clear h
    rintro e w25 ⟨vx, rfl, AY, cy, rfl, hcy, hry, hb⟩
    have HB25 := sB HB24 hb
    replace HY := sK HY hb
    have CY := Aside0.mk hry
    clear hb hry HB24
    have HCY := Aside0.mk hcy
    clear hcy
    go_wp2_with fail
    rw [sealP_len HL.out]
    have h := told_any (some ⟨gy, 0, none⟩) AY 512 cy (sealP p lsn) (sealP p lsn) 0 0 w25 (by rw [sealP_len HL.out]; exact blk_rb5 HY.out (sealP_len HL.out lsn)) (by rw [sealP_len HL.out]; exact Nat.le_refl _) CY.out HCY.out (sealP_octs HO.out lsn) (sealP_octs HO.out lsn)
    rw [decide_eq_true (And.intro rfl rfl), sealP_len HL.out] at h
    refine h.mono ?_
    clear h
    rintro e w26 ⟨rfl, hb⟩
    have HB26 := sB HB25 hb
    replace CY := sC CY hb
    replace HY := sK HY hb
    clear hb  HB25
    have hc12 := cellK (Kd.C_below HR.out HB26.out) 11 (by decide)
    rw [show 11 + 1 = 12 from rfl, List.getD_eq_getElem?_getD] at hc12
    go_wp2_with fail
    have h := rget_calls (some ad) c p w26 (sL HL HR HB26) (sH HL hc) HO.out HG.out 4 8 4 8 rfl rfl (by decide) (by decide)
    rw [HL.out] at h
    refine h.mono ?_
    clear h
    rintro e w27 ⟨rfl, hb⟩
    have HB27 := sB HB26 hb
    clear hb  HB26
    go_wp2_with fail
    have h := rget_calls (some ad) c p w27 (sL HL HR HB27) (sH HL hc) HO.out HG.out 18 4 18 4 rfl rfl (by decide) (by decide)
    rw [HL.out] at h
    refine h.mono ?_
    clear h
    rintro e w28 ⟨rfl, hb⟩
    have HB28 := sB HB27 hb
    clear hb  HB27
    go_wp2_with fail
    have h := rget_calls (some ad) c p w28 (sL HL HR HB28) (sH HL hc) HO.out HG.out 22 4 22 4 rfl rfl (by decide) (by decide)
    rw [HL.out] at h
    refine h.mono ?_
    clear h
    rintro e w29 ⟨rfl, hb⟩
    have HB29 := sB HB28 hb
    clear hb  HB28
    go_wp2
    go_ret
    exact ⟨rfl, HB29.out⟩
set_option maxRecDepth 100000 in
set_option maxHeartbeats 16000000 in
theorem parts_no_ok_no (A : Option Addr) (c : Nat) (p : List Int) (kind i link extra lsn : Int) (w : World) (hr : Kd.C (Kd.int .u8) w A 512 p) (hc : 512 ≤ c) (ho : octs p) (hl : p.length = 512) (hg : goodP p = true) (hk : ¬ (0 ≤ kind ∧ kind ≤ 255)) (hi : 0 ≤ i ∧ i < cnt p) (hlk : ¬ (0 ≤ link ∧ link ≤ 4294967295 ∧ 0 ≤ extra ∧ extra ≤ 4294967295)) (hlsn : 0 ≤ lsn) :
    Calls Try.prog 9 #[.slice A 512 c, .int .i64 kind, .int .i64 i, .int .i64 link, .int .i64 extra, .int .u64 lsn] w fun e w' => e = .returned (.bool true) ∧ Below w.heap.size w w' := by
  have HR := Aside0.mk hr
  have HO := Aside0.mk ho
  have HG := Aside0.mk hg
  have hfq := newAns_fine kind
  have hkq := code_new kind
  obtain ⟨⟨q, eq⟩, hq⟩ : ∃ z, newAns kind = z := ⟨_, rfl⟩
  rw [hq] at hfq hkq
  have FQ := Aside0.mk (show octs q ∧ q.length ≤ 512 from hfq)
  have HQ := Aside0.mk hq
  have wq : IntKind.i64.wrap eq = eq := IntWalk.i64_in _ (by omega)
  have HKA := checkA_range p
  obtain ⟨ca, hca⟩ : ∃ x, checkA p = x := ⟨_, rfl⟩
  rw [hca] at HKA
  have wca : IntKind.i64.wrap ca = ca := IntWalk.i64_in _ (by omega)
  have HCA := Aside0.mk hca
  clear hfq hkq hq hca hr ho hg
  have HL := Aside0.mk hl
  have HW := Aside0.mk (good_iff.mp HG.out)
  have hn5 : 26 + 4 * cnt p ≤ 512 := by have := HW.out.slots; have := HW.out.low; omega
  have HN5 := Aside0.mk hn5
  have hfc := cellAns_fine HO.out i (p := p)
  obtain ⟨⟨cc, ec⟩, hcc⟩ : ∃ z, cellAns p i = z := ⟨_, rfl⟩
  rw [hcc] at hfc
  have FC := Aside0.mk (show octs cc ∧ cc.length ≤ 512 from hfc)
  have HCC := Aside0.mk hcc
  have hfz := setAns_fine HO.out link extra (p := p)
  have hkz := code_set p link extra
  obtain ⟨⟨z, ez⟩, hz⟩ : ∃ y, setAns p link extra = y := ⟨_, rfl⟩
  rw [hz] at hfz hkz
  have FZ := Aside0.mk (show octs z ∧ z.length ≤ 512 from hfz)
  have HZ := Aside0.mk hz
  have wz : IntKind.i64.wrap ez = ez := IntWalk.i64_in _ (by omega)
  clear hfc hcc hfz hkz hz hl hn5
  have h1 : eq = 1 ∧ q = [] := by
    have h : newAns kind = ([], 1) := by unfold newAns; rw [if_neg hk]
    rw [HQ.out] at h
    injection h with h1 h2
    exact ⟨h2, h1⟩
  obtain ⟨h1, h2⟩ := h1
  subst h1 h2
  have hk2 : kind < 0 ∨ 255 < kind := by omega
  have HK2 := Aside0.mk hk2
  clear hk hk2
  have HN0 := Aside0.mk hlsn
  obtain ⟨ad, rfl⟩ := rb_some HR.out (by decide)
  have hw12 : IntKind.i64.wrap (p[12]?.getD 0) = p[12]?.getD 0 := by
    have hx : p[12]?.getD 0 = p[12]'(by have := HL.out; omega) := by rw [List.getElem?_eq_getElem (by have := HL.out; omega)]; rfl
    have := HO.out _ (List.getElem_mem (l := p) (n := 12) (by have := HL.out; omega))
    rw [hx]
    exact IntWalk.i64_in _ (by omega)
  have k12 : p.getD 12 0 = p[12]?.getD 0 := List.getD_eq_getElem?_getD ..
  have g18 : numAt p 18 4 < 4294967296 := by have := numAt_lt p HO.out 18 4; simpa using this
  have g22 : numAt p 22 4 < 4294967296 := by have := numAt_lt p HO.out 22 4; simpa using this
  have hw18 : IntKind.i64.wrap ((numAt p 18 4 : Nat) : Int) = ((numAt p 18 4 : Nat) : Int) := IntWalk.i64_in _ (by omega)
  have hw22 : IntKind.i64.wrap ((numAt p 22 4 : Nat) : Int) = ((numAt p 22 4 : Nat) : Int) := IntWalk.i64_in _ (by omega)
  clear g18 g22 hlsn
  have q3 : decide (i < 0) = false := decide_eq_false (by omega)
  have q4 : decide ((cnt p : Int) ≤ i) = false := decide_eq_false (by omega)
  have hcx : cc = cellP p i.toNat ∧ ec = 0 := by
    have h : cellAns p i = (cellP p i.toNat, 0) := by unfold cellAns; rw [if_pos HG.out, if_pos hi]
    rw [HCC.out] at h
    injection h with h1 h2
    exact ⟨h1, h2⟩
  obtain ⟨hcx, hce0⟩ := hcx
  subst hce0
  have HRD := Aside0.mk (show Rf.rd_L2 (cellsP p) i = cc by
    unfold Rf.rd_L2 cellsP
    rw [List.getD_eq_getElem?_getD, List.getElem?_map, List.getElem?_range (by omega), hcx]
    rfl)
  have HCI := Aside0.mk (show 0 ≤ i ∧ i < ((cellsP p).length : Int) by rw [cellsP_length]; omega)
  clear hcx
  have HTZ : Aside0 (decide (ez = 1 ∧ z = []) = true) := ⟨by
    have h : setAns p link extra = ([], 1) := by unfold setAns; rw [if_pos HG.out, if_neg hlk]
    rw [HZ.out] at h
    injection h with h1 h2
    rw [h1, h2]; simp⟩
  have HLN := Aside0.mk (show link < 0 ∨ 4294967296 ≤ link ∨ 0 ≤ link ∧ link < 4294967296 ∧ extra < 0 ∨ 0 ≤ link ∧ link < 4294967296 ∧ 0 ≤ extra ∧ 4294967296 ≤ extra by omega)
  clear hi hlk
  go_enter Try.func9, Try.ntmps9
  go_wp2_with fail
  have h := new_ans kind w
  rw [HQ.out] at h
  refine h.mono ?_
  clear h
  rintro e w1 ⟨AQ, rfl, mq, hb⟩
  have HB1 := Aside0.mk hb
  have MQ := Aside0.mk mq
  clear hb mq
  go_wp2_with fail
  have h := countF_good (some ad) c p w1 (sR HR HB1) hc HO.out HL.out HG.out
  refine h.mono ?_
  clear h
  rintro e w2 ⟨rfl, hb⟩
  have HB2 := sB HB1 hb
  replace MQ := sM MQ hb
  clear hb  HB1
  go_wp2_with fail
  have h := freeF_good (some ad) c p w2 (sR HR HB2) hc HO.out HL.out HG.out HN5.out
  refine h.mono ?_
  clear h
  rintro e w3 ⟨rfl, hb⟩
  have HB3 := sB HB2 hb
  replace MQ := sM MQ hb
  clear hb  HB2
  go_wp2_with fail
  have h := cell_ans (some ad) c p w3 (sL HL HR HB3) (sH HL hc) HO.out (sN HL) i
  rw [HL.out, HCC.out] at h
  refine h.mono ?_
  clear h
  rintro e w4 ⟨AC, rfl, mc, hb⟩
  have HB4 := sB HB3 hb
  replace MQ := sM MQ hb
  have MC := Aside0.mk mc
  clear hb mc HB3
  go_wp2_with fail
  have h := cells_p (some ad) c p w4 (sR HR HB4) hc HO.out HL.out HG.out
  refine h.mono ?_
  clear h
  rintro e w5 ⟨AL, cl, rfl, hcl, hrl, hb⟩
  have HB5 := sB HB4 hb
  replace MQ := sM MQ hb
  replace MC := sM MC hb
  have CL := Aside0.mk hrl
  clear hb hrl HB4
  have HCL := Aside0.mk hcl
  clear hcl
  go_wp2_with fail
  have h := awake_x w5
  refine h.mono ?_
  clear h
  rintro e w6 ⟨rfl, hb⟩
  have HB6 := sB HB5 hb
  replace CL := sC CL hb
  replace MQ := sM MQ hb
  replace MC := sM MC hb
  clear hb  HB5
  go_wp2_with fail
  have h := check_any (some ad) c p w6 (sL HL HR HB6) (sH HL hc) HO.out (sN HL)
  rw [HL.out, HCA.out] at h
  refine h.mono ?_
  clear h
  rintro e w7 ⟨rfl, hb⟩
  have HB7 := sB HB6 hb
  replace CL := sC CL hb
  replace MQ := sM MQ hb
  replace MC := sM MC hb
  clear hb  HB6
  go_wp2_with fail
  have h := rcheck_calls (some ad) c p w7 (sL HL HR HB7) (sH HL hc) HO.out (sN HL)
  rw [HL.out, HCA.out] at h
  refine h.mono ?_
  clear h
  rintro e w8 ⟨rfl, hb⟩
  have HB8 := sB HB7 hb
  replace CL := sC CL hb
  replace MQ := sM MQ hb
  replace MC := sM MC hb
  clear hb  HB7
  go_wp2_with fail
  have h := good_calls (some ad) c p w8 (sL HL HR HB8) (sH HL hc) HO.out (sN HL)
  rw [HL.out, HG.out] at h
  refine h.mono ?_
  clear h
  rintro e w9 ⟨rfl, hb⟩
  have HB9 := sB HB8 hb
  replace CL := sC CL hb
  replace MQ := sM MQ hb
  replace MC := sM MC hb
  clear hb  HB8
  go_wp2_with fail
  have h := rgood_calls (some ad) c p w9 (sL HL HR HB9) (sH HL hc) HO.out (sN HL)
  rw [HL.out, HG.out] at h
  refine h.mono ?_
  clear h
  rintro e w10 ⟨rfl, hb⟩
  have HB10 := sB HB9 hb
  replace CL := sC CL hb
  replace MQ := sM MQ hb
  replace MC := sM MC hb
  clear hb  HB9
  rcases HK2.out with hk3 | hk3
  · have q1 : decide (kind < 0) = true := decide_eq_true hk3
    clear hk3
    go_wp2_with fail
    have h := compact_good (some ad) c p w10 (sR HR HB10) hc HO.out HL.out HG.out (fits_of_good HG.out)
    refine h.mono ?_
    clear h
    rintro e w11 ⟨gx, rfl, hgx, hbx, hb⟩
    have HB11 := sB HB10 hb
    replace CL := sC CL hb
    replace MC := sM MC hb
    have HX := Aside0.mk hbx
    clear hb hbx HB10
    go_wp2_with fail
    have h := seal_good (some ad) c p lsn w11 (sR HR HB11) hc HO.out HL.out HG.out HN0.out
    refine h.mono ?_
    clear h
    rintro e w12 ⟨gy, rfl, hgy, hby, hb⟩
    have HB12 := sB HB11 hb
    replace CL := sC CL hb
    replace MC := sM MC hb
    replace HX := sK HX hb
    have HY := Aside0.mk hby
    clear hb hby HB11
    go_wp2_with fail
    have h := set_ans (some ad) c p w12 (sL HL HR HB12) (sH HL hc) HO.out (sN HL) link extra
    rw [HL.out, HZ.out] at h
    refine h.mono ?_
    clear h
    rintro e w13 ⟨AZ, rfl, mz, hb⟩
    have HB13 := sB HB12 hb
    replace CL := sC CL hb
    replace MC := sM MC hb
    replace HX := sK HX hb
    replace HY := sK HY hb
    have MZ := Aside0.mk mz
    clear hb mz HB12
    go_wp2_with fail
    have h := headF_good (some ad) c p w13 (sR HR HB13) hc HO.out HL.out HG.out
    refine h.mono ?_
    clear h
    rintro e w14 ⟨rfl, hb⟩
    have HB14 := sB HB13 hb
    replace CL := sC CL hb
    replace MC := sM MC hb
    replace HX := sK HX hb
    replace HY := sK HY hb
    replace MZ := sM MZ hb
    clear hb  HB13
    go_wp2_with fail
    have h := rgood_calls (some ad) c p w14 (sL HL HR HB14) (sH HL hc) HO.out (sN HL)
    rw [HL.out, HG.out] at h
    refine h.mono ?_
    clear h
    rintro e w15 ⟨rfl, hb⟩
    have HB15 := sB HB14 hb
    replace CL := sC CL hb
    replace MC := sM MC hb
    replace HX := sK HX hb
    replace HY := sK HY hb
    replace MZ := sM MZ hb
    clear hb  HB14
    go_wp2_with fail
    have h := rcount_calls (some ad) c p w15 (sL HL HR HB15) (sH HL hc) HO.out HL.out
    rw [HL.out] at h
    refine h.mono ?_
    clear h
    rintro e w16 ⟨rfl, hb⟩
    have HB16 := sB HB15 hb
    replace CL := sC CL hb
    replace MC := sM MC hb
    replace HX := sK HX hb
    replace HY := sK HY hb
    replace MZ := sM MZ hb
    clear hb  HB15
    go_wp2_with fail
    have h := rfree_calls (some ad) c p w16 (sL HL HR HB16) (sH HL hc) HO.out HG.out
    rw [HL.out] at h
    refine h.mono ?_
    clear h
    rintro e w17 ⟨rfl, hb⟩
    have HB17 := sB HB16 hb
    replace CL := sC CL hb
    replace MC := sM MC hb
    replace HX := sK HX hb
    replace HY := sK HY hb
    replace MZ := sM MZ hb
    clear hb  HB16
    go_wp2_with fail
    have h := rcells_calls (some ad) c p w17 (sL HL HR HB17) (sH HL hc) HO.out HG.out
    rw [HL.out] at h
    refine h.mono ?_
    clear h
    rintro e w18 ⟨AE, ce, rfl, hce, hre, hb⟩
    have HB18 := sB HB17 hb
    replace CL := sC CL hb
    replace MC := sM MC hb
    replace HX := sK HX hb
    replace HY := sK HY hb
    replace MZ := sM MZ hb
    have CE := Aside0.mk hre
    clear hb hre HB17
    have HCE := Aside0.mk hce
    clear hce
    go_wp2_with fail
    have h := lists_x AL AE cl ce (cellsP p) (cellsP p) w18 CL.out CE.out HCL.out HCE.out (octs_cells HO.out) (octs_cells HO.out)
    rw [decide_eq_true rfl] at h
    refine h.mono ?_
    clear h
    rintro e w19 ⟨rfl, hb⟩
    have HB19 := sB HB18 hb
    replace CL := sC CL hb
    replace CE := sC CE hb
    replace MC := sM MC hb
    replace HX := sK HX hb
    replace HY := sK HY hb
    replace MZ := sM MZ hb
    clear hb  HB18
    obtain ⟨ad1, A1, c1, e1, hx1, hl1, hr1⟩ := Rf.at_L2 CL.out i HCI.out.1 HCI.out.2
    subst e1
    rw [HRD.out] at hx1 hl1 hr1
    have hcv1 : ∀ n, (convert 22 9 (.slice A1 cc.length c1)).run Try.prog (w19.drewN n) = .ok (.string (strOfNums cc)) (w19.drewN n) := fun n => Kd.C_string (P := Try.prog) (A := A1) (c := c1) Try.underlying22 Try.underlying5 Try.underlying9 (Kd.C_drewN hr1 n)
    have hcv2 : ∀ n, (convert 22 9 (.slice AC cc.length cc.length)).run Try.prog (w19.drewN n) = .ok (.string (strOfNums cc)) (w19.drewN n) := fun n => Kd.C_string (P := Try.prog) (A := AC) (c := cc.length) Try.underlying22 Try.underlying5 Try.underlying9 (Kd.C_drewN (MC.out.reads (by have := FC.out.2; omega)) n)
    have pi0 := eq_true HCI.out.1
    have pi1 := eq_true HCI.out.2
    go_wp2
    go_quiet (fail)
    clear pi0 pi1 hcv1 hcv2 hx1 hl1 hr1
    obtain ⟨w20, hw⟩ : ∃ W, w19.drewN nq = W := ⟨_, rfl⟩
    have HB20 := Aside0.mk (show Below w.heap.size w w20 from hw ▸ pw_below_drewN HB19.out nq)
    have hbq := show Below w19.heap.size w19 w20 from hw ▸ pw_below_drewN (Below.refl _ _) nq
    replace HX := sK HX hbq
    replace HY := sK HY hbq
    replace MZ := sM MZ hbq
    rw [hw]
    clear hw hbq HB19
    rcases HLN.out with hbr | hbr | hbr | hbr
    · have l1 : decide (link < 0) = true := decide_eq_true hbr
      clear hbr
      go_wp2_with fail
      have h := told_nil AZ z ez 1 w20 (MZ.out.reads (by have := FZ.out.2; omega)) FZ.out.1
      rw [HTZ.out] at h
      refine h.mono ?_
      clear h
      rintro e w21 ⟨rfl, hb⟩
      have HB21 := sB HB20 hb
      replace HX := sK HX hb
      replace HY := sK HY hb
      replace MZ := sM MZ hb
      clear hb  HB20
      go_wp2_with fail
      have h := rcompact_calls (some ad) c p w21 (sL HL HR HB21) (sH HL hc) HO.out HG.out
      rw [HL.out] at h
      refine h.mono ?_
      clear h
      rintro e w22 ⟨vx, rfl, AX, cx, rfl, hcx, hrx, hb⟩
      have HB22 := sB HB21 hb
      replace HX := sK HX hb
      replace HY := sK HY hb
      have CX := Aside0.mk hrx
      clear hb hrx HB21
      have HCX := Aside0.mk hcx
      clear hcx
      go_wp2_with fail
      rw [anew_length HL.out (fits_of_good HG.out)]
      have h := told_any (some ⟨gx, 0, none⟩) AX 512 cx (anewP p) (anewP p) 0 0 w22 (by rw [anew_length HL.out (fits_of_good HG.out)]; exact blk_rb5 HX.out (anew_length HL.out (fits_of_good HG.out))) (by rw [anew_length HL.out (fits_of_good HG.out)]; exact Nat.le_refl _) CX.out HCX.out (anew_octs HO.out) (anew_octs HO.out)
      rw [decide_eq_true (And.intro rfl rfl), anew_length HL.out (fits_of_good HG.out)] at h
      refine h.mono ?_
      clear h
      rintro e w23 ⟨rfl, hb⟩
      have HB23 := sB HB22 hb
      replace CX := sC CX hb
      replace HX := sK HX hb
      replace HY := sK HY hb
      clear hb  HB22
      go_wp2_with fail
      have h := rseal_calls (some ad) c p w23 (sL HL HR HB23) (sH HL hc) HO.out HG.out lsn HN0.out
      rw [HL.out] at h
      refine h.mono ?_
      clear h
      rintro e w24 ⟨vx, rfl, AY, cy, rfl, hcy, hry, hb⟩
      have HB24 := sB HB23 hb
      replace HY := sK HY hb
      have CY := Aside0.mk hry
      clear hb hry HB23
      have HCY := Aside0.mk hcy
      clear hcy
      go_wp2_with fail
      rw [sealP_len HL.out]
      have h := told_any (some ⟨gy, 0, none⟩) AY 512 cy (sealP p lsn) (sealP p lsn) 0 0 w24 (by rw [sealP_len HL.out]; exact blk_rb5 HY.out (sealP_len HL.out lsn)) (by rw [sealP_len HL.out]; exact Nat.le_refl _) CY.out HCY.out (sealP_octs HO.out lsn) (sealP_octs HO.out lsn)
      rw [decide_eq_true (And.intro rfl rfl), sealP_len HL.out] at h
      refine h.mono ?_
      clear h
      rintro e w25 ⟨rfl, hb⟩
      have HB25 := sB HB24 hb
      replace CY := sC CY hb
      replace HY := sK HY hb
      clear hb  HB24
      have hc12 := cellK (Kd.C_below HR.out HB25.out) 11 (by decide)
      rw [show 11 + 1 = 12 from rfl, List.getD_eq_getElem?_getD] at hc12
      go_wp2_with fail
      have h := rget_calls (some ad) c p w25 (sL HL HR HB25) (sH HL hc) HO.out HG.out 4 8 4 8 rfl rfl (by decide) (by decide)
      rw [HL.out] at h
      refine h.mono ?_
      clear h
      rintro e w26 ⟨rfl, hb⟩
      have HB26 := sB HB25 hb
      clear hb  HB25
      go_wp2_with fail
      have h := rget_calls (some ad) c p w26 (sL HL HR HB26) (sH HL hc) HO.out HG.out 18 4 18 4 rfl rfl (by decide) (by decide)
      rw [HL.out] at h
      refine h.mono ?_
      clear h
      rintro e w27 ⟨rfl, hb⟩
      have HB27 := sB HB26 hb
      clear hb  HB26
      go_wp2_with fail
      have h := rget_calls (some ad) c p w27 (sL HL HR HB27) (sH HL hc) HO.out HG.out 22 4 22 4 rfl rfl (by decide) (by decide)
      rw [HL.out] at h
      refine h.mono ?_
      clear h
      rintro e w28 ⟨rfl, hb⟩
      have HB28 := sB HB27 hb
      clear hb  HB27
      go_wp2
      go_ret
      exact ⟨rfl, HB28.out⟩
    · have l1 : decide (link < 0) = false := decide_eq_false (by omega)
      have l2 : decide (4294967296 ≤ link) = true := decide_eq_true hbr
      clear hbr
      go_wp2_with fail
      have h := told_nil AZ z ez 1 w20 (MZ.out.reads (by have := FZ.out.2; omega)) FZ.out.1
      rw [HTZ.out] at h
      refine h.mono ?_
      clear h
      rintro e w21 ⟨rfl, hb⟩
      have HB21 := sB HB20 hb
      replace HX := sK HX hb
      replace HY := sK HY hb
      replace MZ := sM MZ hb
      clear hb  HB20
      go_wp2_with fail
      have h := rcompact_calls (some ad) c p w21 (sL HL HR HB21) (sH HL hc) HO.out HG.out
      rw [HL.out] at h
      refine h.mono ?_
      clear h
      rintro e w22 ⟨vx, rfl, AX, cx, rfl, hcx, hrx, hb⟩
      have HB22 := sB HB21 hb
      replace HX := sK HX hb
      replace HY := sK HY hb
      have CX := Aside0.mk hrx
      clear hb hrx HB21
      have HCX := Aside0.mk hcx
      clear hcx
      go_wp2_with fail
      rw [anew_length HL.out (fits_of_good HG.out)]
      have h := told_any (some ⟨gx, 0, none⟩) AX 512 cx (anewP p) (anewP p) 0 0 w22 (by rw [anew_length HL.out (fits_of_good HG.out)]; exact blk_rb5 HX.out (anew_length HL.out (fits_of_good HG.out))) (by rw [anew_length HL.out (fits_of_good HG.out)]; exact Nat.le_refl _) CX.out HCX.out (anew_octs HO.out) (anew_octs HO.out)
      rw [decide_eq_true (And.intro rfl rfl), anew_length HL.out (fits_of_good HG.out)] at h
      refine h.mono ?_
      clear h
      rintro e w23 ⟨rfl, hb⟩
      have HB23 := sB HB22 hb
      replace CX := sC CX hb
      replace HX := sK HX hb
      replace HY := sK HY hb
      clear hb  HB22
      go_wp2_with fail
      have h := rseal_calls (some ad) c p w23 (sL HL HR HB23) (sH HL hc) HO.out HG.out lsn HN0.out
      rw [HL.out] at h
      refine h.mono ?_
      clear h
      rintro e w24 ⟨vx, rfl, AY, cy, rfl, hcy, hry, hb⟩
      have HB24 := sB HB23 hb
      replace HY := sK HY hb
      have CY := Aside0.mk hry
      clear hb hry HB23
      have HCY := Aside0.mk hcy
      clear hcy
      go_wp2_with fail
      rw [sealP_len HL.out]
      have h := told_any (some ⟨gy, 0, none⟩) AY 512 cy (sealP p lsn) (sealP p lsn) 0 0 w24 (by rw [sealP_len HL.out]; exact blk_rb5 HY.out (sealP_len HL.out lsn)) (by rw [sealP_len HL.out]; exact Nat.le_refl _) CY.out HCY.out (sealP_octs HO.out lsn) (sealP_octs HO.out lsn)
      rw [decide_eq_true (And.intro rfl rfl), sealP_len HL.out] at h
      refine h.mono ?_
      clear h
      rintro e w25 ⟨rfl, hb⟩
      have HB25 := sB HB24 hb
      replace CY := sC CY hb
      replace HY := sK HY hb
      clear hb  HB24
      have hc12 := cellK (Kd.C_below HR.out HB25.out) 11 (by decide)
      rw [show 11 + 1 = 12 from rfl, List.getD_eq_getElem?_getD] at hc12
      go_wp2_with fail
      have h := rget_calls (some ad) c p w25 (sL HL HR HB25) (sH HL hc) HO.out HG.out 4 8 4 8 rfl rfl (by decide) (by decide)
      rw [HL.out] at h
      refine h.mono ?_
      clear h
      rintro e w26 ⟨rfl, hb⟩
      have HB26 := sB HB25 hb
      clear hb  HB25
      go_wp2_with fail
      have h := rget_calls (some ad) c p w26 (sL HL HR HB26) (sH HL hc) HO.out HG.out 18 4 18 4 rfl rfl (by decide) (by decide)
      rw [HL.out] at h
      refine h.mono ?_
      clear h
      rintro e w27 ⟨rfl, hb⟩
      have HB27 := sB HB26 hb
      clear hb  HB26
      go_wp2_with fail
      have h := rget_calls (some ad) c p w27 (sL HL HR HB27) (sH HL hc) HO.out HG.out 22 4 22 4 rfl rfl (by decide) (by decide)
      rw [HL.out] at h
      refine h.mono ?_
      clear h
      rintro e w28 ⟨rfl, hb⟩
      have HB28 := sB HB27 hb
      clear hb  HB27
      go_wp2
      go_ret
      exact ⟨rfl, HB28.out⟩
    · have l1 : decide (link < 0) = false := decide_eq_false (by omega)
      have l2 : decide (4294967296 ≤ link) = false := decide_eq_false (by omega)
      have l3 : decide (extra < 0) = true := decide_eq_true hbr.2.2
      clear hbr
      go_wp2_with fail
      have h := told_nil AZ z ez 1 w20 (MZ.out.reads (by have := FZ.out.2; omega)) FZ.out.1
      rw [HTZ.out] at h
      refine h.mono ?_
      clear h
      rintro e w21 ⟨rfl, hb⟩
      have HB21 := sB HB20 hb
      replace HX := sK HX hb
      replace HY := sK HY hb
      replace MZ := sM MZ hb
      clear hb  HB20
      go_wp2_with fail
      have h := rcompact_calls (some ad) c p w21 (sL HL HR HB21) (sH HL hc) HO.out HG.out
      rw [HL.out] at h
      refine h.mono ?_
      clear h
      rintro e w22 ⟨vx, rfl, AX, cx, rfl, hcx, hrx, hb⟩
      have HB22 := sB HB21 hb
      replace HX := sK HX hb
      replace HY := sK HY hb
      have CX := Aside0.mk hrx
      clear hb hrx HB21
      have HCX := Aside0.mk hcx
      clear hcx
      go_wp2_with fail
      rw [anew_length HL.out (fits_of_good HG.out)]
      have h := told_any (some ⟨gx, 0, none⟩) AX 512 cx (anewP p) (anewP p) 0 0 w22 (by rw [anew_length HL.out (fits_of_good HG.out)]; exact blk_rb5 HX.out (anew_length HL.out (fits_of_good HG.out))) (by rw [anew_length HL.out (fits_of_good HG.out)]; exact Nat.le_refl _) CX.out HCX.out (anew_octs HO.out) (anew_octs HO.out)
      rw [decide_eq_true (And.intro rfl rfl), anew_length HL.out (fits_of_good HG.out)] at h
      refine h.mono ?_
      clear h
      rintro e w23 ⟨rfl, hb⟩
      have HB23 := sB HB22 hb
      replace CX := sC CX hb
      replace HX := sK HX hb
      replace HY := sK HY hb
      clear hb  HB22
      go_wp2_with fail
      have h := rseal_calls (some ad) c p w23 (sL HL HR HB23) (sH HL hc) HO.out HG.out lsn HN0.out
      rw [HL.out] at h
      refine h.mono ?_
      clear h
      rintro e w24 ⟨vx, rfl, AY, cy, rfl, hcy, hry, hb⟩
      have HB24 := sB HB23 hb
      replace HY := sK HY hb
      have CY := Aside0.mk hry
      clear hb hry HB23
      have HCY := Aside0.mk hcy
      clear hcy
      go_wp2_with fail
      rw [sealP_len HL.out]
      have h := told_any (some ⟨gy, 0, none⟩) AY 512 cy (sealP p lsn) (sealP p lsn) 0 0 w24 (by rw [sealP_len HL.out]; exact blk_rb5 HY.out (sealP_len HL.out lsn)) (by rw [sealP_len HL.out]; exact Nat.le_refl _) CY.out HCY.out (sealP_octs HO.out lsn) (sealP_octs HO.out lsn)
      rw [decide_eq_true (And.intro rfl rfl), sealP_len HL.out] at h
      refine h.mono ?_
      clear h
      rintro e w25 ⟨rfl, hb⟩
      have HB25 := sB HB24 hb
      replace CY := sC CY hb
      replace HY := sK HY hb
      clear hb  HB24
      have hc12 := cellK (Kd.C_below HR.out HB25.out) 11 (by decide)
      rw [show 11 + 1 = 12 from rfl, List.getD_eq_getElem?_getD] at hc12
      go_wp2_with fail
      have h := rget_calls (some ad) c p w25 (sL HL HR HB25) (sH HL hc) HO.out HG.out 4 8 4 8 rfl rfl (by decide) (by decide)
      rw [HL.out] at h
      refine h.mono ?_
      clear h
      rintro e w26 ⟨rfl, hb⟩
      have HB26 := sB HB25 hb
      clear hb  HB25
      go_wp2_with fail
      have h := rget_calls (some ad) c p w26 (sL HL HR HB26) (sH HL hc) HO.out HG.out 18 4 18 4 rfl rfl (by decide) (by decide)
      rw [HL.out] at h
      refine h.mono ?_
      clear h
      rintro e w27 ⟨rfl, hb⟩
      have HB27 := sB HB26 hb
      clear hb  HB26
      go_wp2_with fail
      have h := rget_calls (some ad) c p w27 (sL HL HR HB27) (sH HL hc) HO.out HG.out 22 4 22 4 rfl rfl (by decide) (by decide)
      rw [HL.out] at h
      refine h.mono ?_
      clear h
      rintro e w28 ⟨rfl, hb⟩
      have HB28 := sB HB27 hb
      clear hb  HB27
      go_wp2
      go_ret
      exact ⟨rfl, HB28.out⟩
    · have l1 : decide (link < 0) = false := decide_eq_false (by omega)
      have l2 : decide (4294967296 ≤ link) = false := decide_eq_false (by omega)
      have l3 : decide (extra < 0) = false := decide_eq_false (by omega)
      have l4 : decide (4294967296 ≤ extra) = true := decide_eq_true hbr.2.2.2
      clear hbr
      go_wp2_with fail
      have h := told_nil AZ z ez 1 w20 (MZ.out.reads (by have := FZ.out.2; omega)) FZ.out.1
      rw [HTZ.out] at h
      refine h.mono ?_
      clear h
      rintro e w21 ⟨rfl, hb⟩
      have HB21 := sB HB20 hb
      replace HX := sK HX hb
      replace HY := sK HY hb
      replace MZ := sM MZ hb
      clear hb  HB20
      go_wp2_with fail
      have h := rcompact_calls (some ad) c p w21 (sL HL HR HB21) (sH HL hc) HO.out HG.out
      rw [HL.out] at h
      refine h.mono ?_
      clear h
      rintro e w22 ⟨vx, rfl, AX, cx, rfl, hcx, hrx, hb⟩
      have HB22 := sB HB21 hb
      replace HX := sK HX hb
      replace HY := sK HY hb
      have CX := Aside0.mk hrx
      clear hb hrx HB21
      have HCX := Aside0.mk hcx
      clear hcx
      go_wp2_with fail
      rw [anew_length HL.out (fits_of_good HG.out)]
      have h := told_any (some ⟨gx, 0, none⟩) AX 512 cx (anewP p) (anewP p) 0 0 w22 (by rw [anew_length HL.out (fits_of_good HG.out)]; exact blk_rb5 HX.out (anew_length HL.out (fits_of_good HG.out))) (by rw [anew_length HL.out (fits_of_good HG.out)]; exact Nat.le_refl _) CX.out HCX.out (anew_octs HO.out) (anew_octs HO.out)
      rw [decide_eq_true (And.intro rfl rfl), anew_length HL.out (fits_of_good HG.out)] at h
      refine h.mono ?_
      clear h
      rintro e w23 ⟨rfl, hb⟩
      have HB23 := sB HB22 hb
      replace CX := sC CX hb
      replace HX := sK HX hb
      replace HY := sK HY hb
      clear hb  HB22
      go_wp2_with fail
      have h := rseal_calls (some ad) c p w23 (sL HL HR HB23) (sH HL hc) HO.out HG.out lsn HN0.out
      rw [HL.out] at h
      refine h.mono ?_
      clear h
      rintro e w24 ⟨vx, rfl, AY, cy, rfl, hcy, hry, hb⟩
      have HB24 := sB HB23 hb
      replace HY := sK HY hb
      have CY := Aside0.mk hry
      clear hb hry HB23
      have HCY := Aside0.mk hcy
      clear hcy
      go_wp2_with fail
      rw [sealP_len HL.out]
      have h := told_any (some ⟨gy, 0, none⟩) AY 512 cy (sealP p lsn) (sealP p lsn) 0 0 w24 (by rw [sealP_len HL.out]; exact blk_rb5 HY.out (sealP_len HL.out lsn)) (by rw [sealP_len HL.out]; exact Nat.le_refl _) CY.out HCY.out (sealP_octs HO.out lsn) (sealP_octs HO.out lsn)
      rw [decide_eq_true (And.intro rfl rfl), sealP_len HL.out] at h
      refine h.mono ?_
      clear h
      rintro e w25 ⟨rfl, hb⟩
      have HB25 := sB HB24 hb
      replace CY := sC CY hb
      replace HY := sK HY hb
      clear hb  HB24
      have hc12 := cellK (Kd.C_below HR.out HB25.out) 11 (by decide)
      rw [show 11 + 1 = 12 from rfl, List.getD_eq_getElem?_getD] at hc12
      go_wp2_with fail
      have h := rget_calls (some ad) c p w25 (sL HL HR HB25) (sH HL hc) HO.out HG.out 4 8 4 8 rfl rfl (by decide) (by decide)
      rw [HL.out] at h
      refine h.mono ?_
      clear h
      rintro e w26 ⟨rfl, hb⟩
      have HB26 := sB HB25 hb
      clear hb  HB25
      go_wp2_with fail
      have h := rget_calls (some ad) c p w26 (sL HL HR HB26) (sH HL hc) HO.out HG.out 18 4 18 4 rfl rfl (by decide) (by decide)
      rw [HL.out] at h
      refine h.mono ?_
      clear h
      rintro e w27 ⟨rfl, hb⟩
      have HB27 := sB HB26 hb
      clear hb  HB26
      go_wp2_with fail
      have h := rget_calls (some ad) c p w27 (sL HL HR HB27) (sH HL hc) HO.out HG.out 22 4 22 4 rfl rfl (by decide) (by decide)
      rw [HL.out] at h
      refine h.mono ?_
      clear h
      rintro e w28 ⟨rfl, hb⟩
      have HB28 := sB HB27 hb
      clear hb  HB27
      go_wp2
      go_ret
      exact ⟨rfl, HB28.out⟩
  · have q1 : decide (kind < 0) = false := decide_eq_false (by omega)
    have q2 : decide (255 < kind) = true := decide_eq_true hk3
    clear hk3
    go_wp2_with fail
    have h := compact_good (some ad) c p w10 (sR HR HB10) hc HO.out HL.out HG.out (fits_of_good HG.out)
    refine h.mono ?_
    clear h
    rintro e w11 ⟨gx, rfl, hgx, hbx, hb⟩
    have HB11 := sB HB10 hb
    replace CL := sC CL hb
    replace MC := sM MC hb
    have HX := Aside0.mk hbx
    clear hb hbx HB10
    go_wp2_with fail
    have h := seal_good (some ad) c p lsn w11 (sR HR HB11) hc HO.out HL.out HG.out HN0.out
    refine h.mono ?_
    clear h
    rintro e w12 ⟨gy, rfl, hgy, hby, hb⟩
    have HB12 := sB HB11 hb
    replace CL := sC CL hb
    replace MC := sM MC hb
    replace HX := sK HX hb
    have HY := Aside0.mk hby
    clear hb hby HB11
    go_wp2_with fail
    have h := set_ans (some ad) c p w12 (sL HL HR HB12) (sH HL hc) HO.out (sN HL) link extra
    rw [HL.out, HZ.out] at h
    refine h.mono ?_
    clear h
    rintro e w13 ⟨AZ, rfl, mz, hb⟩
    have HB13 := sB HB12 hb
    replace CL := sC CL hb
    replace MC := sM MC hb
    replace HX := sK HX hb
    replace HY := sK HY hb
    have MZ := Aside0.mk mz
    clear hb mz HB12
    go_wp2_with fail
    have h := headF_good (some ad) c p w13 (sR HR HB13) hc HO.out HL.out HG.out
    refine h.mono ?_
    clear h
    rintro e w14 ⟨rfl, hb⟩
    have HB14 := sB HB13 hb
    replace CL := sC CL hb
    replace MC := sM MC hb
    replace HX := sK HX hb
    replace HY := sK HY hb
    replace MZ := sM MZ hb
    clear hb  HB13
    go_wp2_with fail
    have h := rgood_calls (some ad) c p w14 (sL HL HR HB14) (sH HL hc) HO.out (sN HL)
    rw [HL.out, HG.out] at h
    refine h.mono ?_
    clear h
    rintro e w15 ⟨rfl, hb⟩
    have HB15 := sB HB14 hb
    replace CL := sC CL hb
    replace MC := sM MC hb
    replace HX := sK HX hb
    replace HY := sK HY hb
    replace MZ := sM MZ hb
    clear hb  HB14
    go_wp2_with fail
    have h := rcount_calls (some ad) c p w15 (sL HL HR HB15) (sH HL hc) HO.out HL.out
    rw [HL.out] at h
    refine h.mono ?_
    clear h
    rintro e w16 ⟨rfl, hb⟩
    have HB16 := sB HB15 hb
    replace CL := sC CL hb
    replace MC := sM MC hb
    replace HX := sK HX hb
    replace HY := sK HY hb
    replace MZ := sM MZ hb
    clear hb  HB15
    go_wp2_with fail
    have h := rfree_calls (some ad) c p w16 (sL HL HR HB16) (sH HL hc) HO.out HG.out
    rw [HL.out] at h
    refine h.mono ?_
    clear h
    rintro e w17 ⟨rfl, hb⟩
    have HB17 := sB HB16 hb
    replace CL := sC CL hb
    replace MC := sM MC hb
    replace HX := sK HX hb
    replace HY := sK HY hb
    replace MZ := sM MZ hb
    clear hb  HB16
    go_wp2_with fail
    have h := rcells_calls (some ad) c p w17 (sL HL HR HB17) (sH HL hc) HO.out HG.out
    rw [HL.out] at h
    refine h.mono ?_
    clear h
    rintro e w18 ⟨AE, ce, rfl, hce, hre, hb⟩
    have HB18 := sB HB17 hb
    replace CL := sC CL hb
    replace MC := sM MC hb
    replace HX := sK HX hb
    replace HY := sK HY hb
    replace MZ := sM MZ hb
    have CE := Aside0.mk hre
    clear hb hre HB17
    have HCE := Aside0.mk hce
    clear hce
    go_wp2_with fail
    have h := lists_x AL AE cl ce (cellsP p) (cellsP p) w18 CL.out CE.out HCL.out HCE.out (octs_cells HO.out) (octs_cells HO.out)
    rw [decide_eq_true rfl] at h
    refine h.mono ?_
    clear h
    rintro e w19 ⟨rfl, hb⟩
    have HB19 := sB HB18 hb
    replace CL := sC CL hb
    replace CE := sC CE hb
    replace MC := sM MC hb
    replace HX := sK HX hb
    replace HY := sK HY hb
    replace MZ := sM MZ hb
    clear hb  HB18
    obtain ⟨ad1, A1, c1, e1, hx1, hl1, hr1⟩ := Rf.at_L2 CL.out i HCI.out.1 HCI.out.2
    subst e1
    rw [HRD.out] at hx1 hl1 hr1
    have hcv1 : ∀ n, (convert 22 9 (.slice A1 cc.length c1)).run Try.prog (w19.drewN n) = .ok (.string (strOfNums cc)) (w19.drewN n) := fun n => Kd.C_string (P := Try.prog) (A := A1) (c := c1) Try.underlying22 Try.underlying5 Try.underlying9 (Kd.C_drewN hr1 n)
    have hcv2 : ∀ n, (convert 22 9 (.slice AC cc.length cc.length)).run Try.prog (w19.drewN n) = .ok (.string (strOfNums cc)) (w19.drewN n) := fun n => Kd.C_string (P := Try.prog) (A := AC) (c := cc.length) Try.underlying22 Try.underlying5 Try.underlying9 (Kd.C_drewN (MC.out.reads (by have := FC.out.2; omega)) n)
    have pi0 := eq_true HCI.out.1
    have pi1 := eq_true HCI.out.2
    go_wp2
    go_quiet (fail)
    clear pi0 pi1 hcv1 hcv2 hx1 hl1 hr1
    obtain ⟨w20, hw⟩ : ∃ W, w19.drewN nq = W := ⟨_, rfl⟩
    have HB20 := Aside0.mk (show Below w.heap.size w w20 from hw ▸ pw_below_drewN HB19.out nq)
    have hbq := show Below w19.heap.size w19 w20 from hw ▸ pw_below_drewN (Below.refl _ _) nq
    replace HX := sK HX hbq
    replace HY := sK HY hbq
    replace MZ := sM MZ hbq
    rw [hw]
    clear hw hbq HB19
    rcases HLN.out with hbr | hbr | hbr | hbr
    · have l1 : decide (link < 0) = true := decide_eq_true hbr
      clear hbr
      go_wp2_with fail
      have h := told_nil AZ z ez 1 w20 (MZ.out.reads (by have := FZ.out.2; omega)) FZ.out.1
      rw [HTZ.out] at h
      refine h.mono ?_
      clear h
      rintro e w21 ⟨rfl, hb⟩
      have HB21 := sB HB20 hb
      replace HX := sK HX hb
      replace HY := sK HY hb
      replace MZ := sM MZ hb
      clear hb  HB20
      go_wp2_with fail
      have h := rcompact_calls (some ad) c p w21 (sL HL HR HB21) (sH HL hc) HO.out HG.out
      rw [HL.out] at h
      refine h.mono ?_
      clear h
      rintro e w22 ⟨vx, rfl, AX, cx, rfl, hcx, hrx, hb⟩
      have HB22 := sB HB21 hb
      replace HX := sK HX hb
      replace HY := sK HY hb
      have CX := Aside0.mk hrx
      clear hb hrx HB21
      have HCX := Aside0.mk hcx
      clear hcx
      go_wp2_with fail
      rw [anew_length HL.out (fits_of_good HG.out)]
      have h := told_any (some ⟨gx, 0, none⟩) AX 512 cx (anewP p) (anewP p) 0 0 w22 (by rw [anew_length HL.out (fits_of_good HG.out)]; exact blk_rb5 HX.out (anew_length HL.out (fits_of_good HG.out))) (by rw [anew_length HL.out (fits_of_good HG.out)]; exact Nat.le_refl _) CX.out HCX.out (anew_octs HO.out) (anew_octs HO.out)
      rw [decide_eq_true (And.intro rfl rfl), anew_length HL.out (fits_of_good HG.out)] at h
      refine h.mono ?_
      clear h
      rintro e w23 ⟨rfl, hb⟩
      have HB23 := sB HB22 hb
      replace CX := sC CX hb
      replace HX := sK HX hb
      replace HY := sK HY hb
      clear hb  HB22
      go_wp2_with fail
      have h := rseal_calls (some ad) c p w23 (sL HL HR HB23) (sH HL hc) HO.out HG.out lsn HN0.out
      rw [HL.out] at h
      refine h.mono ?_
      clear h
      rintro e w24 ⟨vx, rfl, AY, cy, rfl, hcy, hry, hb⟩
      have HB24 := sB HB23 hb
      replace HY := sK HY hb
      have CY := Aside0.mk hry
      clear hb hry HB23
      have HCY := Aside0.mk hcy
      clear hcy
      go_wp2_with fail
      rw [sealP_len HL.out]
      have h := told_any (some ⟨gy, 0, none⟩) AY 512 cy (sealP p lsn) (sealP p lsn) 0 0 w24 (by rw [sealP_len HL.out]; exact blk_rb5 HY.out (sealP_len HL.out lsn)) (by rw [sealP_len HL.out]; exact Nat.le_refl _) CY.out HCY.out (sealP_octs HO.out lsn) (sealP_octs HO.out lsn)
      rw [decide_eq_true (And.intro rfl rfl), sealP_len HL.out] at h
      refine h.mono ?_
      clear h
      rintro e w25 ⟨rfl, hb⟩
      have HB25 := sB HB24 hb
      replace CY := sC CY hb
      replace HY := sK HY hb
      clear hb  HB24
      have hc12 := cellK (Kd.C_below HR.out HB25.out) 11 (by decide)
      rw [show 11 + 1 = 12 from rfl, List.getD_eq_getElem?_getD] at hc12
      go_wp2_with fail
      have h := rget_calls (some ad) c p w25 (sL HL HR HB25) (sH HL hc) HO.out HG.out 4 8 4 8 rfl rfl (by decide) (by decide)
      rw [HL.out] at h
      refine h.mono ?_
      clear h
      rintro e w26 ⟨rfl, hb⟩
      have HB26 := sB HB25 hb
      clear hb  HB25
      go_wp2_with fail
      have h := rget_calls (some ad) c p w26 (sL HL HR HB26) (sH HL hc) HO.out HG.out 18 4 18 4 rfl rfl (by decide) (by decide)
      rw [HL.out] at h
      refine h.mono ?_
      clear h
      rintro e w27 ⟨rfl, hb⟩
      have HB27 := sB HB26 hb
      clear hb  HB26
      go_wp2_with fail
      have h := rget_calls (some ad) c p w27 (sL HL HR HB27) (sH HL hc) HO.out HG.out 22 4 22 4 rfl rfl (by decide) (by decide)
      rw [HL.out] at h
      refine h.mono ?_
      clear h
      rintro e w28 ⟨rfl, hb⟩
      have HB28 := sB HB27 hb
      clear hb  HB27
      go_wp2
      go_ret
      exact ⟨rfl, HB28.out⟩
    · have l1 : decide (link < 0) = false := decide_eq_false (by omega)
      have l2 : decide (4294967296 ≤ link) = true := decide_eq_true hbr
      clear hbr
      go_wp2_with fail
      have h := told_nil AZ z ez 1 w20 (MZ.out.reads (by have := FZ.out.2; omega)) FZ.out.1
      rw [HTZ.out] at h
      refine h.mono ?_
      clear h
      rintro e w21 ⟨rfl, hb⟩
      have HB21 := sB HB20 hb
      replace HX := sK HX hb
      replace HY := sK HY hb
      replace MZ := sM MZ hb
      clear hb  HB20
      go_wp2_with fail
      have h := rcompact_calls (some ad) c p w21 (sL HL HR HB21) (sH HL hc) HO.out HG.out
      rw [HL.out] at h
      refine h.mono ?_
      clear h
      rintro e w22 ⟨vx, rfl, AX, cx, rfl, hcx, hrx, hb⟩
      have HB22 := sB HB21 hb
      replace HX := sK HX hb
      replace HY := sK HY hb
      have CX := Aside0.mk hrx
      clear hb hrx HB21
      have HCX := Aside0.mk hcx
      clear hcx
      go_wp2_with fail
      rw [anew_length HL.out (fits_of_good HG.out)]
      have h := told_any (some ⟨gx, 0, none⟩) AX 512 cx (anewP p) (anewP p) 0 0 w22 (by rw [anew_length HL.out (fits_of_good HG.out)]; exact blk_rb5 HX.out (anew_length HL.out (fits_of_good HG.out))) (by rw [anew_length HL.out (fits_of_good HG.out)]; exact Nat.le_refl _) CX.out HCX.out (anew_octs HO.out) (anew_octs HO.out)
      rw [decide_eq_true (And.intro rfl rfl), anew_length HL.out (fits_of_good HG.out)] at h
      refine h.mono ?_
      clear h
      rintro e w23 ⟨rfl, hb⟩
      have HB23 := sB HB22 hb
      replace CX := sC CX hb
      replace HX := sK HX hb
      replace HY := sK HY hb
      clear hb  HB22
      go_wp2_with fail
      have h := rseal_calls (some ad) c p w23 (sL HL HR HB23) (sH HL hc) HO.out HG.out lsn HN0.out
      rw [HL.out] at h
      refine h.mono ?_
      clear h
      rintro e w24 ⟨vx, rfl, AY, cy, rfl, hcy, hry, hb⟩
      have HB24 := sB HB23 hb
      replace HY := sK HY hb
      have CY := Aside0.mk hry
      clear hb hry HB23
      have HCY := Aside0.mk hcy
      clear hcy
      go_wp2_with fail
      rw [sealP_len HL.out]
      have h := told_any (some ⟨gy, 0, none⟩) AY 512 cy (sealP p lsn) (sealP p lsn) 0 0 w24 (by rw [sealP_len HL.out]; exact blk_rb5 HY.out (sealP_len HL.out lsn)) (by rw [sealP_len HL.out]; exact Nat.le_refl _) CY.out HCY.out (sealP_octs HO.out lsn) (sealP_octs HO.out lsn)
      rw [decide_eq_true (And.intro rfl rfl), sealP_len HL.out] at h
      refine h.mono ?_
      clear h
      rintro e w25 ⟨rfl, hb⟩
      have HB25 := sB HB24 hb
      replace CY := sC CY hb
      replace HY := sK HY hb
      clear hb  HB24
      have hc12 := cellK (Kd.C_below HR.out HB25.out) 11 (by decide)
      rw [show 11 + 1 = 12 from rfl, List.getD_eq_getElem?_getD] at hc12
      go_wp2_with fail
      have h := rget_calls (some ad) c p w25 (sL HL HR HB25) (sH HL hc) HO.out HG.out 4 8 4 8 rfl rfl (by decide) (by decide)
      rw [HL.out] at h
      refine h.mono ?_
      clear h
      rintro e w26 ⟨rfl, hb⟩
      have HB26 := sB HB25 hb
      clear hb  HB25
      go_wp2_with fail
      have h := rget_calls (some ad) c p w26 (sL HL HR HB26) (sH HL hc) HO.out HG.out 18 4 18 4 rfl rfl (by decide) (by decide)
      rw [HL.out] at h
      refine h.mono ?_
      clear h
      rintro e w27 ⟨rfl, hb⟩
      have HB27 := sB HB26 hb
      clear hb  HB26
      go_wp2_with fail
      have h := rget_calls (some ad) c p w27 (sL HL HR HB27) (sH HL hc) HO.out HG.out 22 4 22 4 rfl rfl (by decide) (by decide)
      rw [HL.out] at h
      refine h.mono ?_
      clear h
      rintro e w28 ⟨rfl, hb⟩
      have HB28 := sB HB27 hb
      clear hb  HB27
      go_wp2
      go_ret
      exact ⟨rfl, HB28.out⟩
    · have l1 : decide (link < 0) = false := decide_eq_false (by omega)
      have l2 : decide (4294967296 ≤ link) = false := decide_eq_false (by omega)
      have l3 : decide (extra < 0) = true := decide_eq_true hbr.2.2
      clear hbr
      go_wp2_with fail
      have h := told_nil AZ z ez 1 w20 (MZ.out.reads (by have := FZ.out.2; omega)) FZ.out.1
      rw [HTZ.out] at h
      refine h.mono ?_
      clear h
      rintro e w21 ⟨rfl, hb⟩
      have HB21 := sB HB20 hb
      replace HX := sK HX hb
      replace HY := sK HY hb
      replace MZ := sM MZ hb
      clear hb  HB20
      go_wp2_with fail
      have h := rcompact_calls (some ad) c p w21 (sL HL HR HB21) (sH HL hc) HO.out HG.out
      rw [HL.out] at h
      refine h.mono ?_
      clear h
      rintro e w22 ⟨vx, rfl, AX, cx, rfl, hcx, hrx, hb⟩
      have HB22 := sB HB21 hb
      replace HX := sK HX hb
      replace HY := sK HY hb
      have CX := Aside0.mk hrx
      clear hb hrx HB21
      have HCX := Aside0.mk hcx
      clear hcx
      go_wp2_with fail
      rw [anew_length HL.out (fits_of_good HG.out)]
      have h := told_any (some ⟨gx, 0, none⟩) AX 512 cx (anewP p) (anewP p) 0 0 w22 (by rw [anew_length HL.out (fits_of_good HG.out)]; exact blk_rb5 HX.out (anew_length HL.out (fits_of_good HG.out))) (by rw [anew_length HL.out (fits_of_good HG.out)]; exact Nat.le_refl _) CX.out HCX.out (anew_octs HO.out) (anew_octs HO.out)
      rw [decide_eq_true (And.intro rfl rfl), anew_length HL.out (fits_of_good HG.out)] at h
      refine h.mono ?_
      clear h
      rintro e w23 ⟨rfl, hb⟩
      have HB23 := sB HB22 hb
      replace CX := sC CX hb
      replace HX := sK HX hb
      replace HY := sK HY hb
      clear hb  HB22
      go_wp2_with fail
      have h := rseal_calls (some ad) c p w23 (sL HL HR HB23) (sH HL hc) HO.out HG.out lsn HN0.out
      rw [HL.out] at h
      refine h.mono ?_
      clear h
      rintro e w24 ⟨vx, rfl, AY, cy, rfl, hcy, hry, hb⟩
      have HB24 := sB HB23 hb
      replace HY := sK HY hb
      have CY := Aside0.mk hry
      clear hb hry HB23
      have HCY := Aside0.mk hcy
      clear hcy
      go_wp2_with fail
      rw [sealP_len HL.out]
      have h := told_any (some ⟨gy, 0, none⟩) AY 512 cy (sealP p lsn) (sealP p lsn) 0 0 w24 (by rw [sealP_len HL.out]; exact blk_rb5 HY.out (sealP_len HL.out lsn)) (by rw [sealP_len HL.out]; exact Nat.le_refl _) CY.out HCY.out (sealP_octs HO.out lsn) (sealP_octs HO.out lsn)
      rw [decide_eq_true (And.intro rfl rfl), sealP_len HL.out] at h
      refine h.mono ?_
      clear h
      rintro e w25 ⟨rfl, hb⟩
      have HB25 := sB HB24 hb
      replace CY := sC CY hb
      replace HY := sK HY hb
      clear hb  HB24
      have hc12 := cellK (Kd.C_below HR.out HB25.out) 11 (by decide)
      rw [show 11 + 1 = 12 from rfl, List.getD_eq_getElem?_getD] at hc12
      go_wp2_with fail
      have h := rget_calls (some ad) c p w25 (sL HL HR HB25) (sH HL hc) HO.out HG.out 4 8 4 8 rfl rfl (by decide) (by decide)
      rw [HL.out] at h
      refine h.mono ?_
      clear h
      rintro e w26 ⟨rfl, hb⟩
      have HB26 := sB HB25 hb
      clear hb  HB25
      go_wp2_with fail
      have h := rget_calls (some ad) c p w26 (sL HL HR HB26) (sH HL hc) HO.out HG.out 18 4 18 4 rfl rfl (by decide) (by decide)
      rw [HL.out] at h
      refine h.mono ?_
      clear h
      rintro e w27 ⟨rfl, hb⟩
      have HB27 := sB HB26 hb
      clear hb  HB26
      go_wp2_with fail
      have h := rget_calls (some ad) c p w27 (sL HL HR HB27) (sH HL hc) HO.out HG.out 22 4 22 4 rfl rfl (by decide) (by decide)
      rw [HL.out] at h
      refine h.mono ?_
      clear h
      rintro e w28 ⟨rfl, hb⟩
      have HB28 := sB HB27 hb
      clear hb  HB27
      go_wp2
      go_ret
      exact ⟨rfl, HB28.out⟩
    · have l1 : decide (link < 0) = false := decide_eq_false (by omega)
      have l2 : decide (4294967296 ≤ link) = false := decide_eq_false (by omega)
      have l3 : decide (extra < 0) = false := decide_eq_false (by omega)
      have l4 : decide (4294967296 ≤ extra) = true := decide_eq_true hbr.2.2.2
      clear hbr
      go_wp2_with fail
      have h := told_nil AZ z ez 1 w20 (MZ.out.reads (by have := FZ.out.2; omega)) FZ.out.1
      rw [HTZ.out] at h
      refine h.mono ?_
      clear h
      rintro e w21 ⟨rfl, hb⟩
      have HB21 := sB HB20 hb
      replace HX := sK HX hb
      replace HY := sK HY hb
      replace MZ := sM MZ hb
      clear hb  HB20
      go_wp2_with fail
      have h := rcompact_calls (some ad) c p w21 (sL HL HR HB21) (sH HL hc) HO.out HG.out
      rw [HL.out] at h
      refine h.mono ?_
      clear h
      rintro e w22 ⟨vx, rfl, AX, cx, rfl, hcx, hrx, hb⟩
      have HB22 := sB HB21 hb
      replace HX := sK HX hb
      replace HY := sK HY hb
      have CX := Aside0.mk hrx
      clear hb hrx HB21
      have HCX := Aside0.mk hcx
      clear hcx
      go_wp2_with fail
      rw [anew_length HL.out (fits_of_good HG.out)]
      have h := told_any (some ⟨gx, 0, none⟩) AX 512 cx (anewP p) (anewP p) 0 0 w22 (by rw [anew_length HL.out (fits_of_good HG.out)]; exact blk_rb5 HX.out (anew_length HL.out (fits_of_good HG.out))) (by rw [anew_length HL.out (fits_of_good HG.out)]; exact Nat.le_refl _) CX.out HCX.out (anew_octs HO.out) (anew_octs HO.out)
      rw [decide_eq_true (And.intro rfl rfl), anew_length HL.out (fits_of_good HG.out)] at h
      refine h.mono ?_
      clear h
      rintro e w23 ⟨rfl, hb⟩
      have HB23 := sB HB22 hb
      replace CX := sC CX hb
      replace HX := sK HX hb
      replace HY := sK HY hb
      clear hb  HB22
      go_wp2_with fail
      have h := rseal_calls (some ad) c p w23 (sL HL HR HB23) (sH HL hc) HO.out HG.out lsn HN0.out
      rw [HL.out] at h
      refine h.mono ?_
      clear h
      rintro e w24 ⟨vx, rfl, AY, cy, rfl, hcy, hry, hb⟩
      have HB24 := sB HB23 hb
      replace HY := sK HY hb
      have CY := Aside0.mk hry
      clear hb hry HB23
      have HCY := Aside0.mk hcy
      clear hcy
      go_wp2_with fail
      rw [sealP_len HL.out]
      have h := told_any (some ⟨gy, 0, none⟩) AY 512 cy (sealP p lsn) (sealP p lsn) 0 0 w24 (by rw [sealP_len HL.out]; exact blk_rb5 HY.out (sealP_len HL.out lsn)) (by rw [sealP_len HL.out]; exact Nat.le_refl _) CY.out HCY.out (sealP_octs HO.out lsn) (sealP_octs HO.out lsn)
      rw [decide_eq_true (And.intro rfl rfl), sealP_len HL.out] at h
      refine h.mono ?_
      clear h
      rintro e w25 ⟨rfl, hb⟩
      have HB25 := sB HB24 hb
      replace CY := sC CY hb
      replace HY := sK HY hb
      clear hb  HB24
      have hc12 := cellK (Kd.C_below HR.out HB25.out) 11 (by decide)
      rw [show 11 + 1 = 12 from rfl, List.getD_eq_getElem?_getD] at hc12
      go_wp2_with fail
      have h := rget_calls (some ad) c p w25 (sL HL HR HB25) (sH HL hc) HO.out HG.out 4 8 4 8 rfl rfl (by decide) (by decide)
      rw [HL.out] at h
      refine h.mono ?_
      clear h
      rintro e w26 ⟨rfl, hb⟩
      have HB26 := sB HB25 hb
      clear hb  HB25
      go_wp2_with fail
      have h := rget_calls (some ad) c p w26 (sL HL HR HB26) (sH HL hc) HO.out HG.out 18 4 18 4 rfl rfl (by decide) (by decide)
      rw [HL.out] at h
      refine h.mono ?_
      clear h
      rintro e w27 ⟨rfl, hb⟩
      have HB27 := sB HB26 hb
      clear hb  HB26
      go_wp2_with fail
      have h := rget_calls (some ad) c p w27 (sL HL HR HB27) (sH HL hc) HO.out HG.out 22 4 22 4 rfl rfl (by decide) (by decide)
      rw [HL.out] at h
      refine h.mono ?_
      clear h
      rintro e w28 ⟨rfl, hb⟩
      have HB28 := sB HB27 hb
      clear hb  HB27
      go_wp2
      go_ret
      exact ⟨rfl, HB28.out⟩
end Go.Proofs.Ytpogneedafoiaaa.Pg
