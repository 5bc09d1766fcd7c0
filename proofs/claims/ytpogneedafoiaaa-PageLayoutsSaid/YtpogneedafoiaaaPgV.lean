/- Contracts by hand: the walk of PageKnown. -/
import Derived.Test.YtpogneedafoiaaaPgFour
import Derived.Test.YtpogneedafoiaaaPgThree
namespace Go.Proofs.Ytpogneedafoiaaa.Pg
open Go.RowKit Go.Proofs.YtpogneedafoiaaaW.PrintWords Go.Proofs.YtpogneedafoiaaaW.PrintLast Go.Proofs.YtpogneedafoiaaaW.PrintMore Go.Proofs.Ytpogneedafoiaaa.Bw Go.Proofs.Ytpogneedafoiaaa.Crc Go.Proofs.Ytpogneedafoiaaa.Wordy
set_option linter.unusedVariables false
set_option linter.unusedSimpArgs false

set_option maxHeartbeats 1000000 in
theorem lawlow (A : Option Addr) (c : Nat) (p : List Int) (w : World) (hr : Kd.C (Kd.int .u8) w A 512 p) (hc : 512 ≤ c) (ho : octs p) (hl : p.length = 512) :
    Calls Try.prog 31 #[.slice A 512 c] w fun e w' => e = .returned (.int .i64 ((lowP p : Nat) : Int)) ∧ Below w.heap.size w w' := by
  have hg := Rf.munimentref1_Get.calls 9 A c p 16 2 _ w (by rw [hl]; exact hr) (by omega) (Get_eq p ho (by omega) 16 2 9 (by omega) (by decide) (Nat.le_refl _))
  rw [hl] at hg
  have hb : numAt p 16 2 < 65536 := numAt2_lt ho 16
  have hw1 : IntKind.i64.wrap ((numAt p 16 2 : Nat) : Int) = ((numAt p 16 2 : Nat) : Int) := IntWalk.i64_in _ (by omega)
  go_enter Try.func31, Try.ntmps31
  go_wp2_with fail
  refine hg.mono ?_
  rintro e w2 ⟨rfl, n, rfl⟩
  go_wp2
  go_ret
  exact ⟨rfl, pw_below_drewN (Below.refl _ _) n⟩
def kA : List Int := insertP (newP 1) 0 [97, 98]
def kB : List Int := insertP kA 0 [99]
def kC : List Int := removeP kB 0
def kD : List Int := insertP kC 1 (List.replicate 476 0)
def kT : List Int := insertP (newP 1) 0 (List.replicate 10 0)
def kS : List Int := sealP (newP 1) 5
def z512 : List Int := List.replicate 512 0
def okP (p : List Int) : Prop := p.length = 512 ∧ octs p ∧ goodP p = true
set_option maxRecDepth 100000 in
theorem kA_ok : okP kA ∧ cnt kA = 1 ∧ freeP kA = 480 := by
  refine ⟨⟨?_, ?_, ?_⟩, ?_, ?_⟩
  · decide +kernel
  · unfold octs; decide +kernel
  all_goals decide +kernel
set_option maxRecDepth 100000 in
theorem kB_ok : okP kB ∧ cnt kB = 2 ∧ lowP kB = 509 := by
  refine ⟨⟨?_, ?_, ?_⟩, ?_, ?_⟩
  · decide +kernel
  · unfold octs; decide +kernel
  all_goals decide +kernel
set_option maxRecDepth 100000 in
theorem kC_ok : okP kC ∧ cnt kC = 1 ∧ freeP kC = 480 ∧ lowP kC = 509 := by
  refine ⟨⟨?_, ?_, ?_⟩, ?_, ?_, ?_⟩
  · decide +kernel
  · unfold octs; decide +kernel
  all_goals decide +kernel
set_option maxRecDepth 100000 in
theorem kD_ok : kD.length = 512 ∧ octs kD ∧ lowP kD = 34 := by
  refine ⟨?_, ?_, ?_⟩
  · decide +kernel
  · unfold octs; decide +kernel
  · decide +kernel
set_option maxRecDepth 100000 in
theorem kT_ok : okP kT ∧ cnt kT = 1 ∧ freeP kT = 472 := by
  refine ⟨⟨?_, ?_, ?_⟩, ?_, ?_⟩
  · decide +kernel
  · unfold octs; decide +kernel
  all_goals decide +kernel
set_option maxRecDepth 100000 in
theorem kS_ok : kS.length = 512 ∧ octs kS ∧ checkP kS = 0 := by
  refine ⟨?_, ?_, ?_⟩
  · decide +kernel
  · unfold octs; decide +kernel
  · decide +kernel
set_option maxRecDepth 100000 in
theorem k1_ok : checkP (newP 1) = 8 ∧ checkP z512 = 0 ∧ octs z512 ∧ z512.length = 512 := by
  refine ⟨?_, ?_, ?_, ?_⟩
  · decide +kernel
  · decide +kernel
  · unfold octs; decide +kernel
  · decide +kernel
theorem full_at (A B : Option Addr) (c cc n : Nat) (p : List Int) (i : Nat) (i' : Int) (w : World) (hi' : i' = (i : Int)) (hr : Kd.C (Kd.int .u8) w A 512 p) (hc : 512 ≤ c) (ho : octs p) (hl : p.length = 512) (hg : goodP p = true) (hi : i ≤ cnt p) (hll : n ≤ 140737488351232) (hfull : freeP p < (n : Int) + 4) :
    Calls Try.prog 17 #[.slice A 512 c, .int .i64 i', .slice B n cc] w fun e w' => e = .returned (.tuple #[.slice none 0 0, .int .i64 7]) ∧ Below w.heap.size w w' := by
  subst hi'
  have h := insert_full A B c cc p (List.replicate n 0) i w hr hc ho hl hg hi (by rw [List.length_replicate]; exact hll) (by rw [List.length_replicate]; exact hfull)
  rw [List.length_replicate] at h
  exact h
theorem remove_at (A : Option Addr) (c : Nat) (p : List Int) (i : Nat) (i' : Int) (w : World) (hi' : i' = (i : Int)) (hr : Kd.C (Kd.int .u8) w A 512 p) (hc : 512 ≤ c) (ho : octs p) (hl : p.length = 512) (hg : goodP p = true) (hi : i < cnt p) :
    Calls Try.prog 19 #[.slice A 512 c, .int .i64 i'] w fun e w' => ∃ g, e = .returned (.tuple #[.slice (some ⟨g, 0, none⟩) 512 512, .int .i64 0]) ∧ w.heap.size ≤ g ∧ Blk w' 5 g (removeP p i) ∧ Below w.heap.size w w' := by
  subst hi'
  exact remove_good A c p i w hr hc ho hl hg hi
theorem blk_len {w : World} {g n : Nat} {p : List Int} (h : Blk w 5 g p) (hl : p.length = n) (hn : n ≤ 9223372036854775807) : Kd.C (Kd.int .u8) w (some ⟨g, 0, none⟩) n p := by
  have h := h.rb (by omega)
  unfold Rb at h
  rw [hl] at h
  exact h
set_option maxRecDepth 100000 in
set_option maxHeartbeats 4000000 in
theorem known_x (w : World) : Calls Try.prog 6 #[] w fun e w' => e = .returned (.bool true) ∧ Below w.heap.size w w' := by
  have HN := Aside0.mk new1_facts
  have HkA := Aside0.mk kA_ok
  have HkB := Aside0.mk kB_ok
  have HkC := Aside0.mk kC_ok
  have HkD := Aside0.mk kD_ok
  have HkT := Aside0.mk kT_ok
  have HkS := Aside0.mk kS_ok
  have Hk1 := Aside0.mk k1_ok
  go_enter Try.func6, Try.ntmps6
  go_wp2_with fail
  refine (new_good 1 _ (by decide)).mono ?_
  rintro e w1 ⟨gP, rfl, hg1, hbk, hb⟩
  have HP := Aside0.mk hbk
  have HB := Aside0.mk hb
  clear hbk hb
  have kc := conv_const w1 #[Value.int IntKind.u8 97, Value.int IntKind.u8 98] w1.heap.size 2 2 rfl
  go_wp2_with (first | (simp only [kc]))
  clear kc
  have HBa := Aside0.mk (below_alloc HB.out (.cells #[Value.int IntKind.u8 97, Value.int IntKind.u8 98] 5 (2, 3)))
  have HPa := Aside0.mk (HP.out.below (below_alloc (Below.refl _ _) (.cells #[Value.int IntKind.u8 97, Value.int IntKind.u8 98] 5 (2, 3))))
  refine (insert_at (some ⟨gP, 0, none⟩) (some ⟨w1.heap.size, 0, none⟩) 512 2 2 (newP 1) [97, 98] 0 _ _ rfl rfl (blk_rb5 HPa.out HN.out.2.1) (Nat.le_refl _) HN.out.1 HN.out.2.1 HN.out.2.2.1 (C_block (xs := [97, 98]) (heap_new _ _ _ rfl) (by decide)) (Nat.le_refl _) (Nat.zero_le _) (by decide) (by rw [HN.out.2.2.2.2]; decide)).mono ?_
  rintro e w2 ⟨gA, rfl, hgA, hbk, hb⟩
  have HA := Aside0.mk (show Blk w2 5 gA kA from hbk)
  have HB2 := Aside0.mk (below_step HBa.out hb)
  have HP2 := Aside0.mk (HPa.out.below hb)
  clear hbk hb HB HP HBa HPa
  have kc := conv_const w2 #[Value.int IntKind.u8 99] w2.heap.size 1 1 rfl
  go_wp2_with (first | (simp only [kc]))
  clear kc
  have HBb := Aside0.mk (below_alloc HB2.out (.cells #[Value.int IntKind.u8 99] 5 (1, 2)))
  have HPb := Aside0.mk (HP2.out.below (below_alloc (Below.refl _ _) (.cells #[Value.int IntKind.u8 99] 5 (1, 2))))
  have HAb := Aside0.mk (HA.out.below (below_alloc (Below.refl _ _) (.cells #[Value.int IntKind.u8 99] 5 (1, 2))))
  refine (insert_at (some ⟨gA, 0, none⟩) (some ⟨w2.heap.size, 0, none⟩) 512 1 1 kA [99] 0 _ _ rfl rfl (blk_rb5 HAb.out HkA.out.1.1) (Nat.le_refl _) HkA.out.1.2.1 HkA.out.1.1 HkA.out.1.2.2 (C_block (xs := [99]) (heap_new _ _ _ rfl) (by decide)) (Nat.le_refl _) (Nat.zero_le _) (by decide) (by rw [HkA.out.2.2]; decide)).mono ?_
  rintro e w3 ⟨gB, rfl, hgB, hbk, hb⟩
  have HBk := Aside0.mk (show Blk w3 5 gB kB from hbk)
  have HB3 := Aside0.mk (below_step HBb.out hb)
  have HP3 := Aside0.mk (HPb.out.below hb)
  clear hbk hb HB2 HP2 HBb HPb HA HAb
  go_wp2_with fail
  refine (remove_at (some ⟨gB, 0, none⟩) 512 kB 0 _ _ rfl (blk_rb5 HBk.out HkB.out.1.1) (Nat.le_refl _) HkB.out.1.2.1 HkB.out.1.1 HkB.out.1.2.2 (by rw [HkB.out.2.1]; decide)).mono ?_
  rintro e w4 ⟨gC, rfl, hgC, hbk, hb⟩
  have HC4 := Aside0.mk (show Blk w4 5 gC kC from hbk)
  have HB4 := Aside0.mk (below_step HB3.out hb)
  have HP4 := Aside0.mk (HP3.out.below hb)
  have HBk4 := Aside0.mk (HBk.out.below hb)
  clear hbk hb HB3 HP3 HBk
  go_wp2_with (refine wl_make rfl _ _ rfl 477 (by decide) rfl rfl ?_; intro w5 hb5 hl5)
  have HB5 := Aside0.mk (below_step HB4.out hl5)
  have HP5 := Aside0.mk (HP4.out.below hl5)
  have HBk5 := Aside0.mk (HBk4.out.below hl5)
  have HC5 := Aside0.mk (HC4.out.below hl5)
  clear hb5 hl5 HB4 HP4 HBk4 HC4
  refine (full_at (some ⟨gC, 0, none⟩) _ 512 477 477 kC 1 _ _ rfl (blk_rb5 HC5.out HkC.out.1.1) (Nat.le_refl _) HkC.out.1.2.1 HkC.out.1.1 HkC.out.1.2.2 (by rw [HkC.out.2.1]; decide) (by decide) (by rw [HkC.out.2.2.1]; decide)).mono ?_
  rintro e w6 ⟨rfl, hb⟩
  have HB6 := Aside0.mk (below_step HB5.out hb)
  have HP6 := Aside0.mk (HP5.out.below hb)
  have HBk6 := Aside0.mk (HBk5.out.below hb)
  have HC6 := Aside0.mk (HC5.out.below hb)
  clear hb HB5 HP5 HBk5 HC5
  go_wp2_with (refine wl_make rfl _ _ rfl 476 (by decide) rfl rfl ?_; intro w7 hb7 hl7)
  have HB7 := Aside0.mk (below_step HB6.out hl7)
  have HP7 := Aside0.mk (HP6.out.below hl7)
  have HBk7 := Aside0.mk (HBk6.out.below hl7)
  have HC7 := Aside0.mk (HC6.out.below hl7)
  have HZ7 := Aside0.mk hb7
  clear hb7 hl7 HB6 HP6 HBk6 HC6
  refine (insert_at (some ⟨gC, 0, none⟩) _ 512 476 476 kC (List.replicate 476 0) 1 _ _ rfl (by rw [List.length_replicate]) (blk_rb5 HC7.out HkC.out.1.1) (Nat.le_refl _) HkC.out.1.2.1 HkC.out.1.1 HkC.out.1.2.2 (HZ7.out.rb (by rw [List.length_replicate]; decide)) (by rw [List.length_replicate]; exact Nat.le_refl _) (by rw [HkC.out.2.1]; decide) (by rw [List.length_replicate]; decide) (by rw [HkC.out.2.2.1, List.length_replicate]; decide)).mono ?_
  rintro e w8 ⟨gD, rfl, hgD, hbk, hb⟩
  have HD8 := Aside0.mk (show Blk w8 5 gD kD from hbk)
  have HB8 := Aside0.mk (below_step HB7.out hb)
  have HP8 := Aside0.mk (HP7.out.below hb)
  have HBk8 := Aside0.mk (HBk7.out.below hb)
  have HC8 := Aside0.mk (HC7.out.below hb)
  clear hb hbk HB7 HP7 HBk7 HC7 HZ7
  go_wp2_with (refine wl_make rfl _ _ rfl 10 (by decide) rfl rfl ?_; intro w9 hb9 hl9)
  have HB9 := Aside0.mk (below_step HB8.out hl9)
  have HP9 := Aside0.mk (HP8.out.below hl9)
  have HBk9 := Aside0.mk (HBk8.out.below hl9)
  have HC9 := Aside0.mk (HC8.out.below hl9)
  have HD9 := Aside0.mk (HD8.out.below hl9)
  have HZ9 := Aside0.mk hb9
  clear hb9 hl9 HB8 HP8 HBk8 HC8 HD8
  refine (insert_at (some ⟨gP, 0, none⟩) _ 512 10 10 (newP 1) (List.replicate 10 0) 0 _ _ rfl (by rw [List.length_replicate]) (blk_rb5 HP9.out HN.out.2.1) (Nat.le_refl _) HN.out.1 HN.out.2.1 HN.out.2.2.1 (HZ9.out.rb (by rw [List.length_replicate]; decide)) (by rw [List.length_replicate]; exact Nat.le_refl _) (Nat.zero_le _) (by rw [List.length_replicate]; decide) (by rw [HN.out.2.2.2.2, List.length_replicate]; decide)).mono ?_
  rintro e wa ⟨gT, rfl, hgT, hbk, hb⟩
  have HTa := Aside0.mk (show Blk wa 5 gT kT from hbk)
  have HBa := Aside0.mk (below_step HB9.out hb)
  have HPa := Aside0.mk (HP9.out.below hb)
  have HBka := Aside0.mk (HBk9.out.below hb)
  have HCa := Aside0.mk (HC9.out.below hb)
  have HDa := Aside0.mk (HD9.out.below hb)
  clear hb hbk HB9 HP9 HBk9 HC9 HD9 HZ9
  go_wp2_with fail
  have hfp := freeF_good (some ⟨gP, 0, none⟩) 512 (newP 1) wa (blk_rb5 HPa.out HN.out.2.1) (Nat.le_refl _) HN.out.1 HN.out.2.1 HN.out.2.2.1 (by rw [HN.out.2.2.2.1]; decide)
  rw [HN.out.2.2.2.2] at hfp
  refine hfp.mono ?_
  clear hfp
  rintro e wb ⟨rfl, hb⟩
  have HTb := Aside0.mk (HTa.out.below hb)
  have HBb := Aside0.mk (below_step HBa.out hb)
  have HPb := Aside0.mk (HPa.out.below hb)
  have HBkb := Aside0.mk (HBka.out.below hb)
  have HCb := Aside0.mk (HCa.out.below hb)
  have HDb := Aside0.mk (HDa.out.below hb)
  clear hb HTa HBa HPa HBka HCa HDa
  go_wp2_with fail
  have hfp := freeF_good (some ⟨gT, 0, none⟩) 512 kT wb (blk_rb5 HTb.out HkT.out.1.1) (Nat.le_refl _) HkT.out.1.2.1 HkT.out.1.1 HkT.out.1.2.2 (by rw [HkT.out.2.1]; decide)
  rw [HkT.out.2.2] at hfp
  refine hfp.mono ?_
  clear hfp
  rintro e wc ⟨rfl, hb⟩
  have HBc := Aside0.mk (below_step HBb.out hb)
  have HPc := Aside0.mk (HPb.out.below hb)
  have HBkc := Aside0.mk (HBkb.out.below hb)
  have HCc := Aside0.mk (HCb.out.below hb)
  have HDc := Aside0.mk (HDb.out.below hb)
  clear hb HTb HBb HPb HBkb HCb HDb
  go_wp2_with fail
  refine (seal_good (some ⟨gP, 0, none⟩) 512 (newP 1) 5 _ (blk_rb5 HPc.out HN.out.2.1) (Nat.le_refl _) HN.out.1 HN.out.2.1 HN.out.2.2.1 (by decide)).mono ?_
  rintro e wd ⟨gS, rfl, hgS, hbk, hb⟩
  have HSd := Aside0.mk (show Blk wd 5 gS kS from hbk)
  have HBd := Aside0.mk (below_step HBc.out hb)
  have HPd := Aside0.mk (HPc.out.below hb)
  have HBkd := Aside0.mk (HBkc.out.below hb)
  have HCd := Aside0.mk (HCc.out.below hb)
  have HDd := Aside0.mk (HDc.out.below hb)
  clear hb hbk HBc HPc HBkc HCc HDc
  go_wp2_with fail
  refine (awake_x _).mono ?_
  rintro e we ⟨rfl, hb⟩
  have HSe := Aside0.mk (HSd.out.below hb)
  have HBe := Aside0.mk (below_step HBd.out hb)
  have HPe := Aside0.mk (HPd.out.below hb)
  have HBke := Aside0.mk (HBkd.out.below hb)
  have HCe := Aside0.mk (HCd.out.below hb)
  have HDe := Aside0.mk (HDd.out.below hb)
  clear hb HSd HBd HPd HBkd HCd HDd
  go_wp2_with fail
  have hlo := lawlow (some ⟨gB, 0, none⟩) 512 kB we (blk_rb5 HBke.out HkB.out.1.1) (Nat.le_refl _) HkB.out.1.2.1 HkB.out.1.1
  rw [HkB.out.2.2] at hlo
  refine hlo.mono ?_
  clear hlo
  rintro e wf ⟨rfl, hb⟩
  have HSf := Aside0.mk (HSe.out.below hb)
  have HBf := Aside0.mk (below_step HBe.out hb)
  have HPf := Aside0.mk (HPe.out.below hb)
  have HCf := Aside0.mk (HCe.out.below hb)
  have HDf := Aside0.mk (HDe.out.below hb)
  clear hb HSe HBe HPe HBke HCe HDe
  go_wp2_with fail
  have hlo := lawlow (some ⟨gC, 0, none⟩) 512 kC wf (blk_rb5 HCf.out HkC.out.1.1) (Nat.le_refl _) HkC.out.1.2.1 HkC.out.1.1
  rw [HkC.out.2.2.2] at hlo
  refine hlo.mono ?_
  clear hlo
  rintro e wg ⟨rfl, hb⟩
  have HSg := Aside0.mk (HSf.out.below hb)
  have HBg := Aside0.mk (below_step HBf.out hb)
  have HPg := Aside0.mk (HPf.out.below hb)
  have HDg := Aside0.mk (HDf.out.below hb)
  clear hb HSf HBf HPf HCf HDf
  go_wp2_with fail
  have hlo := lawlow (some ⟨gD, 0, none⟩) 512 kD wg (blk_rb5 HDg.out HkD.out.1) (Nat.le_refl _) HkD.out.2.1 HkD.out.1
  rw [HkD.out.2.2] at hlo
  refine hlo.mono ?_
  clear hlo
  rintro e wh ⟨rfl, hb⟩
  have HSh := Aside0.mk (HSg.out.below hb)
  have HBh := Aside0.mk (below_step HBg.out hb)
  have HPh := Aside0.mk (HPg.out.below hb)
  clear hb HSg HBg HPg HDg
  go_wp2_with (refine gate_guard (wanted_on rfl rfl rfl rfl) ?_; refine wl_make rfl _ _ rfl 512 (by decide) rfl rfl ?_; intro wi hbi hli)
  have HSi := Aside0.mk (HSh.out.below hli)
  have HBi := Aside0.mk (below_step HBh.out hli)
  have HPi := Aside0.mk (HPh.out.below hli)
  have HZi := Aside0.mk hbi
  clear hbi hli HSh HBh HPh
  have hck := checkF ⟨wh.heap.size, 0, none⟩ 512 z512 wi (blk_rb5 HZi.out Hk1.out.2.2.2) (Nat.le_refl _) Hk1.out.2.2.1 Hk1.out.2.2.2
  rw [Hk1.out.2.1] at hck
  refine hck.mono ?_
  clear hck
  rintro e wj ⟨rfl, hb⟩
  have HSj := Aside0.mk (HSi.out.below hb)
  have HBj := Aside0.mk (below_step HBi.out hb)
  have HPj := Aside0.mk (HPi.out.below hb)
  clear hb HSi HBi HPi HZi
  go_wp2_with fail
  have hck := checkF ⟨gP, 0, none⟩ 512 (newP 1) wj (blk_rb5 HPj.out HN.out.2.1) (Nat.le_refl _) HN.out.1 HN.out.2.1
  rw [Hk1.out.1] at hck
  refine hck.mono ?_
  clear hck
  rintro e wk ⟨rfl, hb⟩
  have HSk := Aside0.mk (HSj.out.below hb)
  have HBk := Aside0.mk (below_step HBj.out hb)
  clear hb HSj HBj HPj
  go_wp2_with fail
  have hck := checkF ⟨gS, 0, none⟩ 512 kS wk (blk_rb5 HSk.out HkS.out.1) (Nat.le_refl _) HkS.out.2.1 HkS.out.1
  rw [HkS.out.2.2] at hck
  refine hck.mono ?_
  clear hck
  rintro e wl ⟨rfl, hb⟩
  have HBl := Aside0.mk (below_step HBk.out hb)
  clear hb HSk HBk
  go_wp2
  go_ret
  exact ⟨rfl, HBl.out⟩
end Go.Proofs.Ytpogneedafoiaaa.Pg
