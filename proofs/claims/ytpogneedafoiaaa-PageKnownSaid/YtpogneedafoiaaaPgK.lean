/- Contracts by hand: Head, Check. -/
import Derived.Test.YtpogneedafoiaaaPgJ
namespace Go.Proofs.Ytpogneedafoiaaa.Pg
open Go.RowKit Go.Proofs.YtpogneedafoiaaaW.PrintWords Go.Proofs.YtpogneedafoiaaaW.PrintLast Go.Proofs.YtpogneedafoiaaaW.PrintMore Go.Proofs.Ytpogneedafoiaaa.Bw Go.Proofs.Ytpogneedafoiaaa.Crc Go.Proofs.Ytpogneedafoiaaa.Wordy
set_option linter.unusedVariables false
set_option linter.unusedSimpArgs false

theorem cellK {W : World} {ad : Addr} {p : List Int} (h : Kd.C (Kd.int .u8) W (some ad) 512 p) (j : Nat) (hj : j + 1 < 512) : W.cell? ⟨ad.block, ad.off + (j + 1), none⟩ = some (.int .u8 (p.getD (j + 1) 0)) := by
  obtain ⟨ad', he, hx⟩ := (rb_reads h).2.2 (by decide)
  injection he with he
  subst he
  have := hx (j + 1) hj
  rwa [show ad.add (j + 1) = (⟨ad.block, ad.off + (j + 1), none⟩ : Addr) by simp [Addr.add]] at this
theorem word8 (ad : Addr) (c : Nat) (p : List Int) (w : World) (hr : Kd.C (Kd.int .u8) w (some ad) 512 p) (hc : 512 ≤ c) (ho : octs p) (hl : p.length = 512) :
    Calls Try.prog 61 #[.slice (some ⟨ad.block, ad.off + 4, none⟩) 8 (c - 4)] w fun e w' => e = .returned (.int .u64 ((numAt p 4 8 : Nat) : Int)) ∧ Below w.heap.size w w' := by
  have h8 : ((p.drop 4).take 8).length = 8 := by rw [List.length_take, List.length_drop]; omega
  have h := word_calls (some (ad.add 4)) (c - 4) ((p.drop 4).take 8) w (by rw [h8]; exact rb_cut hr 4 8 (by omega)) (by omega) (octs_take (octs_drop ho _) _) (by omega)
  rw [h8, show ad.add 4 = (⟨ad.block, ad.off + 4, none⟩ : Addr) by simp [Addr.add]] at h
  refine h.mono ?_
  rintro e w' ⟨rfl, n, rfl⟩
  exact ⟨rfl, pw_below_drewN (Below.refl _ _) n⟩
set_option maxHeartbeats 2000000 in
theorem headF_bad (A : Option Addr) (c : Nat) (p : List Int) (w : World) (hr : Kd.C (Kd.int .u8) w A p.length p) (hc : p.length ≤ c) (ho : octs p) (hl : p.length ≤ 140737488351232) (hg : goodP p = false) :
    Calls Try.prog 28 #[.slice A p.length c] w fun e w' => e = .returned (.tuple #[.int .i64 0, .int .u64 0, .int .i64 0, .int .i64 0, .int .i64 4]) ∧ Below w.heap.size w w' := by
  have HR := Aside0.mk hr
  have HO := Aside0.mk ho
  have HG := Aside0.mk hg
  clear hr ho hg
  go_enter Try.func28, Try.ntmps28
  go_wp2_with fail
  refine (of_bad A c p _ HR.out hc HO.out hl HG.out).mono ?_
  rintro e w1 ⟨rfl, hb⟩
  have HB := Aside0.mk hb
  clear hb
  go_wp2
  refine bodyPost_ret (v := .tuple #[.int .i64 0, .int .u64 0, .int .i64 0, .int .i64 0, .int .i64 4]) (by simp [results, Try.f28, go_sem]) rfl ⟨rfl, below_alloc HB.out _⟩
set_option maxHeartbeats 4000000 in
theorem headF_good (A : Option Addr) (c : Nat) (p : List Int) (w : World) (hr : Kd.C (Kd.int .u8) w A 512 p) (hc : 512 ≤ c) (ho : octs p) (hl : p.length = 512) (hg : goodP p = true) :
    Calls Try.prog 28 #[.slice A 512 c] w fun e w' => e = .returned (.tuple #[.int .i64 (p.getD 12 0), .int .u64 ((numAt p 4 8 : Nat) : Int), .int .i64 ((numAt p 18 4 : Nat) : Int), .int .i64 ((numAt p 22 4 : Nat) : Int), .int .i64 0]) ∧ Below w.heap.size w w' := by
  obtain ⟨ad, rfl⟩ := rb_some hr (by omega)
  have hw12 : IntKind.i64.wrap (p[12]?.getD 0) = p[12]?.getD 0 := by
    have hx : p[12]?.getD 0 = p[12]'(by omega) := by rw [List.getElem?_eq_getElem (by omega)]; rfl
    have := ho _ (List.getElem_mem (l := p) (n := 12) (by omega))
    rw [hx]
    exact IntWalk.i64_in _ (by omega)
  have k1 : (12 : Int) ≤ (c : Int) := by omega
  have k2 : ¬ c = 4 := by omega
  have HR := Aside0.mk hr
  have HO := Aside0.mk ho
  have HG := Aside0.mk hg
  have HL := Aside0.mk hl
  clear hr ho hg hl
  go_enter Try.func28, Try.ntmps28
  go_wp2_with fail
  refine (of_good (some ad) c p _ HR.out hc HO.out HL.out HG.out).mono ?_
  rintro e w1 ⟨rfl, hb⟩
  have HB := Aside0.mk (below_alloc hb (.cells #[.slice (some ad) 512 c] 65))
  have HR1 := Aside0.mk (Kd.C_below HR.out HB.out)
  clear hb
  go_wp2_with fail
  go_region_held3 (fun w' => w'.cell? ⟨w1.heap.size, 0, none⟩ = some (.slice (some ad) 512 c) ∧ Below w.heap.size w w' ∧ Kd.C (Kd.int .u8) w' (some ad) 512 p ∧ w'.cell? ⟨ad.block, ad.off + 12, none⟩ = some (.int .u8 (p.getD 12 0)))
    (first | (exact ⟨by simp, HB.out.drew, Kd.C_below HR.out HB.out.drew, cellK (Kd.C_below HR.out HB.out.drew) 11 (by decide)⟩) | (exact ⟨by simp, HB.out, HR1.out, cellK HR1.out 11 (by decide)⟩) | (go_split_ands; exact ⟨pw_cell_below hb (by assumption), below_step (by assumption) hb, Kd.C_below HR.out (below_step (by assumption) hb), cellK (Kd.C_below HR.out (below_step (by assumption) hb)) 11 (by decide)⟩))
    (first | (go_at_call 62; (with_reducible refine (get5 (some ad) c p _ ?_ hc HO.out HL.out _ _ (by omega) (by omega) (by omega) (by omega)).mono ?_); (go_split_ands; assumption); rintro e w2 ⟨rfl, hb⟩) | (go_at_call 61; (with_reducible refine (word8 ad c p _ ?_ hc HO.out HL.out).mono ?_); (go_split_ands; assumption); rintro e w2 ⟨rfl, hb⟩))
  go_split_ands
  have HBz := Aside0.mk (show Below w.heap.size w _ by assumption)
  go_wp2
  refine bodyPost_ret (v := .tuple #[.int .i64 (p[12]?.getD 0), .int .u64 ((numAt p 4 8 : Nat) : Int), .int .i64 (gI p 18 4), .int .i64 (gI p 22 4), .int .i64 0]) (by simp [results, Try.f28, go_sem, hw12]) rfl ⟨?_, HBz.out⟩
  rw [gI_of p (a := 18) (s := 4) (at_ := 18) (size := 4) rfl rfl, gI_of p (a := 22) (s := 4) (at_ := 22) (size := 4) rfl rfl, List.getD_eq_getElem?_getD]
end Go.Proofs.Ytpogneedafoiaaa.Pg
