/- Contracts by hand: awake. -/
import Derived.Test.YtlcididlnfclgaaSums1
import Derived.Lib.SlBytesConst
import Derived.Outline
namespace Go.Proofs.Ytlcididlnfclgaa.Sums
open Go.RowKit Go.Proofs.YtlcididlnfclgaaW.PrintWords Go.Proofs.YtlcididlnfclgaaW.PrintLast Go.Proofs.YtlcididlnfclgaaW.PrintMore
set_option linter.unusedVariables false
set_option linter.unusedSimpArgs false

theorem conv_const (w : World) (C : Array Value) (g n c : Nat) (hg : g = w.heap.size) :
    (convert 22 22 (.slice (some ⟨g, 0, none⟩) n c)).run Try.prog (w.alloc (.cells C 5)) = .ok (.slice (some ⟨g, 0, none⟩) n c) (w.alloc (.cells C 5 (C.size, C.size + 1))) := by
  subst hg
  exact Lib.run_convert_bytes_const (P := Try.prog) w 22 5 C n c Try.underlying22 Try.underlying5
theorem heap_new (w : World) (o : Obj) (g : Nat) (h : g = w.heap.size) : (w.alloc o).heap[g]? = some o := by
  subst h
  show (w.heap.push o)[w.heap.size]? = _
  simp
/-- A slice over a block that is known whole. -/
theorem C_block {w : World} {g e : Nat} {fz : Nat × Nat} {xs : List Int} (h : w.heap[g]? = some (.cells (nums .u8 xs).toArray e fz)) (hl : xs.length ≤ 9223372036854775807) : Kd.C (Kd.int .u8) w (some ⟨g, 0, none⟩) xs.length xs := by
  refine Kd.C_of_reads (d := (0 : Int)) ⟨rfl, hl, fun _ => ⟨_, rfl, fun j hj => ?_⟩⟩
  have : (⟨g, 0, none⟩ : Addr).add j = ⟨g, j, none⟩ := add_plain g j
  rw [this]
  unfold World.cell?
  simp only [h]
  simp [nums, List.getElem?_eq_getElem hj, List.getD_eq_getElem?_getD]

def munimentlaw1_awake.f (k : Nat) : Option Bool := (sum_Get.f k [2, 1] 0 2).bind fun a => (sum_Of.f k [97]).bind fun b => if a = (258, 0) ∧ b = 3904355907 then some true else none
theorem munimentlaw1_awake.mono : ∀ k, LeO (munimentlaw1_awake.f k) (munimentlaw1_awake.f (k + 1)) := by
  intro k
  unfold munimentlaw1_awake.f
  refine LeO.bind (sum_Get.mono _ _ _ _) (fun a => ?_)
  refine LeO.bind (sum_Of.mono _ _) (fun b => LeO.refl _)
set_option maxHeartbeats 1000000 in
theorem munimentlaw1_awake.calls (k : Nat) (r : Bool) (w : World) (h : munimentlaw1_awake.f k = some r) :
    Calls Try.prog 7 #[] w fun e w' => e = .returned (.bool r) ∧ Below w.heap.size w w' := by
  unfold munimentlaw1_awake.f at h
  obtain ⟨a, ha, h⟩ := Option.bind_eq_some_iff.mp h
  obtain ⟨b, hb, h⟩ := Option.bind_eq_some_iff.mp h
  by_cases hc : a = (258, 0) ∧ b = 3904355907
  · rw [if_pos hc] at h
    obtain rfl := Option.some.inj h
    obtain ⟨rfl, rfl⟩ := hc
    have H1 := Aside0.mk ha
    have H2 := Aside0.mk hb
    clear ha hb h
    have kc := conv_const
    go_enter Try.func7, Try.ntmps7
    go_wp2_with fail
    refine (sum_Get.calls k _ _ [2, 1] 0 2 258 0 _ ?_ ?_ H1.out).mono ?_
    · exact C_block (e := 5) (fz := (0, 0)) (xs := [2, 1]) (heap_new _ _ _ (by simp)) (by decide)
    · decide
    rintro e w' ⟨rfl, ⟨nd, rfl⟩⟩
    go_wp2_with fail
    refine (sum_Of.calls k _ _ [97] 3904355907 _ ?_ ?_ H2.out).mono ?_
    · exact C_block (e := 5) (fz := (1, 2)) (xs := [97]) (heap_new _ _ _ (by simp)) (by decide)
    · decide
    rintro e w' ⟨rfl, ⟨nd2, rfl⟩⟩
    go_wp2
    go_ret
    exact ⟨rfl, by repeat (first | exact Below.refl _ _ | apply below_alloc | apply pw_below_drewN | apply below_drew1)⟩
  · rw [if_neg hc] at h
    exact absurd h (by simp)
end Go.Proofs.Ytlcididlnfclgaa.Sums
