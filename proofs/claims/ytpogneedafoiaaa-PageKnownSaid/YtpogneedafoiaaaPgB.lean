/- Contracts by hand: a sheet that is read: free, cell; clone. -/
import Derived.Test.YtpogneedafoiaaaPgA
namespace Go.Proofs.Ytpogneedafoiaaa.Pg
open Go.RowKit Go.Proofs.YtpogneedafoiaaaW.PrintWords Go.Proofs.YtpogneedafoiaaaW.PrintLast Go.Proofs.YtpogneedafoiaaaW.PrintMore Go.Proofs.Ytpogneedafoiaaa.Bw Go.Proofs.Ytpogneedafoiaaa.Crc Go.Proofs.Ytpogneedafoiaaa.Wordy
set_option linter.unusedVariables false
set_option linter.unusedSimpArgs false

/-- the first k sizes -/
def sumSz (p : List Int) : Nat → Nat
  | 0 => 0
  | k + 1 => sumSz p k + szP p k
theorem sumSz_le {p : List Int} (ho : octs p) (k : Nat) : sumSz p k ≤ 65536 * k := by
  induction k with
  | zero => exact Nat.le_refl _
  | succ k ih =>
    have : szP p k < 65536 := numAt2_lt ho _
    rw [sumSz]
    omega
def freeP (p : List Int) : Int := 486 - 4 * (cnt p : Int) - (sumSz p (cnt p) : Int)
set_option maxHeartbeats 2000000 in
theorem free_calls (A : Option Addr) (c : Nat) (p : List Int) (w : World) (hr : Kd.C (Kd.int .u8) w A p.length p) (hc : p.length ≤ c) (ho : octs p) (hl : p.length = 512) (hn : 26 + 4 * cnt p ≤ 512) :
    Calls Try.prog 51 #[.agg #[.slice A p.length c]] w fun e w' => e = .returned (.int .i64 (freeP p)) ∧ Below w.heap.size w w' := by
  have HR := Aside0.mk hr
  have HO := Aside0.mk ho
  have HL := Aside0.mk hl
  have HB0 := Aside0.mk (below_alloc (Below.refl w.heap.size w) (.cells #[.slice A p.length c] 65))
  clear hr ho hl
  go_enter Try.func51, Try.ntmps51
  go_wp2_with fail
  refine (count_calls A c p _ (Kd.C_below HR.out HB0.out) hc HO.out HL.out).mono ?_
  rintro e w1 ⟨rfl, hb⟩
  have hcell1 := pw_cell_below hb (a := ⟨w.heap.size, 0, none⟩) (v := .slice A p.length c) (by simp)
  have HB1 := Aside0.mk (below_step HB0.out hb)
  clear hb
  go_wp2_with fail
  refine (count_calls A c p _ (Kd.C_below HR.out HB1.out) hc HO.out HL.out).mono ?_
  rintro e w2 ⟨rfl, hb⟩
  have hcell2 := pw_cell_below hb hcell1
  have HB2 := Aside0.mk (below_step HB1.out hb)
  clear hb hcell1
  have HC2 := Aside0.mk hcell2
  clear hcell2
  go_wp2_with fail
  go_loopg [3, 13] (cnt p) (fun d v3 v13 wr => ∃ k : Nat, v13 = .int .i64 k ∧ v3 = .int .i64 (486 - 4 * (cnt p : Int) - (sumSz p k : Int)) ∧ Aside0 (k + d = cnt p) ∧ Aside0 (wr.cell? ⟨w.heap.size, 0, none⟩ = some (.slice A p.length c)) ∧ Aside0 (Below w.heap.size w wr))
  case atStart => exact ⟨0, rfl, by simp [sumSz], ⟨by omega⟩, HC2, HB2⟩
  case round =>
    clear HC2 HB2
    obtain ⟨k, rfl, rfl, HK, HC, HB⟩ := hrel
    have hk := HK.out
    have hs := sumSz_le HO.out k
    have hs1 : szP p k < 65536 := numAt2_lt HO.out _
    by_cases hlt : k < cnt p
    · have hcell := HC.out
      go_wp2_with fail
      refine (slot_calls A c p k _ (Kd.C_below HR.out HB.out) hc HO.out HL.out (by omega)).mono ?_
      rintro e w3 ⟨rfl, hb⟩
      have HC3 := Aside0.mk (pw_cell_below hb hcell)
      have HB3 := Aside0.mk (below_step HB.out hb)
      clear hb hcell
      go_wp2
      go_roundg (gk - 1)
      case measure => have := HK.out; omega
      case rel => exact ⟨k + 1, by go_num, by rw [sumSz]; exact congrArg (Value.int .i64) (by omega), ⟨by have := HK.out; omega⟩, HC3, HB3⟩
    · obtain rfl : k = cnt p := by omega
      go_wp2
      go_ret
      exact ⟨rfl, HB.out⟩
/-- a cell's bytes -/
def cellP (p : List Int) (i : Nat) : List Int := (p.drop (frm p i)).take (szP p i)
set_option maxHeartbeats 2000000 in
theorem cell_calls (A : Option Addr) (c : Nat) (p : List Int) (i : Nat) (w : World) (hr : Kd.C (Kd.int .u8) w A p.length p) (hc : p.length ≤ c) (ho : octs p) (hl : p.length = 512) (hi : 30 + 4 * i ≤ 512) (hfit : frm p i + szP p i ≤ 512) :
    Calls Try.prog 50 #[.agg #[.slice A p.length c], .int .i64 i] w fun e w' => ∃ A' : Addr, e = .returned (.slice (some A') (szP p i) (szP p i)) ∧ (∀ W, Kd.C (Kd.int .u8) W A p.length p → Kd.C (Kd.int .u8) W (some A') (szP p i) (cellP p i)) ∧ (∀ ad, A = some ad → A'.block = ad.block) ∧ Below w.heap.size w w' := by
  obtain ⟨ad, rfl⟩ := rb_some hr (by omega)
  have HR := Aside0.mk hr
  have HO := Aside0.mk ho
  have HL := Aside0.mk hl
  have HB0 := Aside0.mk (below_alloc (Below.refl w.heap.size w) (.cells #[.slice (some ad) p.length c] 65))
  have hfit2 : frm p i + szP p i ≤ p.length := by omega
  have hfit3 : frm p i + szP p i ≤ c := by omega
  clear hr ho hl
  go_enter Try.func50, Try.ntmps50
  go_wp2_with fail
  refine (slot_calls (some ad) c p i _ (Kd.C_below HR.out HB0.out) hc HO.out HL.out hi).mono ?_
  rintro e w1 ⟨rfl, hb⟩
  have hcell1 := pw_cell_below hb (a := ⟨w.heap.size, 0, none⟩) (v := .slice (some ad) p.length c) (by simp)
  have HB1 := Aside0.mk (below_step HB0.out hb)
  clear hb
  by_cases hz : szP p i = 0
  · go_wp2
    go_ret
    refine ⟨ad, by rw [hz]; rfl, fun W h => ?_, fun ad1 h => by cases h; rfl, HB1.out⟩
    rw [hz]
    exact rb_of_reads ⟨by unfold cellP; rw [hz]; rfl, by decide, fun h => absurd h (by decide)⟩
  · go_wp2
    go_ret
    refine ⟨ad.add (frm p i), ?_, fun W h => rb_cut h _ _ hfit2, fun ad1 h => ?_, HB1.out⟩
    · show Ending.returned (.slice (some (ad.add (frm p i))) (frm p i + szP p i - frm p i) (frm p i + szP p i - frm p i)) = _
      rw [Nat.add_sub_cancel_left]
    · cases h
      unfold Addr.add
      split <;> rfl
theorem hmk (n : Nat) (hn : n ≤ 140737488351232) (w : World) : (Instr.makeSlice 22 (.int .i64 0) (.int .i64 (n : Int))).run Try.prog w = .ok (.slice (some ⟨w.heap.size, 0, none⟩) 0 n) (w.alloc (.cells (madeCells #[.int .u8 0] n) 5)) := by
  obtain ⟨i0, hi, hz0, hz1, hz2⟩ := info_parts info5
  have h := run_make (P := Try.prog) w 22 5 i0 (.int .u8 0) Try.underlying22 hi hz0 .i64 .i64 0 n (by omega) (by omega) (by rw [hz2]; omega) (by omega)
  have e : (Value.int .u8 0).cells = #[.int .u8 0] := rfl
  rw [hz1, e] at h
  simpa using h
theorem below_of_grown_new {w w1 w2 : World} {g : Nat} (hb : Below w.heap.size w w1) (hg : w1.grownBy w2 (some g)) (hle : w.heap.size ≤ g) : Below w.heap.size w w2 :=
  below_grown hb hg (by rintro k hk; cases hk; exact hle)
set_option maxHeartbeats 2000000 in
theorem clone_calls (A : Option Addr) (c : Nat) (l : List Int) (w : World) (hr : Kd.C (Kd.int .u8) w A l.length l) (hc : l.length ≤ c) (hl : l.length ≤ 140737488351232) (hA : A = none → c = 0) :
    Calls Try.prog 49 #[.slice A l.length c] w fun e w' => ∃ g, e = .returned (.slice (some ⟨g, 0, none⟩) l.length l.length) ∧ w.heap.size ≤ g ∧ Blk w' 5 g l ∧ Below w.heap.size w w' := by
  have HR := Aside0.mk hr
  have HA := Aside0.mk hA
  clear hr hA
  have hmk' := hmk l.length hl
  go_enter Try.func49, Try.ntmps49
  go_wp2_with (at_builtin; go_loud (refine wl_clone rfl _ _ 22 5 rfl Try.underlying22 info5 w.heap.size l.length c A l rfl rfl (heap_new _ _ _ (by simp)) (Kd.C_alloc HR.out _) hc (by omega) HA.out ?_); intro w1 hb1 hg1)
  go_ret
  exact ⟨_, rfl, Nat.le_refl _, hb1, below_of_grown_new (below_alloc (Below.refl _ _) _) hg1 (Nat.le_refl _)⟩
/-- laying of one variable's zero -/
theorem wl_alloc {P : Program} {ops : Array Oper} {rest : List Oper} {o : Oper} {a : Act} {Q : Exit → Act → World → Prop} {W : World} (hg : o.guard = none) (T : TypeId) (ho : o.op = .alloc T) (z : Value) (cs : Array Value)
    (hz : (P.info? T).bind (·.zero) = some z) (hcs : z.cells = cs)
    (h : ∀ w', w'.heap[W.heap.size]? = some (.cells cs T (0, 0)) → Below W.heap.size W w' → wpList P ops Q rest (a.put o.dst (.pointer (some ⟨W.heap.size, 0, none⟩))) w') : wpList P ops Q (o :: rest) a W := by
  refine wpList_plain hg fun K hK => ?_
  obtain ⟨i, hi, hz1⟩ := Option.bind_eq_some_iff.mp hz
  have hrun : (Instr.alloc T true (.tuple #[])).run P W = .ok (.pointer (some ⟨W.heap.size, 0, none⟩)) (W.alloc (.cells z.cells T)) := by
    simp [Instr.alloc, zeroValue, typeInfo, hi, hz1, newVar, newRow]
  unfold Oper.wp
  simp [execOp, ho, hrun, Result.andThen]
  refine hK _ _ (h _ ?_ (below_alloc (Below.refl _ _) _))
  rw [hcs]
  exact heap_new _ _ _ rfl
end Go.Proofs.Ytpogneedafoiaaa.Pg
