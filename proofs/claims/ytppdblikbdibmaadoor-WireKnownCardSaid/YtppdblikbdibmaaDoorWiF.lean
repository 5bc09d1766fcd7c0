/- Contracts by hand: numbers laid behind bytes; the frame of a body. -/
import Derived.Test.YtppdblikbdibmaaDoorWiE
namespace Go.Proofs.YtppdblikbdibmaaDoor.Wi
open Go.RowKit Go.Proofs.YtppdblikbdibmaaDoorW.PrintWords Go.Proofs.YtppdblikbdibmaaDoorW.PrintLast Go.Proofs.YtppdblikbdibmaaDoorW.PrintMore Go.Proofs.YtppdblikbdibmaaDoor.Bw Go.Proofs.YtppdblikbdibmaaDoor.Crc Go.Proofs.YtppdblikbdibmaaDoor.Wordy
set_option linter.unusedVariables false
set_option linter.unusedSimpArgs false

/-- bytes of one's own, made since base -/
abbrev Ob (base : Nat) (w : World) (v : Value) (xs : List Int) : Prop := Kd.R (Kd.int .u8) 5 w base (fun _ => True) v xs
theorem Lay_l0 (l : List Int) (n : Int) (size : Nat) (hn : 0 ≤ n) (hs : size ≤ 8) (hl : l.length + size ≤ 140737488355328) : ∀ (m j i : Nat), i + m = size →
    sum_Lay.l0 (j + m + 1) (l ++ leB n i) n (size : Int) (i : Int) = some (l ++ leB n size) := by
  intro m
  induction m with
  | zero =>
    intro j i hi
    obtain rfl : i = size := by omega
    simp only [Nat.add_zero, sum_Lay.l0]
    rw [if_neg (by omega)]
  | succ m ih =>
    intro j i hi
    have e : j + (m + 1) + 1 = (j + m + 1) + 1 := by omega
    rw [e]
    simp only [sum_Lay.l0]
    have e8 : 8 * (i : Int) = ((8 * i : Nat) : Int) := by omega
    have hsh : shr .u64 n ((8 * i : Nat) : Int) % 256 = octOf n i := by
      unfold shr octOf
      rw [Int.toNat_natCast, Nat.min_eq_left (by show _ ≤ 64; omega)]
    rw [if_pos (by omega), w64 (n := 8 * (i : Int)) (by omega) (by omega), if_pos (by omega), if_pos (by rw [List.length_append, leB_length]; omega), w64 (n := (i : Int) + 1) (by omega) (by omega), e8, hsh, List.append_assoc, ← leB_succ, show ((i : Int) + 1) = ((i + 1 : Nat) : Int) by omega]
    exact ih j (i + 1) (by omega)
theorem Lay_eq (l : List Int) (n : Int) (size : Nat) (hn : 0 ≤ n) (hs : size ≤ 8) (hl : l.length + size ≤ 140737488355328) : sum_Lay.f 9 l (size : Int) n = some (l ++ leB n size) := by
  have h := Lay_l0 l n size hn hs hl size (8 - size) 0 (by omega)
  rw [show 8 - size + size + 1 = 9 by omega] at h
  unfold sum_Lay.f
  simpa [leB] using h
def LayAns (w0 : World) (xs : List Int) (e : Ending) (w' : World) : Prop := ∃ v, e = .returned v ∧ Ob w0.heap.size w' v xs ∧ Below w0.heap.size w0 w'
theorem lay_calls (w0 w : World) (v : Value) (l : List Int) (n : Int) (size : Nat) (s : Int) (hz : s = (size : Int)) (hB : Below w0.heap.size w0 w) (ho : Ob w0.heap.size w v l) (hn : 0 ≤ n) (hs : size ≤ 8) (hl : l.length + size ≤ 140737488355328) :
    Calls Tryd.prog 28 #[v, .int .i64 s, .int .u64 n] w (LayAns w0 (l ++ leB n size)) := by
  subst hz
  refine (sum_Lay.calls 9 (fun _ => True) v l (size : Int) n _ w0 w hB ho (Lay_eq l n size hn hs hl)).mono ?_
  rintro e w' ⟨v', rfl, h1, h2, _⟩
  exact ⟨v', rfl, Kd.R_mono h1 (fun _ _ => trivial), h2⟩
theorem ob_reads {base : Nat} {w : World} {v : Value} {xs : List Int} (h : Ob base w v xs) : ∃ A c, v = .slice A xs.length c ∧ xs.length ≤ c ∧ Kd.C (Kd.int .u8) w A xs.length xs := Kd.R_reads h
/-- the frame of a body -/
def frameH (l : List Int) : List Int := [77, 68] ++ leB (l.length : Int) 2 ++ l
def frameB (l : List Int) : List Int := frameH l ++ leB (more 0 (frameH l)) 4
theorem hmk (n : Nat) (hn : n ≤ 140737488351232) (w : World) : (Instr.makeSlice 26 (.int .i64 0) (.int .i64 (n : Int))).run Tryd.prog w = .ok (.slice (some ⟨w.heap.size, 0, none⟩) 0 n) (w.alloc (.cells (madeCells #[.int .u8 0] n) 5)) := by
  obtain ⟨i0, hi, hz0, hz1, hz2⟩ := info_parts info5
  have h := run_make (P := Tryd.prog) w 26 5 i0 (.int .u8 0) Tryd.underlying26 hi hz0 .i64 .i64 0 n (by omega) (by omega) (by rw [hz2]; omega) (by omega)
  have e : (Value.int .u8 0).cells = #[.int .u8 0] := rfl
  rw [hz1, e] at h
  simpa using h
theorem ob_made {base g n : Nat} {w : World} (hb : base ≤ w.heap.size) (hg : g = w.heap.size) (hn : n ≤ 140737488351232) : Ob base (w.alloc (.cells (madeCells #[.int .u8 0] n) 5)) (.slice (some ⟨g, 0, none⟩) 0 n) [] := by
  subst hg
  refine Kd.R_of_own (enc := Value.int .u8) (h1 := fun _ => rfl) (xs := []) ?_ (fun _ _ => trivial)
  exact ⟨by simp [encs], .inr ⟨w.heap.size, n, _, rfl, hb, heap_new _ _ _ rfl, Nat.zero_le _, by unfold maxLen; omega, by simp [size_madeCells], by simp [encs]⟩⟩
theorem ob_lit {base g : Nat} {w : World} (xs : List Int) (hb : base ≤ w.heap.size) (hg : g = w.heap.size) (hn : xs.length ≤ 140737488351232) : Ob base (w.alloc (.cells (nums .u8 xs).toArray 5)) (.slice (some ⟨g, 0, none⟩) xs.length xs.length) xs := by
  subst hg
  refine Kd.R_of_own (enc := Value.int .u8) (h1 := fun _ => rfl) (xs := xs) ?_ (fun _ _ => trivial)
  exact ⟨by simp [encs], .inr ⟨w.heap.size, xs.length, _, rfl, hb, heap_new _ _ _ rfl, Nat.le_refl _, by unfold maxLen; omega, by simp [nums], by simp [encs, nums]; exact List.take_of_length_le (by simp)⟩⟩
theorem rb_lit {w : World} (xs : List Int) (g : Nat) (hg : g = w.heap.size) (hn : xs.length ≤ 140737488351232) : Kd.C (Kd.int .u8) (w.alloc (.cells (nums .u8 xs).toArray 5)) (some ⟨g, 0, none⟩) xs.length xs :=
  rb_block (e := 5) (fz := (0, 0)) (heap_new _ _ _ hg) (by omega)
def FramedAns (l : List Int) (w : World) (e : Ending) (w' : World) : Prop := ∃ v, e = .returned (.tuple #[v, .int .i64 0]) ∧ Ob w.heap.size w' v (frameB l) ∧ Below w.heap.size w w'
theorem frameH_len (l : List Int) : (frameH l).length = l.length + 4 := by
  unfold frameH
  simp [leB_length]
  omega
theorem frameH_octs {l : List Int} (ho : octs l) : octs (frameH l) := by
  unfold frameH
  intro x hx
  simp only [List.mem_append] at hx
  rcases hx with (hx | hx) | hx
  · simp at hx; omega
  · exact leB_octs _ _ x hx
  · exact ho x hx
set_option maxHeartbeats 4000000 in
theorem framed_ok (A : Option Addr) (c : Nat) (l : List Int) (w : World) (hr : Kd.C (Kd.int .u8) w A l.length l) (hc : l.length ≤ c) (ho : octs l) (hl : l.length ≤ 12000) :
    Calls Tryd.prog 31 #[.slice A l.length c] w (FramedAns l w) := by
  have HR := Aside0.mk hr
  have HO := Aside0.mk ho
  clear hr ho
  have q1 : decide ((12000 : Int) < (l.length : Int)) = false := decide_eq_false (by omega)
  have hm : ∀ W, (Instr.makeSlice 26 (.int .i64 0) (.int .i64 (4 + (l.length : Int) + 4))).run Tryd.prog W = .ok (.slice (some ⟨W.heap.size, 0, none⟩) 0 (l.length + 8)) (W.alloc (.cells (madeCells #[.int .u8 0] (l.length + 8)) 5)) := by
    intro W
    have h := hmk (l.length + 8) (by omega) W
    rw [show ((l.length + 8 : Nat) : Int) = 4 + (l.length : Int) + 4 by omega] at h
    exact h
  have hcv : IntKind.u64.wrap (l.length : Int) = (l.length : Int) := by rw [IntKind.wrap_u64]; omega
  go_enter Tryd.func31, Tryd.ntmps31
  go_wp2_with (at_builtin; go_loud (refine Kd.R_append_row (Value.int .u8) (0 : Int) (w0 := w) w.heap.size rfl _ _ 26 5 (.int .u8 0) 1 rfl Tryd.underlying26 info5 rfl (by decide) _ [] [77, 68] (some ⟨w.heap.size + 1, 0, none⟩) 2 2 (fun _ => True) rfl rfl (fun _ _ => trivial) (Kd.R_alloc (ob_made (Nat.le_refl _) rfl (by omega)) _) (rb_lit [77, 68] _ (by simp) (by decide)) (below_alloc (below_alloc (Below.refl _ _) _) _) (by simp; omega) (by decide) ?_); intro v1 w1 ho1 hb1 hg1 hat1)
  refine (lay_calls w _ v1 _ _ 2 2 rfl hb1 ho1 (by omega) (by decide) (by decide)).mono ?_
  rintro e w2 ⟨v2, rfl, ho2, hb2⟩
  have HO2 := Aside0.mk ho2
  have HB2 := Aside0.mk hb2
  have HR2 := Aside0.mk (Kd.C_below HR.out hb2)
  clear ho2 hb2 ho1 hb1 hg1 hat1 hm
  go_wp2_with (at_builtin; go_loud (refine Kd.R_append_row (Value.int .u8) (0 : Int) (w0 := w) w.heap.size rfl _ _ 26 5 (.int .u8 0) 1 rfl Tryd.underlying26 info5 rfl (by decide) _ _ l A l.length c (fun _ => True) rfl rfl (fun _ _ => trivial) HO2.out HR2.out HB2.out HB2.out.size (by simp [leB_length]; omega) ?_); intro v3 w3 ho3 hb3 hg3 hat3)
  rw [show [] ++ [77, 68] ++ leB (l.length : Int) 2 ++ l = frameH l by simp [frameH]] at ho3
  obtain ⟨A3, c3, rfl, hc3, hr3⟩ := ob_reads ho3
  have HO3 := Aside0.mk (show Ob w.heap.size w3 _ (frameH l) from ho3)
  have HB3 := Aside0.mk hb3
  have HR3 := Aside0.mk hr3
  have hfl := frameH_len l
  clear ho3 hb3 hg3 hat3 hr3 HO2 HB2 HR2
  go_wp2_with fail
  refine (of_calls A3 c3 (frameH l) w3 HR3.out hc3 (frameH_octs HO.out) (by omega)).mono ?_
  obtain ⟨y, hy⟩ : ∃ y, more 0 (frameH l) = y := ⟨_, rfl⟩
  have hyl : 0 ≤ y ∧ y < 4294967296 := by rw [← hy]; exact more_range (by decide) (frameH_octs HO.out)
  rw [hy]
  rintro e w4 ⟨rfl, hd⟩
  have HY := Aside0.mk hy
  have HO4 := Aside0.mk (show Ob w.heap.size w4 _ (frameH l) by obtain ⟨k, rfl⟩ := hd.out; exact HO3.out)
  have HB4 := Aside0.mk (show Below w.heap.size w w4 by obtain ⟨k, rfl⟩ := hd.out; exact pw_below_drewN HB3.out k)
  have hyw : IntKind.u64.wrap y = y := by rw [IntKind.wrap_u64]; omega
  clear hy hd
  go_wp2_with fail
  refine (lay_calls w w4 _ (frameH l) y 4 4 rfl HB4.out HO4.out hyl.1 (by decide) (by omega)).mono ?_
  rintro e w5 ⟨v5, rfl, ho5, hb5⟩
  have HO5 := Aside0.mk ho5
  have HB5 := Aside0.mk hb5
  clear ho5 hb5
  go_wp2_with fail
  go_ret2
  refine ⟨v5, rfl, ?_, HB5.out⟩
  unfold frameB
  rw [HY.out]
  exact HO5.out
end Go.Proofs.YtppdblikbdibmaaDoor.Wi
