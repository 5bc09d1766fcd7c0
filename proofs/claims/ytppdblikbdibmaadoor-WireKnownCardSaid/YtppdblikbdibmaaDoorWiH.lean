/- Contracts by hand: an empty reply is read. -/
import Derived.Test.YtppdblikbdibmaaDoorWiG
namespace Go.Proofs.YtppdblikbdibmaaDoor.Wi
open Go.RowKit Go.Proofs.YtppdblikbdibmaaDoorW.PrintWords Go.Proofs.YtppdblikbdibmaaDoorW.PrintLast Go.Proofs.YtppdblikbdibmaaDoorW.PrintMore Go.Proofs.YtppdblikbdibmaaDoor.Bw Go.Proofs.YtppdblikbdibmaaDoor.Crc Go.Proofs.YtppdblikbdibmaaDoor.Wordy
set_option linter.unusedVariables false
set_option linter.unusedSimpArgs false

set_option maxHeartbeats 4000000 in
theorem count_ok (w0 w : World) (g : Nat) (l : List Int) (h : Cur w0 w ⟨g, 0, none⟩ l) (hn : 4 ≤ l.length) (hx : numAt l 0 4 ≤ 2147483647) :
    Calls Tryd.prog 55 #[.pointer (some ⟨g, 0, none⟩)] w (NumAns w0 w g l 4 (.int .i64 (numAt l 0 4 : Nat))) := by
  have HC := Aside0.mk h
  clear h
  go_enter Tryd.func55, Tryd.ntmps55
  go_wp2_with fail
  refine (word_ok w0 _ g l HC.out hn).mono ?_
  rintro e w1 ⟨rfl, hc, hg⟩
  obtain ⟨x, hxe⟩ : ∃ x, numAt l 0 4 = x := ⟨_, rfl⟩
  rw [hxe] at hx ⊢
  have HX := Aside0.mk hxe
  have HC1 := Aside0.mk hc
  have HG1 := Aside0.mk hg
  have q1 : decide ((x : Int) ≤ 2147483647) = true := decide_eq_true (by omega)
  have hxw : IntKind.i64.wrap (x : Int) = (x : Int) := IntWalk.i64_in _ (by omega)
  clear hxe hc hg
  go_wp2_with fail
  refine (must_true _).mono ?_
  rintro e w2 ⟨rfl, rfl⟩
  go_wp2_with fail
  go_ret
  exact ⟨congrArg (fun z : Nat => Ending.returned (Value.int .i64 (z : Int))) HX.out.symm, HC1.out, HG1.out⟩
/-- a reply's four cells in a block of one's own -/
def R4 (w : World) (b : Nat) (v0 v1 v2 v3 : Value) : Prop := w.heap[b]? = some (.cells #[v0, v1, v2, v3] 25 (0, 0))
theorem R4.lt {w : World} {b : Nat} {v0 v1 v2 v3 : Value} (h : R4 w b v0 v1 v2 v3) : b < w.heap.size := (Array.getElem?_eq_some_iff.1 h).1
theorem R4.c0 {w : World} {b : Nat} {v0 v1 v2 v3 : Value} (h : R4 w b v0 v1 v2 v3) : w.cell? ⟨b, 0, none⟩ = some v0 := cell_i (i := 0) h
theorem R4.c1 {w : World} {b : Nat} {v0 v1 v2 v3 : Value} (h : R4 w b v0 v1 v2 v3) : w.cell? ⟨b, 1, none⟩ = some v1 := cell_i (i := 1) h
theorem R4.c2 {w : World} {b : Nat} {v0 v1 v2 v3 : Value} (h : R4 w b v0 v1 v2 v3) : w.cell? ⟨b, 2, none⟩ = some v2 := cell_i (i := 2) h
theorem R4.c3 {w : World} {b : Nat} {v0 v1 v2 v3 : Value} (h : R4 w b v0 v1 v2 v3) : w.cell? ⟨b, 3, none⟩ = some v3 := cell_i (i := 3) h
theorem R4.fz {w : World} {b : Nat} {v0 v1 v2 v3 : Value} (h : R4 w b v0 v1 v2 v3) (i : Nat) : w.frozen? ⟨b, i, none⟩ = false := by
  unfold World.frozen?
  rw [show w.heap[b]? = _ from h]
  simp
theorem R4.grown {w w' : World} {b : Nat} {v0 v1 v2 v3 : Value} (h : R4 w b v0 v1 v2 v3) {row : Option Nat} (hg : w.grownBy w' row) (hne : some b ≠ row) : R4 w' b v0 v1 v2 v3 := (hg.block b h.lt hne).trans h
theorem R4.below {w w' : World} {b : Nat} {v0 v1 v2 v3 : Value} (h : R4 w b v0 v1 v2 v3) (hb : Below w.heap.size w w') : R4 w' b v0 v1 v2 v3 := (hb.block b h.lt).trans h
theorem R4.s0 {w : World} {b : Nat} {v0 v1 v2 v3 : Value} (h : R4 w b v0 v1 v2 v3) (v : Value) : R4 (w.setCell ⟨b, 0, none⟩ v) b v v1 v2 v3 := by
  unfold R4 at *
  simp [World.setCell, Array.getElem?_modify, h]
theorem R4.s1 {w : World} {b : Nat} {v0 v1 v2 v3 : Value} (h : R4 w b v0 v1 v2 v3) (v : Value) : R4 (w.setCell ⟨b, 1, none⟩ v) b v0 v v2 v3 := by
  unfold R4 at *
  simp [World.setCell, Array.getElem?_modify, h]
theorem R4.s2 {w : World} {b : Nat} {v0 v1 v2 v3 : Value} (h : R4 w b v0 v1 v2 v3) (v : Value) : R4 (w.setCell ⟨b, 2, none⟩ v) b v0 v1 v v3 := by
  unfold R4 at *
  simp [World.setCell, Array.getElem?_modify, h]
theorem R4.s3 {w : World} {b : Nat} {v0 v1 v2 v3 : Value} (h : R4 w b v0 v1 v2 v3) (v : Value) : R4 (w.setCell ⟨b, 3, none⟩ v) b v0 v1 v2 v := by
  unfold R4 at *
  simp [World.setCell, Array.getElem?_modify, h]
theorem cur_far {w0 w : World} {g b i : Nat} {l : List Int} (h : Cur w0 w ⟨g, 0, none⟩ l) (hne : b ≠ g) (hb : w0.heap.size ≤ b) (v : Value) : Cur w0 (w.setCell ⟨b, i, none⟩ v) ⟨g, 0, none⟩ l := by
  obtain ⟨A, c, h1, h2, h3, h4, h5, h6⟩ := h
  refine ⟨A, c, ?_, ?_, h3, h4, h5.setCell hb _, h6⟩
  · rw [← h1]
    exact cell_set_ne (fun e => hne e.symm)
  · rw [World.frozen?_setCell]
    exact h2
theorem cur_below {w0 w w' : World} {g : Nat} {l : List Int} (h : Cur w0 w ⟨g, 0, none⟩ l) (hb : Below w.heap.size w w') : Cur w0 w' ⟨g, 0, none⟩ l := by
  obtain ⟨A, c, h1, h2, h3, h4, h5, h6⟩ := h
  have hlt := World.block_lt_of_cell? w _ h1
  exact ⟨A, c, pw_cell_below hb h1, (hb.frozen hlt).trans h2, h3, h4, h5.trans (hb.mono h5.size), h6⟩
theorem cur_block {w0 w : World} {g : Nat} {l : List Int} (h : Cur w0 w ⟨g, 0, none⟩ l) : g < w.heap.size := by
  obtain ⟨A, c, h1, _⟩ := h
  exact World.block_lt_of_cell? w _ h1
theorem grown_new {w W : World} {g b i : Nat} {v : Value} (h : w.grownBy W (some g)) (hb : w.heap.size ≤ b) : w.grownBy (W.setCell ⟨b, i, none⟩ v) (some g) :=
  ⟨h.os, h.tape, h.output, by simpa [World.setCell] using h.size, fun k hk hne => (Below.heap_setCell W ⟨b, i, none⟩ v k (fun e => by have : k = b := e; omega)).trans (h.block k hk hne)⟩
theorem hmk23 (W : World) : (Instr.makeSlice 23 (.int .i64 0) (.int .i64 0)).run Tryd.prog W = .ok (.slice (some ⟨W.heap.size, 0, none⟩) 0 0) (W.alloc (.cells #[] 47)) := by kernel_rfl
def ReplyAns (w0 w : World) (g : Nat) (e : Ending) (w' : World) : Prop := ∃ k, e = .returned (.agg #[.int .i64 0, .int .i64 0, .slice (some ⟨k, 0, none⟩) 0 0, .int .i64 0]) ∧ Cur w0 w' ⟨g, 0, none⟩ [] ∧ w.grownBy w' (some g)
set_option maxRecDepth 100000 in
set_option maxHeartbeats 8000000 in
theorem reply0 (w0 w : World) (g : Nat) (h : Cur w0 w ⟨g, 0, none⟩ body0) :
    Calls Tryd.prog 33 #[.pointer (some ⟨g, 0, none⟩)] w (ReplyAns w0 w g) := by
  have HC := Aside0.mk (cur_below h (below_alloc (Below.refl w.heap.size w) (.cells #[.int .i64 0, .int .i64 0, .slice none 0 0, .int .i64 0] 25)))
  have HG := Aside0.mk (grown_below (below_alloc (Below.refl w.heap.size w) (.cells #[.int .i64 0, .int .i64 0, .slice none 0 0, .int .i64 0] 25)) (some g))
  have HR := Aside0.mk (show R4 (w.alloc (.cells #[.int .i64 0, .int .i64 0, .slice none 0 0, .int .i64 0] 25)) w.heap.size _ _ _ _ from heap_new _ _ _ rfl)
  have hgl := cur_block h
  have hw0 : w0.heap.size ≤ w.heap.size := by obtain ⟨_, _, _, _, _, _, hb, _⟩ := h; exact hb.size
  clear h
  go_enter Tryd.func33, Tryd.ntmps33
  go_wp2_with fail
  obtain ⟨b, hb⟩ : ∃ b, w.heap.size = b := ⟨_, rfl⟩
  rw [hb] at HR hgl hw0 ⊢
  have HBE := Aside0.mk hb
  have hne : b ≠ g := by omega
  have hne' : some b ≠ some g := fun e => hne (Option.some.inj e)
  have HNE := Aside0.mk (And.intro hne (And.intro hne' hw0))
  have HBW := Aside0.mk (show w.heap.size ≤ b by omega)
  clear hb hne hne' hgl hw0
  refine (byte_ok w0 _ g body0 HC.out (by decide)).mono ?_
  rw [show body0.getD 0 0 = 0 from rfl]
  rintro e w1 ⟨rfl, hc, hg⟩
  have HR1 := Aside0.mk (HR.out.grown hg HNE.out.2.1)
  have HC1 := Aside0.mk (cur_far (i := 0) hc HNE.out.1 HNE.out.2.2 (.int .i64 0))
  have HG1 := Aside0.mk (grown_new (i := 0) (v := .int .i64 0) (grown_trans HG.out hg) HBW.out)
  have hx := HR1.out.c0
  have hf := HR1.out.fz 0
  clear hc hg HC HR HG
  go_wp2_with fail
  have HR1 := Aside0.mk (HR1.out.s0 (.int .i64 0))
  clear hx hf
  refine (count_ok w0 _ g _ HC1.out (by decide) (by decide)).mono ?_
  rw [show numAt (body0.drop 1) 0 4 = 0 from by decide]
  rintro e w2 ⟨rfl, hc, hg⟩
  have HR2 := Aside0.mk (HR1.out.grown hg HNE.out.2.1)
  have HG2 := Aside0.mk (grown_trans HG1.out hg)
  have HC2 := Aside0.mk hc
  clear hc hg HC1 HR1 HG1
  go_wp2_with fail
  refine (count_ok w0 _ g _ HC2.out (by decide) (by decide)).mono ?_
  rw [show numAt ((body0.drop 1).drop 4) 0 4 = 0 from by decide]
  rintro e w3 ⟨rfl, hc, hg⟩
  have HR3 := Aside0.mk (HR2.out.grown hg HNE.out.2.1)
  have HG3 := Aside0.mk (grown_new (i := 3) (v := .int .i64 0) (grown_new (i := 1) (v := .int .i64 0) (grown_trans HG2.out hg) HBW.out) HBW.out)
  have HC3 := Aside0.mk (cur_far (i := 3) (cur_far (i := 1) hc HNE.out.1 HNE.out.2.2 (.int .i64 0)) HNE.out.1 HNE.out.2.2 (.int .i64 0))
  have hx1 := HR3.out.c1
  have hx3 := HR3.out.c3
  have hf1 := HR3.out.fz 1
  have hf3 := HR3.out.fz 3
  clear hc hg HC2 HR2 HG2
  go_wp2_with fail
  have HR3 := Aside0.mk ((HR3.out.s1 (.int .i64 0)).s3 (.int .i64 0))
  clear hx1 hx3 hf1 hf3
  refine (byte_ok w0 _ g _ HC3.out (by decide)).mono ?_
  rw [show (((body0.drop 1).drop 4).drop 4).getD 0 0 = 0 from by decide]
  rintro e w4 ⟨rfl, hc, hg⟩
  rw [show (((body0.drop 1).drop 4).drop 4).drop 1 = [] from by decide] at hc
  have HR4 := Aside0.mk (HR3.out.grown hg HNE.out.2.1)
  have HG4 := Aside0.mk (grown_trans HG3.out hg)
  have HC4 := Aside0.mk hc
  clear hc hg HC3 HR3 HG3
  go_wp2_with fail
  refine (must_true _).mono ?_
  rintro e w5 ⟨rfl, rfl⟩
  have hmk := hmk23
  have HR5 := Aside0.mk (HR4.out.below (below_alloc (Below.refl w4.heap.size w4) (.cells #[] 47)))
  have hx2 := HR5.out.c2
  have hf2 := HR5.out.fz 2
  have HC5 := Aside0.mk (cur_far (i := 2) (cur_below HC4.out (below_alloc (Below.refl w4.heap.size w4) (.cells #[] 47))) HNE.out.1 HNE.out.2.2 (.slice (some ⟨w4.heap.size, 0, none⟩) 0 0))
  have HG5 := Aside0.mk (grown_new (i := 2) (v := .slice (some ⟨w4.heap.size, 0, none⟩) 0 0) (grown_alloc HG4.out (.cells #[] 47)) HBW.out)
  clear HC4 HG4
  go_wp2_with fail
  have HR6 := Aside0.mk (HR5.out.s2 (.slice (some ⟨w4.heap.size, 0, none⟩) 0 0))
  obtain ⟨k, hk⟩ : ∃ k, w4.heap.size = k := ⟨_, rfl⟩
  rw [hk] at HR6 HC5 HG5 ⊢
  obtain ⟨W6, hW6⟩ : ∃ W6, (w4.alloc (.cells #[] 47)).setCell ⟨b, 2, none⟩ (.slice (some ⟨k, 0, none⟩) 0 0) = W6 := ⟨_, rfl⟩
  rw [hW6] at HR6 HC5 HG5 ⊢
  clear hx2 hf2 hW6 hk HR4 HR5 hmk
  go_loopg [22] 0 (fun d v22 ws => v22 = .int .i64 0 ∧ ws = W6)
  case atStart => exact ⟨rfl, rfl⟩
  case round =>
    obtain ⟨rfl, rfl⟩ := hrel
    have hx0 := HR6.out.c0
    have hx1 := HR6.out.c1
    have hx2 := HR6.out.c2
    have hx3 := HR6.out.c3
    have hf0 := HR6.out.fz 0
    have hf1 := HR6.out.fz 1
    have hf2 := HR6.out.fz 2
    have hf3 := HR6.out.fz 3
    go_wp2_with fail
    have HRz := (((HR6.out.s0 (.int .i64 0)).s1 (.int .i64 0)).s2 (.slice (some ⟨k, 0, none⟩) 0 0)).s3 (.int .i64 0)
    have HCz := cur_far (i := 3) (cur_far (i := 2) (cur_far (i := 1) (cur_far (i := 0) HC5.out HNE.out.1 HNE.out.2.2 (.int .i64 0)) HNE.out.1 HNE.out.2.2 (.int .i64 0)) HNE.out.1 HNE.out.2.2 (.slice (some ⟨k, 0, none⟩) 0 0)) HNE.out.1 HNE.out.2.2 (.int .i64 0)
    have HGz := grown_new (i := 3) (v := .int .i64 0) (grown_new (i := 2) (v := .slice (some ⟨k, 0, none⟩) 0 0) (grown_new (i := 1) (v := .int .i64 0) (grown_new (i := 0) (v := .int .i64 0) HG5.out HBW.out) HBW.out) HBW.out) HBW.out
    clear hx0 hx1 hx2 hx3 hf0 hf1 hf2 hf3 HR6 HC5 HG5
    obtain ⟨Wz, hWz⟩ : ∃ Wz, (((wr.setCell ⟨b, 0, none⟩ (.int .i64 0)).setCell ⟨b, 1, none⟩ (.int .i64 0)).setCell ⟨b, 2, none⟩ (.slice (some ⟨k, 0, none⟩) 0 0)).setCell ⟨b, 3, none⟩ (.int .i64 0) = Wz := ⟨_, rfl⟩
    rw [hWz] at HRz HCz HGz ⊢
    clear hWz
    have hz0 := HRz.c0
    have hz1 := HRz.c1
    have hz2 := HRz.c2
    have hz3 := HRz.c3
    exact bodyPost_ret (v := .agg #[.int .i64 0, .int .i64 0, .slice (some ⟨k, 0, none⟩) 0 0, .int .i64 0]) (by simp [results, Tryd.results33, go_sem, hz0, hz1, hz2, hz3]) rfl ⟨k, rfl, HCz, HGz⟩
end Go.Proofs.YtppdblikbdibmaaDoor.Wi
