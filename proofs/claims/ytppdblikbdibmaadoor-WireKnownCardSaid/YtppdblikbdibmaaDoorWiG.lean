/- Contracts by hand: an empty reply, there and back. -/
import Derived.Test.YtppdblikbdibmaaDoorWiF
namespace Go.Proofs.YtppdblikbdibmaaDoor.Wi
open Go.RowKit Go.Proofs.YtppdblikbdibmaaDoorW.PrintWords Go.Proofs.YtppdblikbdibmaaDoorW.PrintLast Go.Proofs.YtppdblikbdibmaaDoorW.PrintMore Go.Proofs.YtppdblikbdibmaaDoor.Bw Go.Proofs.YtppdblikbdibmaaDoor.Crc Go.Proofs.YtppdblikbdibmaaDoor.Wordy
set_option linter.unusedVariables false
set_option linter.unusedSimpArgs false

def Reply0 : Value := .agg #[.int .i64 0, .int .i64 0, .slice none 0 0, .int .i64 0]
def body0 : List Int := [0, 0, 0, 0, 0, 0, 0, 0, 0, 0]
def PutAns (r : List Int) (w : World) (e : Ending) (w' : World) : Prop := ∃ v, e = .returned (.tuple #[v, .int .i64 0]) ∧ Ob w.heap.size w' v r ∧ Below w.heap.size w w'
theorem below_step {w w1 w2 : World} (h : Below w.heap.size w w1) (k : Below w1.heap.size w1 w2) : Below w.heap.size w w2 := h.trans (k.mono h.size)
theorem cell_i {w : World} {g t i : Nat} {cs : Array Value} (h : w.heap[g]? = some (.cells cs t (0, 0))) : w.cell? ⟨g, i, none⟩ = cs[i]? := by
  unfold World.cell?
  rw [h]
  simp
theorem c2 {W1 w' : World} {b : Nat} (h : W1.heap[b]? = some (.cells #[.int .i64 0, .int .i64 0, .slice none 0 0, .int .i64 0] 25 (0, 0))) (hb : Below W1.heap.size W1 w') : w'.cell? ⟨b, 2, none⟩ = some (.slice none 0 0) := pw_cell_below hb (cell_i (i := 2) h)
theorem s3 {W1 w' : World} {b : Nat} {v0 v1 v3 : Value} (h0 : W1.cell? ⟨b, 0, none⟩ = some v0) (h1 : W1.cell? ⟨b, 1, none⟩ = some v1) (h3 : W1.cell? ⟨b, 3, none⟩ = some v3) (hb : Below W1.heap.size W1 w') :
    w'.cell? ⟨b, 0, none⟩ = some v0 ∧ w'.cell? ⟨b, 1, none⟩ = some v1 ∧ w'.cell? ⟨b, 3, none⟩ = some v3 ∧ Below W1.heap.size W1 w' := ⟨pw_cell_below hb h0, pw_cell_below hb h1, pw_cell_below hb h3, hb⟩
theorem framed_at (A : Option Addr) (c n : Nat) (l : List Int) (w : World) (hn : n = l.length) (hr : Kd.C (Kd.int .u8) w A l.length l) (hc : n ≤ c) (ho : octs l) (hl : l.length ≤ 12000) :
    Calls Tryd.prog 31 #[.slice A n c] w (FramedAns l w) := by
  subst hn
  exact framed_ok A c l w hr hc ho hl
set_option maxRecDepth 100000 in
set_option maxHeartbeats 8000000 in
theorem putReply0 (w : World) : Calls Tryd.prog 12 #[.agg #[.int .i64 0, .int .i64 0, .slice none 0 0, .int .i64 0]] w (PutAns (frameB body0) w) := by
  go_enter Tryd.func12, Tryd.ntmps12
  go_wp2_with fail
  obtain ⟨b, hb⟩ : ∃ b, w.heap.size = b := ⟨_, rfl⟩
  have hh := heap_new w (.cells #[.int .i64 0, .int .i64 0, .slice none 0 0, .int .i64 0] 25) _ rfl
  have HB0 := Aside0.mk (below_alloc (Below.refl w.heap.size w) (.cells #[.int .i64 0, .int .i64 0, .slice none 0 0, .int .i64 0] 25))
  obtain ⟨W1, hW1⟩ : ∃ W1, w.alloc (.cells #[.int .i64 0, .int .i64 0, .slice none 0 0, .int .i64 0] 25) = W1 := ⟨_, rfl⟩
  rw [hW1] at hh HB0 ⊢
  rw [hb] at hh ⊢
  have hx0 := cell_i (i := 0) hh
  have hx1 := cell_i (i := 1) hh
  have hx3 := cell_i (i := 3) hh
  have HH := Aside0.mk hh
  have HbE := Aside0.mk hb
  clear hW1 hh hb
  have u0 : IntKind.u64.wrap 0 = 0 := by decide
  have u1 : IntKind.u8.wrap 0 = 0 := by decide
  go_region_held3 (fun w' => w'.cell? ⟨b, 0, none⟩ = some (.int .i64 0) ∧ w'.cell? ⟨b, 1, none⟩ = some (.int .i64 0) ∧ w'.cell? ⟨b, 3, none⟩ = some (.int .i64 0) ∧ Below W1.heap.size W1 w')
    (first | (go_split_ands; exact s3 hx0 hx1 hx3 (by (repeat (with_reducible first | assumption | exact Below.refl _ _ | refine below_alloc ?_ _ | refine Below.drew ?_)))))
    (first
      | (go_at_call 28; (with_reducible refine (lay_calls W1 _ _ [0] 0 4 4 ?_ ?_ ?_ ?_ ?_ ?_).mono ?_); rfl; (go_split_ands; (repeat (with_reducible first | assumption | exact Below.refl _ _ | refine below_alloc ?_ _ | refine Below.drew ?_))); exact ob_lit [0] (Nat.le_refl _) rfl (by decide); decide; decide; decide; rintro e w2 ⟨v2, rfl, ho2, hb2⟩)
      | (go_at_call 28; (with_reducible refine (lay_calls W1 _ _ ([0] ++ leB 0 4) 0 4 4 ?_ hb2 ho2 ?_ ?_ ?_).mono ?_); rfl; decide; decide; decide; rintro e w3 ⟨v3, rfl, ho3, hb3⟩))
  go_split_ands
  have HO3 := Aside0.mk ho3
  have HB3 := Aside0.mk hb3
  clear hx0 hx1 hx3
  have hx2 := c2 HH.out hb3
  clear ho3 hb3 ho2 hb2
  go_wp2_with (at_builtin; go_loud (refine Kd.R_append_row (Value.int .u8) (0 : Int) (w0 := W1) W1.heap.size rfl _ _ 26 5 (.int .u8 0) 1 rfl Tryd.underlying26 info5 rfl (by decide) _ _ [0] (some ⟨w3.heap.size, 0, none⟩) 1 1 (fun _ => True) rfl rfl (fun _ _ => trivial) (Kd.R_alloc HO3.out _) (rb_lit [0] _ rfl (by decide)) (below_alloc HB3.out _) (by have := HB3.out.size; simp; omega) (by decide) ?_); intro v4 w4 ho4 hb4 hg4 hat4; have hx4 := c2 HH.out hb4)
  rw [show [0] ++ leB 0 4 ++ leB 0 4 ++ [0] = body0 by decide] at ho4
  obtain ⟨A4, c4, rfl, hc4, hr4⟩ := ob_reads ho4
  have HR4 := Aside0.mk hr4
  have HB4 := Aside0.mk hb4
  have HC4 := Aside0.mk (show 10 ≤ c4 from hc4)
  rw [show body0.length = 10 from rfl]
  clear ho4 hg4 hat4 hb4 hr4 hc4 hx2
  go_loopg [66] 0 (fun d v66 ws => v66 = .int .i64 0 ∧ ws = w4)
  case atStart => exact ⟨rfl, rfl⟩
  case round =>
    obtain ⟨rfl, rfl⟩ := hrel
    go_wp2_with fail
    go_loopg [4, 79] 0 (fun d v4 v79 ws => v4 = .slice A4 10 c4 ∧ v79 = .int .i64 0 ∧ ws = wr)
    case atStart => exact ⟨rfl, rfl, rfl⟩
    case round =>
      obtain ⟨rfl, rfl, rfl⟩ := hrel
      go_wp2_with fail
      refine (framed_at A4 c4 10 body0 _ rfl HR4.out HC4.out (by unfold octs; decide) (by decide)).mono ?_
      rintro e w5 ⟨v5, rfl, ho5, hb5⟩
      have HO5 := Aside0.mk (Kd.R_lower ho5 (below_step HB0.out HB4.out).size)
      have HB5 := Aside0.mk (below_step (below_step HB0.out HB4.out) hb5)
      clear ho5 hb5
      go_wp2_with fail
      go_ret2
      exact ⟨v5, rfl, HO5.out, HB5.out⟩
end Go.Proofs.YtppdblikbdibmaaDoor.Wi
