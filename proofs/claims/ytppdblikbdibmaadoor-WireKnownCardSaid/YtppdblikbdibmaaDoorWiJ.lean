/- Contracts by hand: two empty replies are the same; awake. -/
import Derived.Test.YtppdblikbdibmaaDoorWiI
namespace Go.Proofs.YtppdblikbdibmaaDoor.Wi
open Go.RowKit Go.Proofs.YtppdblikbdibmaaDoorW.PrintWords Go.Proofs.YtppdblikbdibmaaDoorW.PrintLast Go.Proofs.YtppdblikbdibmaaDoorW.PrintMore Go.Proofs.YtppdblikbdibmaaDoor.Bw Go.Proofs.YtppdblikbdibmaaDoor.Crc Go.Proofs.YtppdblikbdibmaaDoor.Wordy
set_option linter.unusedVariables false
set_option linter.unusedSimpArgs false

theorem heap_below {w w1 : World} (hb : Below w.heap.size w w1) {g : Nat} {o : Obj} (h : w.heap[g]? = some o) : w1.heap[g]? = some o := (hb.block g (Array.getElem?_eq_some_iff.1 h).1).trans h
set_option maxRecDepth 100000 in
set_option maxHeartbeats 8000000 in
theorem same0 (k : Nat) (w : World) : Calls Tryd.prog 64 #[.agg #[.int .i64 0, .int .u64 0, .slice none 0 0, .slice (some ⟨k, 0, none⟩) 0 0, .slice none 0 0], .agg #[.int .i64 0, .int .u64 0, .slice none 0 0, .slice none 0 0, .slice none 0 0]] w fun e w' => e = .returned (.bool true) ∧ Below w.heap.size w w' := by
  have hcv : ∀ W, (convert 26 9 (.slice none 0 0)).run Tryd.prog W = .ok (.string (strOfNums [])) W := fun W => Kd.C_string Tryd.underlying26 Tryd.underlying5 Tryd.underlying9 (rb_nil W)
  go_enter Tryd.func64, Tryd.ntmps64
  go_wp2_with fail
  have hB := below_alloc (below_alloc (Below.refl w.heap.size w) (.cells #[.int .i64 0, .int .u64 0, .slice none 0 0, .slice (some ⟨k, 0, none⟩) 0 0, .slice none 0 0] 47)) (.cells #[.int .i64 0, .int .u64 0, .slice none 0 0, .slice none 0 0, .slice none 0 0] 47)
  have h1 := heap_new w (.cells #[.int .i64 0, .int .u64 0, .slice none 0 0, .slice (some ⟨k, 0, none⟩) 0 0, .slice none 0 0] 47) _ rfl
  have h2 := (heap_below (below_alloc (Below.refl _ (w.alloc (.cells #[.int .i64 0, .int .u64 0, .slice none 0 0, .slice (some ⟨k, 0, none⟩) 0 0, .slice none 0 0] 47))) (.cells #[.int .i64 0, .int .u64 0, .slice none 0 0, .slice none 0 0, .slice none 0 0] 47)) h1)
  obtain ⟨U, hU⟩ : ∃ U, (w.alloc (.cells #[.int .i64 0, .int .u64 0, .slice none 0 0, .slice (some ⟨k, 0, none⟩) 0 0, .slice none 0 0] 47)).alloc (.cells #[.int .i64 0, .int .u64 0, .slice none 0 0, .slice none 0 0, .slice none 0 0] 47) = U := ⟨_, rfl⟩
  rw [hU] at hB h2 ⊢
  have hx3 : U.cell? ⟨w.heap.size, 3, none⟩ = some (.slice (some ⟨k, 0, none⟩) 0 0) := cell_i (i := 3) h2
  have hx4 : U.cell? ⟨w.heap.size, 4, none⟩ = some (.slice none 0 0) := cell_i (i := 4) h2
  have HB := Aside0.mk hB
  clear hU h1 h2 hB
  go_loopg [5] 0 (fun d v5 ws => v5 = .int .i64 0 ∧ ws = U)
  case atStart => exact ⟨rfl, rfl⟩
  case round =>
    obtain ⟨rfl, rfl⟩ := hrel
    go_wp2_with fail
    go_loopg [6] 0 (fun d v6 ws => v6 = .int .i64 0 ∧ ws = wr)
    case atStart => exact ⟨rfl, rfl⟩
    case round =>
      obtain ⟨rfl, rfl⟩ := hrel
      go_wp2_with fail
      go_ret
      exact ⟨rfl, HB.out⟩
set_option maxRecDepth 100000 in
set_option maxHeartbeats 8000000 in
theorem list0 (k : Nat) (w : World) : Calls Tryd.prog 39 #[.slice (some ⟨k, 0, none⟩) 0 0, .slice none 0 0] w fun e w' => e = .returned (.bool true) ∧ Below w.heap.size w w' := by
  go_enter Tryd.func39, Tryd.ntmps39
  go_wp2_with fail
  refine (same0 k _).mono ?_
  rintro e w1 ⟨rfl, hb⟩
  have HB := Aside0.mk hb
  clear hb
  go_wp2_with fail
  go_ret
  exact ⟨rfl, HB.out⟩
set_option maxRecDepth 100000 in
set_option maxHeartbeats 8000000 in
theorem replySame0 (k : Nat) (w : World) : Calls Tryd.prog 17 #[.agg #[.int .i64 0, .int .i64 0, .slice (some ⟨k, 0, none⟩) 0 0, .int .i64 0], .agg #[.int .i64 0, .int .i64 0, .slice none 0 0, .int .i64 0]] w fun e w' => e = .returned (.bool true) ∧ Below w.heap.size w w' := by
  have hB := Aside0.mk (below_alloc (below_alloc (Below.refl w.heap.size w) (.cells #[.int .i64 0, .int .i64 0, .slice (some ⟨k, 0, none⟩) 0 0, .int .i64 0] 25)) (.cells #[.int .i64 0, .int .i64 0, .slice none 0 0, .int .i64 0] 25))
  go_enter Tryd.func17, Tryd.ntmps17
  go_wp2_with fail
  refine (list0 k _).mono ?_
  rintro e w1 ⟨rfl, hb⟩
  have HB := Aside0.mk (below_step hB.out hb)
  clear hb
  go_wp2_with fail
  go_ret
  exact ⟨rfl, HB.out⟩
set_option maxRecDepth 100000 in
set_option maxHeartbeats 8000000 in
theorem awake_x (w : World) : Calls Tryd.prog 16 #[] w fun e w' => e = .returned (.bool true) ∧ Below w.heap.size w w' := by
  go_enter Tryd.func16, Tryd.ntmps16
  go_wp2_with fail
  refine (putReply0 _).mono ?_
  rintro e w1 ⟨v, rfl, ho, hb⟩
  obtain ⟨A, c, rfl, hc, hr⟩ := ob_reads ho
  rw [f0_len] at hc hr ⊢
  have HR := Aside0.mk hr
  have HB1 := Aside0.mk hb
  clear ho hb hr
  go_wp2_with fail
  refine (getReply0 A c _ HR.out hc).mono ?_
  rintro e w2 ⟨k, rfl, hb⟩
  have HB2 := Aside0.mk (below_step HB1.out hb)
  have HR2 := Aside0.mk (Kd.C_below HR.out hb)
  clear hb
  obtain ⟨ad, e', hcell⟩ := (rb_reads HR2.out).2.2 (by decide)
  subst e'
  have hx0 := hcell 0 (by decide)
  have hx2 := hcell 2 (by decide)
  rw [show ad.add 0 = ad from by unfold Addr.add; simp, show (frameB body0).getD 0 0 = 77 from rfl] at hx0
  rw [show ad.add 2 = ⟨ad.block, ad.off + 2, none⟩ from rfl, show (frameB body0).getD 2 0 = 10 from rfl] at hx2
  have hlt := World.block_lt_of_cell? w2 _ hx0
  clear hcell
  go_wp2_with fail
  refine (replySame0 k _).mono ?_
  rintro e w3 ⟨rfl, hb⟩
  have HB3 := Aside0.mk (below_step (below_alloc HB2.out (.cells #[.int .i64 0, .int .i64 0, .slice (some ⟨k, 0, none⟩) 0 0, .int .i64 0] 25)) hb)
  clear hb hx0 hx2 hlt
  go_wp2_with fail
  go_ret
  exact ⟨rfl, HB3.out⟩
set_option maxRecDepth 100000 in
set_option maxHeartbeats 8000000 in
theorem splits_w (A : Option Addr) (c : Nat) (l : List Int) (w : World) (hr : Kd.C (Kd.int .u8) w A l.length l) (hc : l.length ≤ c) (ho : octs l) (hl : l.length ≤ 140737488351232) :
    Calls Tryd.prog 5 #[.slice A l.length c] w fun e w' => e = .returned (.bool true) ∧ Below w.heap.size w w' := by
  have HR := Aside0.mk hr
  have HO := Aside0.mk ho
  clear hr ho
  go_enter Tryd.func5, Tryd.ntmps5
  go_wp2_with fail
  refine (split_calls A c l _ HR.out hc HO.out hl).mono ?_
  obtain ⟨k, r, x, hk⟩ : ∃ k r x, splitP l = (k, r, x) := ⟨_, _, _, rfl⟩
  have HK := Aside0.mk hk
  clear hk
  rintro e w1 ⟨rfl, hd1⟩
  rw [HK.out]
  have HD1 := Aside0.mk hd1
  clear hd1
  go_wp2_with fail
  refine (rsplit_calls A c l _ (rb_drawn HR.out HD1.out) hc HO.out hl).mono ?_
  rintro e w2 ⟨rfl, hd2⟩
  rw [HK.out]
  have HD2 := Aside0.mk (drawn_trans HD1.out hd2)
  clear hd2
  go_wp2_with fail
  refine (awake_x _).mono ?_
  rintro e w3 ⟨rfl, hb⟩
  have HB := Aside0.mk (show Below w.heap.size w w3 by obtain ⟨n, rfl⟩ := HD2.out.out; exact (pw_below_drewN (Below.refl _ _) n).trans hb)
  clear hb
  go_wp2_with fail
  go_ret
  exact ⟨rfl, HB.out⟩
theorem splits_walk (a0 : Option Addr) (len0 cap0 : Nat) (z0 : List Int) (w : World) (w0 : (a0 = none ∧ len0 = 0 ∧ cap0 = 0 ∧ z0 = []) ∨ ∃ x, a0 = some x ∧ len0 ≤ cap0 ∧ cap0 ≤ maxLen ∧ z0.length = cap0 ∧ (∀ i, i < z0.length → w.cell? (x.add i) = some (.int .u8 (z0.getD i 0))) ∧ ∀ n ∈ z0, (Lit.int .u8 n).wf = true) (y0 : len0 * 1 ≤ 140737488351232) :
    Calls Tryd.prog 5 #[.slice a0 len0 cap0] w fun e w' => e = .returned (.bool true) ∧ Below w.heap.size w w' := by
  obtain ⟨l0, rfl, hr0, hm0, hw0, hc0⟩ := ReadsInt.ofRowC w0
  exact splits_w a0 cap0 l0 w (rb_of_reads hr0) hc0 (octs_wf hw0) (by omega)
end Go.Proofs.YtppdblikbdibmaaDoor.Wi
