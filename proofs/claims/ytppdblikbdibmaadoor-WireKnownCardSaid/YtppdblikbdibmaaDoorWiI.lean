/- Contracts by hand: an empty reply's frame is read; awake. -/
import Derived.Test.YtppdblikbdibmaaDoorWiH
namespace Go.Proofs.YtppdblikbdibmaaDoor.Wi
open Go.RowKit Go.Proofs.YtppdblikbdibmaaDoorW.PrintWords Go.Proofs.YtppdblikbdibmaaDoorW.PrintLast Go.Proofs.YtppdblikbdibmaaDoorW.PrintMore Go.Proofs.YtppdblikbdibmaaDoor.Bw Go.Proofs.YtppdblikbdibmaaDoor.Crc Go.Proofs.YtppdblikbdibmaaDoor.Wordy
set_option linter.unusedVariables false
set_option linter.unusedSimpArgs false

theorem idle52 (px pe : Addr) (w : World) :
    CallsD Tryd.prog 52 #[.pointer (some px), .pointer (some pe)] .returning w fun e u' w' => e = .returned (.tuple #[]) ∧ u' = .returning ∧ w = w' := by
  refine callsD_of_wpS Tryd.func52 rfl fun c₀ cs hu => ?_
  apply wpS_seq
  apply wpS_region
  simp [wpOpsS, go_sem, recoverD, hu, Tryd.ntmps52, Exit.thenS]
  refine wpS_of_wp ?_
  rw [show #[Value.pointer (some px), Value.pointer (some pe)] ++ ((Array.replicate 16 undef).setIfInBounds 4 Value.nilIface).setIfInBounds 0 Value.nilIface = #[.pointer (some px), .pointer (some pe), .nilIface, undef, undef, undef, .nilIface, undef, undef, undef, undef, undef, undef, undef, undef, undef, undef, undef] from rfl]
  have hta : ∀ W, (Instr.typeAssert .nilIface 20 22 true).run Tryd.prog W = .ok (.tuple #[.int .i64 0, .bool false]) W := fun W => by kernel_rfl
  have hnn : ∀ W, (binOp .neq 20 .nilIface .nilIface).run Tryd.prog W = .ok (.bool false) W := fun W => by kernel_rfl
  go_wp2_with fail
  cases c₀
  simp_all [bodyPostS, results, Tryd.results52]
theorem frame_at (A : Option Addr) (c n : Nat) (l : List Int) (w : World) (hn : n = l.length) (hr : Kd.C (Kd.int .u8) w A l.length l) (hc : n ≤ c) (ho : octs l) (hl : l.length ≤ 140737488351232) :
    Calls Tryd.prog 40 #[.slice A n c] w (FrameAns A l w) := by
  subst hn
  exact frame_calls A c l w hr hc ho hl
theorem f0_len : (frameB body0).length = 18 := by decide +kernel
theorem f0_octs : octs (frameB body0) := by unfold octs; decide +kernel
theorem f0_head : headP (frameB body0) = (18, 0) := by decide +kernel
theorem f0_body : bodyH (frameB body0) = body0 := by decide +kernel
/-- a cell of one's own -/
def R1 (w : World) (b t : Nat) (v : Value) : Prop := w.heap[b]? = some (.cells #[v] t (0, 0))
theorem R1.lt {w : World} {b t : Nat} {v : Value} (h : R1 w b t v) : b < w.heap.size := (Array.getElem?_eq_some_iff.1 h).1
theorem R1.c {w : World} {b t : Nat} {v : Value} (h : R1 w b t v) : w.cell? ⟨b, 0, none⟩ = some v := cell_i (i := 0) h
theorem R1.fz {w : World} {b t : Nat} {v : Value} (h : R1 w b t v) : w.frozen? ⟨b, 0, none⟩ = false := by
  unfold World.frozen?
  rw [show w.heap[b]? = _ from h]
  simp
theorem R1.grown {w w' : World} {b t : Nat} {v : Value} (h : R1 w b t v) {row : Option Nat} (hg : w.grownBy w' row) (hne : some b ≠ row) : R1 w' b t v := (hg.block b h.lt hne).trans h
theorem R1.below {w w' : World} {b t : Nat} {v : Value} (h : R1 w b t v) (hb : Below w.heap.size w w') : R1 w' b t v := (hb.block b h.lt).trans h
theorem R1.s {w : World} {b t : Nat} {v : Value} (h : R1 w b t v) (u : Value) : R1 (w.setCell ⟨b, 0, none⟩ u) b t u := by
  unfold R1 at *
  simp [World.setCell, Array.getElem?_modify, h]
theorem R1.far {w : World} {b t a i : Nat} {v : Value} (h : R1 w b t v) (hne : b ≠ a) (u : Value) : R1 (w.setCell ⟨a, i, none⟩ u) b t v := (Below.heap_setCell w _ u b hne).trans h
theorem R4.far {w : World} {b a i : Nat} {v0 v1 v2 v3 : Value} (h : R4 w b v0 v1 v2 v3) (hne : b ≠ a) (u : Value) : R4 (w.setCell ⟨a, i, none⟩ u) b v0 v1 v2 v3 := (Below.heap_setCell w _ u b hne).trans h
/-- a whole reply is stored -/
def set4 (w : World) (b : Nat) (v0 v1 v2 v3 : Value) : World := (((w.setCell ⟨b, 0, none⟩ v0).setCell ⟨b, 1, none⟩ v1).setCell ⟨b, 2, none⟩ v2).setCell ⟨b, 3, none⟩ v3
theorem R4.set4 {w : World} {b : Nat} {u0 u1 u2 u3 : Value} (h : R4 w b u0 u1 u2 u3) (v0 v1 v2 v3 : Value) : R4 (set4 w b v0 v1 v2 v3) b v0 v1 v2 v3 := (((h.s0 v0).s1 v1).s2 v2).s3 v3
theorem R1.set4 {w : World} {b t a : Nat} {v : Value} (h : R1 w b t v) (hne : b ≠ a) (v0 v1 v2 v3 : Value) : R1 (set4 w a v0 v1 v2 v3) b t v := (((h.far hne v0).far hne v1).far hne v2).far hne v3
theorem cur_set4 {w0 w : World} {g b : Nat} {l : List Int} (h : Cur w0 w ⟨g, 0, none⟩ l) (hne : b ≠ g) (hb : w0.heap.size ≤ b) (v0 v1 v2 v3 : Value) : Cur w0 (set4 w b v0 v1 v2 v3) ⟨g, 0, none⟩ l :=
  cur_far (cur_far (cur_far (cur_far h hne hb v0) hne hb v1) hne hb v2) hne hb v3
theorem below_set4 {B : Nat} {w0 w : World} {b : Nat} (h : Below B w0 w) (hb : B ≤ b) (v0 v1 v2 v3 : Value) : Below B w0 (set4 w b v0 v1 v2 v3) := (((h.setCell hb v0).setCell hb v1).setCell hb v2).setCell hb v3
def ReadAns (w : World) (e : Ending) (w' : World) : Prop := ∃ k, e = .returned (.tuple #[.agg #[.int .i64 0, .int .i64 0, .slice (some ⟨k, 0, none⟩) 0 0, .int .i64 0], .int .i64 18, .int .i64 0]) ∧ Below w.heap.size w w'
set_option maxRecDepth 100000 in
set_option maxHeartbeats 8000000 in
theorem read0 (A : Option Addr) (c : Nat) (w : World) (hr : Kd.C (Kd.int .u8) w A 18 (frameB body0)) (hc : 18 ≤ c) :
    Calls Tryd.prog 32 #[.slice A 18 c, .func (Fn.func 33) #[] #[]] w (ReadAns w) := by
  have HR := Aside0.mk hr
  clear hr
  have hmf : ∀ (fn : Fn) (first cap : Array Value) (w : World), (Instr.makeFunc fn first cap).run Tryd.prog w = .ok (.func fn first cap) w := fun _ _ _ _ => rfl
  go_enter_defers Tryd.func32, Tryd.ntmps32
  go_wp2_with fail
  refine (frame_at A c 18 (frameB body0) _ f0_len.symm (by rw [f0_len]; exact Kd.C_alloc (Kd.C_alloc HR.out _) _) hc f0_octs (by rw [f0_len]; decide)).mono ?_
  rintro e w1 ⟨A1, rfl, hr1, hd⟩
  rw [f0_body, f0_len] at hr1
  rw [f0_body, f0_head]
  obtain ⟨nd, rfl⟩ := hd.out
  have HR1 := Aside0.mk (hr1 w HR.out)
  clear hr1 hd
  go_wp2_with fail
  obtain ⟨b, hb⟩ : ∃ b, w.heap.size = b := ⟨_, rfl⟩
  have h25 := heap_new w (.cells #[.int .i64 0, .int .i64 0, .slice none 0 0, .int .i64 0] 25) _ rfl
  have hB1 := below_alloc (Below.refl w.heap.size w) (.cells #[.int .i64 0, .int .i64 0, .slice none 0 0, .int .i64 0] 25)
  obtain ⟨U1, hU1⟩ : ∃ U1, w.alloc (.cells #[.int .i64 0, .int .i64 0, .slice none 0 0, .int .i64 0] 25) = U1 := ⟨_, rfl⟩
  have hs1 : U1.heap.size = b + 1 := by rw [← hU1, ← hb]; simp
  rw [hU1] at h25 hB1 ⊢
  have h22 := heap_new U1 (.cells #[.int .i64 0] 22) _ rfl
  have hB2 := below_alloc hB1 (.cells #[.int .i64 0] 22)
  have h25 := R4.below (show R4 U1 w.heap.size _ _ _ _ from h25) (below_alloc (Below.refl U1.heap.size U1) (.cells #[.int .i64 0] 22))
  obtain ⟨U2, hU2⟩ : ∃ U2, U1.alloc (.cells #[.int .i64 0] 22) = U2 := ⟨_, rfl⟩
  have hs2 : U2.heap.size = b + 2 := by rw [← hU2]; simp [hs1]
  rw [hU2] at h22 hB2 h25 ⊢
  rw [hs1] at h22
  rw [hb] at h25 ⊢
  have k22 := R1.s (show R1 (U2.drewN nd) (b + 1) 22 _ from h22) (.int .i64 0)
  have k25 := R4.far (i := 0) (show R4 (U2.drewN nd) b _ _ _ _ from h25) (show b ≠ b + 1 by omega) (.int .i64 0)
  have kB := (pw_below_drewN hB2 nd).setCell (p := ⟨b + 1, 0, none⟩) (by show _ ≤ b + 1; omega) (.int .i64 0)
  obtain ⟨U3, hU3⟩ : ∃ U3, (U2.drewN nd).setCell ⟨b + 1, 0, none⟩ (.int .i64 0) = U3 := ⟨_, rfl⟩
  have hs3 : U3.heap.size = b + 2 := by rw [← hU3]; simp [World.setCell]; exact hs2
  rw [hU3] at k22 k25 kB ⊢
  have m22 := k22.below (below_alloc (Below.refl U3.heap.size U3) (.cells #[.slice A1 body0.length body0.length] 104))
  have m25 := k25.below (below_alloc (Below.refl U3.heap.size U3) (.cells #[.slice A1 body0.length body0.length] 104))
  have mB := below_alloc kB (.cells #[.slice A1 body0.length body0.length] 104)
  have m104 := heap_new U3 (.cells #[.slice A1 body0.length body0.length] 104) _ rfl
  rw [hs3] at m104
  have hcur : Cur w (U3.alloc (.cells #[.slice A1 body0.length body0.length] 104)) ⟨b + 1 + 1, 0, none⟩ body0 :=
    ⟨A1, body0.length, R1.c m104, R1.fz m104, Nat.le_refl _, HR1.out, mB, by show _ ≤ b + 1 + 1; omega, by decide, by unfold octs; decide⟩
  obtain ⟨U4, hU4⟩ : ∃ U4, U3.alloc (.cells #[.slice A1 body0.length body0.length] 104) = U4 := ⟨_, rfl⟩
  rw [hU4] at m22 m25 mB hcur ⊢
  have M22 := Aside0.mk m22
  have M25 := Aside0.mk m25
  have MB := Aside0.mk mB
  have HCur := Aside0.mk hcur
  have HbE := Aside0.mk (show w.heap.size ≤ b by omega)
  clear hU1 hU2 hU3 hU4 hs1 hs2 hs3 h22 h25 k22 k25 kB m22 m25 mB m104 hcur hB1 hB2 hb
  refine (reply0 w _ (b + 1 + 1) HCur.out).mono ?_
  rintro e W3 ⟨k, rfl, hc3, hg3⟩
  have N22 := Aside0.mk (M22.out.grown hg3 (by simp))
  have N25 := Aside0.mk (M25.out.grown hg3 (fun e => absurd (Option.some.inj e) (by omega)))
  have HC3 := Aside0.mk hc3
  obtain ⟨A3, c3, hy, _, _, _, hB3, _⟩ := hc3
  have hy : W3.cell? ⟨b + 1 + 1, 0, none⟩ = some (.slice A3 0 c3) := hy
  have HB3 := Aside0.mk hB3
  clear hB3 hg3
  have hx0 := N25.out.c0
  have hx1 := N25.out.c1
  have hx2 := N25.out.c2
  have hx3 := N25.out.c3
  have hf0 := N25.out.fz 0
  have hf1 := N25.out.fz 1
  have hf2 := N25.out.fz 2
  have hf3 := N25.out.fz 3
  go_wp2_with fail
  have P25 := N25.out.set4 (.int .i64 0) (.int .i64 0) (.slice (some ⟨k, 0, none⟩) 0 0) (.int .i64 0)
  have P22 := N22.out.set4 (show b + 1 ≠ b by omega) (.int .i64 0) (.int .i64 0) (.slice (some ⟨k, 0, none⟩) 0 0) (.int .i64 0)
  have PB := below_set4 HB3.out HbE.out (.int .i64 0) (.int .i64 0) (.slice (some ⟨k, 0, none⟩) 0 0) (.int .i64 0)
  obtain ⟨W4, hW4⟩ : ∃ W4, set4 W3 b (.int .i64 0) (.int .i64 0) (.slice (some ⟨k, 0, none⟩) 0 0) (.int .i64 0) = W4 := ⟨_, rfl⟩
  have hW4' := hW4
  unfold set4 at hW4'
  rw [hW4] at P25 P22 PB
  rw [hW4']
  clear hx0 hx1 hx2 hx3 hf0 hf1 hf2 hf3 hW4 hW4' N25 N22 HB3 hy HC3
  refine (must_true _).mono ?_
  rintro e W5 ⟨rfl, rfl⟩
  have P25 := Aside0.mk P25
  have P22 := Aside0.mk P22
  have PB := Aside0.mk PB
  have hx0 := P25.out.c0
  have hx1 := P25.out.c1
  have hx2 := P25.out.c2
  have hx3 := P25.out.c3
  have hf0 := P25.out.fz 0
  have hf1 := P25.out.fz 1
  have hf2 := P25.out.fz 2
  have hf3 := P25.out.fz 3
  have hy := P22.out.c
  have hyf := P22.out.fz
  go_wp2_with fail
  have Q25 := (P25.out.set4 (.int .i64 0) (.int .i64 0) (.slice (some ⟨k, 0, none⟩) 0 0) (.int .i64 0)).far (a := b + 1) (i := 0) (by omega) (.int .i64 0)
  have Q22 := (P22.out.set4 (show b + 1 ≠ b by omega) (.int .i64 0) (.int .i64 0) (.slice (some ⟨k, 0, none⟩) 0 0) (.int .i64 0)).s (.int .i64 0)
  have QB := (below_set4 PB.out HbE.out (.int .i64 0) (.int .i64 0) (.slice (some ⟨k, 0, none⟩) 0 0) (.int .i64 0)).setCell (p := ⟨b + 1, 0, none⟩) (Nat.le_succ_of_le HbE.out) (.int .i64 0)
  obtain ⟨W6, hW6⟩ : ∃ W6, (set4 W4 b (.int .i64 0) (.int .i64 0) (.slice (some ⟨k, 0, none⟩) 0 0) (.int .i64 0)).setCell ⟨b + 1, 0, none⟩ (.int .i64 0) = W6 := ⟨_, rfl⟩
  have hW6' := hW6
  unfold set4 at hW6'
  rw [hW6] at Q25 Q22 QB
  rw [hW6']
  clear hx0 hx1 hx2 hx3 hf0 hf1 hf2 hf3 hy hyf hW6 hW6' P25 P22 PB
  have hx0 := Q25.c0
  have hx1 := Q25.c1
  have hx2 := Q25.c2
  have hx3 := Q25.c3
  have hy := Q22.c
  refine leaves_cons (f := 52) (args := #[.pointer (some ⟨b, 0, none⟩), .pointer (some ⟨b + 1, 0, none⟩)]) (by simp) (by simp [go_sem]) ?_
  refine (idle52 _ _ _).mono ?_
  rintro e u' w'' ⟨rfl, rfl, rfl⟩
  exact ⟨.tuple #[.agg #[.int .i64 0, .int .i64 0, .slice (some ⟨k, 0, none⟩) 0 0, .int .i64 0], .int .i64 18, .int .i64 0], by simp [results, Tryd.results32, go_sem, hx0, hx1, hx2, hx3, hy], k, rfl, QB⟩
set_option maxRecDepth 100000 in
set_option maxHeartbeats 8000000 in
theorem getReply0 (A : Option Addr) (c : Nat) (w : World) (hr : Kd.C (Kd.int .u8) w A 18 (frameB body0)) (hc : 18 ≤ c) :
    Calls Tryd.prog 13 #[.slice A 18 c] w (ReadAns w) := by
  have HR := Aside0.mk hr
  clear hr
  go_enter Tryd.func13, Tryd.ntmps13
  go_wp2_with fail
  have hB1 := below_alloc (Below.refl w.heap.size w) (.cells #[.int .i64 0, .int .i64 0, .slice none 0 0, .int .i64 0] 25)
  have h25 := heap_new w (.cells #[.int .i64 0, .int .i64 0, .slice none 0 0, .int .i64 0] 25) _ rfl
  have hR1 := Kd.C_alloc HR.out (.cells #[.int .i64 0, .int .i64 0, .slice none 0 0, .int .i64 0] 25)
  obtain ⟨b, hb⟩ : ∃ b, w.heap.size = b := ⟨_, rfl⟩
  obtain ⟨U1, hU1⟩ : ∃ U1, w.alloc (.cells #[.int .i64 0, .int .i64 0, .slice none 0 0, .int .i64 0] 25) = U1 := ⟨_, rfl⟩
  rw [hU1] at hB1 h25 hR1 ⊢
  rw [hb] at h25 ⊢
  have HbE := Aside0.mk (show w.heap.size ≤ b by omega)
  clear hU1 hb
  refine (read0 A c U1 hR1 hc).mono ?_
  rintro e W2 ⟨k, rfl, hB2⟩
  have N25 := R4.below (show R4 U1 b _ _ _ _ from h25) hB2
  have HB := Aside0.mk (below_step hB1 hB2)
  have N := Aside0.mk N25
  have hx0 := N25.c0
  have hx1 := N25.c1
  have hx2 := N25.c2
  have hx3 := N25.c3
  have hf0 := N25.fz 0
  have hf1 := N25.fz 1
  have hf2 := N25.fz 2
  have hf3 := N25.fz 3
  clear h25 N25 hB1 hB2 hR1
  go_wp2_with fail
  have Q25 := N.out.set4 (.int .i64 0) (.int .i64 0) (.slice (some ⟨k, 0, none⟩) 0 0) (.int .i64 0)
  have QB := below_set4 HB.out HbE.out (.int .i64 0) (.int .i64 0) (.slice (some ⟨k, 0, none⟩) 0 0) (.int .i64 0)
  obtain ⟨W6, hW6⟩ : ∃ W6, set4 W2 b (.int .i64 0) (.int .i64 0) (.slice (some ⟨k, 0, none⟩) 0 0) (.int .i64 0) = W6 := ⟨_, rfl⟩
  have hW6' := hW6
  unfold set4 at hW6'
  rw [hW6] at Q25 QB
  rw [hW6']
  clear hx0 hx1 hx2 hx3 hf0 hf1 hf2 hf3 hW6 hW6' N HB
  have hx0 := Q25.c0
  have hx1 := Q25.c1
  have hx2 := Q25.c2
  have hx3 := Q25.c3
  exact bodyPost_ret (v := .tuple #[.agg #[.int .i64 0, .int .i64 0, .slice (some ⟨k, 0, none⟩) 0 0, .int .i64 0], .int .i64 18, .int .i64 0]) (by simp [results, Tryd.results13, go_sem, hx0, hx1, hx2, hx3]) rfl ⟨k, rfl, QB⟩
end Go.Proofs.YtppdblikbdibmaaDoor.Wi
