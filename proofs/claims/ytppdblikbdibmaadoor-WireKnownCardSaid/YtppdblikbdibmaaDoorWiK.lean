/- Contracts by hand: bytes that begin with no whole frame are read as none; the walk of WireKnown. -/
import Derived.Test.YtppdblikbdibmaaDoorWiJ
import Derived.RegionTactic
namespace Go.Proofs.YtppdblikbdibmaaDoor.Wi
open Go.RowKit Go.Proofs.YtppdblikbdibmaaDoorW.PrintWords Go.Proofs.YtppdblikbdibmaaDoorW.PrintLast Go.Proofs.YtppdblikbdibmaaDoorW.PrintMore Go.Proofs.YtppdblikbdibmaaDoor.Bw Go.Proofs.YtppdblikbdibmaaDoor.Crc Go.Proofs.YtppdblikbdibmaaDoor.Wordy
set_option linter.unusedVariables false
set_option linter.unusedSimpArgs false

def NoneAns (n : Nat) (x : Int) (w : World) (e : Ending) (w' : World) : Prop := e = .returned (.tuple #[.agg #[.int .i64 0, .int .i64 0, .slice none 0 0, .int .i64 0], .int .i64 n, .int .i64 x]) ∧ Below w.heap.size w w'
set_option maxRecDepth 100000 in
set_option maxHeartbeats 8000000 in
theorem read_no (A : Option Addr) (c : Nat) (l : List Int) (w : World) (n : Nat) (x : Int) (hr : Kd.C (Kd.int .u8) w A l.length l) (hc : l.length ≤ c) (ho : octs l) (hl : l.length ≤ 140737488351232) (hh : headP l = (n, x)) (hx : x ≠ 0) :
    Calls Tryd.prog 32 #[.slice A l.length c, .func (Fn.func 33) #[] #[]] w (NoneAns n x w) := by
  have HR := Aside0.mk hr
  have HO := Aside0.mk ho
  have HH := Aside0.mk hh
  have HX := Aside0.mk hx
  have q1 : (x != 0) = true := by simpa using hx
  clear hr ho hh hx
  go_enter_defers Tryd.func32, Tryd.ntmps32
  go_wp2_with fail
  refine (frame_calls A c l _ (Kd.C_alloc (Kd.C_alloc HR.out _) _) hc HO.out hl).mono ?_
  rintro e w1 ⟨A1, rfl, _, hd⟩
  have hb0 : bodyH l = [] := by unfold bodyH; rw [HH.out, if_neg HX.out]
  rw [hb0, HH.out]
  obtain ⟨nd, rfl⟩ := hd.out
  clear hb0 hd
  go_wp2_with fail
  obtain ⟨b, hb⟩ : ∃ b, w.heap.size = b := ⟨_, rfl⟩
  have h25 := heap_new w (.cells #[.int .i64 0, .int .i64 0, .slice none 0 0, .int .i64 0] 25) _ rfl
  have hB1 := below_alloc (Below.refl w.heap.size w) (.cells #[.int .i64 0, .int .i64 0, .slice none 0 0, .int .i64 0] 25)
  obtain ⟨U1, hU1⟩ : ∃ U1, w.alloc (.cells #[.int .i64 0, .int .i64 0, .slice none 0 0, .int .i64 0] 25) = U1 := ⟨_, rfl⟩
  have hs1 : U1.heap.size = b + 1 := by rw [← hU1, ← hb]; simp
  rw [hU1] at h25 hB1 ⊢
  have h22 := heap_new U1 (.cells #[.int .i64 0] 22) _ rfl
  have hB2 := below_alloc hB1 (.cells #[.int .i64 0] 22)
  have h25 := R4.below (show R4 U1 w.heap.size _ _ _ _ from h25) (below_alloc (Below.refl U1.heap.size U1) (.cells #[.int .i64 0] 22))
  obtain ⟨U2, hU2⟩ : ∃ U2, U1.alloc (.cells #[.int .i64 0] 22) = U2 := ⟨_, rfl⟩
  rw [hU2] at h22 hB2 h25 ⊢
  rw [hs1] at h22
  rw [hb] at h25 ⊢
  have k22 := R1.s (show R1 (U2.drewN nd) (b + 1) 22 _ from h22) (.int .i64 x)
  have k25 := R4.far (i := 0) (show R4 (U2.drewN nd) b _ _ _ _ from h25) (show b ≠ b + 1 by omega) (.int .i64 x)
  have kB := (pw_below_drewN hB2 nd).setCell (p := ⟨b + 1, 0, none⟩) (by show _ ≤ b + 1; omega) (.int .i64 x)
  obtain ⟨U3, hU3⟩ : ∃ U3, (U2.drewN nd).setCell ⟨b + 1, 0, none⟩ (.int .i64 x) = U3 := ⟨_, rfl⟩
  rw [hU3] at k22 k25 kB ⊢
  have K22 := Aside0.mk k22
  have K25 := Aside0.mk k25
  have KB := Aside0.mk kB
  have HbE := Aside0.mk (show w.heap.size ≤ b by omega)
  have hx0 := k25.c0
  have hx1 := k25.c1
  have hx2 := k25.c2
  have hx3 := k25.c3
  have hf0 := k25.fz 0
  have hf1 := k25.fz 1
  have hf2 := k25.fz 2
  have hf3 := k25.fz 3
  have hy := k22.c
  have hyf := k22.fz
  clear hU1 hU2 hU3 hs1 h22 h25 k22 k25 kB hB1 hB2 hb
  go_region
  have Q25 := (K25.out.set4 (.int .i64 0) (.int .i64 0) (.slice none 0 0) (.int .i64 0)).far (a := b + 1) (i := 0) (by omega) (.int .i64 x)
  have Q22 := (K22.out.set4 (show b + 1 ≠ b by omega) (.int .i64 0) (.int .i64 0) (.slice none 0 0) (.int .i64 0)).s (.int .i64 x)
  have QB := ((below_set4 KB.out HbE.out (.int .i64 0) (.int .i64 0) (.slice none 0 0) (.int .i64 0)).setCell (p := ⟨b + 1, 0, none⟩) (Nat.le_succ_of_le HbE.out) (.int .i64 x)).drew
  have Q25 : R4 ((set4 U3 b (.int .i64 0) (.int .i64 0) (.slice none 0 0) (.int .i64 0)).setCell ⟨b + 1, 0, none⟩ (.int .i64 x)).drew b _ _ _ _ := Q25
  have Q22 : R1 ((set4 U3 b (.int .i64 0) (.int .i64 0) (.slice none 0 0) (.int .i64 0)).setCell ⟨b + 1, 0, none⟩ (.int .i64 x)).drew (b + 1) 22 _ := Q22
  obtain ⟨W6, hW6⟩ : ∃ W6, ((set4 U3 b (.int .i64 0) (.int .i64 0) (.slice none 0 0) (.int .i64 0)).setCell ⟨b + 1, 0, none⟩ (.int .i64 x)).drew = W6 := ⟨_, rfl⟩
  have hW6' := hW6
  unfold set4 at hW6'
  rw [hW6] at Q25 Q22 QB
  rw [hW6']
  clear hx0 hx1 hx2 hx3 hf0 hf1 hf2 hf3 hy hyf hW6 hW6' K25 K22 KB
  have hx0 := Q25.c0
  have hx1 := Q25.c1
  have hx2 := Q25.c2
  have hx3 := Q25.c3
  have hy := Q22.c
  go_wp2_with fail
  exact ⟨.tuple #[.agg #[.int .i64 0, .int .i64 0, .slice none 0 0, .int .i64 0], .int .i64 n, .int .i64 x], by simp [results, Tryd.results32, go_sem, hx0, hx1, hx2, hx3, hy], rfl, QB⟩
set_option maxRecDepth 100000 in
set_option maxHeartbeats 8000000 in
theorem getReply_no (A : Option Addr) (c m : Nat) (l : List Int) (w : World) (n : Nat) (x : Int) (hm : m = l.length) (hr : Kd.C (Kd.int .u8) w A l.length l) (hc : m ≤ c) (ho : octs l) (hl : l.length ≤ 140737488351232) (hh : headP l = (n, x)) (hx : x ≠ 0) :
    Calls Tryd.prog 13 #[.slice A m c] w (NoneAns n x w) := by
  subst hm
  have HR := Aside0.mk hr
  have HO := Aside0.mk ho
  have HH := Aside0.mk hh
  have HX := Aside0.mk hx
  clear hr ho hh hx
  go_enter Tryd.func13, Tryd.ntmps13
  go_wp2_with fail
  have hB1 := below_alloc (Below.refl w.heap.size w) (.cells #[.int .i64 0, .int .i64 0, .slice none 0 0, .int .i64 0] 25)
  have h25 := heap_new w (.cells #[.int .i64 0, .int .i64 0, .slice none 0 0, .int .i64 0] 25) _ rfl
  have hR1 := Kd.C_alloc HR.out (.cells #[.int .i64 0, .int .i64 0, .slice none 0 0, .int .i64 0] 25)
  obtain ⟨b, hb⟩ : ∃ b, w.heap.size = b := ⟨_, rfl⟩
  obtain ⟨U1, hU1⟩ : ∃ U1, w.alloc (.cells #[.int .i64 0, .int .i64 0, .slice none 0 0, .int .i64 0] 25) = U1 := ⟨_, rfl⟩
  rw [hU1] at hB1 h25 hR1 ⊢
  rw [hb] at h25 ⊢
  have HbE := Aside0.mk (show w.heap.size ≤ b by omega)
  clear hU1 hb
  refine (read_no A c l U1 n x hR1 hc HO.out hl HH.out HX.out).mono ?_
  rintro e W2 ⟨rfl, hB2⟩
  have N25 := R4.below (show R4 U1 b _ _ _ _ from h25) hB2
  have HB := Aside0.mk (below_step hB1 hB2)
  have N := Aside0.mk N25
  have hx0 := N25.c0
  have hx1 := N25.c1
  have hx2 := N25.c2
  have hx3 := N25.c3
  have hf0 := N25.fz 0
  have hf1 := N25.fz 1
  have hf2 := N25.fz 2
  have hf3 := N25.fz 3
  clear h25 N25 hB1 hB2 hR1
  go_wp2_with fail
  have Q25 := N.out.set4 (.int .i64 0) (.int .i64 0) (.slice none 0 0) (.int .i64 0)
  have QB := below_set4 HB.out HbE.out (.int .i64 0) (.int .i64 0) (.slice none 0 0) (.int .i64 0)
  obtain ⟨W6, hW6⟩ : ∃ W6, set4 W2 b (.int .i64 0) (.int .i64 0) (.slice none 0 0) (.int .i64 0) = W6 := ⟨_, rfl⟩
  have hW6' := hW6
  unfold set4 at hW6'
  rw [hW6] at Q25 QB
  rw [hW6']
  clear hx0 hx1 hx2 hx3 hf0 hf1 hf2 hf3 hW6 hW6' N HB
  have hx0 := Q25.c0
  have hx1 := Q25.c1
  have hx2 := Q25.c2
  have hx3 := Q25.c3
  exact bodyPost_ret (v := .tuple #[.agg #[.int .i64 0, .int .i64 0, .slice none 0 0, .int .i64 0], .int .i64 n, .int .i64 x]) (by simp [results, Tryd.results13, go_sem, hx0, hx1, hx2, hx3]) rfl ⟨rfl, QB⟩
end Go.Proofs.YtppdblikbdibmaaDoor.Wi
