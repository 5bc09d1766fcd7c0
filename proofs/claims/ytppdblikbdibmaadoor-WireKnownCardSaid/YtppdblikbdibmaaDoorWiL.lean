/- The walk of WireKnown. -/
import Derived.Test.YtppdblikbdibmaaDoorWiK
namespace Go.Proofs.YtppdblikbdibmaaDoor.Wi
open Go.RowKit Go.Proofs.YtppdblikbdibmaaDoorW.PrintWords Go.Proofs.YtppdblikbdibmaaDoorW.PrintLast Go.Proofs.YtppdblikbdibmaaDoorW.PrintMore Go.Proofs.YtppdblikbdibmaaDoor.Bw Go.Proofs.YtppdblikbdibmaaDoor.Crc Go.Proofs.YtppdblikbdibmaaDoor.Wordy
set_option linter.unusedVariables false
set_option linter.unusedSimpArgs false

theorem k_head5 : headP ((frameB body0).take 5) = (0, 17) := by decide +kernel
theorem k_head2 : headP [77, 1] = (0, 4) := by decide +kernel
theorem k_head4 : headP [77, 68, 255, 255] = (0, 2) := by decide +kernel
def two1 : List Int := frameB body0 ++ frameB body0 ++ [77]
theorem k_split : splitP two1 = (2, 1, 17) := by decide +kernel
theorem k_two1 : two1.length = 37 := by decide +kernel
theorem k_octs : octs two1 := by unfold octs; decide +kernel
theorem ob_empty {base g : Nat} {w : World} (hb : base ≤ w.heap.size) (hg : g = w.heap.size) : Ob base (w.alloc (.cells #[] 5)) (.slice (some ⟨g, 0, none⟩) 0 0) [] := by
  have h := ob_lit (base := base) (g := g) (w := w) [] hb hg (by decide)
  simpa [nums] using h
set_option maxRecDepth 100000 in
set_option maxHeartbeats 8000000 in
theorem known_w (w : World) : Calls Tryd.prog 4 #[] w fun e w' => e = .returned (.bool true) ∧ Below w.heap.size w w' := by
  go_enter Tryd.func4, Tryd.ntmps4
  go_wp2_with fail
  refine (putReply0 _).mono ?_
  rintro e w1 ⟨v, rfl, ho, hb⟩
  obtain ⟨A, c, rfl, hc, hr⟩ := ob_reads ho
  rw [f0_len] at hc hr ⊢
  have HR1 := Aside0.mk hr
  have HB1 := Aside0.mk hb
  clear ho hb hr
  go_wp2_with fail
  refine (awake_x _).mono ?_
  rintro e w2 ⟨rfl, hb⟩
  have HB2 := Aside0.mk (below_step HB1.out hb)
  have HR2 := Aside0.mk (Kd.C_below HR1.out hb)
  clear hb HB1 HR1
  have t1 : 5 ≤ c := by omega
  have hl5 : ((frameB body0).take 5).length = 5 := by rw [List.length_take, f0_len]; rfl
  go_wp2_with fail
  refine (getReply_no A c 5 ((frameB body0).take 5) _ 0 17 hl5.symm (by rw [hl5]; exact rb_take (by rw [f0_len]; exact HR2.out) (by rw [f0_len]; decide)) (by omega) (octs_take f0_octs _) (by rw [hl5]; decide) k_head5 (by decide)).mono ?_
  rintro e w3 ⟨rfl, hb⟩
  have HB3 := Aside0.mk (below_alloc (below_step HB2.out hb) (.cells #[.int .i64 0, .int .i64 0, .slice none 0 0, .int .i64 0] 25))
  have HR3 := Aside0.mk (Kd.C_alloc (Kd.C_below HR2.out hb) (.cells #[.int .i64 0, .int .i64 0, .slice none 0 0, .int .i64 0] 25))
  clear hb HB2 HR2 hl5
  go_wp2_with fail
  refine (getReply_no _ 2 2 [77, 1] _ 0 4 rfl (rb_lit [77, 1] _ (by simp) (by decide)) (by decide) (by unfold octs; decide) (by decide) k_head2 (by decide)).mono ?_
  rintro e w4 ⟨rfl, hb⟩
  have HB4 := Aside0.mk (below_alloc (below_step (below_alloc HB3.out (.cells (nums .u8 [77, 1]).toArray 5)) hb) (.cells #[.int .i64 0, .int .i64 0, .slice none 0 0, .int .i64 0] 25))
  have HR4 := Aside0.mk (Kd.C_alloc (Kd.C_below (Kd.C_alloc HR3.out (.cells (nums .u8 [77, 1]).toArray 5)) hb) (.cells #[.int .i64 0, .int .i64 0, .slice none 0 0, .int .i64 0] 25))
  clear hb HB3 HR3
  go_wp2_with fail
  refine (getReply_no _ 4 4 [77, 68, 255, 255] _ 0 2 rfl (rb_lit [77, 68, 255, 255] _ (by simp) (by decide)) (by decide) (by unfold octs; decide) (by decide) k_head4 (by decide)).mono ?_
  rintro e w5 ⟨rfl, hb⟩
  have HB5 := Aside0.mk (below_alloc (below_step (below_alloc HB4.out (.cells (nums .u8 [77, 68, 255, 255]).toArray 5)) hb) (.cells #[.int .i64 0, .int .i64 0, .slice none 0 0, .int .i64 0] 25))
  have HR5 := Aside0.mk (Kd.C_alloc (Kd.C_below (Kd.C_alloc HR4.out (.cells (nums .u8 [77, 68, 255, 255]).toArray 5)) hb) (.cells #[.int .i64 0, .int .i64 0, .slice none 0 0, .int .i64 0] 25))
  clear hb HB4 HR4
  go_wp2_with (first
    | ((with_reducible refine gate_builtin (xs := #[.tmp 42, .tmp 43]) rfl ?_); go_loud (refine Kd.R_append_row (Value.int .u8) (0 : Int) (w0 := w5.alloc (.cells #[.int .i64 0, .int .i64 0, .slice none 0 0, .int .i64 0] 25)) _ rfl (.tmp 42) (.tmp 43) 26 5 (.int .u8 0) 1 rfl Tryd.underlying26 info5 rfl (by decide) _ [] (frameB body0) A 18 c (fun _ => True) rfl rfl (fun _ _ => trivial) (ob_empty (Nat.le_refl _) (by simp)) (Kd.C_alloc HR5.out _) (below_alloc (Below.refl _ _) _) (by simp) (by decide) ?_); intro v6 w6 ho6 hb6 hg6 hat6)
    | ((with_reducible refine gate_builtin (xs := #[.tmp 44, .tmp 45]) rfl ?_); go_loud (refine Kd.R_append_row (Value.int .u8) (0 : Int) (w0 := w5.alloc (.cells #[.int .i64 0, .int .i64 0, .slice none 0 0, .int .i64 0] 25)) _ rfl (.tmp 44) (.tmp 45) 26 5 (.int .u8 0) 1 rfl Tryd.underlying26 info5 rfl (by decide) v6 ([] ++ frameB body0) (frameB body0) A 18 c (fun _ => True) rfl rfl (fun _ _ => trivial) ho6 (Kd.C_below HR5.out hb6) hb6 hb6.size (by rw [List.nil_append, f0_len]; decide) ?_); intro v7 w7 ho7 hb7 hg7 hat7)
    | ((with_reducible refine gate_builtin (xs := #[.tmp 46, .tmp 47]) rfl ?_); go_loud (refine Kd.R_append_row (Value.int .u8) (0 : Int) (w0 := w5.alloc (.cells #[.int .i64 0, .int .i64 0, .slice none 0 0, .int .i64 0] 25)) _ rfl (.tmp 46) (.tmp 47) 26 5 (.int .u8 0) 1 rfl Tryd.underlying26 info5 rfl (by decide) v7 ([] ++ frameB body0 ++ frameB body0) [77] (some ⟨w7.heap.size, 0, none⟩) 1 1 (fun _ => True) rfl rfl (fun _ _ => trivial) (Kd.R_alloc ho7 _) (rb_lit [77] _ rfl (by decide)) (below_alloc hb7 _) (Nat.le_trans hb7.size (by simp)) (by rw [List.nil_append, List.length_append, f0_len]; decide) ?_); intro v8 w8 ho8 hb8 hg8 hat8))
  rw [show [] ++ frameB body0 ++ frameB body0 ++ [77] = two1 from rfl] at ho8
  obtain ⟨A8, c8, rfl, hc8, hr8⟩ := ob_reads ho8
  refine (split_calls A8 c8 two1 _ hr8 hc8 k_octs (by rw [k_two1]; decide)).mono ?_
  rintro e w9 ⟨rfl, hd⟩
  rw [k_split]
  have HB9 := Aside0.mk (show Below w.heap.size w w9 by obtain ⟨n, rfl⟩ := hd.out; exact pw_below_drewN (below_step HB5.out hb8) n)
  clear ho6 hb6 hg6 hat6 ho7 hb7 hg7 hat7 ho8 hb8 hg8 hat8 hd hr8 HR5 HB5
  go_wp2_with fail
  go_ret
  exact ⟨rfl, HB9.out⟩
end Go.Proofs.YtppdblikbdibmaaDoor.Wi
