/- SumKept: the walk. -/
import Derived.Test.YtlcididlnfclgaaNumsOk
namespace Go.Proofs.Ytlcididlnfclgaa.Sums
open Go.RowKit Go.Proofs.YtlcididlnfclgaaW.PrintWords Go.Proofs.YtlcididlnfclgaaW.PrintLast Go.Proofs.YtlcididlnfclgaaW.PrintMore Go.Proofs.Ytlcididlnfclgaa.Bw Go.Proofs.Ytlcididlnfclgaa.Crc
set_option linter.unusedVariables false
set_option linter.unusedSimpArgs false

/-- An empty row that has just been laid. -/
theorem own_empty (W : World) (base g : Nat) (e : TypeId) (hg : g = W.heap.size) (hb : base ≤ W.heap.size) : (W.alloc (.cells #[] e)).ownsRow base e 1 (.slice (some ⟨g, 0, none⟩) 0 0) 0 (nums .u8 []) := by
  subst hg
  exact ⟨by simp [nums], .inr ⟨W.heap.size, 0, #[], rfl, hb, heap_new _ _ _ rfl, Nat.le_refl _, by unfold maxLen; omega, by simp, by simp [nums]⟩⟩
/-- The head of an own row, read. -/
theorem rb_head {w : World} {base g e n cap : Nat} {xs : List Int} (h : w.ownsRow base e 1 (.slice (some ⟨g, 0, none⟩) n cap) n (nums .u8 xs)) (m : Nat) (hm : m ≤ n) (hl : n ≤ 9223372036854775807) : Kd.C (Kd.int .u8) w (some ⟨g, 0, none⟩) m (xs.take m) := by
  have hx : xs.length = n := by have := h.1; simp [nums] at this; exact this
  refine rb_of_reads ⟨by rw [List.length_take]; omega, by omega, fun _ => ⟨_, rfl, fun j hj => ?_⟩⟩
  rw [add_plain, h.cellAt j (by omega), nums_getElem (by omega), List.getD_eq_getElem?_getD, List.getD_eq_getElem?_getD, List.getElem?_take, if_pos hj]

theorem own_cap {w : World} {base g e n cap : Nat} {xs : List Value} (h : w.ownsRow base e 1 (.slice (some ⟨g, 0, none⟩) n cap) n xs) : n ≤ cap ∧ cap ≤ 9223372036854775807 := by
  rcases h.2 with ⟨h', _⟩ | ⟨g', cap', cur, h', hb, hg, hnc, hcm, hcs, htake⟩
  · simp at h'
  · simp only [Value.slice.injEq, Option.some.injEq, Addr.mk.injEq, and_true, true_and] at h'
    obtain ⟨rfl, rfl⟩ := h'
    unfold maxLen at hcm
    exact ⟨hnc, hcm⟩
set_option maxHeartbeats 4000000 in
theorem kept_no (A : Option Addr) (c : Nat) (b : List Int) (at_ size n code : Int) (w : World) (hr : Kd.C (Kd.int .u8) w A b.length b) (hc : b.length ≤ c) (hl : b.length ≤ 140737488351232) (hcode : (code != 0) = true)
    (hput : ∀ A c w, Kd.C (Kd.int .u8) w A b.length b → b.length ≤ c → Calls Try.prog 9 #[.slice A b.length c, .int .i64 at_, .int .i64 size, .int .u64 n] w fun e w' => e = .returned (.tuple #[.slice none 0 0, .int .i64 code]) ∧ Drawn0 w w') :
    Calls Try.prog 5 #[.slice A b.length c, .int .i64 at_, .int .i64 size, .int .u64 n] w fun e w' => e = .returned (.bool true) ∧ Below w.heap.size w w' := by
  have HR := Aside0.mk hr
  have HP := Aside0.mk hput
  clear hr hput
  go_enter Try.func5, Try.ntmps5
  go_wp2_with fail
  refine (awake_calls _).mono ?_
  rintro e w1 ⟨rfl, hb⟩
  have HB := Aside0.mk hb
  clear hb
  go_wp2_with (first
    | (at_builtin; (with_reducible refine gate_builtin (xs := #[.tmp 17, .tmp 18]) rfl ?_); go_loud (refine print_append_row (w0 := w1) w1.heap.size rfl _ _ 22 5 .u8 1 rfl Try.underlying22 info5 (by decide) (.slice (some ⟨w1.heap.size, 0, none⟩) 0 0) [] b A b.length c rfl rfl (own_empty _ _ _ _ rfl (Nat.le_refl _)) (rb_reads (Kd.C_alloc (Kd.C_below HR.out HB.out) _)) (below_alloc (Below.refl _ _) _) (by simp) (by simp; omega) ?_); intro v2 w2 ho2 hb2 hg2 hn2; obtain ⟨A2, c2, e2⟩ := own_slice ho2; subst e2; rw [List.nil_append] at ho2)
    | (at_builtin; (with_reducible refine gate_builtin (xs := #[.tmp 19, .tmp 20]) rfl ?_); go_loud (refine print_append_row (w0 := w1) w1.heap.size rfl _ _ 22 5 .u8 1 rfl Try.underlying22 info5 (by decide) (.slice A2 b.length c2) b [201] (some ⟨w2.heap.size, 0, none⟩) 1 1 rfl rfl (own_alloc ho2 _) (reads_new _ _ _ rfl) (below_alloc hb2 _) (by have := hb2.size; simp; omega) (by omega) ?_); intro v3 w3 ho3 hb3 hg3 hn3; obtain ⟨g3, c3, e3, _, _⟩ := ho3.form (by simp); subst e3; rw [List.length_append] at ho3; obtain ⟨hcap1, hcap2⟩ := own_cap ho3; replace hcap1 : b.length + 1 ≤ c3 := hcap1; have HO3 := Aside0.mk ho3; have HB3 := Aside0.mk (below_step HB.out hb3); clear ho2 hb2 hg2 hn2 ho3 hb3 hg3 hn3))
  have hR3 : Kd.C (Kd.int .u8) w3 (some ⟨g3, 0, none⟩) b.length b := by
    have h := rb_head HO3.out b.length (by omega) (by simp; omega)
    rwa [List.take_left] at h
  have HR3 := Aside0.mk hR3
  clear hR3
  refine (HP.out _ _ _ HR3.out (by omega)).mono ?_
  rintro e w4 ⟨rfl, ⟨nd, rfl⟩⟩
  have hcv1 := Kd.C_string (P := Try.prog) (A := some ⟨g3, 0, none⟩) (c := c3) Try.underlying22 Try.underlying5 Try.underlying9 (Kd.C_drewN HR3.out nd)
  have hcv2 := Kd.C_string (P := Try.prog) (A := A) (c := c) Try.underlying22 Try.underlying5 Try.underlying9 (Kd.C_drewN (Kd.C_below HR.out HB3.out) nd)
  go_wp2
  go_ret
  exact ⟨by simp, pw_below_drewN HB3.out _⟩

theorem octs_layN {b : List Int} (h : octs b) (at_ : Nat) (n : Int) (k : Nat) : octs (layN b at_ n k) := by
  induction k with
  | zero => exact h
  | succ k ih => exact octs_set ih _ (octOf_range n k)
theorem numAt_layN (b : List Int) (at_ size n : Nat) (h : at_ + size ≤ b.length) (hn : n < 2 ^ (8 * size)) : numAt (layN b at_ (n : Int) size) at_ size = n := by
  unfold numAt
  have hl : (b.take at_).length = at_ := by rw [List.length_take]; omega
  rw [layN_eq b at_ _ size h, List.drop_append_of_le_length (by omega), List.drop_eq_nil_of_le (by omega), List.nil_append, List.take_append_of_le_length (by rw [leB_length]; omega), List.take_of_length_le (by rw [leB_length]; omega), num_leB, Nat.mod_eq_of_lt hn]
set_option maxHeartbeats 8000000 in
theorem kept_ok (A : Option Addr) (c : Nat) (b : List Int) (at_ size : Nat) (n : Int) (w : World) (hr : Kd.C (Kd.int .u8) w A b.length b) (hc : b.length ≤ c) (hl : b.length ≤ 140737488351232) (ho : octs b)
    (h : liesB b.length at_ size = true) (h1 : 1 ≤ size) (h2 : size ≤ 8) (h3 : at_ + size ≤ b.length) (hn : size < 8 → (n / 2 ^ (8 * size) != 0) = false) (hn0 : 0 ≤ n) (hm : ((numAt (layN b at_ n size) at_ size : Nat) : Int) = n) :
    Calls Try.prog 5 #[.slice A b.length c, .int .i64 at_, .int .i64 size, .int .u64 n] w fun e w' => e = .returned (.bool true) ∧ Below w.heap.size w w' := by
  have HR := Aside0.mk hr
  have HH := Aside0.mk h
  have HN := Aside0.mk hn
  have HO := Aside0.mk ho
  have HM := Aside0.mk hm
  clear hr h hn ho hm
  go_enter Try.func5, Try.ntmps5
  go_wp2_with fail
  refine (awake_calls _).mono ?_
  rintro e w1 ⟨rfl, hb⟩
  have HB := Aside0.mk hb
  clear hb
  go_wp2_with (first
    | (at_builtin; (with_reducible refine gate_builtin (xs := #[.tmp 17, .tmp 18]) rfl ?_); go_loud (refine print_append_row (w0 := w1) w1.heap.size rfl _ _ 22 5 .u8 1 rfl Try.underlying22 info5 (by decide) (.slice (some ⟨w1.heap.size, 0, none⟩) 0 0) [] b A b.length c rfl rfl (own_empty _ _ _ _ rfl (Nat.le_refl _)) (rb_reads (Kd.C_alloc (Kd.C_below HR.out HB.out) _)) (below_alloc (Below.refl _ _) _) (by simp) (by simp; omega) ?_); intro v2 w2 ho2 hb2 hg2 hn2; obtain ⟨A2, c2, e2⟩ := own_slice ho2; subst e2; rw [List.nil_append] at ho2)
    | (at_builtin; (with_reducible refine gate_builtin (xs := #[.tmp 19, .tmp 20]) rfl ?_); go_loud (refine print_append_row (w0 := w1) w1.heap.size rfl _ _ 22 5 .u8 1 rfl Try.underlying22 info5 (by decide) (.slice A2 b.length c2) b [201] (some ⟨w2.heap.size, 0, none⟩) 1 1 rfl rfl (own_alloc ho2 _) (reads_new _ _ _ rfl) (below_alloc hb2 _) (by have := hb2.size; simp; omega) (by omega) ?_); intro v3 w3 ho3 hb3 hg3 hn3; obtain ⟨g3, c3, e3, _, _⟩ := ho3.form (by simp); subst e3; rw [List.length_append] at ho3; obtain ⟨hcap1, hcap2⟩ := own_cap ho3; replace hcap1 : b.length + 1 ≤ c3 := hcap1; have HO3 := Aside0.mk ho3; have HB3 := Aside0.mk (below_step HB.out hb3); clear ho2 hb2 hg2 hn2 ho3 hb3 hg3 hn3))
  have hR3 : Kd.C (Kd.int .u8) w3 (some ⟨g3, 0, none⟩) b.length b := by
    have h := rb_head HO3.out b.length (by omega) (by simp; omega)
    rwa [List.take_left] at h
  have HR3 := Aside0.mk hR3
  clear hR3
  refine (put_ok (some ⟨g3, 0, none⟩) c3 b at_ size n _ HR3.out (by omega) hl (fun h => by cases h) HH.out h1 h2 h3 HN.out hn0).mono ?_
  rintro e w4 ⟨gp, rfl, hgp, hbp, hbl⟩
  have HP := Aside0.mk hbp
  have HB4 := Aside0.mk hbl
  clear hbp hbl
  go_wp2_with fail
  have hget := get_ok (some ⟨gp, 0, none⟩) b.length (layN b at_ n size) at_ size w4 (HP.out.rb (by rw [layN_length]; omega)) (by rw [layN_length]; omega) (octs_layN HO.out _ _ _) (by rw [layN_length]; omega) (by rw [layN_length]; exact HH.out)
  rw [layN_length, HM.out] at hget
  refine hget.mono ?_
  rintro e w5 ⟨rfl, ⟨nd, rfl⟩⟩
  clear hget
  have HB5 := Aside0.mk (pw_below_drewN HB4.out nd)
  have HP5 := Aside0.mk (HP.out.below (pw_below_drewN (Below.refl _ _) nd))
  clear HB4 HP
  go_wp2_with fail
  go_loopg [14] b.length (fun d v14 wr => ∃ (k : Nat) (L : List Int), v14 = .int .i64 k ∧ Aside0 (k + d = b.length) ∧ Aside0 (L.length = b.length) ∧ Aside0 (Blk wr 5 gp L) ∧ Aside0 (Below w3.heap.size w3 wr))
  case atStart => exact ⟨0, _, rfl, ⟨by omega⟩, ⟨layN_length _ _ _ _⟩, HP5, HB5⟩
  case round =>
    clear HB5 HP5
    obtain ⟨k, L, rfl, HK, HL, HP, HB5⟩ := hrel
    have hk := HK.out
    by_cases hlt : k < b.length
    · have hc5 := HP.out.cell k (by have := HL.out; omega)
      have hf5 := HP.out.free k
      go_wp2
      go_roundg (gk - 1)
      case measure => have := HK.out; omega
      case rel => exact ⟨k + 1, _, by go_num, ⟨by have := HK.out; omega⟩, ⟨by rw [List.length_set]; exact HL.out⟩, ⟨HP.out.set k _⟩, ⟨HB5.out.setCell hgp _⟩⟩
    · have hc3' := HO3.out.cellAt b.length (by simp)
      rw [nums_getElem (by simp), List.getD_eq_getElem?_getD, List.getElem?_append_right (Nat.le_refl _), Nat.sub_self] at hc3'
      replace hc3' : w3.cell? ⟨g3, b.length, none⟩ = some (.int .u8 201) := hc3'
      have HOp := Aside0.mk (HP.out.own (base := w3.heap.size) hgp (by unfold maxLen; have := HL.out; omega))
      rw [HL.out] at HOp
      go_wp2_with (at_builtin; (with_reducible refine gate_builtin (xs := #[.tmp 66, .tmp 67]) rfl ?_); go_loud (refine print_append_row (w0 := w3) w3.heap.size rfl _ _ 22 5 .u8 1 rfl Try.underlying22 info5 (by decide) (.slice (some ⟨gp, 0, none⟩) b.length b.length) L [99] (some ⟨wr.heap.size, 0, none⟩) 1 1 rfl rfl (own_alloc (by rw [HL.out]; exact HOp.out) _) (reads_new _ _ _ rfl) (below_alloc HB5.out _) (by have := HB5.out.size; simp; omega) (by rw [HL.out]; omega) ?_); intro v6 w6 ho6 hb6 hg6 hn6; clear ho6 hg6 hn6; have HB6 := Aside0.mk hb6; clear hb6; have hcv1 := Kd.C_string (P := Try.prog) (A := some ⟨g3, 0, none⟩) (c := c3) Try.underlying22 Try.underlying5 Try.underlying9 (Kd.C_below HR3.out HB6.out); have hcv2 := Kd.C_string (P := Try.prog) (A := A) (c := c) Try.underlying22 Try.underlying5 Try.underlying9 (Kd.C_below HR.out (below_step HB3.out HB6.out)); have hc6 := pw_cell_below HB6.out hc3')
      go_ret
      exact ⟨by simp, below_step HB3.out HB6.out⟩

theorem kept_walk (a0 : Option Addr) (len0 cap0 : Nat) (z0 : List Int) (a1 a2 a3 : Int) (w : World) (w0 : (a0 = none ∧ len0 = 0 ∧ cap0 = 0 ∧ z0 = []) ∨ ∃ x, a0 = some x ∧ len0 ≤ cap0 ∧ cap0 ≤ maxLen ∧ z0.length = cap0 ∧ (∀ i, i < z0.length → w.cell? (x.add i) = some (.int .u8 (z0.getD i 0))) ∧ ∀ n ∈ z0, (Lit.int .u8 n).wf = true) (y0 : len0 * 1 ≤ 140737488351232) (w1 : (Lit.int .i64 a1).wf = true) (w2 : (Lit.int .i64 a2).wf = true) (w3 : (Lit.int .u64 a3).wf = true) :
    Calls Try.prog 5 #[.slice a0 len0 cap0, .int .i64 a1, .int .i64 a2, .int .u64 a3] w fun e w' => e = .returned (.bool true) ∧ Below w.heap.size w w' := by
  obtain ⟨l0, rfl, hr0, hm0, hw0, hc0⟩ := ReadsInt.ofRowC w0
  have hr := rb_of_reads hr0
  have ho := Pure.octs_wf hw0
  have h1 := wf_i64 w1
  have h2 := wf_i64 w2
  have h3 := wf_u64 w3
  have hl : l0.length ≤ 140737488351232 := by omega
  cases hq : liesB l0.length a1 a2 with
  | false => exact kept_no a0 cap0 l0 a1 a2 a3 1 w hr hc0 hl (by decide) (fun A c w hr hc => put_no A c l0 a1 a2 a3 w hr hc hl hq)
  | true =>
    obtain ⟨f1, f2, f3, f4⟩ := lies_facts hq
    obtain ⟨at_, rfl⟩ : ∃ x : Nat, a1 = (x : Int) := ⟨a1.toNat, by omega⟩
    obtain ⟨size, rfl⟩ : ∃ x : Nat, a2 = (x : Int) := ⟨a2.toNat, by omega⟩
    by_cases hb : size < 8 ∧ (a3 / 2 ^ (8 * size) != 0) = true
    · exact kept_no a0 cap0 l0 at_ size a3 2 w hr hc0 hl (by decide) (fun A c w hr hc => put_big A c l0 at_ size a3 w hr hc hl hq hb.1 hb.2)
    · have hn : size < 8 → (a3 / 2 ^ (8 * size) != 0) = false := fun h8 => by
        cases hx : (a3 / 2 ^ (8 * size) != 0) with
        | false => rfl
        | true => exact absurd ⟨h8, hx⟩ hb
      obtain ⟨n, rfl⟩ : ∃ x : Nat, a3 = (x : Int) := ⟨a3.toNat, by omega⟩
      refine kept_ok a0 cap0 l0 at_ size n w hr hc0 hl ho hq (by omega) (by omega) (by omega) hn h3.1 ?_
      rw [numAt_layN l0 at_ size n (by omega)]
      by_cases h8 : size < 8
      · have := hn h8
        have h0 : (n : Int) / 2 ^ (8 * size) = 0 := by simpa using this
        have hp : ((2 : Int) ^ (8 * size)) = ((2 ^ (8 * size) : Nat) : Int) := (Int.natCast_pow 2 (8 * size)).symm
        rw [hp] at h0
        have hpos : 0 < 2 ^ (8 * size) := Nat.two_pow_pos _
        generalize 2 ^ (8 * size) = q at *
        have h4 : n / q = 0 := by exact_mod_cast h0
        rcases Nat.div_eq_zero_iff.mp h4 with h5 | h5
        · omega
        · exact h5
      · have : size = 8 := by omega
        subst this
        have : (2 : Nat) ^ (8 * 8) = 18446744073709551616 := by decide
        omega
end Go.Proofs.Ytlcididlnfclgaa.Sums
