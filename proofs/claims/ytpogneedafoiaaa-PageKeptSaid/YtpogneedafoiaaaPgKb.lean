/- Contracts by hand: the walk of PageKept. -/
import Derived.Test.YtpogneedafoiaaaPgKa
namespace Go.Proofs.Ytpogneedafoiaaa.Pg
open Go.RowKit Go.Proofs.YtpogneedafoiaaaW.PrintWords Go.Proofs.YtpogneedafoiaaaW.PrintLast Go.Proofs.YtpogneedafoiaaaW.PrintMore Go.Proofs.Ytpogneedafoiaaa.Bw Go.Proofs.Ytpogneedafoiaaa.Crc Go.Proofs.Ytpogneedafoiaaa.Wordy
set_option linter.unusedVariables false
set_option linter.unusedSimpArgs false

abbrev Ob (base : Nat) (w : World) (v : Value) (xs : List Int) : Prop := Kd.R (Kd.int .u8) 5 w base (fun _ => True) v xs
theorem ob_none {base g : Nat} {w : World} (hb : base ≤ w.heap.size) (hg : g = w.heap.size) : Ob base (w.alloc (.cells #[] 5)) (.slice (some ⟨g, 0, none⟩) 0 0) [] := by
  subst hg
  refine Kd.R_of_own (enc := Value.int .u8) (h1 := fun _ => rfl) (xs := []) ?_ (fun _ _ => trivial)
  exact ⟨by simp [encs], .inr ⟨w.heap.size, 0, _, rfl, hb, heap_new _ _ _ rfl, Nat.le_refl _, by unfold maxLen; omega, by simp, by simp [encs]⟩⟩
theorem rb_lit {w : World} (xs : List Int) (g : Nat) (hg : g = w.heap.size) (hn : xs.length ≤ 140737488351232) : Kd.C (Kd.int .u8) (w.alloc (.cells (nums .u8 xs).toArray 5)) (some ⟨g, 0, none⟩) xs.length xs :=
  rb_block (e := 5) (fz := (0, 0)) (heap_new _ _ _ hg) (by omega)
theorem push_form {W : World} {B : Nat} {v : Value} {p : List Int} {x : Int} (h : Ob B W v ([] ++ p ++ [x])) :
    ∃ g c, v = .slice (some ⟨g, 0, none⟩) (p.length + 1) c ∧ p.length + 1 ≤ c ∧ Ob B W (.slice (some ⟨g, 0, none⟩) (p.length + 1) c) (p ++ [x]) ∧ B ≤ g ∧ g < W.heap.size := by
  rw [List.nil_append] at h
  obtain ⟨g, c, rfl, h1, h2, _⟩ := Kd.R_form h (by simp)
  have h3 := (Kd.R_reads' h).2.1
  have e : (p ++ [x]).length = p.length + 1 := by simp
  rw [e] at h h3 ⊢
  exact ⟨g, c, rfl, h3, h, h1, h2⟩
theorem push_reads {W : World} {B g c : Nat} {p : List Int} {x : Int} (h : Ob B W (.slice (some ⟨g, 0, none⟩) (p.length + 1) c) (p ++ [x])) : Kd.C (Kd.int .u8) W (some ⟨g, 0, none⟩) p.length p := by
  have h1 := (Kd.R_reads' h).2.2
  have h2 := Kd.C_take h1 (m := p.length) (by simp)
  rw [List.take_left] at h2
  exact h2
theorem push_last {W : World} {B g c : Nat} {p : List Int} {x : Int} (h : Ob B W (.slice (some ⟨g, 0, none⟩) (p.length + 1) c) (p ++ [x])) : W.cell? ⟨g, p.length, none⟩ = some (.int .u8 x) := by
  have h1 := (Kd.R_celln (enc := Value.int .u8) (h1 := fun _ => rfl) (0 : Int) h (p.length : Int) (by omega) (by omega)).1
  rw [Int.toNat_natCast] at h1
  rw [h1]
  congr 2
  unfold rdOf
  simp
theorem Rows2.lower {W : World} {B B' : Nat} {vs : List SV} {Ls : List (List Int)} (h : Rows2 W B vs Ls) (hb : B' ≤ B) : Rows2 W B' vs Ls := ⟨h.len, h.apart, fun i hi => Kd.R_lower (h.own i hi) hb⟩
theorem Rows2.other2 {W W1 : World} {B : Nat} {row : Option Nat} {vs : List SV} {Ls : List (List Int)} (h : Rows2 W B vs Ls) (hg : W.grownBy W1 row) (ht : ∀ k, row = some k → ∃ cells, W.heap[k]? = some (.cells cells 22 (0, 0))) : Rows2 W1 B vs Ls :=
  h.move (fun i k hk => hg.block k (h.lt hk) (by
    rintro rfl
    obtain ⟨cs2, hcs2⟩ := ht k rfl
    have hi := getD_lt hk
    obtain ⟨cs, hcs⟩ := rb_typed (h.own i (by rw [← h.len]; exact hi)) hk
    rw [hcs2] at hcs
    injection hcs with hcs
    injection hcs with _ hcs
    exact absurd hcs (by decide)))
theorem cS_block {w : World} {g e : Nat} {fz : Nat × Nat} {vs : List SV} (h : w.heap[g]? = some (.cells (encs encS vs).toArray e fz)) (hl : vs.length ≤ 9223372036854775807) : Kd.C (Kd.scalar encS encS_one) w (some ⟨g, 0, none⟩) vs.length vs := by
  refine Kd.C_of_reads (d := dS) ⟨rfl, hl, fun _ => ⟨_, rfl, fun j hj => ?_⟩⟩
  have : (⟨g, 0, none⟩ : Addr).add j = ⟨g, j, none⟩ := add_plain g j
  rw [this]
  unfold World.cell?
  simp only [h]
  have := encs_get (enc := encS) (d := dS) vs j hj
  simpa using this
theorem ob_cell {W : World} {B g n c : Nat} {L : List Int} (h : Kd.R (Kd.int .u8) 5 W B (fun _ => True) (.slice (some ⟨g, 0, none⟩) n c) L) (j : Nat) (hj : j < n) : W.cell? ⟨g, j, none⟩ = some (.int .u8 (L.getD j 0)) ∧ W.frozen? ⟨g, j, none⟩ = false := by
  have h1 := Kd.R_celln (enc := Value.int .u8) (h1 := fun _ => rfl) (0 : Int) h (j : Int) (by omega) (by omega)
  rw [Int.toNat_natCast] at h1
  unfold rdOf at h1
  rw [Int.toNat_natCast] at h1
  exact h1
theorem rs_cell {W : World} {B g n c : Nat} {us : List SV} (h : Rs W B (.slice (some ⟨g, 0, none⟩) n c) us) (j : Nat) (hj : j < n) : W.cell? ⟨g, j, none⟩ = some (encS (us.getD j dS)) ∧ W.frozen? ⟨g, j, none⟩ = false := by
  have h1 := Kd.R_celln (enc := encS) (h1 := encS_one) dS h (j : Int) (by omega) (by omega)
  rw [Int.toNat_natCast] at h1
  unfold rdOf at h1
  rw [Int.toNat_natCast] at h1
  exact h1
theorem ob_put {W : World} {B g n c : Nat} {L : List Int} (h : Kd.R (Kd.int .u8) 5 W B (fun _ => True) (.slice (some ⟨g, 0, none⟩) n c) L) (j : Nat) (x : Int) : Kd.R (Kd.int .u8) 5 (W.setCell ⟨g, j, none⟩ (.int .u8 x)) B (fun _ => True) (.slice (some ⟨g, 0, none⟩) n c) (L.set j x) := by
  have h1 := (Kd.R_putg (enc := Value.int .u8) (h1 := fun _ => rfl) h (j : Int) x).1
  rw [Int.toNat_natCast] at h1
  exact h1
theorem rs_put {W : World} {B g n c : Nat} {us : List SV} (h : Rs W B (.slice (some ⟨g, 0, none⟩) n c) us) (j : Nat) (s : SV) : Rs (W.setCell ⟨g, j, none⟩ (encS s)) B (.slice (some ⟨g, 0, none⟩) n c) (us.set j s) := by
  have h1 := (Kd.R_putg (enc := encS) (h1 := encS_one) h (j : Int) s).1
  rw [Int.toNat_natCast] at h1
  exact h1
theorem set_self {α : Type} (l : List α) (n : Nat) (d : α) : l.set n (l.getD n d) = l := by
  apply List.ext_getElem?
  intro i
  rw [List.getElem?_set]
  by_cases h : n = i
  · subst h
    rw [if_pos rfl]
    by_cases h2 : n < l.length
    · rw [if_pos h2, List.getD_eq_getElem?_getD, List.getElem?_eq_getElem h2]; rfl
    · rw [if_neg h2, List.getElem?_eq_none (by omega)]
  · rw [if_neg h]
theorem rep_set (j : Nat) (b a : Int) (t : List Int) : (List.replicate j b ++ a :: t).set j b = List.replicate (j + 1) b ++ t := by
  rw [List.set_append_right _ _ (by simp), List.length_replicate, Nat.sub_self, List.set_cons_zero, List.replicate_succ', List.append_assoc]
  rfl
theorem cells_rows (A : Option Addr) (c : Nat) (p : List Int) (W : World) (B : Nat) (hr : Kd.C (Kd.int .u8) W A p.length p) (hc : p.length ≤ c) (ho : octs p) (hl : p.length ≤ 140737488351232) (hB : B ≤ W.heap.size) :
    Calls Try.prog 14 #[.slice A p.length c] W fun e w' => ∃ v x vs Ls, e = .returned (.tuple #[v, .int .i64 x]) ∧ Rs w' B v vs ∧ RowsIn w' B W.heap.size w'.heap.size vs Ls ∧ Ls.length ≤ 512 ∧ (∀ L ∈ Ls, L.length ≤ 512) ∧ Below W.heap.size W w' := by
  cases hg : goodP p with
  | true =>
    have hf := good_facts hg
    have h5 := hf.1
    rw [h5] at hr hc ⊢
    refine (cells_x A c p W hr hc ho h5 hg).mono ?_
    rintro e w' ⟨v, rfl, hS, hb⟩
    obtain ⟨vs, h1, h2⟩ := rows_of_S hS
    refine ⟨v, 0, vs, _, rfl, Kd.R_lower h1 hB, ⟨h2.rows.lower hB, h2.mark⟩, ?_, ?_, hb⟩
    · rw [List.length_map, List.length_range]
      have := hf.2.2
      omega
    · intro L hL
      obtain ⟨i, _, rfl⟩ := List.mem_map.1 hL
      unfold cellP
      rw [List.length_take, List.length_drop]
      omega
  | false =>
    refine (cellsF_bad A c p W hr hc ho hl hg).mono ?_
    rintro e w' ⟨rfl, hb⟩
    exact ⟨_, 4, [], [], rfl, Kd.R_nil _ _ _ _ _, ⟨⟨rfl, fun i j k hij hi hj => absurd hi (dS_none k), fun i hi => absurd hi (Nat.not_lt_zero _)⟩, fun i k hk => absurd hk (dS_none k)⟩, by simp, by simp, hb⟩
set_option maxRecDepth 100000 in
set_option maxHeartbeats 16000000 in
theorem kept_w (A C : Option Addr) (ca cc : Nat) (p q : List Int) (i : Int) (w : World) (hr : Kd.C (Kd.int .u8) w A p.length p) (hc : p.length ≤ ca) (ho : octs p) (hl : p.length ≤ 140737488351232)
    (hr2 : Kd.C (Kd.int .u8) w C q.length q) (hc2 : q.length ≤ cc) (ho2 : octs q) (hl2 : q.length ≤ 140737488351232) :
    Calls Try.prog 10 #[.slice A p.length ca, .int .i64 i, .slice C q.length cc] w fun e w' => e = .returned (.bool true) ∧ Below w.heap.size w w' := by
  have HR := Aside0.mk hr
  have HR0 := Aside0.mk hr
  have HO := Aside0.mk ho
  have HR2 := Aside0.mk hr2
  have HO2 := Aside0.mk ho2
  clear hr ho hr2 ho2
  go_enter Try.func10, Try.ntmps10
  go_wp2_with fail
  refine (awake_x _).mono ?_
  rintro e w1 ⟨rfl, hb⟩
  have HB1 := Aside0.mk hb
  have HRa := Aside0.mk (Kd.C_below HR.out hb)
  clear hb
  go_wp2_with (first
    | ((with_reducible refine gate_builtin (xs := #[.tmp 31, .tmp 32]) rfl ?_); go_loud (refine Kd.R_append_row (Value.int .u8) (0 : Int) (w0 := w1) w1.heap.size rfl (.tmp 31) (.tmp 32) 22 5 (.int .u8 0) 1 rfl Try.underlying22 info5 rfl (by decide) _ [] p A p.length ca (fun _ => True) rfl rfl (fun _ _ => trivial) (ob_none (Nat.le_refl _) rfl) (Kd.C_alloc HRa.out _) (below_alloc (Below.refl _ _) _) (by simp) (by simp; omega) ?_); intro v2 w2 ho2 hb2 hg2 hat2)
    | ((with_reducible refine gate_builtin (xs := #[.tmp 33, .tmp 34]) rfl ?_); go_loud (refine Kd.R_append_row (Value.int .u8) (0 : Int) (w0 := w1) w1.heap.size rfl (.tmp 33) (.tmp 34) 22 5 (.int .u8 0) 1 rfl Try.underlying22 info5 rfl (by decide) v2 ([] ++ p) [201] (some ⟨w2.heap.size, 0, none⟩) 1 1 (fun _ => True) rfl rfl (fun _ _ => trivial) (Kd.R_alloc ho2 _) (rb_lit [201] _ rfl (by decide)) (below_alloc hb2 _) (Nat.le_trans hb2.size (by simp)) (by simp; omega) ?_); intro v3 w3 ho3 hb3 hg3 hat3; obtain ⟨gx, cx, rfl, hcx, hox, hgx1, hgx2⟩ := push_form ho3; have HX3 := Aside0.mk hox; have HB3 := Aside0.mk (below_step HB1.out hb3); have HRc := Aside0.mk (Kd.C_below HR2.out HB3.out); clear ho2 hb2 hg2 hat2 ho3 hb3 hg3 hat3 hox)
    | ((with_reducible refine gate_builtin (xs := #[.tmp 39, .tmp 40]) rfl ?_); go_loud (refine Kd.R_append_row (Value.int .u8) (0 : Int) (w0 := w3) w3.heap.size rfl (.tmp 39) (.tmp 40) 22 5 (.int .u8 0) 1 rfl Try.underlying22 info5 rfl (by decide) _ [] q C q.length cc (fun _ => True) rfl rfl (fun _ _ => trivial) (ob_none (Nat.le_refl _) rfl) (Kd.C_alloc HRc.out _) (below_alloc (Below.refl _ _) _) (by simp) (by simp; omega) ?_); intro v4 w4 ho4 hb4 hg4 hat4)
    | ((with_reducible refine gate_builtin (xs := #[.tmp 41, .tmp 42]) rfl ?_); go_loud (refine Kd.R_append_row (Value.int .u8) (0 : Int) (w0 := w3) w3.heap.size rfl (.tmp 41) (.tmp 42) 22 5 (.int .u8 0) 1 rfl Try.underlying22 info5 rfl (by decide) v4 ([] ++ q) [202] (some ⟨w4.heap.size, 0, none⟩) 1 1 (fun _ => True) rfl rfl (fun _ _ => trivial) (Kd.R_alloc ho4 _) (rb_lit [202] _ rfl (by decide)) (below_alloc hb4 _) (Nat.le_trans hb4.size (by simp)) (by simp; omega) ?_); intro v5 w5 ho5 hb5 hg5 hat5; obtain ⟨gd, cd, rfl, hcd, hod, hgd1, hgd2⟩ := push_form ho5; have HD5 := Aside0.mk hod; have HB5 := Aside0.mk (below_step HB3.out hb5); have HX5 := Aside0.mk (Kd.R_below HX3.out hb5); have HXz := HX5; have HDz := HD5; have HBz := HB5; clear ho4 hb4 hg4 hat4 ho5 hb5 hg5 hat5 hod))
  refine (insert_ans (some ⟨gx, 0, none⟩) cx p _ (push_reads HX5.out) (by omega) HO.out hl (some ⟨gd, 0, none⟩) cd q i (push_reads HD5.out) (by omega) hl2).mono ?_
  have hfi := insAns_fine HO.out HO2.out i
  obtain ⟨ra, xa, hra⟩ : ∃ r x, insAns p i q = (r, x) := ⟨_, _, rfl⟩
  rw [hra] at hfi
  rw [hra]
  rintro e w6 ⟨Aa, rfl, hm, hb⟩
  have HFa := Aside0.mk (show ra.length ≤ 512 from hfi.2)
  have HX6 := Aside0.mk (Kd.R_below HX5.out hb)
  have HD6 := Aside0.mk (Kd.R_below HD5.out hb)
  have HB6 := Aside0.mk (below_step HB5.out hb)
  have HU6 := Aside0.mk hb
  have HW6 := Aside0.mk (mine_rows (B := w5.heap.size) (r := ra) hm (Nat.le_refl _) (by have := HFa.out; omega))
  clear hra hfi hm hb HX5 HD5 HB5
  go_wp2_with fail
  refine (remove_ans (some ⟨gx, 0, none⟩) cx p _ (push_reads HX6.out) (by omega) HO.out hl i).mono ?_
  have hfi := remAns_fine HO.out i
  obtain ⟨rb, xb, hra⟩ : ∃ r x, remAns p i = (r, x) := ⟨_, _, rfl⟩
  rw [hra] at hfi
  rw [hra]
  rintro e w7 ⟨Ab, rfl, hm, hb⟩
  have HFb := Aside0.mk (show rb.length ≤ 512 from hfi.2)
  have HX7 := Aside0.mk (Kd.R_below HX6.out hb)
  have HD7 := Aside0.mk (Kd.R_below HD6.out hb)
  have HB7 := Aside0.mk (below_step HB6.out hb)
  have HU7 := Aside0.mk (below_step HU6.out hb)
  have HW7 := Aside0.mk (RowsIn.after (HW6.out.below hb) (mine_rows (B := w5.heap.size) (r := rb) hm HU6.out.size (by have := HFb.out; omega)) HU6.out.size hb.size)
  clear HU6 HW6
  clear hra hfi hm hb HX6 HD6 HB6
  go_wp2_with fail
  refine (replace_ans (some ⟨gx, 0, none⟩) cx p _ (push_reads HX7.out) (by omega) HO.out hl (some ⟨gd, 0, none⟩) cd q i (push_reads HD7.out) (by omega) hl2).mono ?_
  have hfi := repAns_fine HO.out HO2.out i
  obtain ⟨re, xe, hra⟩ : ∃ r x, repAns p i q = (r, x) := ⟨_, _, rfl⟩
  rw [hra] at hfi
  rw [hra]
  rintro e w8 ⟨Ae, rfl, hm, hb⟩
  have HFe := Aside0.mk (show re.length ≤ 512 from hfi.2)
  have HX8 := Aside0.mk (Kd.R_below HX7.out hb)
  have HD8 := Aside0.mk (Kd.R_below HD7.out hb)
  have HB8 := Aside0.mk (below_step HB7.out hb)
  have HU8 := Aside0.mk (below_step HU7.out hb)
  have HW8 := Aside0.mk (RowsIn.after (HW7.out.below hb) (mine_rows (B := w5.heap.size) (r := re) hm HU7.out.size (by have := HFe.out; omega)) HU7.out.size hb.size)
  clear HU7 HW7
  clear hra hfi hm hb HX7 HD7 HB7
  go_wp2_with fail
  refine (compact_ans (some ⟨gx, 0, none⟩) cx p _ (push_reads HX8.out) (by omega) HO.out hl).mono ?_
  have hfi := cmpAns_fine HO.out
  obtain ⟨rf, xf, hra⟩ : ∃ r x, cmpAns p = (r, x) := ⟨_, _, rfl⟩
  rw [hra] at hfi
  rw [hra]
  rintro e w9 ⟨Af, rfl, hm, hb⟩
  have HFf := Aside0.mk (show rf.length ≤ 512 from hfi.2)
  have HX9 := Aside0.mk (Kd.R_below HX8.out hb)
  have HD9 := Aside0.mk (Kd.R_below HD8.out hb)
  have HB9 := Aside0.mk (below_step HB8.out hb)
  have HU9 := Aside0.mk (below_step HU8.out hb)
  have HW9 := Aside0.mk (RowsIn.after (HW8.out.below hb) (mine_rows (B := w5.heap.size) (r := rf) hm HU8.out.size (by have := HFf.out; omega)) HU8.out.size hb.size)
  clear HU8 HW8
  clear hra hfi hm hb HX8 HD8 HB8
  go_wp2_with fail
  refine (seal_ans (some ⟨gx, 0, none⟩) cx p _ (push_reads HX9.out) (by omega) HO.out hl 9 (by decide)).mono ?_
  have hfi := sealAns_fine HO.out 9
  obtain ⟨rg, xg, hra⟩ : ∃ r x, sealAns p 9 = (r, x) := ⟨_, _, rfl⟩
  rw [hra] at hfi
  rw [hra]
  rintro e w10 ⟨Ag, rfl, hm, hb⟩
  have HFg := Aside0.mk (show rg.length ≤ 512 from hfi.2)
  have HX10 := Aside0.mk (Kd.R_below HX9.out hb)
  have HD10 := Aside0.mk (Kd.R_below HD9.out hb)
  have HB10 := Aside0.mk (below_step HB9.out hb)
  have HU10 := Aside0.mk (below_step HU9.out hb)
  have HW10 := Aside0.mk (RowsIn.after (HW9.out.below hb) (mine_rows (B := w5.heap.size) (r := rg) hm HU9.out.size (by have := HFg.out; omega)) HU9.out.size hb.size)
  clear HU9 HW9
  clear hra hfi hm hb HX9 HD9 HB9
  go_wp2_with fail
  refine (set_ans (some ⟨gx, 0, none⟩) cx p _ (push_reads HX10.out) (by omega) HO.out hl 1 2).mono ?_
  have hfi := setAns_fine HO.out 1 2
  obtain ⟨rh, xh, hra⟩ : ∃ r x, setAns p 1 2 = (r, x) := ⟨_, _, rfl⟩
  rw [hra] at hfi
  rw [hra]
  rintro e w11 ⟨Ah, rfl, hm, hb⟩
  have HFh := Aside0.mk (show rh.length ≤ 512 from hfi.2)
  have HX11 := Aside0.mk (Kd.R_below HX10.out hb)
  have HD11 := Aside0.mk (Kd.R_below HD10.out hb)
  have HB11 := Aside0.mk (below_step HB10.out hb)
  have HU11 := Aside0.mk (below_step HU10.out hb)
  have HW11 := Aside0.mk (RowsIn.after (HW10.out.below hb) (mine_rows (B := w5.heap.size) (r := rh) hm HU10.out.size (by have := HFh.out; omega)) HU10.out.size hb.size)
  clear HU10 HW10
  clear hra hfi hm hb HX10 HD10 HB10
  go_wp2_with fail
  refine (cell_ans (some ⟨gx, 0, none⟩) cx p _ (push_reads HX11.out) (by omega) HO.out hl i).mono ?_
  have hfi := cellAns_fine HO.out i
  obtain ⟨rk, xk, hra⟩ : ∃ r x, cellAns p i = (r, x) := ⟨_, _, rfl⟩
  rw [hra] at hfi
  rw [hra]
  rintro e w12 ⟨Ak, rfl, hm, hb⟩
  have HFk := Aside0.mk (show rk.length ≤ 512 from hfi.2)
  have HX12 := Aside0.mk (Kd.R_below HX11.out hb)
  have HD12 := Aside0.mk (Kd.R_below HD11.out hb)
  have HB12 := Aside0.mk (below_step HB11.out hb)
  have HU12 := Aside0.mk (below_step HU11.out hb)
  have HW12 := Aside0.mk (RowsIn.after (HW11.out.below hb) (mine_rows (B := w5.heap.size) (r := rk) hm HU11.out.size (by have := HFk.out; omega)) HU11.out.size hb.size)
  clear HU11 HW11
  clear hra hfi hm hb HX11 HD11 HB11
  go_wp2_with fail
  refine (cells_rows (some ⟨gx, 0, none⟩) cx p _ w5.heap.size (push_reads HX12.out) (by omega) HO.out hl HU12.out.size).mono ?_
  rintro e w13 ⟨v, x, vs, Ls, rfl, hrs, hri, hn, hL, hb⟩
  have HX13 := Aside0.mk (Kd.R_below HX12.out hb)
  have HD13 := Aside0.mk (Kd.R_below HD12.out hb)
  have HB13 := Aside0.mk (below_step HB12.out hb)
  have HU13 := Aside0.mk (below_step HU12.out hb)
  have HW13 : Aside0 (RowsIn w13 w5.heap.size w5.heap.size w13.heap.size (vs ++ [(Aa, ra.length, ra.length), (Ab, rb.length, rb.length), (Ae, re.length, re.length), (Af, rf.length, rf.length), (Ag, rg.length, rg.length), (Ah, rh.length, rh.length), (Ak, rk.length, rk.length)]) (Ls ++ [ra, rb, re, rf, rg, rh, rk])) := ⟨RowsIn.ahead (HW12.out.below hb) hri HU12.out.size hb.size⟩
  have HL : Aside0 (∀ L ∈ Ls ++ [ra, rb, re, rf, rg, rh, rk], L.length ≤ 512) := ⟨by
    intro L hm
    rcases List.mem_append.1 hm with h | h
    · exact hL L h
    · simp only [List.mem_cons, List.not_mem_nil, or_false] at h
      rcases h with rfl | rfl | rfl | rfl | rfl | rfl | rfl
      · exact HFa.out
      · exact HFb.out
      · exact HFe.out
      · exact HFf.out
      · exact HFg.out
      · exact HFh.out
      · exact HFk.out⟩
  have HRs := Aside0.mk hrs
  have hvn : vs.length ≤ 512 := by have := hri.rows.len; omega
  clear hrs hri hn hL hb HX12 HD12 HB12 HU12 HW12
  go_wp2_with ((with_reducible refine gate_builtin (xs := #[.tmp 93, .tmp 101]) rfl ?_); go_loud (refine Kd.R_append_row encS dS (h1 := encS_one) (w0 := w5) w5.heap.size rfl (.tmp 93) (.tmp 101) 28 22 (.slice none 0 0) 24 rfl Try.underlying28 info22 rfl (by decide) v vs [(Aa, ra.length, ra.length), (Ab, rb.length, rb.length), (Ae, re.length, re.length), (Af, rf.length, rf.length), (Ag, rg.length, rg.length), (Ah, rh.length, rh.length), (Ak, rk.length, rk.length)] (some ⟨w13.heap.size, 0, none⟩) 7 7 (fun _ => True) rfl rfl (fun _ _ => trivial) (Kd.R_alloc HRs.out _) (cS_block (heap_new _ _ _ rfl) (by simp)) (below_alloc HU13.out _) (Nat.le_trans HU13.out.size (by simp)) (by omega) ?_); intro v2 w14 ho2 hb2 hg2 hat2)
  obtain ⟨us, Ms, N, gl, cl, rfl, hN, hN2, hRs, hR2, hML, hB14, hU14⟩ : ∃ us Ms N gl cl, v2 = .slice (some ⟨gl, 0, none⟩) N cl ∧ us.length = N ∧ N ≤ 519 ∧ Rs w14 w5.heap.size (.slice (some ⟨gl, 0, none⟩) N cl) us ∧ Rows2 w14 w5.heap.size us Ms ∧ (∀ i, (Ms.getD i []).length ≤ 512) ∧ Below w.heap.size w w14 ∧ Below w5.heap.size w5 w14 := by
    obtain ⟨gl, cl, rfl, _⟩ := Kd.R_form ho2 (by simp)
    refine ⟨_, _, _, gl, cl, rfl, rfl, by simp; omega, ho2, (HW13.out.rows.below (below_alloc (Below.refl _ _) _)).other2 hg2 (fun k hk => rs_typed (Kd.R_alloc HRs.out _) hk), fun i => ?_, below_step HBz.out hb2, hb2⟩
    rcases Nat.lt_or_ge i (Ls ++ [ra, rb, re, rf, rg, rh, rk]).length with hi | hi
    · rw [List.getD_eq_getElem?_getD, List.getElem?_eq_getElem hi]
      exact HL.out _ (List.getElem_mem hi)
    · rw [List.getD_eq_getElem?_getD, List.getElem?_eq_none hi]
      exact Nat.zero_le _
  have HX := Aside0.mk (fun W (h : Below w5.heap.size w5 W) => Kd.R_below HXz.out h)
  have HD := Aside0.mk (fun W (h : Below w5.heap.size w5 W) => Kd.R_below HDz.out h)
  have HBB := Aside0.mk (fun W (h : Below w5.heap.size w5 W) => below_step HBz.out h)
  have HQ1 := Aside0.mk hRs
  have HQ2 := Aside0.mk hR2
  have HQ3 := Aside0.mk hML
  have HQ4 := Aside0.mk hU14
  clear ho2 hb2 hg2 hat2 hRs hR2 hML hB14 hU14 HRs HL HW13 HX13 HD13 HB13 HU13 HXz HDz HFa HFb HFe HFf HFg HFh HFk
  go_wp2_with fail
  go_loopg [25] N (fun d v25 wr => ∃ (n : Nat) (us : List SV) (Ms : List (List Int)), v25 = .int .i64 n ∧ Aside0 (n + d = N) ∧ Aside0 (us.length = N) ∧ Aside0 (Rs wr w5.heap.size (.slice (some ⟨gl, 0, none⟩) N cl) us) ∧ Aside0 (Rows2 wr w5.heap.size us Ms) ∧ Aside0 (∀ i, i < n → ∃ k, k ≤ 512 ∧ Ms.getD i [] = List.replicate k (IntKind.u8.wrap ((i : Int) + 1)) ++ [99]) ∧ Aside0 (∀ i, n ≤ i → (Ms.getD i []).length ≤ 512) ∧ Aside0 (Below w5.heap.size w5 wr))
  case atStart => exact ⟨0, us, Ms, rfl, ⟨by omega⟩, ⟨hN⟩, HQ1, HQ2, ⟨fun i hi => absurd hi (Nat.not_lt_zero _)⟩, ⟨fun i _ => HQ3.out i⟩, HQ4⟩
  case round =>
    clear HQ1 HQ2 HQ3 HQ4 hN us Ms
    obtain ⟨n, us, Ms, rfl, HK, HN, HR, HW, HE, HM, HU⟩ := hrel
    have hk := HK.out
    by_cases hlt : n < N
    · have hw1 : IntKind.i64.wrap ((n : Int) + 1) = (n : Int) + 1 := IntWalk.i64_in _ (by omega)
      obtain ⟨hc0, hf0⟩ := rs_cell HR.out n hlt
      obtain ⟨A, ln, c, hs⟩ : ∃ A ln c, us.getD n dS = (A, ln, c) := ⟨_, _, _, rfl⟩
      rw [hs] at hc0
      have hc0' : wr.cell? ⟨gl, n, none⟩ = some (.slice A ln c) := hc0
      have hnM : n < Ms.length := by have := HW.out.len; have := HN.out; omega
      have ho := HW.out.own n hnM
      rw [hs] at ho
      have hln : ln = (Ms.getD n []).length := (Kd.R_reads' (A := A) (c := c) ho).1
      have HS := Aside0.mk hs
      have HLn := Aside0.mk hln
      have hl5 : ln ≤ 512 := by rw [hln]; exact HM.out n (Nat.le_refl _)
      clear hs hc0 hc0' hf0 ho hln
      have hcw := (show (World.cell? wr ⟨gl, n, none⟩ = some (.slice A ln c)) from by rw [(rs_cell HR.out n hlt).1, HS.out]; rfl)
      go_wp2_with fail
      clear hcw
      go_loopg [26] ln (fun m v26 ws => ∃ (j : Nat) (Ps : List (List Int)), v26 = .int .i64 j ∧ Aside0 (j + m = ln) ∧ Aside0 (Rs ws w5.heap.size (.slice (some ⟨gl, 0, none⟩) N cl) us) ∧ Aside0 (Rows2 ws w5.heap.size us Ps) ∧ Aside0 (∃ t, Ps.getD n [] = List.replicate j (IntKind.u8.wrap ((n : Int) + 1)) ++ t ∧ t.length = m) ∧ Aside0 (∀ i, i ≠ n → Ps.getD i [] = Ms.getD i []) ∧ Aside0 (Below w5.heap.size w5 ws))
      case atStart => exact ⟨0, Ms, rfl, ⟨by omega⟩, HR, HW, ⟨_, rfl, HLn.out.symm⟩, ⟨fun _ _ => rfl⟩, HU⟩
      case round =>
        clear HR HW HU
        obtain ⟨j, Ps, rfl, HJ, HR, HW, HT, HO2, HU⟩ := hrel
        have hj := HJ.out
        have hnP : n < Ps.length := by have := HW.out.len; have := HN.out; omega
        have ho := HW.out.own n hnP
        rw [HS.out] at ho
        have hln : ln = (Ps.getD n []).length := (Kd.R_reads' (A := A) (c := c) ho).1
        have hcw := (show (World.cell? wr ⟨gl, n, none⟩ = some (.slice A ln c)) from by rw [(rs_cell HR.out n hlt).1, HS.out]; rfl)
        by_cases hlt2 : j < ln
        · obtain ⟨g, cap, e, hgB, hgl, cells, hty⟩ := Kd.R_form ho (by omega)
          injection e with e1 e2 e3
          subst e1
          obtain ⟨hcg, hfg⟩ := ob_cell ho j hlt2
          have HOo := Aside0.mk ho
          have HTy := Aside0.mk hty
          have hw2 : IntKind.i64.wrap ((j : Int) + 1) = (j : Int) + 1 := IntWalk.i64_in _ (by omega)
          clear ho hln hty
          go_wp2_with ((with_reducible refine gate_store (t := 5) (p := 126) rfl ?_); refine store_event (t := 5) (p := 126) (v := .tmp 125) (w1 := (wr.setCell ⟨g, j, none⟩ (.int .u8 (IntKind.u8.wrap ((n : Int) + 1))))) ?hg ?ho ?hn ?hr ?_; (case ho => rfl); (case hg => rfl); (case hn => rfl); (case hr => first | (go_simp; done) | (go_simp; rfl)); intro wq hw; have HWq := Aside0.mk hw; clear hw hcw hcg hfg)
          have hwg : wr.grownBy wq (some g) := by rw [HWq.out]; exact grown_set _ _ _ _
          have hwo : Rb1 wq w5.heap.size (some ⟨g, 0, none⟩, ln, c) ((Ps.getD n []).set j (IntKind.u8.wrap ((n : Int) + 1))) := by rw [HWq.out]; exact ob_put HOo.out j _
          have hown : (encS (us.getD n dS)).ownBlock = some g := by rw [HS.out]; rfl
          have hrs := rs_other HR.out hwg (fun k hk => ⟨cells, by obtain rfl := Option.some.inj hk; exact HTy.out⟩)
          have hr2 := HW.out.write hnP (by rw [hown]; exact hwg) hwo (.inl (by rw [hown]; rfl))
          rw [← HS.out, show us.set n (us.getD n dS) = us from set_self _ _ _] at hr2
          go_roundg (gk - 1)
          case measure => omega
          case rel =>
            refine ⟨j + 1, _, by go_num, ⟨by omega⟩, ⟨hrs⟩, ⟨hr2⟩, ⟨?_⟩, ⟨fun i hi => ?_⟩, ⟨below_grown HU.out hwg (by rintro k hk; obtain rfl := Option.some.inj hk; exact hgB)⟩⟩
            · obtain ⟨t, ht, htl⟩ := HT.out
              rw [getD_setL _ _ _ _ _ hnP, if_pos rfl, ht]
              cases t with
              | nil => simp at htl; omega
              | cons a t =>
                refine ⟨t, ?_, by simp at htl; omega⟩
                rw [rep_set]
            · rw [getD_setL _ _ _ _ _ hnP, if_neg hi]
              exact HO2.out i hi
        · have HOo := Aside0.mk ho
          have HSz := Aside0.mk HU.out.size
          have HLn2 := Aside0.mk hln
          clear ho hln
          go_wp2_with (first
            | ((with_reducible refine gate_builtin (xs := #[.tmp 132, .tmp 133]) rfl ?_); go_loud (refine Kd.R_append_row (Value.int .u8) (0 : Int) (w0 := w5) w5.heap.size rfl (.tmp 132) (.tmp 133) 22 5 (.int .u8 0) 1 rfl Try.underlying22 info5 rfl (by decide) (.slice A ln c) (Ps.getD n []) [99] (some ⟨wr.heap.size, 0, none⟩) 1 1 (fun _ => True) rfl rfl (fun _ _ => trivial) (Kd.R_alloc HOo.out _) (rb_lit [99] _ rfl (by decide)) (below_alloc HU.out _) (Nat.le_trans HSz.out (by simp)) (by have := HLn2.out; omega) ?_); intro v3 wq ho3 hb3 hg3 hat3; obtain ⟨A3, c3, rfl⟩ := Kd.R_slice ho3; have HR3 := Aside0.mk (rs_other (Kd.R_alloc HR.out _) hg3 (fun k hk => rb_typed (Kd.R_alloc HOo.out _) hk)); have hcq := (rs_cell HR3.out n hlt).1; have hfq := (rs_cell HR3.out n hlt).2; rw [HS.out] at hcq; have hcq' : wq.cell? ⟨gl, n, none⟩ = some (.slice A ln c) := hcq; have HO3 := Aside0.mk ho3; have HB3 := Aside0.mk hb3; have HG3 := Aside0.mk hg3; have HA3 := Aside0.mk hat3; clear ho3 hb3 hg3 hat3 hcq hcw)
            | ((with_reducible refine gate_store (t := 22) (p := 135) rfl ?_); refine store_event (t := 22) (p := 135) (v := .tmp 134) (w1 := (wq.setCell ⟨gl, n, none⟩ (.slice A3 (Ps.getD n [] ++ [99]).length c3))) ?hg ?ho ?hn ?hr ?_; (case ho => rfl); (case hg => rfl); (case hn => rfl); (case hr => first | (go_simp; done) | (go_simp; rfl)); intro wz hw; have HWz := Aside0.mk hw; clear hw hcq' hfq))
          have hty := rs_typed HR3.out (show (Value.slice (some ⟨gl, 0, none⟩) N cl).ownBlock = some gl from rfl)
          have hglB : w5.heap.size ≤ gl := Kd.R_base HR3.out gl rfl
          have hwo3 : Rb1 wq w5.heap.size (A3, (Ps.getD n [] ++ [99]).length, c3) (Ps.getD n [] ++ [99]) := HO3.out
          have hr2 := (HW.out.below (below_alloc (Below.refl _ _) (.cells (nums .u8 [99]).toArray 5))).write hnP (s := (A3, (Ps.getD n [] ++ [99]).length, c3)) (by rw [HS.out]; exact HG3.out) hwo3 (by rw [HS.out]; exact HA3.out)
          have hr3 := hr2.other2 (grown_set wq gl n (.slice A3 (Ps.getD n [] ++ [99]).length c3)) (fun k hk => by obtain rfl := Option.some.inj hk; exact hty)
          have hrs := rs_put HR3.out n (A3, (Ps.getD n [] ++ [99]).length, c3)
          have hbz := HB3.out.setCell (p := ⟨gl, n, none⟩) hglB (.slice A3 (Ps.getD n [] ++ [99]).length c3)
          rw [← HWz.out] at hr3 hbz
          have hrs' : Rs wz w5.heap.size (.slice (some ⟨gl, 0, none⟩) N cl) (us.set n (A3, (Ps.getD n [] ++ [99]).length, c3)) := by rw [HWz.out]; exact hrs
          obtain ⟨d, rfl⟩ : ∃ d, N = n + 1 + d := ⟨N - (n + 1), by omega⟩
          go_roundg d
          case measure => omega
          case rel =>
            refine ⟨n + 1, _, _, by go_num, ⟨by omega⟩, ⟨by rw [List.length_set]; exact HN.out⟩, ⟨hrs'⟩, ⟨hr3⟩, ⟨fun i hi => ?_⟩, ⟨fun i hi => ?_⟩, ⟨hbz⟩⟩
            · rw [getD_setL _ _ _ _ _ hnP]
              by_cases hin : i = n
              · subst hin
                rw [if_pos rfl]
                obtain ⟨t, ht, htl⟩ := HT.out
                refine ⟨ln, hl5, ?_⟩
                obtain rfl : j = ln := by omega
                have : t = [] := List.eq_nil_of_length_eq_zero (by omega)
                subst this
                rw [ht, List.append_nil]
              · rw [if_neg hin, HO2.out i hin]
                exact HE.out i (by omega)
            · rw [getD_setL _ _ _ _ _ hnP, if_neg (by omega), HO2.out i (by omega)]
              exact HM.out i (by omega)
    · obtain rfl : n = N := by omega
      clear hlt HM
      go_wp2_with fail
      have hun := HN.out
      go_loopg [27] n (fun d v27 ws => ∃ m : Nat, v27 = .int .i64 m ∧ Aside0 (m + d = n) ∧ ws = wr)
      case atStart => exact ⟨0, rfl, ⟨by omega⟩, rfl⟩
      case round =>
        obtain ⟨m, rfl, HJ, rfl⟩ := hrel
        have hj := HJ.out
        by_cases hlt : m < n
        · obtain ⟨k, hk5, hE⟩ := HE.out m hlt
          have hw1 : IntKind.i64.wrap ((m : Int) + 1) = (m : Int) + 1 := IntWalk.i64_in _ (by omega)
          have ho : Kd.R (Kd.int .u8) 5 wr w5.heap.size (fun _ => True) (encS (us.getD m dS)) (Ms.getD m []) := HW.out.own m (by have := HW.out.len; omega)
          rw [hE] at ho
          obtain ⟨g, cap, e, hgB, hgl, cells, hty⟩ := Kd.R_form ho (by simp)
          have hc0 := (rs_cell HR.out m hlt).1
          rw [e] at hc0 ho
          have el : (List.replicate k (IntKind.u8.wrap ((m : Int) + 1)) ++ [99]).length = k + 1 := by simp
          rw [el] at hc0 ho
          have HOo := Aside0.mk ho
          clear ho e hE hty el
          go_wp2_with fail
          go_loopg [28] k (fun d v28 ws => ∃ l : Nat, v28 = .int .i64 l ∧ Aside0 (l + d = k) ∧ ws = wr)
          case atStart => exact ⟨0, rfl, ⟨by omega⟩, rfl⟩
          case round =>
            obtain ⟨l, rfl, HL, rfl⟩ := hrel
            have hl := HL.out
            have hw2 : IntKind.i64.wrap ((l : Int) + 1) = (l : Int) + 1 := IntWalk.i64_in _ (by omega)
            by_cases hlt2 : l < k
            · have hcl := (ob_cell HOo.out l (by omega)).1
              rw [List.getD_eq_getElem?_getD, List.getElem?_append_left (by simpa using hlt2), List.getElem?_replicate_of_lt hlt2] at hcl
              have hcl' : wr.cell? ⟨g, l, none⟩ = some (.int .u8 (IntKind.u8.wrap ((m : Int) + 1))) := hcl
              clear hcl
              go_wp2_with fail
              go_roundg (gk - 1)
              case measure => omega
              case rel => exact ⟨l + 1, by go_num, ⟨by omega⟩, rfl⟩
            · obtain rfl : l = k := by omega
              go_wp2_with fail
              obtain ⟨d, rfl⟩ : ∃ d, n = m + 1 + d := ⟨n - (m + 1), by omega⟩
              go_roundg d
              case measure => omega
              case rel => exact ⟨m + 1, by go_num, ⟨by omega⟩, rfl⟩
        · obtain rfl : m = n := by omega
          have hx := HX.out _ HU.out
          have hd := HD.out _ HU.out
          have hcp := Kd.C_below HR0.out (HBB.out _ HU.out)
          have hcq := Kd.C_below HR2.out (HBB.out _ HU.out)
          have hv1 : (convert 22 9 (.slice (some ⟨gx, 0, none⟩) p.length cx)).run Try.prog wr = .ok (.string (strOfNums p)) wr := Kd.C_string (P := Try.prog) (A := some ⟨gx, 0, none⟩) (c := cx) Try.underlying22 Try.underlying5 Try.underlying9 (push_reads hx)
          have hv2 : (convert 22 9 (.slice A p.length ca)).run Try.prog wr = .ok (.string (strOfNums p)) wr := Kd.C_string (P := Try.prog) (A := A) (c := ca) Try.underlying22 Try.underlying5 Try.underlying9 hcp
          have hv3 : (convert 22 9 (.slice (some ⟨gd, 0, none⟩) q.length cd)).run Try.prog wr = .ok (.string (strOfNums q)) wr := Kd.C_string (P := Try.prog) (A := some ⟨gd, 0, none⟩) (c := cd) Try.underlying22 Try.underlying5 Try.underlying9 (push_reads hd)
          have hv4 : (convert 22 9 (.slice C q.length cc)).run Try.prog wr = .ok (.string (strOfNums q)) wr := Kd.C_string (P := Try.prog) (A := C) (c := cc) Try.underlying22 Try.underlying5 Try.underlying9 hcq
          have hlx := push_last hx
          have hld := push_last hd
          have hwp : IntKind.i64.wrap ((p.length : Int) + 1) = (p.length : Int) + 1 := IntWalk.i64_in _ (by omega)
          have hwq : IntKind.i64.wrap ((q.length : Int) + 1) = (q.length : Int) + 1 := IntWalk.i64_in _ (by omega)
          clear hx hd hcp hcq
          go_wp2
          go_ret
          exact ⟨rfl, HBB.out _ HU.out⟩
theorem kept_walk (a0 : Option Addr) (len0 cap0 : Nat) (z0 : List Int) (a1 : Int) (a2 : Option Addr) (len2 cap2 : Nat) (z2 : List Int) (w : World) (w0 : (a0 = none ∧ len0 = 0 ∧ cap0 = 0 ∧ z0 = []) ∨ ∃ x, a0 = some x ∧ len0 ≤ cap0 ∧ cap0 ≤ maxLen ∧ z0.length = cap0 ∧ (∀ i, i < z0.length → w.cell? (x.add i) = some (.int .u8 (z0.getD i 0))) ∧ ∀ n ∈ z0, (Lit.int .u8 n).wf = true) (y0 : len0 * 1 ≤ 140737488351232) (w1 : (Lit.int .i64 a1).wf = true) (w2 : (a2 = none ∧ len2 = 0 ∧ cap2 = 0 ∧ z2 = []) ∨ ∃ x, a2 = some x ∧ len2 ≤ cap2 ∧ cap2 ≤ maxLen ∧ z2.length = cap2 ∧ (∀ i, i < z2.length → w.cell? (x.add i) = some (.int .u8 (z2.getD i 0))) ∧ ∀ n ∈ z2, (Lit.int .u8 n).wf = true) (y2 : len2 * 1 ≤ 140737488351232) :
    Calls Try.prog 10 #[.slice a0 len0 cap0, .int .i64 a1, .slice a2 len2 cap2] w fun e w' => e = .returned (.bool true) ∧ Below w.heap.size w w' := by
  obtain ⟨l0, rfl, hr0, hm0, hw0, hc0⟩ := ReadsInt.ofRowC w0
  obtain ⟨l2, rfl, hr2, hm2, hw2, hc2⟩ := ReadsInt.ofRowC w2
  have hr := rb_of_reads hr0
  have ho := octs_wf hw0
  have hl : l0.length ≤ 140737488351232 := by omega
  have hr2' := rb_of_reads hr2
  have ho2 := octs_wf hw2
  have hl2 : l2.length ≤ 140737488351232 := by omega
  exact kept_w a0 a2 cap0 cap2 l0 l2 a1 w hr hc0 ho hl hr2' hc2 ho2 hl2
end Go.Proofs.Ytpogneedafoiaaa.Pg
