/- Contracts by hand: Cells. -/
import Derived.Test.YtpogneedafoiaaaPgO
namespace Go.Proofs.Ytpogneedafoiaaa.Pg
open Go.RowKit Go.Proofs.YtpogneedafoiaaaW.PrintWords Go.Proofs.YtpogneedafoiaaaW.PrintLast Go.Proofs.YtpogneedafoiaaaW.PrintMore Go.Proofs.Ytpogneedafoiaaa.Bw Go.Proofs.Ytpogneedafoiaaa.Crc Go.Proofs.Ytpogneedafoiaaa.Wordy
set_option linter.unusedVariables false
set_option linter.unusedSimpArgs false

theorem info22 : (Try.prog.info? 22).map (fun i => (i.zero, i.size, i.bytes)) = some (some (.slice none 0 0), 1, 24) := by kernel_rfl
/-- a block that is known whole, as a row of one's own -/
theorem R_of_blk {w : World} {g base : Nat} {xs : List Int} {ok : Nat → Prop} (h : Blk w 5 g xs) (hb : base ≤ g) (hm : xs.length ≤ 140737488355328) (hok : ok g) : Kd.R (Kd.int .u8) 5 w base ok (.slice (some ⟨g, 0, none⟩) xs.length xs.length) xs := by
  refine ⟨fun k hk => ?_, nums .u8 xs, h.own hb (by unfold maxLen; omega), ⟨by simp [nums, Kd.int, Kd.scalar], fun j x hj => ?_⟩⟩
  · have : g = k := by simpa [Value.ownBlock] using hk
    exact this ▸ hok
  · obtain ⟨hlt, rfl⟩ := List.getElem?_eq_some_iff.1 hj
    show ((nums .u8 xs).drop (j * 1)).take 1 = [Value.int .u8 xs[j]]
    rw [Nat.mul_one, List.drop_eq_getElem_cons (by simpa [nums] using hlt), List.take_succ_cons, List.take_zero]
    simp [nums]
/-- an empty row of rows -/
theorem S_of_own0 {w : World} {base : Nat} {v : Value} {ok : Nat → Prop} (h : w.ownsRow base 22 1 v 0 []) (hok : ∀ k, v.ownBlock = some k → ok k) : Kd.S (Kd.slice 5 (Kd.int .u8)) 22 w base ok v [] :=
  ⟨fun _ => 0, hok, [], h, ⟨rfl, fun j x hj => by simp at hj⟩⟩
theorem cell0 {w : World} {g t : Nat} {v : Value} (h : w.heap[g]? = some (.cells #[v] t (0, 0))) : w.cell? ⟨g, 0, none⟩ = some v := by
  unfold World.cell?
  rw [h]
  rfl
theorem heap_below {w w' : World} {g : Nat} {o : Obj} (hb : Below w.heap.size w w') (h : w.heap[g]? = some o) : w'.heap[g]? = some o := (hb.block g (Array.getElem?_eq_some_iff.1 h).1).trans h
set_option maxHeartbeats 4000000 in
theorem cells_x (A : Option Addr) (c : Nat) (p : List Int) (w : World) (hr : Kd.C (Kd.int .u8) w A 512 p) (hc : 512 ≤ c) (ho : octs p) (hl : p.length = 512) (hg : goodP p = true) :
    Calls Try.prog 14 #[.slice A 512 c] w fun e w' => ∃ v, e = .returned (.tuple #[v, .int .i64 0]) ∧ Kd.S (Kd.slice 5 (Kd.int .u8)) 22 w' w.heap.size (fun _ => True) v ((List.range (cnt p)).map (cellP p)) ∧ Below w.heap.size w w' := by
  have HR := Aside0.mk hr
  have HO := Aside0.mk ho
  have HG := Aside0.mk hg
  have HL := Aside0.mk hl
  clear hr ho hg hl
  go_enter Try.func14, Try.ntmps14
  go_wp2_with fail
  refine (of_good A c p _ HR.out hc HO.out HL.out HG.out).mono ?_
  rintro e w1 ⟨rfl, hb⟩
  have HB := Aside0.mk (below_alloc hb (.cells #[.slice A 512 c] 65))
  have HR1 := Aside0.mk (Kd.C_below HR.out HB.out)
  clear hb
  go_wp2_with fail
  refine (count5 A c p _ HR1.out hc HO.out HL.out).mono ?_
  rintro e w2 ⟨rfl, hb⟩
  have hh2 := heap_below hb (heap_new w1 (.cells #[.slice A 512 c] 65) _ rfl)
  have hc2 := cell0 hh2
  have HB2 := Aside0.mk (below_step HB.out hb)
  clear hb
  obtain ⟨i22, hi22, hz22, hs22, hb22⟩ := info_parts info22
  have hb2s := HB2.out.size
  have hn5 : 26 + 4 * cnt p ≤ 512 := by have := (good_facts HG.out).2.2; omega
  have HF := Aside0.mk (good_facts HG.out).2.2.2.2.2
  have hcl : ∀ i, i < cnt p → (cellP p i).length = szP p i ∧ szP p i ≤ 512 := fun i hi => ⟨cellP_length HL.out (HF.out i hi).1, by have := (HF.out i hi).1; omega⟩
  have HCL := Aside0.mk hcl
  clear hcl
  go_wp2_with ((with_reducible refine wpList_make_own _ rfl _ _ 28 rfl w.heap.size 22 i22 (.slice none 0 0) 1 Try.underlying28 hi22 hz22 hs22 .i64 .i64 _ (cnt p) rfl rfl rfl ?bytes ?maxLen ?base ?_); (case bytes => (rw [hb22]; omega)); (case maxLen => (unfold maxLen; omega)); (case base => omega); intro w3 ho3 hg3; have hh3 := (hg3.block w1.heap.size (Array.getElem?_eq_some_iff.1 hh2).1 (by simp)).trans hh2; have hc3 := cell0 hh3)
  have HB3 := Aside0.mk (below_grown HB2.out hg3 (by rintro k hk; cases hk))
  have HO3 := Aside0.mk (S_of_own0 (ok := fun _ => True) ho3 (fun _ _ => trivial))
  clear ho3 hg3 hc2 hh2
  refine (count5 A c p _ (Kd.C_below HR.out HB3.out) hc HO.out HL.out).mono ?_
  rintro e w4 ⟨rfl, hb⟩
  have HC4 := Aside0.mk (heap_below hb hh3)
  have HB4 := Aside0.mk (below_step HB3.out hb)
  have HO4 := Aside0.mk (Kd.S_below HO3.out hb)
  clear hb hc3 hh3 HB3 HO3
  have hb1s := HB.out.size
  go_wp2_with fail
  go_loopg [6, 21] (cnt p) (fun d v6 v21 wr => ∃ k : Nat, v21 = .int .i64 k ∧ Aside0 (k + d = cnt p) ∧ Aside0 (wr.heap[w1.heap.size]? = some (.cells #[.slice A 512 c] 65 (0, 0))) ∧ Aside0 (Kd.S (Kd.slice 5 (Kd.int .u8)) 22 wr w.heap.size (fun _ => True) v6 ((List.range k).map (cellP p))) ∧ Aside0 (Below w.heap.size w wr))
  case atStart => exact ⟨0, rfl, ⟨by omega⟩, HC4, HO4, HB4⟩
  case round =>
    clear HC4 HB4 HO4
    obtain ⟨k, rfl, HK, HC, HS, HB⟩ := hrel
    have hk := HK.out
    by_cases hlt : k < cnt p
    · have hcell := cell0 HC.out
      go_wp2_with fail
      refine (cell5 A c p _ (Kd.C_below HR.out HB.out) hc HO.out HL.out k (by omega) (HF.out k hlt).1).mono ?_
      rintro e w5 ⟨A', rfl, hA, hAb, hb⟩
      have HB5 := Aside0.mk (below_step HB.out hb)
      have HA := Aside0.mk (hA _ (Kd.C_below HR.out HB5.out))
      have HC5 := Aside0.mk (heap_below hb HC.out)
      have HS5 := Aside0.mk (Kd.S_below HS.out hb)
      clear hb hA hAb hcell HC HB HS
      go_wp2_with fail
      have hcl := (HCL.out k hlt).1
      have hcs := (HCL.out k hlt).2
      have h := clone_calls (some A') (szP p k) (cellP p k) w5 (by rw [hcl]; exact HA.out) (by rw [hcl]; exact Nat.le_refl _) (by rw [hcl]; omega) (fun h => by cases h)
      rw [hcl] at h
      refine h.mono ?_
      rintro e w6 ⟨g, rfl, hg1, hbk, hb⟩
      have HB6 := Aside0.mk (below_step HB5.out hb)
      have HC6 := Aside0.mk (heap_below hb HC5.out)
      have hR : Kd.R (Kd.int .u8) 5 w6 w.heap.size (fun _ => True) (.slice (some ⟨g, 0, none⟩) (szP p k) (szP p k)) (cellP p k) := by
        have h := R_of_blk (base := w.heap.size) (ok := fun _ => True) hbk (by have := HB5.out.size; omega) (by omega) trivial
        rw [hcl] at h
        exact h
      have HRr := Aside0.mk hR
      obtain ⟨A0, c0, ev⟩ := Kd.S_slice HS5.out
      have HN1 := Aside0.mk (Kd.S_ne HS5.out HC5.out (by decide))
      rw [List.length_map, List.length_range] at ev
      subst ev
      have HSr := Aside0.mk (show Kd.S (Kd.slice 5 (Kd.int .u8)) 22 w6 w.heap.size (fun k_ => True ∧ ¬ some k_ = (Value.slice (some ⟨g, 0, none⟩) (szP p k) (szP p k)).ownBlock) (.slice A0 k c0) ((List.range k).map (cellP p)) from Kd.S_below (Kd.S_mono (Kd.S_elderB HS5.out g hg1) (fun k_ hk_ => ⟨trivial, fun e_ => hk_.2 (by simpa [Value.ownBlock, eq_comm] using e_)⟩)) hb)
      have HNe := Aside0.mk (show ∀ k_, some k_ = (Value.slice (some ⟨g, 0, none⟩) (szP p k) (szP p k)).ownBlock → some k_ ≠ (Value.slice A0 k c0).ownBlock from fun k_ hk_ e_ => by
        have h1 := Kd.S_lt HS5.out k_ e_.symm
        have h2 : k_ = g := by simpa [Value.ownBlock] using hk_
        omega)
      clear h hb hbk hcl hR HS5 HC5 HB5 HA
      go_wp2_with (at_builtin; refine Kd.S_append (Kd.slice 5 (Kd.int .u8)) (w0 := w) w.heap.size rfl (.tmp 24) (.tmp 29) 28 22 (.slice none 0 0) 24 rfl Try.underlying28 info22 rfl (by decide) (by omega) (.slice A0 k c0) ((List.range k).map (cellP p)) (cellP p k) [.slice (some ⟨g, 0, none⟩) (szP p k) (szP p k)] (fun _ => True) (fun k_ => some k_ = (Value.slice (some ⟨g, 0, none⟩) (szP p k) (szP p k)).ownBlock) rfl rfl ?aP ?aK (fun _ _ => trivial) HSr.out HB6.out ?aS ?aL ?_; (case aP => exact Kd.M_row (Kd.R_tight rfl HRr.out)); (case aK => exact fun k_ hk_ => ⟨trivial, HNe.out k_ hk_⟩); (case aS => (have := HB6.out.size; omega)); (case aL => (rw [List.length_map, List.length_range]; omega)); intro v1 w7 hs7 hb7 hg7 hat7)
      have HC7 := Aside0.mk ((hg7.block w1.heap.size (Array.getElem?_eq_some_iff.1 HC6.out).1 HN1.out).trans HC6.out)
      have HS7 := Aside0.mk hs7
      have HB7 := Aside0.mk hb7
      clear hs7 hb7 hg7 hat7
      go_roundg (gk - 1)
      case measure => have := HK.out; omega
      case rel => exact ⟨k + 1, by go_num, ⟨by have := HK.out; omega⟩, HC7, ⟨by rw [List.range_succ, List.map_append]; exact HS7.out⟩, HB7⟩
    · obtain rfl : k = cnt p := by omega
      go_wp2
      go_ret2
      exact ⟨_, rfl, HS.out, HB.out⟩
end Go.Proofs.Ytpogneedafoiaaa.Pg
