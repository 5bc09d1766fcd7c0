/- Contracts by hand: Lay, put, setSlot. -/
import Derived.Test.YtpogneedafoiaaaPgGood
import Derived.Outline
import Derived.Deep.RegionLaw
namespace Go.Proofs.Ytpogneedafoiaaa.Pg
open Go.RowKit Go.Proofs.YtpogneedafoiaaaW.PrintWords Go.Proofs.YtpogneedafoiaaaW.PrintLast Go.Proofs.YtpogneedafoiaaaW.PrintMore Go.Proofs.Ytpogneedafoiaaa.Bw Go.Proofs.Ytpogneedafoiaaa.Crc Go.Proofs.Ytpogneedafoiaaa.Wordy
set_option linter.unusedVariables false
set_option linter.unusedSimpArgs false

theorem reads_new (w : World) (x : Int) (g : Nat) (h : g = w.heap.size) : ReadsInt (w.alloc (.cells #[.int .u8 x] 5)) .u8 (some ⟨g, 0, none⟩) 1 [x] :=
  rb_reads (rb_block (xs := [x]) (e := 5) (fz := (0, 0)) (heap_new _ _ _ h) (by simp))
set_option maxHeartbeats 1000000 in
theorem lay_calls (n : Int) (size : Nat) (w : World) (h1 : size ≤ 8) (hn0 : 0 ≤ n) :
    Calls Try.prog 64 #[.slice none 0 0, .int .i64 size, .int .u64 n] w fun e w' => ∃ v, e = .returned v ∧ w'.ownsRow w.heap.size 5 1 v size (nums .u8 (leB n size)) ∧ Below w.heap.size w w' := by
  go_enter Try.func64, Try.ntmps64
  go_wp2
  go_loopg [0, 9] size (fun d v5 v6 wr => ∃ k : Nat, v6 = .int .i64 k ∧ Aside0 (k + d = size) ∧ Aside0 (wr.ownsRow w.heap.size 5 1 v5 k (nums .u8 (leB n k))) ∧ Aside0 (Below w.heap.size w wr))
  case atStart => exact ⟨0, rfl, ⟨by omega⟩, ⟨own_nil _ _ _ _⟩, ⟨Below.refl _ _⟩⟩
  case round =>
    obtain ⟨k, rfl, HK, HO, HB⟩ := hrel
    have hk := HK.out
    by_cases hlt : k < size
    · obtain ⟨Ao, co, eo⟩ := own_slice HO.out
      subst eo
      go_wp2_with (at_builtin; go_loud (refine print_append_row (w0 := w) w.heap.size rfl _ _ 22 5 .u8 1 rfl Try.underlying22 info5 (by decide) _ (leB n k) [octOf n k] (some ⟨wr.heap.size, 0, none⟩) 1 1 rfl rfl (own_alloc (by rw [leB_length]; exact HO.out) _) (reads_new _ _ _ rfl) (below_alloc HB.out _) (by have := HB.out.size; simp; omega) (by rw [leB_length]; omega) ?_); intro v1 w1 ho1 hb1 hg1 hn1)
      go_wp2
      go_roundg (gk - 1)
      case measure => have := HK.out; omega
      case rel =>
        refine ⟨k + 1, by go_num, ⟨by have := HK.out; omega⟩, ⟨?_⟩, ⟨hb1⟩⟩
        rw [← leB_succ, leB_length] at ho1
        exact ho1
    · go_wp2
      go_ret
      obtain rfl : k = size := by omega
      exact ⟨_, rfl, HO.out, HB.out⟩

/-- bytes laid over a page from a place on -/
def over (p : List Int) (at_ : Nat) (l : List Int) : List Int := p.take at_ ++ (l ++ p.drop (at_ + l.length))
theorem over_length (p : List Int) (at_ : Nat) (l : List Int) (h : at_ + l.length ≤ p.length) : (over p at_ l).length = p.length := by
  unfold over
  simp only [List.length_append, List.length_take, List.length_drop]
  omega
theorem size5 : (Try.prog.info? 5).map (·.size) = some 1 := by kernel_rfl
theorem nums_getElem {k : IntKind} {l : List Int} {j : Nat} (h : j < l.length) : (nums k l)[j]? = some (.int k (l.getD j 0)) := by
  simp [nums, List.getElem?_eq_getElem h, List.getD_eq_getElem?_getD]
/-- The head of an own row, read. -/
theorem rb_head {w : World} {base g e n cap : Nat} {xs : List Int} (h : w.ownsRow base e 1 (.slice (some ⟨g, 0, none⟩) n cap) n (nums .u8 xs)) (m : Nat) (hm : m ≤ n) (hl : n ≤ 9223372036854775807) : Kd.C (Kd.int .u8) w (some ⟨g, 0, none⟩) m (xs.take m) := by
  have hx : xs.length = n := by have := h.1; simp [nums] at this; exact this
  refine rb_of_reads ⟨by rw [List.length_take]; omega, by omega, fun _ => ⟨_, rfl, fun j hj => ?_⟩⟩
  rw [add_plain, h.cellAt j (by omega), nums_getElem (by omega), List.getD_eq_getElem?_getD, List.getD_eq_getElem?_getD, List.getElem?_take, if_pos hj]
set_option maxHeartbeats 4000000 in
theorem put_calls (g : Nat) (p : List Int) (at_ size : Nat) (n : Int) (w : World) (hb : Blk w 5 g p) (hl : p.length = 512) (hs1 : 1 ≤ size) (h1 : size ≤ 8) (hn0 : 0 ≤ n) (hfit : at_ + size ≤ 512) :
    Calls Try.prog 53 #[.agg #[.slice (some ⟨g, 0, none⟩) 512 512], .int .i64 at_, .int .i64 size, .int .u64 n] w fun e w' => e = .returned (.tuple #[]) ∧ Blk w' 5 g (over p at_ (leB n size)) ∧ w.grownBy w' (some g) := by
  have HB := Aside0.mk hb
  have HL := Aside0.mk hl
  clear hb hl
  have hw1 : IntKind.i64.wrap ((at_ : Int) + (size : Int)) = (at_ : Int) + (size : Int) := IntWalk.i64_in _ (by omega)
  have hw2 : (0 : Int) ≤ (at_ : Int) + (size : Int) := by omega
  have hw3 : ((at_ : Int) + (size : Int)).toNat = at_ + size := by omega
  have hw4 : (at_ : Int) + (size : Int) ≤ 512 := by omega
  have HB0 := Aside0.mk (Blk.below HB.out (below_alloc (Below.refl w.heap.size w) (.cells #[.slice (some ⟨g, 0, none⟩) 512 512] 65)))
  have HG0 := Aside0.mk (grown_below (below_alloc (Below.refl w.heap.size w) (.cells #[.slice (some ⟨g, 0, none⟩) 512 512] 65)) (some g))
  have hne : ¬ (512 = at_) := by omega
  go_enter Try.func53, Try.ntmps53
  go_wp2_with fail
  go_region_law (first
      | (refine st_copy rfl (.tmp 14) (.tmp 17) 22 22 5 rfl Try.underlying22 size5 g at_ size (512 - at_) size cv (some ⟨gv, 0, none⟩) p (leB n size) rfl rfl HBv.out ?_ ?_ ?_; (have h := rb_head ho size (Nat.le_refl _) (by omega); rw [List.take_of_length_le (by rw [leB_length]; exact Nat.le_refl _)] at h; exact h); (have := HL.out; simp only [Nat.min_self]; omega); intro w5 hb5 hg5)
      | (go_simp; go_at_call 64; (with_reducible refine (lay_calls n size _ h1 hn0).mono ?_); rintro e w2 ⟨v, rfl, ho, hb⟩; obtain ⟨gv, cv, rfl, _, _⟩ := ho.form (by omega); have hcv := pw_cell_below hb (a := ⟨w.heap.size, 0, none⟩) (v := .slice (some ⟨g, 0, none⟩) 512 512) (by simp); have HBv := Aside0.mk (Blk.below (show Blk (w.alloc (.cells #[.slice (some ⟨g, 0, none⟩) 512 512] 65)).drew 5 g p from HB0.out) hb)))
  all_goals
    go_end0
    refine ⟨rfl, ?_, grown_trans (grown_trans (grown_drew HG0.out) (grown_below hb _)) hg5⟩
    unfold over
    rw [leB_length]
    have ht : (leB n size).take size = leB n size := List.take_of_length_le (by rw [leB_length]; exact Nat.le_refl _)
    rw [ht, show Nat.min size size = size from Nat.min_self size] at hb5
    exact hb5
theorem put_at (g : Nat) (p : List Int) (at_ size : Nat) (a s n : Int) (w : World) (ha : a = (at_ : Int)) (hs : s = (size : Int)) (hb : Blk w 5 g p) (hl : p.length = 512) (hs1 : 1 ≤ size) (h1 : size ≤ 8) (hn0 : 0 ≤ n) (hfit : at_ + size ≤ 512) :
    Calls Try.prog 53 #[.agg #[.slice (some ⟨g, 0, none⟩) 512 512], .int .i64 a, .int .i64 s, .int .u64 n] w fun e w' => e = .returned (.tuple #[]) ∧ Blk w' 5 g (over p at_ (leB n size)) ∧ w.grownBy w' (some g) := by
  subst ha hs
  exact put_calls g p at_ size n w hb hl hs1 h1 hn0 hfit
theorem cell_grown' {W w1 : World} {row : Option Nat} (hg : W.grownBy w1 row) {a : Addr} {v : Value} (h : W.cell? a = some v) (hne : some a.block ≠ row) : w1.cell? a = some v := by
  have := hg.block a.block (World.block_lt_of_cell? W a h) hne
  simpa [World.cell?, this] using h
set_option maxHeartbeats 2000000 in
theorem setSlot_calls (g : Nat) (p : List Int) (i from_ size : Nat) (w : World) (hb : Blk w 5 g p) (hl : p.length = 512) (hi : 30 + 4 * i ≤ 512) (hf : from_ ≤ 512) (hs : size ≤ 512) :
    Calls Try.prog 56 #[.agg #[.slice (some ⟨g, 0, none⟩) 512 512], .int .i64 i, .int .i64 from_, .int .i64 size] w fun e w' => e = .returned (.tuple #[]) ∧ Blk w' 5 g (over (over p (26 + 4 * i) (leB from_ 2)) (28 + 4 * i) (leB size 2)) ∧ w.grownBy w' (some g) := by
  have HB := Aside0.mk hb
  have HL := Aside0.mk hl
  clear hb hl
  have HB0 := Aside0.mk (Blk.below HB.out (below_alloc (Below.refl w.heap.size w) (.cells #[.slice (some ⟨g, 0, none⟩) 512 512] 65)))
  have HG0 := Aside0.mk (grown_below (below_alloc (Below.refl w.heap.size w) (.cells #[.slice (some ⟨g, 0, none⟩) 512 512] 65)) (some g))
  have hglt := HB.out.lt
  go_enter Try.func56, Try.ntmps56
  go_wp2_with fail
  refine (put_at g p (26 + 4 * i) 2 _ _ _ _ (by omega) rfl HB0.out HL.out (by decide) (by decide) (by omega) (by omega)).mono ?_
  rintro e w1 ⟨rfl, hb1, hg1⟩
  have hcell := cell_grown' hg1 (a := ⟨w.heap.size, 0, none⟩) (v := .slice (some ⟨g, 0, none⟩) 512 512) (by simp) (by simp; omega)
  have HB1 := Aside0.mk hb1
  have HG1 := Aside0.mk (grown_trans HG0.out hg1)
  clear hb1 hg1
  go_wp2_with fail
  refine (put_at g _ (28 + 4 * i) 2 _ _ _ _ (by omega) rfl HB1.out (by rw [over_length _ _ _ (by rw [leB_length]; have := HL.out; omega)]; exact HL.out) (by decide) (by decide) (by omega) (by omega)).mono ?_
  rintro e w2 ⟨rfl, hb2, hg2⟩
  have HB2 := Aside0.mk hb2
  have HG2 := Aside0.mk (grown_trans HG1.out hg2)
  clear hb2 hg2
  go_wp2
  go_end0
  exact ⟨rfl, HB2.out, HG2.out⟩
end Go.Proofs.Ytpogneedafoiaaa.Pg
