/- PageLists: a row of deeds, opened; no deeds. -/
import Derived.Test.YtpogneedafoiaaaRows
import Derived.Test.YtpogneedafoiaaaPgLw
import Derived.Deep.Slices
import Derived.Deep.Strs
namespace Go.Proofs.Ytpogneedafoiaaa.Pg
open Go.RowKit Go.Proofs.YtpogneedafoiaaaW.PrintWords Go.Proofs.YtpogneedafoiaaaW.PrintLast Go.Proofs.YtpogneedafoiaaaW.PrintMore Go.Proofs.Ytpogneedafoiaaa.Bw Go.Proofs.Ytpogneedafoiaaa.Crc Go.Proofs.Ytpogneedafoiaaa.Wordy
open Go.ChangeShapes Go.WideShapes
set_option linter.unusedVariables false
set_option linter.unusedSimpArgs false

set_option maxRecDepth 100000 in
set_option maxHeartbeats 4000000 in
theorem lists_nil (cap : Nat) (w : World) : Calls Try.prog 7 #[.slice none 0 cap] w fun e w' => e = .returned (.bool true) ∧ Below w.heap.size w w' := by
  go_enter Try.func7, Try.ntmps7
  go_wp2_with fail
  refine (awake_x _).mono ?_
  rintro e w1 ⟨rfl, hb⟩
  have HB1 := Aside0.mk hb
  clear hb
  go_wp2_with fail
  refine (new_good 3 _ (by decide)).mono ?_
  rintro e w2 ⟨g, rfl, hg, hbk, hb⟩
  have HB2 := Aside0.mk (below_step HB1.out hb)
  clear hb hbk HB1
  go_wp2_with fail
  go_loopg [6] 0 (fun d v6 wr => v6 = .int .i64 0 ∧ Aside0 (Below w.heap.size w wr))
  case atStart => exact ⟨rfl, HB2⟩
  case round =>
    clear HB2
    obtain ⟨rfl, HB⟩ := hrel
    go_wp2_with fail
    go_ret
    exact ⟨rfl, HB.out⟩
instance : Inhabited Deed := ⟨⟨0, 0, []⟩⟩
theorem bulk_one {H : Type} (d : DataW H) : 1 ≤ Rows.uptoBulk d := by
  cases d with
  | lit l => cases l <;> simp [Rows.uptoBulk]
  | nil => simp [Rows.uptoBulk]
  | ptr d => simp [Rows.uptoBulk]
  | slice elems spare => simp [Rows.uptoBulk]
  | agg parts => simp [Rows.uptoBulk]
  | iface t d => simp [Rows.uptoBulk]
  | map entries => simp [Rows.uptoBulk]
  | held h => simp [Rows.uptoBulk]
theorem bulk_part {H : Type} {d : DataW H} {l : List (DataW H)} (h : d ∈ l) : Rows.uptoBulk d ≤ Rows.uptoBulkAll l := by
  induction l with
  | nil => cases h
  | cons x r ih =>
    simp only [Rows.uptoBulkAll]
    cases List.mem_cons.1 h with
    | inl e => subst e; omega
    | inr e => have := ih e; omega
theorem bulk_length {H : Type} (l : List (DataW H)) : l.length ≤ Rows.uptoBulkAll l := by
  induction l with
  | nil => simp [Rows.uptoBulkAll]
  | cons x r ih => have := bulk_one x; simp only [Rows.uptoBulkAll, List.length_cons]; omega
theorem cells53 : Try.prog.cellsOf 53 = 3 := by kernel_rfl
theorem cells3 : Try.prog.cellsOf 3 = 1 := by kernel_rfl
theorem cells22 : Try.prog.cellsOf 22 = 1 := by kernel_rfl
theorem cells5c : Try.prog.cellsOf 5 = 1 := by kernel_rfl
theorem add0 (y : Addr) : y.add 0 = y := by unfold Addr.add; simp
/-- one deed, read -/
theorem deed_open {H : Type} {enc : TypeId × Value → H} {W : World} {x : Addr} {i n : Nat} {cs : List Value} {D : DataW H} {Pl : List MemPlace} (h1 : W.cells? 0 (x.add (i * 3)) 3 = some cs)
    (h2 : DataW.trod enc Try.prog W 0 (fun _ => true) true n 53 cs = some (D, Pl)) (hb : Rows.uptoBulk D ≤ 1048576) : ∃ E : Deed, deedAt W x i E := by
  obtain ⟨_, hlen, hcell⟩ := World.cells?_some h1
  obtain ⟨y0, y1, y2, m, hxy, _, g0, g1, g2⟩ := Go.Deep.trod_struct3 Try.underlying53 h2
  match cs, hlen with
  | [c0, c1, c2], _ =>
    have k0 := hcell 0 (by decide)
    have k1 := hcell 1 (by decide)
    have k2 := hcell 2 (by decide)
    have g0' : DataW.trod enc Try.prog W 0 (fun _ => true) true m 3 [c0] = some y0 := by
      have e : Try.prog.cellsOf 3 = 1 := cells3
      simpa [e] using g0
    have g1' : DataW.trod enc Try.prog W 0 (fun _ => true) true m 3 [c1] = some y1 := by
      have e : Try.prog.cellsOf 3 = 1 := cells3
      simpa [e] using g1
    have g2' : DataW.trod enc Try.prog W 0 (fun _ => true) true m 22 [c2] = some y2 := by
      have e : Try.prog.cellsOf 22 = 1 := cells22
      simpa [e] using g2
    obtain ⟨n0, e0, _, w0⟩ := DataW.trod_int Try.underlying3 g0'
    obtain ⟨n1, e1, _, w1⟩ := DataW.trod_int Try.underlying3 g1'
    simp only [List.cons.injEq, and_true] at e0 e1
    subst e0
    subst e1
    have hD : Rows.uptoBulk y2.1 ≤ 1048576 := by
      have e : D = .agg [y0.1, y1.1, y2.1] := congrArg Prod.fst hxy
      rw [e] at hb
      simp only [Rows.uptoBulk, Rows.uptoBulkAll] at hb
      omega
    have hz : ∃ (a2 : Option Addr) (len2 cap2 : Nat) (zs : List Int), c2 = .slice a2 len2 cap2 ∧ ((a2 = none ∧ len2 = 0 ∧ cap2 = 0 ∧ zs = []) ∨ ∃ x, a2 = some x ∧ len2 ≤ cap2 ∧ cap2 ≤ maxLen ∧ zs.length = cap2 ∧ (∀ i, i < zs.length → W.cell? (x.add i) = some (.int .u8 (zs.getD i 0))) ∧ ∀ n ∈ zs, (Lit.int .u8 n).wf = true) ∧ len2 ≤ 1048576 := by
      rcases open_ints Try.underlying22 Try.underlying5 cells5c g2' with ⟨hcs, _⟩ | ⟨x2, l, c, zs, hcs, _, hl, hm, hz, hd, hc, hwz⟩
      · simp only [List.cons.injEq, and_true] at hcs
        exact ⟨none, 0, 0, [], hcs, .inl ⟨rfl, rfl, rfl, rfl⟩, by decide⟩
      · simp only [List.cons.injEq, and_true] at hcs
        have hz' : zs.length = c := by simpa using hz
        refine ⟨some x2, l, c, zs, hcs, .inr ⟨x2, rfl, hl, hm, hz', hc, hwz⟩, ?_⟩
        rw [hd] at hD
        simp only [Rows.uptoBulk] at hD
        have h3 := bulk_length (H := H) (lits .u8 (zs.take l))
        have h4 : (lits (H := H) .u8 (zs.take l)).length = l := by simp [lits]; omega
        omega
    obtain ⟨a2, len2, cap2, zs, rfl, hrow, hl2⟩ := hz
    obtain ⟨l, rfl, hr, _, hw, hcap⟩ := ReadsInt.ofRowC hrow
    refine ⟨⟨n0, n1, l⟩, a2, cap2, (add0 (x.add (i * 3))) ▸ k0, k1, ?_, hcap, rb_of_reads hr, octs_wf hw, by show l.length ≤ _; omega, wf_i64 w1⟩
    rw [show ((x.add (i * 3)).add 2) = (x.add (i * 3)).add 2 from rfl]
    exact k2
/-- a row of deeds, read -/
theorem deeds_open {H : Type} {enc : TypeId × Value → H} {W : World} {fuel : Nat} {v : Value} {y : DataW H × List MemPlace} (h : DataW.trod enc Try.prog W 0 (fun _ => true) true fuel 51 [v] = some y) (hk : Rows.uptoBulk y.1 ≤ 1048576) :
    (∃ cap, v = .slice none 0 cap) ∨ ∃ (x : Addr) (len cap : Nat) (D : Nat → Deed), v = .slice (some x) len cap ∧ len ≤ cap ∧ len ≤ 140737488351232 ∧ ∀ i, i < len → deedAt W x i (D i) := by
  rcases Go.Deep.open_slice Try.underlying51 h with ⟨hcs, _⟩ | ⟨a, len, cap, m, n, D, Pl, hcs, _, hl, hm, hmm, rfl, hx⟩
  · simp only [List.cons.injEq, and_true] at hcs
    exact .inl ⟨0, hcs⟩
  · simp only [List.cons.injEq, and_true] at hcs
    right
    simp only [if_true] at hmm
    have hlm : len ≤ m := by omega
    have hlen : len ≤ 1048576 := by
      have := bulk_length ((List.range len).map D)
      rw [List.length_map, List.length_range] at this
      simp only [Rows.uptoBulk] at hk
      omega
    have each : ∀ i, i < len → ∃ E : Deed, deedAt W a i E := by
      intro i hi
      obtain ⟨cs', h1, h2⟩ := hx i (by omega)
      rw [cells53] at h1
      refine deed_open h1 h2 ?_
      have := bulk_part (d := D i) (l := (List.range len).map D) (List.mem_map.mpr ⟨i, List.mem_range.mpr hi, rfl⟩)
      simp only [Rows.uptoBulk] at hk
      omega
    obtain ⟨E, hE⟩ := Go.Deep.choose_lt each
    exact ⟨a, len, cap, E, hcs, hl, by omega, hE⟩
theorem lists_walk {H : Type} {enc : TypeId × Value → H} {W : World} {fuel : Nat} {v : Value} {y : DataW H × List MemPlace} (h : DataW.trod enc Try.prog W 0 (fun _ => true) true fuel 51 [v] = some y) (hk : Rows.uptoBulk y.1 ≤ 1048576) :
    Calls Try.prog 7 #[v] W fun e w' => e = .returned (.bool true) ∧ Below W.heap.size W w' := by
  rcases deeds_open h hk with ⟨cap, rfl⟩ | ⟨x, len, cap, D, rfl, h1, h2, h3⟩
  · exact lists_nil cap W
  · exact lists_w x len cap D W h1 h2 h3
end Go.Proofs.Ytpogneedafoiaaa.Pg
