/-
  Words: rows of bytes, whole blocks; laws of append, copy and store over them.
-/
import Derived.Test.YtpogneedafoiaaaWWords
import Derived.Laws.CopyRow
import Derived.Laws.CopyOwn
import Derived.Laws.MakeOwn
import Derived.Lib.SlBytesConst
namespace Go.Proofs.Ytpogneedafoiaaa.Bw
open Go.RowKit Go.Proofs.YtpogneedafoiaaaW.PrintWords
set_option linter.unusedVariables false
set_option linter.unusedSimpArgs false

/-- A block whose cells are known whole. -/
def Blk (w : World) (e g : Nat) (p : List Int) : Prop := w.heap[g]? = some (.cells (nums .u8 p).toArray e (0, 0))
/-- Bytes that are read. -/
abbrev Rb (w : World) (A : Option Addr) (xs : List Int) : Prop := Kd.C (Kd.int .u8) w A xs.length xs

theorem heap_new (w : World) (o : Obj) (g : Nat) (h : g = w.heap.size) : (w.alloc o).heap[g]? = some o := by
  subst h
  show (w.heap.push o)[w.heap.size]? = _
  simp
theorem rb_block {w : World} {g e : Nat} {fz : Nat × Nat} {xs : List Int} (h : w.heap[g]? = some (.cells (nums .u8 xs).toArray e fz)) (hl : xs.length ≤ 9223372036854775807) : Rb w (some ⟨g, 0, none⟩) xs := by
  refine Kd.C_of_reads (d := (0 : Int)) ⟨rfl, hl, fun _ => ⟨_, rfl, fun j hj => ?_⟩⟩
  have : (⟨g, 0, none⟩ : Addr).add j = ⟨g, j, none⟩ := add_plain g j
  rw [this]
  unfold World.cell?
  simp only [h]
  simp [nums, List.getElem?_eq_getElem hj, List.getD_eq_getElem?_getD]
theorem Blk.rb {w : World} {g e : Nat} {xs : List Int} (h : Blk w e g xs) (hl : xs.length ≤ 9223372036854775807) : Rb w (some ⟨g, 0, none⟩) xs := rb_block h hl
theorem Blk.lt {w : World} {g e : Nat} {xs : List Int} (h : Blk w e g xs) : g < w.heap.size := (Array.getElem?_eq_some_iff.1 h).1
theorem Blk.grown {w w' : World} {g e : Nat} {xs : List Int} (h : Blk w e g xs) {row : Option Nat} (hg : w.grownBy w' row) (hne : some g ≠ row) : Blk w' e g xs := (hg.block g h.lt hne).trans h
theorem Blk.below {w w' : World} {g e : Nat} {xs : List Int} (h : Blk w e g xs) (hb : Below w.heap.size w w') : Blk w' e g xs := (hb.block g h.lt).trans h
theorem Blk.cell {w : World} {g e : Nat} {xs : List Int} (h : Blk w e g xs) (j : Nat) (hj : j < xs.length) : w.cell? ⟨g, j, none⟩ = some (.int .u8 (xs.getD j 0)) := by
  unfold World.cell?
  rw [h]
  simp [nums, List.getElem?_eq_getElem hj, List.getD_eq_getElem?_getD]
theorem Blk.free {w : World} {g e : Nat} {xs : List Int} (h : Blk w e g xs) (j : Nat) : w.frozen? ⟨g, j, none⟩ = false := by
  unfold World.frozen?
  rw [h]
  simp
theorem Blk.set {w : World} {g e : Nat} {xs : List Int} (h : Blk w e g xs) (j : Nat) (v : Int) : Blk (w.setCell ⟨g, j, none⟩ (.int .u8 v)) e g (xs.set j v) := by
  unfold Blk at *
  show (w.setCell ⟨g, j, none⟩ (.int .u8 v)).heap[g]? = _
  simp only [World.setCell, Array.getElem?_modify, h]
  simp [nums, List.map_set]
theorem grown_set (w : World) (g j : Nat) (v : Value) : w.grownBy (w.setCell ⟨g, j, none⟩ v) (some g) :=
  ⟨rfl, rfl, rfl, by simp [World.setCell], fun k _ hne => Below.heap_setCell w _ v k (fun e => hne (by rw [e]))⟩
theorem cell_set_ne {w : World} {g j : Nat} {v : Value} {a : Addr} (h : a.block ≠ g) : (w.setCell ⟨g, j, none⟩ v).cell? a = w.cell? a :=
  World.cell?_of_block (w := w) (Below.heap_setCell w _ v a.block h)
theorem blk_of_own {w : World} {base e g : Nat} {xs : List Int} {n cap : Nat} (h : w.ownsRow base e 1 (.slice (some ⟨g, 0, none⟩) n cap) n (nums .u8 xs)) (he : cap = n) : Blk w e g xs := by
  subst he
  rcases h.2 with ⟨h', _⟩ | ⟨g', cap', cur, h', hb, hg, hnc, hcm, hcs, htake⟩
  · simp at h'
  · simp only [Value.slice.injEq, Option.some.injEq, Addr.mk.injEq, and_true, true_and] at h'
    obtain ⟨rfl, rfl⟩ := h'
    unfold Blk
    rw [hg, ← htake, List.take_of_length_le (by rw [Array.length_toList]; omega)]
theorem Blk.own {w : World} {base e g : Nat} {xs : List Int} (h : Blk w e g xs) (hb : base ≤ g) (hm : xs.length ≤ maxLen) : w.ownsRow base e 1 (.slice (some ⟨g, 0, none⟩) xs.length xs.length) xs.length (nums .u8 xs) := by
  refine ⟨by simp [nums], .inr ⟨g, xs.length, _, rfl, hb, h, Nat.le_refl _, hm, by simp [nums], ?_⟩⟩
  rw [Nat.mul_one]
  exact List.take_of_length_le (by simp [nums])
theorem rb_reads {w : World} {A : Option Addr} {n : Nat} {xs : List Int} (h : Kd.C (Kd.int .u8) w A n xs) : ReadsInt w .u8 A n xs := Kd.reads_of_C (enc := Value.int .u8) (d := (0 : Int)) (h1 := fun _ => rfl) h
theorem rb_of_reads {w : World} {A : Option Addr} {n : Nat} {xs : List Int} (h : ReadsInt w .u8 A n xs) : Kd.C (Kd.int .u8) w A n xs := Kd.C_of_reads (d := (0 : Int)) h
theorem rb_len {w : World} {A : Option Addr} {n : Nat} {xs : List Int} (h : Kd.C (Kd.int .u8) w A n xs) : xs.length = n := (rb_reads h).1
theorem rb_move {w w' : World} {A : Option Addr} {n : Nat} {xs : List Int} (h : Kd.C (Kd.int .u8) w A n xs) (hm : ∀ ad, A = some ad → 0 < n → w'.heap[ad.block]? = w.heap[ad.block]?) : Kd.C (Kd.int .u8) w' A n xs := by
  have h := rb_reads h
  refine rb_of_reads ⟨h.1, h.2.1, fun hn => ?_⟩
  obtain ⟨ad, e, hc⟩ := h.2.2 hn
  refine ⟨ad, e, fun j hj => ?_⟩
  have hb : (ad.add j).block = ad.block := by unfold Addr.add; split <;> rfl
  rw [World.cell?_of_block (w := w) (w' := w') (by rw [hb]; exact hm ad e hn)]
  exact hc j hj
theorem rb_lt {w : World} {A : Option Addr} {n : Nat} {xs : List Int} (h : Kd.C (Kd.int .u8) w A n xs) : ∀ ad, A = some ad → 0 < n → ad.block < w.heap.size := by
  intro ad e hn
  obtain ⟨ad', e', hc⟩ := (rb_reads h).2.2 hn
  have := World.block_lt_of_cell? w _ (hc 0 hn)
  have hb : (ad'.add 0).block = ad'.block := by unfold Addr.add; split <;> rfl
  rw [hb] at this
  rw [e] at e'
  obtain rfl := Option.some.inj e'
  exact this
/-- What is read stays, where a block that is none of its own has been written. -/
theorem rb_grown {w w' : World} {A : Option Addr} {n : Nat} {xs : List Int} (h : Kd.C (Kd.int .u8) w A n xs) {row : Option Nat} (hg : w.grownBy w' row) (hne : ∀ ad, A = some ad → 0 < n → some ad.block ≠ row) : Kd.C (Kd.int .u8) w' A n xs :=
  rb_move h (fun ad e hn => hg.block ad.block (rb_lt h ad e hn) (hne ad e hn))
/-- .. read before the call began: no block of the call's own. -/
theorem rb_old {w0 w w' : World} {A : Option Addr} {n : Nat} {xs : List Int} (h0 : Kd.C (Kd.int .u8) w0 A n xs) (hb : Below w0.heap.size w0 w) : Kd.C (Kd.int .u8) w A n xs := Kd.C_below h0 hb
theorem grown_below {w w' : World} (h : Below w.heap.size w w') (row : Option Nat) : w.grownBy w' row := grown_of_below h row
theorem below_grown {w0 w w' : World} {row : Option Nat} (hb : Below w0.heap.size w0 w) (hg : w.grownBy w' row) (hr : ∀ k, row = some k → w0.heap.size ≤ k) : Below w0.heap.size w0 w' := hb.grown hg hb.size hr
theorem grown_trans {w w1 w2 : World} {row : Option Nat} (h : w.grownBy w1 row) (k : w1.grownBy w2 row) : w.grownBy w2 row :=
  ⟨k.os.trans h.os, k.tape.trans h.tape, k.output.trans h.output, Nat.le_trans h.size k.size, fun i hi hne => (k.block i (Nat.lt_of_lt_of_le hi h.size) hne).trans (h.block i hi hne)⟩
theorem grown_refl (w : World) (row : Option Nat) : w.grownBy w row := ⟨rfl, rfl, rfl, Nat.le_refl _, fun _ _ _ => rfl⟩
theorem grown_drewN {w w1 : World} {row : Option Nat} (h : w.grownBy w1 row) (n : Nat) : w.grownBy (w1.drewN n) row := ⟨h.os, h.tape, h.output, h.size, h.block⟩
theorem grown_drew {w w1 : World} {row : Option Nat} (h : w.grownBy w1 row) : w.grownBy w1.drew row := ⟨h.os, h.tape, h.output, h.size, h.block⟩
theorem grown_alloc {w w1 : World} {row : Option Nat} (h : w.grownBy w1 row) (o : Obj) : w.grownBy (w1.alloc o) row := grown_trans h (grown_below (below_alloc (Below.refl _ _) o) row)

section
variable {P : Program} {ops : Array Oper} {rest : List Oper} {o : Oper} {a : Act} {Q : Exit → Act → World → Prop} {W : World}
/-- append of bytes onto a fresh row that has just room for them. -/
theorem wl_clone (hgd : o.guard = none) (s x : Operand) (t e : TypeId) (ho : o.op = .call { callee := .builtin .append, args := #[s, x], argTypes := #[t, t] })
    (ht : P.underlying t = some (.slice e)) (hinfo : (P.info? e).map (fun i => (i.zero, i.size, i.bytes)) = some (some (.int .u8 0), 1, 1))
    (g n c : Nat) (A : Option Addr) (b : List Int) (hs : a.eval s = .slice (some ⟨g, 0, none⟩) 0 n) (hx : a.eval x = .slice A n c)
    (hgn : W.heap[g]? = some (.cells (madeCells #[.int .u8 0] n) e (0, 0))) (HR : Kd.C (Kd.int .u8) W A n b) (hc : n ≤ c) (hn : n ≤ 140737488355328) (hA : A = none → c = 0)
    (hK : ∀ w', Blk w' e g b → W.grownBy w' (some g) → wpList P ops Q rest (a.put o.dst (.slice (some ⟨g, 0, none⟩) n n)) w') : wpList P ops Q (o :: rest) a W := by
  obtain ⟨i0, hi, hzz⟩ := Option.map_eq_some_iff.1 hinfo
  simp only [Prod.mk.injEq] at hzz
  obtain ⟨hz0, hz1, hz2⟩ := hzz
  have hr := rb_reads HR
  have hown : W.ownsRow 0 e 1 (.slice (some ⟨g, 0, none⟩) 0 n) 0 [] := ⟨by simp, .inr ⟨g, n, _, rfl, Nat.zero_le _, hgn, Nat.zero_le _, by unfold maxLen; omega, by simp [size_madeCells], by simp⟩⟩
  refine wpList_append_fits_any W hgd s x t ho 0 e i0 1 ht hi hz1 g 0 n [] hs hown A n c (nums .u8 b) hx (by simp [nums]; exact hr.1) ?_ ?_ ?_ (by omega) ?_
  · intro hnone
    subst hnone
    refine ⟨?_, hA rfl⟩
    rcases Nat.eq_zero_or_pos n with h0 | h0
    · exact h0
    · obtain ⟨ad, e', _⟩ := hr.2.2 h0
      cases e'
  · intro ad e' j u hu
    have hj : j < b.length := by
      have := (List.getElem?_eq_some_iff.1 hu).1
      simpa [nums] using this
    obtain ⟨ad', e2, hcell⟩ := hr.2.2 (by have := hr.1; omega)
    rw [e'] at e2
    obtain rfl := Option.some.inj e2
    rw [hcell j (by have := hr.1; omega)]
    simp only [nums, List.getElem?_map, List.getElem?_eq_getElem hj, Option.map_some, Option.some.injEq] at hu
    rw [← hu, List.getD_eq_getElem?_getD, List.getElem?_eq_getElem hj]
    rfl
  · intro u hu
    simp only [nums, List.mem_map] at hu
    obtain ⟨x, _, rfl⟩ := hu
    rfl
  · intro w' hown' hg'
    rw [Nat.zero_add, List.nil_append] at hown'
    have hk := hK w' (blk_of_own hown' rfl) hg'
    rw [Nat.zero_add]
    exact hk
/-- copy of bytes into a block that is known whole: the run. -/
theorem run_copy_bytes (dT sT ty e : TypeId) (hu : P.underlying dT = some (.slice e)) (hsz : (P.info? e).map (·.size) = some 1)
    (g off dLen dCap sLen sCap : Nat) (A : Option Addr) (p src : List Int) (hg : Blk W e g p) (HR : Kd.C (Kd.int .u8) W A sLen src) (hfit : off + Nat.min sLen dLen ≤ p.length) :
    ∃ w', (Builtin.copy_ #[dT, sT] ty #[.slice (some ⟨g, off, none⟩) dLen dCap, .slice A sLen sCap]).run P W = .ok (goInt (Nat.min sLen dLen)) w' ∧
      Blk w' e g (p.take off ++ (src.take dLen ++ p.drop (off + Nat.min sLen dLen))) ∧ W.grownBy w' (some g) := by
  have hr := rb_reads HR
  rcases Nat.eq_zero_or_pos (Nat.min sLen dLen) with h0 | h0
  · have hrun := run_copy_none (P := P) W dT sT ty e (some ⟨g, off, none⟩) A dLen dCap sLen sCap hu hsz h0
    have ht : src.take dLen = [] := by
      rcases Nat.eq_zero_or_pos dLen with h1 | h1
      · rw [h1]; rfl
      · have : src = [] := List.eq_nil_of_length_eq_zero (by have h2 : min sLen dLen = 0 := h0; have := hr.1; omega)
        rw [this]; exact List.take_nil
    refine ⟨W, by rw [hrun, h0]; rfl, ?_, grown_refl _ _⟩
    rw [h0, ht, List.nil_append, Nat.add_zero, List.take_append_drop]
    exact hg
  · obtain ⟨ad, e', hcell⟩ := hr.2.2 (by have h2 : 0 < min sLen dLen := h0; omega)
    subst e'
    have hl : (src.take dLen).length = Nat.min sLen dLen := by rw [List.length_take, hr.1]; show min dLen sLen = min sLen dLen; omega
    have hrun := run_copy_row (P := P) W dT sT ty e g off dLen dCap ad sLen sCap _ e (nums .u8 (src.take dLen)) hu hsz hg (by simpa [nums] using hl) (by
      intro j v hv
      have hj : j < (src.take dLen).length := by
        have := (List.getElem?_eq_some_iff.1 hv).1
        simpa [nums] using this
      have hjs : j < src.length := by rw [List.length_take] at hj; omega
      rw [hcell j (by have := hr.1; omega)]
      simp only [nums, List.getElem?_map, List.getElem?_eq_getElem hj, Option.map_some, Option.some.injEq] at hv
      rw [← hv, List.getD_eq_getElem?_getD, List.getElem?_eq_getElem hjs, List.getElem_take]
      rfl) (by simp only [nums, List.length_map, List.size_toArray]; omega) (by
      intro u hu
      simp only [nums, List.mem_map] at hu
      obtain ⟨x, _, rfl⟩ := hu
      rfl)
    rw [nums_length, hl] at hrun
    refine ⟨_, hrun, ?_, ⟨rfl, rfl, rfl, by simp [World.setRow], fun k hk hne => setRow_other W g k _ (fun e => hne (by rw [e]))⟩⟩
    unfold Blk
    rw [setRow_heap W g _ _ e _ hg]
    congr 2
    simp only [nums]
    simp [List.map_take, List.map_drop]
/-- copy of bytes into a block that is known whole. -/
theorem wl_copy (hgd : o.guard = none) (d s : Operand) (dT sT e : TypeId) (ho : o.op = .call { callee := .builtin .copy, args := #[d, s], argTypes := #[dT, sT] })
    (hu : P.underlying dT = some (.slice e)) (hsz : (P.info? e).map (·.size) = some 1)
    (g off dLen dCap sLen sCap : Nat) (A : Option Addr) (p src : List Int) (hd : a.eval d = .slice (some ⟨g, off, none⟩) dLen dCap) (hs : a.eval s = .slice A sLen sCap)
    (hg : Blk W e g p) (HR : Kd.C (Kd.int .u8) W A sLen src) (hfit : off + Nat.min sLen dLen ≤ p.length)
    (h : ∀ w', Blk w' e g (p.take off ++ (src.take dLen ++ p.drop (off + Nat.min sLen dLen))) → W.grownBy w' (some g) → wpList P ops Q rest (a.put o.dst (goInt (Nat.min sLen dLen))) w') : wpList P ops Q (o :: rest) a W := by
  obtain ⟨w', hrun, h1, h2⟩ := run_copy_bytes (P := P) (W := W) dT sT o.type e hu hsz g off dLen dCap sLen sCap A p src hg HR hfit
  refine wpList_plain hgd fun K hK => ?_
  unfold Oper.wp
  simp [execOp, ho, resolve, invoke, builtin, hd, hs, hrun, Result.andThen]
  exact hK _ _ (h w' h1 h2)
/-- The same, as one step of a region that draws its order. -/
theorem st_copy {K : Act → World → Prop} {E : Prop} (hgd : o.guard = none) (d s : Operand) (dT sT e : TypeId) (ho : o.op = .call { callee := .builtin .copy, args := #[d, s], argTypes := #[dT, sT] })
    (hu : P.underlying dT = some (.slice e)) (hsz : (P.info? e).map (·.size) = some 1)
    (g off dLen dCap sLen sCap : Nat) (A : Option Addr) (p src : List Int) (hd : a.eval d = .slice (some ⟨g, off, none⟩) dLen dCap) (hs : a.eval s = .slice A sLen sCap)
    (hg : Blk W e g p) (HR : Kd.C (Kd.int .u8) W A sLen src) (hfit : off + Nat.min sLen dLen ≤ p.length)
    (h : ∀ w', Blk w' e g (p.take off ++ (src.take dLen ++ p.drop (off + Nat.min sLen dLen))) → W.grownBy w' (some g) → K (a.put o.dst (goInt (Nat.min sLen dLen))) w') :
    if Region.wanted o (yielded ops a.tmps) = true then Oper.wp P o a W K Q else E := by
  obtain ⟨w', hrun, h1, h2⟩ := run_copy_bytes (P := P) (W := W) dT sT o.type e hu hsz g off dLen dCap sLen sCap A p src hg HR hfit
  have hw : Region.wanted o (yielded ops a.tmps) = true := by simp [Region.wanted, hgd]
  rw [if_pos hw]
  unfold Oper.wp
  simp [execOp, ho, resolve, invoke, builtin, hd, hs, hrun, Result.andThen]
  exact h w' h1 h2
/-- clear of bytes in a block that is known whole: the run. -/
theorem run_clear_bytes (t ty e : TypeId) (ht : P.underlying t = some (.slice e)) (hz : (P.info? e).bind (·.zero) = some (.int .u8 0)) (g off n c : Nat) (p : List Int) (hg : Blk W e g p) (hfit : off + n ≤ p.length) :
    ∃ w', (Builtin.clear_ #[t] ty #[.slice (some ⟨g, off, none⟩) n c]).run P W = .ok (.tuple #[]) w' ∧ Blk w' e g (p.take off ++ (List.replicate n 0 ++ p.drop (off + n))) ∧ W.grownBy w' (some g) := by
  obtain ⟨i, hi, hz1⟩ := Option.bind_eq_some_iff.mp hz
  rcases Nat.eq_zero_or_pos n with h0 | h0
  · subst h0
    refine ⟨W, by simp [Builtin.clear_, run_underlying ht], ?_, grown_refl _ _⟩
    rw [List.replicate_zero, List.nil_append, Nat.add_zero, List.take_append_drop]
    exact hg
  · have hst := run_storeCells_at P g off e (List.replicate n (Value.int .u8 0)) 0 _ W hg (by simp [nums]; omega) (by
      intro v hv
      rw [List.eq_of_mem_replicate hv]
      rfl)
    have hzc : (Builtin.zeroCells (Value.int .u8 0).cells n).toList = List.replicate n (Value.int .u8 0) := by
      have e1 : (Value.int .u8 0).cells = #[Value.int .u8 0] := rfl
      rw [e1]
      apply List.ext_getElem
      · simp [Builtin.zeroCells]
      · intro j h1 h2
        simp [Builtin.zeroCells, Nat.mod_one]
    have hv : (zeroValue e).run P W = .ok (.int .u8 0) W := by simp [zeroValue, typeInfo, hi, hz1]
    obtain ⟨m, rfl⟩ : ∃ m, n = m + 1 := ⟨n - 1, by omega⟩
    have hrun : (Builtin.clear_ #[t] ty #[.slice (some ⟨g, off, none⟩) (m + 1) c]).run P W = .ok (.tuple #[]) (W.setRow g ((nums .u8 p).toArray.toList.take (off + 0) ++ List.replicate (m + 1) (Value.int .u8 0) ++ (nums .u8 p).toArray.toList.drop (off + 0 + (List.replicate (m + 1) (Value.int .u8 0)).length)).toArray) := by
      simp only [Builtin.clear_]
      simp [run_underlying ht, hv, hzc]
      rw [hst]
      simp
    refine ⟨_, hrun, ?_, ⟨rfl, rfl, rfl, by simp [World.setRow], fun k hk hne => setRow_other W g k _ (fun e => hne (by rw [e]))⟩⟩
    unfold Blk
    rw [setRow_heap W g _ _ e _ hg]
    congr 2
    simp [nums, List.map_take, List.map_drop]
theorem wl_clear (hgd : o.guard = none) (x : Operand) (t e : TypeId) (ho : o.op = .call { callee := .builtin .clear, args := #[x], argTypes := #[t] })
    (ht : P.underlying t = some (.slice e)) (hz : (P.info? e).bind (·.zero) = some (.int .u8 0)) (g off n c : Nat) (p : List Int) (hx : a.eval x = .slice (some ⟨g, off, none⟩) n c) (hg : Blk W e g p) (hfit : off + n ≤ p.length)
    (h : ∀ w', Blk w' e g (p.take off ++ (List.replicate n 0 ++ p.drop (off + n))) → W.grownBy w' (some g) → wpList P ops Q rest (a.put o.dst (.tuple #[])) w') : wpList P ops Q (o :: rest) a W := by
  obtain ⟨w', hrun, h1, h2⟩ := run_clear_bytes (P := P) (W := W) t o.type e ht hz g off n c p hg hfit
  refine wpList_plain hgd fun K hK => ?_
  unfold Oper.wp
  simp [execOp, ho, resolve, invoke, builtin, hx, hrun, Result.andThen]
  exact hK _ _ (h w' h1 h2)
/-- append of bytes onto a fresh row that has just room for them, as one step of a region that draws its order. -/
theorem st_clone {K : Act → World → Prop} {E : Prop} (hgd : o.guard = none) (s x : Operand) (t e : TypeId) (ho : o.op = .call { callee := .builtin .append, args := #[s, x], argTypes := #[t, t] })
    (ht : P.underlying t = some (.slice e)) (hinfo : (P.info? e).map (fun i => (i.zero, i.size, i.bytes)) = some (some (.int .u8 0), 1, 1))
    (g n c : Nat) (ad : Addr) (b : List Int) (hs : a.eval s = .slice (some ⟨g, 0, none⟩) 0 n) (hx : a.eval x = .slice (some ad) n c)
    (hgn : W.heap[g]? = some (.cells (madeCells #[.int .u8 0] n) e (0, 0))) (HR : Kd.C (Kd.int .u8) W (some ad) n b) (hn : n ≤ 140737488355328)
    (hK : ∀ w', Blk w' e g b → W.grownBy w' (some g) → K (a.put o.dst (.slice (some ⟨g, 0, none⟩) n n)) w') :
    if Region.wanted o (yielded ops a.tmps) = true then Oper.wp P o a W K Q else E := by
  obtain ⟨i0, hi, hzz⟩ := Option.map_eq_some_iff.1 hinfo
  simp only [Prod.mk.injEq] at hzz
  obtain ⟨hz0, hz1, hz2⟩ := hzz
  have hr := rb_reads HR
  have hown : W.ownsRow 0 e 1 (.slice (some ⟨g, 0, none⟩) 0 n) 0 [] := ⟨by simp, .inr ⟨g, n, _, rfl, Nat.zero_le _, hgn, Nat.zero_le _, by unfold maxLen; omega, by simp [size_madeCells], by simp⟩⟩
  obtain ⟨w', hrun, r1, r2⟩ := run_append_fits (P := P) W 0 t o.type e i0 1 ht hi hz1 g 0 n [] hown ad n c (nums .u8 b) (by simp [nums]; exact hr.1) (by
    intro j u hu
    have hj : j < b.length := by
      have := (List.getElem?_eq_some_iff.1 hu).1
      simpa [nums] using this
    obtain ⟨ad', e2, hcell⟩ := hr.2.2 (by have := hr.1; omega)
    obtain rfl := Option.some.inj e2
    rw [hcell j (by have := hr.1; omega)]
    simp only [nums, List.getElem?_map, List.getElem?_eq_getElem hj, Option.map_some, Option.some.injEq] at hu
    rw [← hu, List.getD_eq_getElem?_getD, List.getElem?_eq_getElem hj]
    rfl) (by
    intro u hu
    simp only [nums, List.mem_map] at hu
    obtain ⟨x, _, rfl⟩ := hu
    rfl) (by omega)
  have hw : Region.wanted o (yielded ops a.tmps) = true := by simp [Region.wanted, hgd]
  rw [Nat.zero_add, List.nil_append] at r1
  rw [Nat.zero_add] at hrun
  rw [if_pos hw]
  unfold Oper.wp
  simp [execOp, ho, resolve, invoke, builtin, hs, hx, hrun, Result.andThen]
  exact hK w' (blk_of_own r1 rfl) r2
end
end Go.Proofs.Ytpogneedafoiaaa.Bw
