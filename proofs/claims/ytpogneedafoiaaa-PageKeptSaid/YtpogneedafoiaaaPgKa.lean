/- Rows of rows of bytes, each in a block of its own: written, grown, put one behind the other. -/
import Derived.Test.YtpogneedafoiaaaPgLi
import Derived.Test.YtpogneedafoiaaaPgU
namespace Go.Proofs.Ytpogneedafoiaaa.Pg
open Go.RowKit Go.Proofs.YtpogneedafoiaaaW.PrintWords Go.Proofs.YtpogneedafoiaaaW.PrintLast Go.Proofs.YtpogneedafoiaaaW.PrintMore Go.Proofs.Ytpogneedafoiaaa.Bw Go.Proofs.Ytpogneedafoiaaa.Crc Go.Proofs.Ytpogneedafoiaaa.Wordy
set_option linter.unusedVariables false
set_option linter.unusedSimpArgs false

/-- a slice's three parts -/
abbrev SV := Option Addr × Nat × Nat
def encS (s : SV) : Value := .slice s.1 s.2.1 s.2.2
theorem encS_one (s : SV) : (encS s).oneCell' = true := rfl
def dS : SV := (none, 0, 0)
/-- bytes of one's own -/
abbrev Rb1 (W : World) (B : Nat) (s : SV) (L : List Int) : Prop := Kd.R (Kd.int .u8) 5 W B (fun _ => True) (encS s) L
/-- a row of slices of one's own -/
abbrev Rs (W : World) (B : Nat) (v : Value) (vs : List SV) : Prop := Kd.R (Kd.scalar encS encS_one) 22 W B (fun _ => True) v vs
theorem rb_keep {W W1 : World} {B : Nat} {s : SV} {L : List Int} (h : Rb1 W B s L) (hm : ∀ k, (encS s).ownBlock = some k → W1.heap[k]? = W.heap[k]?) : Rb1 W1 B s L :=
  Kd.R_mono (Kd.R_move (Kd.R_tight rfl h) (fun k hk => hm k hk.symm)) (fun _ _ => trivial)
theorem rs_keep {W W1 : World} {B : Nat} {v : Value} {vs : List SV} (h : Rs W B v vs) (hm : ∀ k, v.ownBlock = some k → W1.heap[k]? = W.heap[k]?) : Rs W1 B v vs :=
  Kd.R_mono (Kd.R_move (Kd.R_tight rfl h) (fun k hk => hm k hk.symm)) (fun _ _ => trivial)
theorem rb_lt1 {W : World} {B : Nat} {s : SV} {L : List Int} (h : Rb1 W B s L) {k : Nat} (hk : (encS s).ownBlock = some k) : k < W.heap.size := Kd.R_lt h k hk
theorem rb_typed {W : World} {B : Nat} {s : SV} {L : List Int} (h : Rb1 W B s L) {k : Nat} (hk : (encS s).ownBlock = some k) : ∃ cells, W.heap[k]? = some (.cells cells 5 (0, 0)) := Kd.R_typed h k hk
theorem rs_typed {W : World} {B : Nat} {v : Value} {vs : List SV} (h : Rs W B v vs) {k : Nat} (hk : v.ownBlock = some k) : ∃ cells, W.heap[k]? = some (.cells cells 22 (0, 0)) := Kd.R_typed h k hk
/-- rows of bytes, no two of which share a block -/
structure Rows2 (W : World) (B : Nat) (vs : List SV) (Ls : List (List Int)) : Prop where
  len : vs.length = Ls.length
  apart : ∀ i j k, i ≠ j → (encS (vs.getD i dS)).ownBlock = some k → (encS (vs.getD j dS)).ownBlock ≠ some k
  own : ∀ i, i < Ls.length → Rb1 W B (vs.getD i dS) (Ls.getD i [])
theorem dS_none (k : Nat) : (encS dS).ownBlock ≠ some k := by simp [encS, dS, Value.ownBlock]
theorem getD_lt {vs : List SV} {i k : Nat} (h : (encS (vs.getD i dS)).ownBlock = some k) : i < vs.length := by
  rcases Nat.lt_or_ge i vs.length with h1 | h1
  · exact h1
  · rw [List.getD_eq_getElem?_getD, List.getElem?_eq_none h1] at h
    exact absurd h (dS_none k)
theorem Rows2.lt {W : World} {B : Nat} {vs : List SV} {Ls : List (List Int)} (h : Rows2 W B vs Ls) {i k : Nat} (hk : (encS (vs.getD i dS)).ownBlock = some k) : k < W.heap.size := by
  have := getD_lt hk
  exact rb_lt1 (h.own i (by rw [← h.len]; exact this)) hk
theorem Rows2.move {W W1 : World} {B : Nat} {vs : List SV} {Ls : List (List Int)} (h : Rows2 W B vs Ls) (hm : ∀ i k, (encS (vs.getD i dS)).ownBlock = some k → W1.heap[k]? = W.heap[k]?) : Rows2 W1 B vs Ls :=
  ⟨h.len, h.apart, fun i hi => rb_keep (h.own i hi) (hm i)⟩
theorem Rows2.below {W W1 : World} {B : Nat} {vs : List SV} {Ls : List (List Int)} (h : Rows2 W B vs Ls) (hb : Below W.heap.size W W1) : Rows2 W1 B vs Ls :=
  h.move (fun i k hk => hb.block k (h.lt hk))
/-- another row, of other elements, is written -/
theorem Rows2.other {W W1 : World} {B g t : Nat} {cells : Array Value} {vs : List SV} {Ls : List (List Int)} (h : Rows2 W B vs Ls) (hg : W.grownBy W1 (some g)) (hc : W.heap[g]? = some (.cells cells t (0, 0))) (ht : t ≠ 5) : Rows2 W1 B vs Ls :=
  h.move (fun i k hk => hg.block k (h.lt hk) (by
    rintro e
    obtain rfl := Option.some.inj e
    have hi := getD_lt hk
    obtain ⟨cs, hcs⟩ := rb_typed (h.own i (by rw [← h.len]; exact hi)) hk
    rw [hc] at hcs
    injection hcs with hcs
    injection hcs with _ hcs
    exact ht hcs))
theorem rs_other {W W1 : World} {B : Nat} {v : Value} {vs : List SV} {row : Option Nat} (h : Rs W B v vs) (hg : W.grownBy W1 row) (ht : ∀ k, row = some k → ∃ cells, W.heap[k]? = some (.cells cells 5 (0, 0))) : Rs W1 B v vs :=
  rs_keep h (fun k hk => hg.block k (Kd.R_lt h k hk) (by
    rintro rfl
    obtain ⟨cs, hcs⟩ := ht k rfl
    obtain ⟨cs2, hcs2⟩ := rs_typed h hk
    rw [hcs] at hcs2
    injection hcs2 with hcs2
    injection hcs2 with _ hcs2
    exact absurd hcs2 (by decide)))
theorem getD_setL {α : Type} (l : List α) (n i : Nat) (x d : α) (hn : n < l.length) : (l.set n x).getD i d = if i = n then x else l.getD i d := by
  rw [List.getD_eq_getElem?_getD, List.getD_eq_getElem?_getD, List.getElem?_set]
  by_cases h : n = i
  · subst h; rw [if_pos rfl, if_pos rfl, if_pos hn]; rfl
  · rw [if_neg h, if_neg (fun e => h e.symm)]
/-- one of the rows is written, or laid anew in a new block -/
theorem Rows2.write {W W1 : World} {B n : Nat} {vs : List SV} {Ls : List (List Int)} (h : Rows2 W B vs Ls) (hn : n < Ls.length) (hg : W.grownBy W1 (encS (vs.getD n dS)).ownBlock) {s : SV} {L : List Int} (ho : Rb1 W1 B s L)
    (hat : (encS s).ownBlock = (encS (vs.getD n dS)).ownBlock ∨ ∃ b, (encS s).ownBlock = some b ∧ W.heap.size ≤ b) : Rows2 W1 B (vs.set n s) (Ls.set n L) := by
  have hnv : n < vs.length := by rw [h.len]; exact hn
  have far : ∀ i k, i ≠ n → (encS (vs.getD i dS)).ownBlock = some k → (encS s).ownBlock ≠ some k := by
    intro i k hi hk hs
    rcases hat with e | ⟨b, e, hb⟩
    · rw [e] at hs
      exact h.apart i n k hi hk hs
    · rw [e] at hs
      obtain rfl := Option.some.inj hs
      have := h.lt hk
      omega
  refine ⟨by rw [List.length_set, List.length_set, h.len], fun i j k hij hi hj => ?_, fun i hi => ?_⟩
  · rw [getD_setL _ _ _ _ _ hnv] at hi hj
    by_cases h1 : i = n
    · rw [if_pos h1] at hi
      rw [if_neg (by omega)] at hj
      exact far j k (by omega) hj hi
    · rw [if_neg h1] at hi
      by_cases h2 : j = n
      · rw [if_pos h2] at hj
        exact far i k h1 hi hj
      · rw [if_neg h2] at hj
        exact h.apart i j k hij hi hj
  · rw [List.length_set] at hi
    rw [getD_setL _ _ _ _ _ hnv, getD_setL _ _ _ _ _ hn]
    by_cases h1 : i = n
    · rw [if_pos h1, if_pos h1]
      exact ho
    · rw [if_neg h1, if_neg h1]
      refine rb_keep (h.own i hi) (fun k hk => hg.block k (h.lt hk) (fun e => ?_))
      exact h.apart i n k h1 hk e.symm
/-- .. between two marks -/
structure RowsIn (W : World) (B lo hi : Nat) (vs : List SV) (Ls : List (List Int)) : Prop where
  rows : Rows2 W B vs Ls
  mark : ∀ i k, (encS (vs.getD i dS)).ownBlock = some k → lo ≤ k ∧ k < hi
theorem RowsIn.below {W W1 : World} {B lo hi : Nat} {vs : List SV} {Ls : List (List Int)} (h : RowsIn W B lo hi vs Ls) (hb : Below W.heap.size W W1) : RowsIn W1 B lo hi vs Ls := ⟨h.rows.below hb, h.mark⟩
theorem getD_appendL {α : Type} (a b : List α) (i : Nat) (d : α) : (a ++ b).getD i d = if i < a.length then a.getD i d else b.getD (i - a.length) d := by
  rw [List.getD_eq_getElem?_getD, List.getD_eq_getElem?_getD, List.getD_eq_getElem?_getD]
  by_cases h : i < a.length
  · rw [if_pos h, List.getElem?_append_left h]
  · rw [if_neg h, List.getElem?_append_right (by omega)]
theorem rows_append {W : World} {B : Nat} {vs ws : List SV} {Ls Ms : List (List Int)} (h : Rows2 W B vs Ls) (k : Rows2 W B ws Ms) (hx : ∀ i j m, (encS (vs.getD i dS)).ownBlock = some m → (encS (ws.getD j dS)).ownBlock ≠ some m) : Rows2 W B (vs ++ ws) (Ls ++ Ms) := by
  refine ⟨by rw [List.length_append, List.length_append, h.len, k.len], fun i j m hij hi hj => ?_, fun i hi => ?_⟩
  · rw [getD_appendL] at hi hj
    by_cases h1 : i < vs.length
    · rw [if_pos h1] at hi
      by_cases h2 : j < vs.length
      · rw [if_pos h2] at hj
        exact h.apart i j m hij hi hj
      · rw [if_neg h2] at hj
        exact hx i _ m hi hj
    · rw [if_neg h1] at hi
      by_cases h2 : j < vs.length
      · rw [if_pos h2] at hj
        exact hx j _ m hj hi
      · rw [if_neg h2] at hj
        exact k.apart _ _ m (by omega) hi hj
  · rw [getD_appendL, getD_appendL, h.len]
    by_cases h1 : i < Ls.length
    · rw [if_pos h1, if_pos h1]
      exact h.own i h1
    · rw [if_neg h1, if_neg h1]
      rw [List.length_append] at hi
      exact k.own _ (by omega)
theorem RowsIn.after {W : World} {B lo mid hi : Nat} {vs ws : List SV} {Ls Ms : List (List Int)} (h : RowsIn W B lo mid vs Ls) (k : RowsIn W B mid hi ws Ms) (h1 : lo ≤ mid) (h2 : mid ≤ hi) : RowsIn W B lo hi (vs ++ ws) (Ls ++ Ms) := by
  refine ⟨rows_append h.rows k.rows (fun i j m hi hj => ?_), fun i m hi => ?_⟩
  · have := h.mark i m hi
    have := k.mark j m hj
    omega
  · rw [getD_appendL] at hi
    split at hi
    · have := h.mark _ m hi; omega
    · have := k.mark _ m hi; omega
theorem RowsIn.ahead {W : World} {B lo mid hi : Nat} {vs ws : List SV} {Ls Ms : List (List Int)} (h : RowsIn W B lo mid vs Ls) (k : RowsIn W B mid hi ws Ms) (h1 : lo ≤ mid) (h2 : mid ≤ hi) : RowsIn W B lo hi (ws ++ vs) (Ms ++ Ls) := by
  refine ⟨rows_append k.rows h.rows (fun i j m hi hj => ?_), fun i m hi => ?_⟩
  · have := k.mark i m hi
    have := h.mark j m hj
    omega
  · rw [getD_appendL] at hi
    split at hi
    · have := k.mark _ m hi; omega
    · have := h.mark _ m hi; omega
theorem rb_nilS (W : World) (B : Nat) (n : Nat) : Rb1 W B dS [] := Kd.R_nil _ _ _ _ _
theorem rows_one {W : World} {B lo hi : Nat} {s : SV} {L : List Int} (h : Rb1 W B s L) (hm : ∀ k, (encS s).ownBlock = some k → lo ≤ k ∧ k < hi) : RowsIn W B lo hi [s] [L] := by
  refine ⟨⟨rfl, fun i j k hij hi hj => ?_, fun i hi => ?_⟩, fun i k hk => ?_⟩
  · have h1 := getD_lt hi
    have h2 := getD_lt hj
    simp at h1 h2
    omega
  · simp at hi
    subst hi
    exact h
  · have h1 := getD_lt hk
    simp at h1
    subst h1
    exact hm k hk
/-- an answer's bytes -/
theorem mine_rows {w w' : World} {B : Nat} {A : Option Addr} {r : List Int} (h : Mine w w' A r) (hB : B ≤ w.heap.size) (hl : r.length ≤ 140737488351232) : RowsIn w' B w.heap.size w'.heap.size [(A, r.length, r.length)] [r] := by
  rcases h with ⟨g, rfl, hg, hb⟩ | ⟨rfl, rfl⟩
  · refine rows_one ?_ (fun k hk => ?_)
    · exact R_of_blk (base := B) (ok := fun _ => True) hb (by omega) (by omega) trivial
    · have : g = k := by simpa [encS, Value.ownBlock] using hk
      subst this
      exact ⟨hg, hb.lt⟩
  · exact rows_one (Kd.R_nil _ _ _ _ _) (fun k hk => by simp [encS, Value.ownBlock] at hk)
end Go.Proofs.Ytpogneedafoiaaa.Pg
namespace Go.Proofs.Ytpogneedafoiaaa.Pg
open Go.RowKit Go.Proofs.YtpogneedafoiaaaW.PrintWords Go.Proofs.YtpogneedafoiaaaW.PrintLast Go.Proofs.YtpogneedafoiaaaW.PrintMore Go.Proofs.Ytpogneedafoiaaa.Bw Go.Proofs.Ytpogneedafoiaaa.Crc Go.Proofs.Ytpogneedafoiaaa.Wordy
set_option linter.unusedVariables false
set_option linter.unusedSimpArgs false
/-- a row of rows, no two in one block, by its slices' parts -/
theorem rows_of_S {W : World} {base : Nat} {v : Value} {xs : List (List Int)} (h : Kd.S (Kd.slice 5 (Kd.int .u8)) 22 W base (fun _ => True) v xs) :
    ∃ vs, Rs W base v vs ∧ RowsIn W base base W.heap.size vs xs := by
  obtain ⟨f, _, inner, ho, hr⟩ := h
  have hlen : inner.length = xs.length := by have := hr.1; simpa [Kd.tag, Kd.slice] using this
  have each : ∀ j, j < xs.length → ∃ s : SV, inner[j]? = some (encS s) ∧ Kd.R (Kd.int .u8) 5 W base (fun k => f k = j) (encS s) (xs.getD j []) := by
    intro j hj
    have hz : xs.zipIdx[j]? = some (xs[j], j) := by rw [List.getElem?_zipIdx, List.getElem?_eq_getElem hj, Nat.zero_add]; rfl
    have h2 := hr.2 j _ hz
    obtain ⟨u, hu, hR⟩ := h2
    have hsz : (Kd.tag f (Kd.slice 5 (Kd.int .u8))).sz = 1 := rfl
    rw [hsz, Nat.mul_one, List.drop_eq_getElem_cons (by omega), List.take_succ_cons, List.take_zero] at hu
    obtain ⟨A, c, eu⟩ := Kd.R_slice hR
    have e1 : inner[j]'(by omega) = u := by simpa using hu
    refine ⟨(A, (xs[j]).length, c), ?_, ?_⟩
    · rw [List.getElem?_eq_getElem (by omega), e1, eu]
      rfl
    · have e2 : xs.getD j [] = xs[j] := by rw [List.getD_eq_getElem?_getD, List.getElem?_eq_getElem hj]; rfl
      rw [e2]
      rw [eu] at hR
      exact Kd.R_mono hR (fun k hk => hk.2)
  obtain ⟨vs, hvl, hvs⟩ : ∃ vs : List SV, vs.length = xs.length ∧ ∀ j, j < xs.length → inner[j]? = some (encS (vs.getD j dS)) ∧ Kd.R (Kd.int .u8) 5 W base (fun k => f k = j) (encS (vs.getD j dS)) (xs.getD j []) := by
    classical
    refine ⟨(List.range xs.length).map (fun j => if h : j < xs.length then Classical.choose (each j h) else dS), by simp, fun j hj => ?_⟩
    have e : ((List.range xs.length).map (fun j => if h : j < xs.length then Classical.choose (each j h) else dS)).getD j dS = Classical.choose (each j hj) := by
      rw [List.getD_eq_getElem?_getD, List.getElem?_map, List.getElem?_range hj]
      simp [hj]
    rw [e]
    exact Classical.choose_spec (each j hj)
  have hin : inner = encs encS vs := by
    apply List.ext_getElem?
    intro j
    by_cases hj : j < xs.length
    · rw [(hvs j hj).1]
      simp only [encs, List.getElem?_map]
      rw [List.getD_eq_getElem?_getD, List.getElem?_eq_getElem (show j < vs.length by omega)]
      rfl
    · rw [List.getElem?_eq_none (by omega), List.getElem?_eq_none (by simp [encs]; omega)]
  refine ⟨vs, Kd.R_of_own (enc := encS) (h1 := encS_one) (xs := vs) (by rw [← hin, hvl]; simpa [Kd.tag, Kd.slice] using ho) (fun _ _ => trivial), ⟨⟨hvl, fun i j k hij hi hj => ?_, fun i hi => Kd.R_mono (hvs i hi).2 (fun _ _ => trivial)⟩, fun i k hk => ?_⟩⟩
  · have h1 := getD_lt hi
    have h2 := getD_lt hj
    have e1 := (hvs i (by omega)).2.1 k hi
    have e2 := (hvs j (by omega)).2.1 k hj
    omega
  · have h1 := getD_lt hk
    have h2 := (hvs i (by omega)).2
    exact ⟨Kd.R_base h2 k hk, Kd.R_lt h2 k hk⟩
end Go.Proofs.Ytpogneedafoiaaa.Pg
