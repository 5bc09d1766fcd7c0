/- Contracts by hand: frames one behind the other, both ways. -/
import Derived.Test.YtppdblikbdibmaaDoorWiC
namespace Go.Proofs.YtppdblikbdibmaaDoor.Wi
open Go.RowKit Go.Proofs.YtppdblikbdibmaaDoorW.PrintWords Go.Proofs.YtppdblikbdibmaaDoorW.PrintLast Go.Proofs.YtppdblikbdibmaaDoorW.PrintMore Go.Proofs.YtppdblikbdibmaaDoor.Bw Go.Proofs.YtppdblikbdibmaaDoor.Crc Go.Proofs.YtppdblikbdibmaaDoor.Wordy
set_option linter.unusedVariables false
set_option linter.unusedSimpArgs false

/-- how many frames, how many bytes are left, why -/
def splitF : Nat → List Int → Nat × Nat × Int
  | 0, l => (0, l.length, 0)
  | f + 1, l => if l.length = 0 then (0, 0, 0) else if (headP l).2 ≠ 0 then (0, l.length, (headP l).2) else ((splitF f (l.drop (headP l).1)).1 + 1, (splitF f (l.drop (headP l).1)).2)
def splitP (l : List Int) : Nat × Nat × Int := splitF (l.length + 1) l
theorem headP_ok {l : List Int} (h : (headP l).2 = 0) : 8 ≤ (headP l).1 ∧ (headP l).1 ≤ l.length ∧ (headP l).1 ≤ 12008 := by
  unfold headP at h ⊢
  split at h
  · simp at h
  split at h
  · simp at h
  split at h
  · simp at h
  split at h
  · simp at h
  split at h
  · simp at h
  rename_i h1 h2 h3 h4 h5
  rw [if_neg h1, if_neg h2, if_neg h3, if_neg h4, if_neg h5]
  show 8 ≤ sizeH l + 8 ∧ sizeH l + 8 ≤ l.length ∧ sizeH l + 8 ≤ 12008
  omega
theorem headP_codes (l : List Int) : (headP l).2 = 0 ∨ (headP l).2 = 4 ∨ (headP l).2 = 17 ∨ (headP l).2 = 2 ∨ (headP l).2 = 8 := by
  unfold headP
  split
  · exact .inr (.inl rfl)
  split
  · exact .inr (.inr (.inl rfl))
  split
  · exact .inr (.inr (.inr (.inl rfl)))
  split
  · exact .inr (.inr (.inl rfl))
  split
  · exact .inr (.inr (.inr (.inr rfl)))
  · exact .inl rfl
theorem splitF_step {f : Nat} {l : List Int} (h0 : l.length ≠ 0) (h : (headP l).2 = 0) : splitF (f + 1) l = ((splitF f (l.drop (headP l).1)).1 + 1, (splitF f (l.drop (headP l).1)).2) := by
  rw [splitF, if_neg h0, if_neg (fun e => e h)]
theorem splitF_end {f : Nat} {l : List Int} (h0 : l.length ≠ 0) (h : (headP l).2 ≠ 0) : splitF (f + 1) l = (0, l.length, (headP l).2) := by
  rw [splitF, if_neg h0, if_pos h]
theorem splitF_nil {f : Nat} {l : List Int} (h0 : l.length = 0) : splitF (f + 1) l = (0, 0, 0) := by
  rw [splitF, if_pos h0]
theorem rb_rest {w : World} {ad : Addr} {l : List Int} {c n : Nat} (h : Kd.C (Kd.int .u8) w (some ad) l.length l) (hn : n ≤ l.length) (hc : l.length ≤ c) : Kd.C (Kd.int .u8) w (if c = n then some ad else some (ad.add n)) (l.length - n) (l.drop n) := by
  by_cases e : c = n
  · have h1 : l.drop n = [] := List.drop_eq_nil_of_le (by omega)
    rw [h1, show l.length - n = 0 by omega]
    exact rb_zero _ _
  · rw [if_neg e]
    have := rb_cut h n (l.length - n) (by omega)
    rw [List.take_of_length_le (by rw [List.length_drop]; exact Nat.le_refl _)] at this
    exact this
def SplitAns (l : List Int) (w : World) (e : Ending) (w' : World) : Prop := e = .returned (.tuple #[.int .i64 (splitP l).1, .int .i64 (splitP l).2.1, .int .i64 (splitP l).2.2]) ∧ Drawn0 w w'
theorem split_is {l : List Int} {w w' : World} {k r : Nat} {e : Int} (h : splitP l = (k, r, e)) (hd : Drawn0 w w') : SplitAns l w (.returned (.tuple #[.int .i64 (k : Int), .int .i64 (r : Int), .int .i64 e])) w' := ⟨by rw [h], hd⟩
/-- what is left of the bytes, behind k frames -/
def Left (l : List Int) (d k : Nat) (l' : List Int) : Prop := splitP l = (k + (splitF d l').1, (splitF d l').2) ∧ l'.length < d ∧ octs l' ∧ l'.length ≤ l.length ∧ k + l'.length ≤ l.length
theorem left_step {l l' : List Int} {d k : Nat} (h : Left l d k l') (h0 : l'.length ≠ 0) (hh : (headP l').2 = 0) : Left l (d - 1) (k + 1) (l'.drop (headP l').1) := by
  obtain ⟨h1, h2, h3, h4, h6⟩ := h
  have h5 := headP_ok hh
  obtain ⟨f, rfl⟩ : ∃ f, d = f + 1 := ⟨d - 1, by omega⟩
  refine ⟨?_, by rw [List.length_drop]; omega, octs_drop h3 _, by rw [List.length_drop]; omega, by rw [List.length_drop]; omega⟩
  rw [h1, splitF_step h0 hh, Nat.add_sub_cancel]
  show (k + (_ + 1), _) = _
  congr 1
  omega
theorem left_end {l l' : List Int} {d k : Nat} (h : Left l d k l') (h0 : l'.length ≠ 0) (hh : (headP l').2 ≠ 0) : splitP l = (k, l'.length, (headP l').2) := by
  obtain ⟨h1, h2, h3, h4, h6⟩ := h
  obtain ⟨f, rfl⟩ : ∃ f, d = f + 1 := ⟨d - 1, by omega⟩
  rw [h1, splitF_end h0 hh]
  rfl
theorem left_nil {l l' : List Int} {d k : Nat} (h : Left l d k l') (h0 : l'.length = 0) : splitP l = (k, 0, 0) := by
  obtain ⟨h1, h2, h3, h4, h6⟩ := h
  obtain ⟨f, rfl⟩ : ∃ f, d = f + 1 := ⟨d - 1, by omega⟩
  rw [h1, splitF_nil h0]
  rfl
set_option maxRecDepth 100000 in
set_option maxHeartbeats 4000000 in
theorem split_calls (A : Option Addr) (c : Nat) (l : List Int) (w : World) (hr : Kd.C (Kd.int .u8) w A l.length l) (hc : l.length ≤ c) (ho : octs l) (hl : l.length ≤ 140737488351232) :
    Calls Tryd.prog 18 #[.slice A l.length c] w (SplitAns l w) := by
  have HR := Aside0.mk hr
  have HO := Aside0.mk ho
  clear hr ho
  go_enter Tryd.func18, Tryd.ntmps18
  go_wp2_with fail
  go_loopg [0, 2] (l.length + 1) (fun d v0 v2 ws => ∃ (k : Nat) (A' : Option Addr) (c' : Nat) (l' : List Int), v0 = .slice A' l'.length c' ∧ v2 = .int .i64 k ∧ Aside0 (Left l d k l') ∧ Aside0 (Kd.C (Kd.int .u8) ws A' l'.length l') ∧ Aside0 (l'.length ≤ c') ∧ Aside0 (Drawn0 w ws))
  case atStart => exact ⟨0, A, c, l, rfl, rfl, ⟨by unfold splitP; rw [Nat.zero_add], Nat.lt_succ_self _, HO.out, Nat.le_refl _, by omega⟩, HR, ⟨hc⟩, ⟨Drawn0.refl _⟩⟩
  case round =>
    obtain ⟨k, A', c', l', rfl, rfl, HL, HR', HC', HD⟩ := hrel
    have hll := HL.out.2.2.2.1
    have hkl := HL.out.2.2.2.2
    by_cases h0 : l'.length = 0
    · have q1 : decide (0 < l'.length) = false := decide_eq_false (by omega)
      have H0 := Aside0.mk (left_nil HL.out h0)
      clear h0
      go_wp2_with fail
      go_ret3
      exact split_is H0.out HD.out
    · have q1 : decide (0 < l'.length) = true := decide_eq_true (by omega)
      have q1' : 0 < l'.length := by omega
      have H0 := Aside0.mk h0
      clear h0
      go_wp2_with fail
      refine (frame_calls A' c' l' _ HR'.out HC'.out HL.out.2.2.1 (by omega)).mono ?_
      rintro e w2 ⟨A2, rfl, hr2, hd2⟩
      obtain ⟨m, hm⟩ : ∃ m, (bodyH l').length = m := ⟨_, rfl⟩
      obtain ⟨n, hn⟩ : ∃ n, (headP l').1 = n := ⟨_, rfl⟩
      obtain ⟨e, he⟩ : ∃ e, (headP l').2 = e := ⟨_, rfl⟩
      rw [hm, hn, he]
      have HE := Aside0.mk he
      have HN := Aside0.mk hn
      have HR2 := Aside0.mk (rb_drawn HR'.out hd2)
      have HD2 := Aside0.mk (drawn_trans HD.out hd2)
      clear hr2 hd2 hm he hn
      by_cases hz : e = 0
      · subst hz
        have hok := headP_ok HE.out
        rw [HN.out] at hok
        have hcl := HC'.out
        have t1 : (0 : Int) ≤ (n : Int) := by omega
        have t2 : (n : Int) ≤ (l'.length : Int) := by omega
        have t3 : n ≤ l'.length := by omega
        have t4 : IntKind.i64.wrap ((k : Int) + 1) = (k : Int) + 1 := IntWalk.i64_in _ (by omega)
        obtain ⟨ad, rfl⟩ := rb_some HR2.out q1'
        have hrr := rb_rest (c := c') HR2.out t3 hcl
        have HLS := Aside0.mk (left_step HL.out H0.out HE.out)
        rw [HN.out] at HLS
        by_cases hcn : c' = n
        · rw [if_pos hcn] at hrr
          clear hrr
          have hnil : l'.drop n = [] := List.drop_eq_nil_of_le (by omega)
          rw [hnil] at HLS
          clear hnil
          subst hcn
          go_wp2_with fail
          go_quiet (fail)
          go_wp2_with fail
          go_roundg (gk - 1)
          case measure => have := HL.out.2.1; omega
          case rel => exact ⟨k + 1, _, _, [], rfl, by go_num, HLS, ⟨rb_zero _ _⟩, ⟨Nat.zero_le _⟩, ⟨HD2.out.step _⟩⟩
        · rw [if_neg hcn] at hrr
          have HRR := Aside0.mk hrr
          clear hrr
          go_wp2_with fail
          go_quiet (fail)
          go_wp2_with fail
          go_roundg (gk - 1)
          case measure => have := HL.out.2.1; omega
          case rel => exact ⟨k + 1, _, _, l'.drop n, by rw [List.length_drop], by go_num, HLS, ⟨by rw [List.length_drop]; exact HRR.out⟩, ⟨by rw [List.length_drop]; omega⟩, ⟨HD2.out.step _⟩⟩
      · have q2 : (e != 0) = true := by simpa using hz
        have HZ := Aside0.mk (left_end HL.out H0.out (by rw [HE.out]; exact hz))
        rw [HE.out] at HZ
        clear hz
        go_wp2_with fail
        go_ret3
        exact split_is HZ.out HD2.out
set_option maxRecDepth 100000 in
set_option maxHeartbeats 4000000 in
theorem rsplit_calls (A : Option Addr) (c : Nat) (l : List Int) (w : World) (hr : Kd.C (Kd.int .u8) w A l.length l) (hc : l.length ≤ c) (ho : octs l) (hl : l.length ≤ 140737488351232) :
    Calls Tryd.prog 19 #[.slice A l.length c] w (SplitAns l w) := by
  have HR := Aside0.mk hr
  have HO := Aside0.mk ho
  clear hr ho
  go_enter Tryd.func19, Tryd.ntmps19
  go_wp2_with fail
  go_loopg [0, 5] (l.length + 1) (fun d v0 v5 ws => ∃ (k : Nat) (A' : Option Addr) (c' : Nat) (l' : List Int), v0 = .slice A' l'.length c' ∧ v5 = .int .i64 k ∧ Aside0 (Left l d k l') ∧ Aside0 (Kd.C (Kd.int .u8) ws A' l'.length l') ∧ Aside0 (l'.length ≤ c') ∧ Aside0 (Drawn0 w ws))
  case atStart => exact ⟨0, A, c, l, rfl, rfl, ⟨by unfold splitP; rw [Nat.zero_add], Nat.lt_succ_self _, HO.out, Nat.le_refl _, by omega⟩, HR, ⟨hc⟩, ⟨Drawn0.refl _⟩⟩
  case round =>
    obtain ⟨k, A', c', l', rfl, rfl, HL, HR', HC', HD⟩ := hrel
    have hll := HL.out.2.2.2.1
    have hkl := HL.out.2.2.2.2
    by_cases h0 : l'.length = 0
    · have q1 : decide (0 < l'.length) = false := decide_eq_false (by omega)
      have H0 := Aside0.mk (left_nil HL.out h0)
      clear h0
      go_wp2_with fail
      go_ret3
      exact split_is H0.out HD.out
    · have q1 : decide (0 < l'.length) = true := decide_eq_true (by omega)
      have q1' : 0 < l'.length := by omega
      have H0 := Aside0.mk h0
      clear h0
      go_wp2_with fail
      refine (head_calls A' c' l' _ HR'.out HC'.out HL.out.2.2.1 (by omega)).mono ?_
      rintro e w2 ⟨rfl, hd2⟩
      obtain ⟨n, hn⟩ : ∃ n, (headP l').1 = n := ⟨_, rfl⟩
      obtain ⟨e, he⟩ : ∃ e, (headP l').2 = e := ⟨_, rfl⟩
      rw [hn, he]
      have HE := Aside0.mk he
      have HN := Aside0.mk hn
      have HR2 := Aside0.mk (rb_drawn HR'.out hd2)
      have HD2 := Aside0.mk (drawn_trans HD.out hd2)
      clear hd2 he hn
      by_cases hz : e = 0
      · subst hz
        have hok := headP_ok HE.out
        rw [HN.out] at hok
        have hcl := HC'.out
        have t1 : (0 : Int) ≤ (n : Int) := by omega
        have t2 : (n : Int) ≤ (l'.length : Int) := by omega
        have t3 : n ≤ l'.length := by omega
        have t4 : IntKind.i64.wrap ((k : Int) + 1) = (k : Int) + 1 := IntWalk.i64_in _ (by omega)
        obtain ⟨ad, rfl⟩ := rb_some HR2.out q1'
        have hrr := rb_rest (c := c') HR2.out t3 hcl
        have HLS := Aside0.mk (left_step HL.out H0.out HE.out)
        rw [HN.out] at HLS
        by_cases hcn : c' = n
        · rw [if_pos hcn] at hrr
          clear hrr
          have hnil : l'.drop n = [] := List.drop_eq_nil_of_le (by omega)
          rw [hnil] at HLS
          clear hnil
          subst hcn
          go_wp2_with fail
          go_roundg (gk - 1)
          case measure => have := HL.out.2.1; omega
          case rel => exact ⟨k + 1, _, _, [], rfl, by go_num, HLS, ⟨rb_zero _ _⟩, ⟨Nat.zero_le _⟩, HD2⟩
        · rw [if_neg hcn] at hrr
          have HRR := Aside0.mk hrr
          clear hrr
          go_wp2_with fail
          go_roundg (gk - 1)
          case measure => have := HL.out.2.1; omega
          case rel => exact ⟨k + 1, _, _, l'.drop n, by rw [List.length_drop], by go_num, HLS, ⟨by rw [List.length_drop]; exact HRR.out⟩, ⟨by rw [List.length_drop]; omega⟩, HD2⟩
      · have q2 : (e != 0) = true := by simpa using hz
        have HZ := Aside0.mk (left_end HL.out H0.out (by rw [HE.out]; exact hz))
        rw [HE.out] at HZ
        clear hz
        go_wp2_with fail
        go_ret3
        exact split_is HZ.out HD2.out
end Go.Proofs.YtppdblikbdibmaaDoor.Wi
