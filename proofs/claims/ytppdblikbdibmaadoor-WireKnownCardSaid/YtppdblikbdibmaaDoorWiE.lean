/- Contracts by hand: the cursor: must, take, byte, word, count. -/
import Derived.Test.YtppdblikbdibmaaDoorWiD
import Derived.WalkSmall
import Derived.Defers
import Derived.Recover
namespace Go.Proofs.YtppdblikbdibmaaDoor.Wi
open Go.RowKit Go.Proofs.YtppdblikbdibmaaDoorW.PrintWords Go.Proofs.YtppdblikbdibmaaDoorW.PrintLast Go.Proofs.YtppdblikbdibmaaDoorW.PrintMore Go.Proofs.YtppdblikbdibmaaDoor.Bw Go.Proofs.YtppdblikbdibmaaDoor.Crc Go.Proofs.YtppdblikbdibmaaDoor.Wordy
set_option linter.unusedVariables false
set_option linter.unusedSimpArgs false

/-- the panic of a body that has not its form -/
def chain4 : List PanicEntry := [{ v := .iface 22 (.int .i64 4), recovered := false }]
theorem must_true (w : World) : Calls Tryd.prog 53 #[.bool true] w fun e w' => e = .returned (.tuple #[]) ∧ w = w' := by
  go_enter Tryd.func53, Tryd.ntmps53
  go_wp2_with fail
  go_end0
  exact ⟨rfl, rfl⟩
theorem must_false (w : World) : Calls Tryd.prog 53 #[.bool false] w fun e w' => e = .panicked chain4 ∧ w = w' := by
  go_enter Tryd.func53, Tryd.ntmps53
  go_wp2_with fail
  exact ⟨rfl, rfl, rfl⟩
/-- a cursor at p: its bytes lie in what was there when the call began -/
def Cur (w0 w : World) (p : Addr) (l : List Int) : Prop := ∃ A c, w.cell? p = some (.slice A l.length c) ∧ w.frozen? p = false ∧ l.length ≤ c ∧ Kd.C (Kd.int .u8) w0 A l.length l ∧ Below w0.heap.size w0 w ∧ w0.heap.size ≤ p.block ∧ l.length ≤ 140737488351232 ∧ octs l
theorem rb_take {w : World} {A : Option Addr} {l : List Int} (h : Kd.C (Kd.int .u8) w A l.length l) {n : Nat} (hn : n ≤ l.length) : Kd.C (Kd.int .u8) w A n (l.take n) := by
  rcases Nat.eq_zero_or_pos n with h0 | h0
  · subst h0
    rw [List.take_zero]
    exact rb_zero _ _
  · obtain ⟨ad, rfl⟩ := rb_some h (by omega)
    have := rb_cut h 0 n (by omega)
    rwa [List.drop_zero, show ad.add 0 = ad from by unfold Addr.add; simp] at this
theorem rb_restA {w : World} {A : Option Addr} {l : List Int} {c n : Nat} (h : Kd.C (Kd.int .u8) w A l.length l) (hn : n ≤ l.length) (hc : l.length ≤ c) : Kd.C (Kd.int .u8) w (if c = n then A else A.map (·.add n)) (l.length - n) (l.drop n) := by
  rcases Nat.eq_zero_or_pos l.length with h0 | h0
  · have h1 : l.drop n = [] := List.drop_eq_nil_of_le (by omega)
    rw [h1, show l.length - n = 0 by omega]
    exact rb_zero _ _
  · obtain ⟨ad, rfl⟩ := rb_some h h0
    exact rb_rest h hn hc
theorem cur_next {w0 w : World} {g : Nat} {l : List Int} {n c' : Nat} {A' : Option Addr} {v : Value} (hx : w.cell? ⟨g, 0, none⟩ = some v) (hf : w.frozen? ⟨g, 0, none⟩ = false) (hb : Below w0.heap.size w0 w) (hg : w0.heap.size ≤ g) (hl : l.length ≤ 140737488351232) (ho : octs l)
    (hr : Kd.C (Kd.int .u8) w0 A' (l.length - n) (l.drop n)) (hc : l.length - n ≤ c') : Cur w0 (w.setCell ⟨g, 0, none⟩ (.slice A' (l.length - n) c')) ⟨g, 0, none⟩ (l.drop n) := by
  refine ⟨A', c', ?_, ?_, by rw [List.length_drop]; exact hc, by rw [List.length_drop]; exact hr, hb.setCell hg _, hg, by rw [List.length_drop]; omega, octs_drop ho _⟩
  · rw [List.length_drop]
    exact World.cell?_setCell_same _ _ _ hx
  · rw [World.frozen?_setCell]
    exact hf
def TakeAns (w0 w : World) (p : Addr) (l : List Int) (n : Nat) (e : Ending) (w' : World) : Prop := ∃ A, e = .returned (.slice A n n) ∧ Kd.C (Kd.int .u8) w0 A n (l.take n) ∧ Cur w0 w' p (l.drop n) ∧ w.grownBy w' (some p.block)
set_option maxHeartbeats 4000000 in
theorem take_ok (w0 w : World) (g : Nat) (l : List Int) (n : Nat) (h : Cur w0 w ⟨g, 0, none⟩ l) (hn : n ≤ l.length) :
    Calls Tryd.prog 75 #[.pointer (some ⟨g, 0, none⟩), .int .i64 n] w (TakeAns w0 w ⟨g, 0, none⟩ l n) := by
  obtain ⟨A, c, hx, hf, hc, hr, hb, hg, hl, ho⟩ := h
  have HR := Aside0.mk hr
  have HO := Aside0.mk ho
  have HB := Aside0.mk hb
  clear hr ho hb
  have q1 : decide (n ≤ l.length) = true := decide_eq_true hn
  have t1 : n ≤ c := by omega
  obtain ⟨A2, hA2⟩ : ∃ A2, (if c = n then A else A.map (·.add n)) = A2 := ⟨_, rfl⟩
  have HA2 := Aside0.mk hA2
  clear hA2
  go_enter Tryd.func75, Tryd.ntmps75
  go_wp2_with fail
  refine (must_true _).mono ?_
  rintro e w1 ⟨rfl, rfl⟩
  by_cases hcn : c = n
  · have hA2 := HA2.out
    rw [if_pos hcn] at hA2
    have h2 := rb_restA HR.out hn hc
    rw [if_pos hcn] at h2
    have hcur := cur_next (c' := 0) hx hf HB.out hg hl HO.out h2 (by omega)
    rw [show l.length - n = 0 by omega] at hcur
    have H2 := Aside0.mk hcur
    clear h2 hA2 hcur
    subst hcn
    go_wp2_with fail
    go_ret
    exact ⟨A, rfl, rb_take HR.out hn, H2.out, grown_set _ _ _ _⟩
  · have h2 := rb_restA HR.out hn hc
    rw [if_neg hcn] at h2
    have H2 := Aside0.mk h2
    clear h2
    go_wp2_with fail
    go_ret
    exact ⟨A, rfl, rb_take HR.out hn, cur_next hx hf HB.out hg hl HO.out H2.out (by omega), grown_set _ _ _ _⟩
theorem cur_drawn {w0 w w' : World} {p : Addr} {l : List Int} (h : Cur w0 w p l) (hd : Drawn0 w w') : Cur w0 w' p l := by
  obtain ⟨k, rfl⟩ := hd.out
  obtain ⟨A, c, h1, h2, h3, h4, h5, h6⟩ := h
  exact ⟨A, c, h1, h2, h3, h4, pw_below_drewN h5 k, h6⟩
def Gives4 (w0 w : World) (g : Nat) (e : Ending) (w' : World) : Prop := e = .panicked chain4 ∧ Below w0.heap.size w0 w' ∧ w.grownBy w' (some g)
set_option maxHeartbeats 4000000 in
theorem take_no (w0 w : World) (g : Nat) (l : List Int) (n : Int) (h : Cur w0 w ⟨g, 0, none⟩ l) (hn : (l.length : Int) < n) :
    Calls Tryd.prog 75 #[.pointer (some ⟨g, 0, none⟩), .int .i64 n] w (Gives4 w0 w g) := by
  obtain ⟨A, c, hx, hf, hc, hr, hb, hg, hl, ho⟩ := h
  have HB := Aside0.mk hb
  clear hr ho hb
  have q1 : decide (n ≤ (l.length : Int)) = false := decide_eq_false (by omega)
  go_enter Tryd.func75, Tryd.ntmps75
  go_wp2_with fail
  refine (must_false _).mono ?_
  rintro e w1 ⟨rfl, rfl⟩
  go_wp2_with fail
  exact ⟨rfl, rfl, HB.out, grown_refl _ _⟩
def NumAns (w0 w : World) (g : Nat) (l : List Int) (n : Nat) (v : Value) (e : Ending) (w' : World) : Prop := e = .returned v ∧ Cur w0 w' ⟨g, 0, none⟩ (l.drop n) ∧ w.grownBy w' (some g)
set_option maxHeartbeats 4000000 in
theorem byte_ok (w0 w : World) (g : Nat) (l : List Int) (h : Cur w0 w ⟨g, 0, none⟩ l) (hn : 1 ≤ l.length) :
    Calls Tryd.prog 54 #[.pointer (some ⟨g, 0, none⟩)] w (NumAns w0 w g l 1 (.int .i64 (l.getD 0 0))) := by
  have HC := Aside0.mk h
  clear h
  go_enter Tryd.func54, Tryd.ntmps54
  go_wp2_with fail
  refine (take_ok w0 _ g l 1 HC.out hn).mono ?_
  rintro e w1 ⟨A, rfl, hr, hc, hg⟩
  have HC1 := Aside0.mk hc
  have HG1 := Aside0.mk hg
  obtain ⟨_, _, _, _, _, _, hb, _⟩ := hc
  obtain ⟨ad, e', hcell⟩ := (rb_reads (Kd.C_below hr hb)).2.2 (by decide)
  subst e'
  have hx := hcell 0 (by decide)
  rw [show ad.add 0 = ad from by unfold Addr.add; simp] at hx
  obtain ⟨x, hxe⟩ : ∃ x, l.getD 0 0 = x := ⟨_, rfl⟩
  have e1 : (l.take 1).getD 0 0 = x := by
    rw [← hxe, List.getD_eq_getElem?_getD, List.getD_eq_getElem?_getD, List.getElem?_take, if_pos (by decide)]
  rw [e1] at hx
  obtain ⟨_, _, _, _, _, _, _, _, _, ho⟩ := HC.out
  have hx0 := octs_getD ho 0
  rw [hxe] at hx0
  have hx1 : 0 ≤ x := hx0.1
  have hx2 : x ≤ 255 := by omega
  clear ho hx0
  have HXE := Aside0.mk hxe
  clear hr hg hcell e1 hxe hb
  go_wp2_with fail
  go_ret
  exact ⟨congrArg (fun z : Int => Ending.returned (Value.int .i64 z)) HXE.out.symm, HC1.out, HG1.out⟩
theorem byte_no (w0 w : World) (g : Nat) (l : List Int) (h : Cur w0 w ⟨g, 0, none⟩ l) (hn : l.length = 0) :
    Calls Tryd.prog 54 #[.pointer (some ⟨g, 0, none⟩)] w (Gives4 w0 w g) := by
  have HC := Aside0.mk h
  clear h
  have HN := Aside0.mk hn
  clear hn
  go_enter Tryd.func54, Tryd.ntmps54
  go_wp2_with fail
  refine (take_no w0 _ g l 1 HC.out (by have := HN.out; omega)).mono ?_
  rintro e w1 ⟨rfl, h1, h2⟩
  go_wp2_with fail
  exact ⟨rfl, rfl, h1, h2⟩
set_option maxHeartbeats 4000000 in
theorem word_ok (w0 w : World) (g : Nat) (l : List Int) (h : Cur w0 w ⟨g, 0, none⟩ l) (hn : 4 ≤ l.length) :
    Calls Tryd.prog 69 #[.pointer (some ⟨g, 0, none⟩)] w (NumAns w0 w g l 4 (.int .u32 (numAt l 0 4 : Nat))) := by
  have HC := Aside0.mk h
  clear h
  go_enter Tryd.func69, Tryd.ntmps69
  go_wp2_with fail
  refine (take_ok w0 _ g l 4 HC.out hn).mono ?_
  rintro e w1 ⟨A, rfl, hr, hc, hg⟩
  have HC1 := Aside0.mk hc
  have HG1 := Aside0.mk hg
  obtain ⟨_, _, _, _, _, _, hb, _⟩ := hc
  have HR1 := Aside0.mk (Kd.C_below hr hb)
  obtain ⟨_, _, _, _, _, _, _, _, _, ho⟩ := HC.out
  have hl4 : (l.take 4).length = 4 := by rw [List.length_take]; omega
  have HO := Aside0.mk ho
  clear hr hb hg ho
  go_wp2_with fail
  have h := word_calls A 4 (l.take 4) w1 (by rw [hl4]; exact HR1.out) (by rw [hl4]; decide) (octs_take HO.out _) (by rw [hl4]; decide)
  rw [hl4] at h
  refine h.mono ?_
  rintro e w2 ⟨rfl, hd⟩
  have e1 : num (l.take 4) = numAt l 0 4 := by unfold numAt; rw [List.drop_zero]
  rw [e1]
  obtain ⟨x, hx⟩ : ∃ x, numAt l 0 4 = x := ⟨_, rfl⟩
  have hxl : x < 4294967296 := by rw [← hx]; exact numAt4_lt HO.out _
  rw [hx]
  have hxw : IntKind.u32.wrap (x : Int) = (x : Int) := by rw [IntKind.wrap_u32]; omega
  have HD := Aside0.mk hd
  have HX := Aside0.mk hx
  clear hd h hl4 e1 hx
  go_wp2_with fail
  go_ret
  refine ⟨congrArg (fun z : Nat => Ending.returned (Value.int .u32 (z : Int))) HX.out.symm, cur_drawn HC1.out HD.out, ?_⟩
  obtain ⟨k, rfl⟩ := HD.out.out
  exact grown_drewN HG1.out k
end Go.Proofs.YtppdblikbdibmaaDoor.Wi
