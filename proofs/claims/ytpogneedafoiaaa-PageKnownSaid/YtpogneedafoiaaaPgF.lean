/- Contracts by hand: what a page that is no page gives; Compact. -/
import Derived.Test.YtpogneedafoiaaaPgE
namespace Go.Proofs.Ytpogneedafoiaaa.Pg
open Go.RowKit Go.Proofs.YtpogneedafoiaaaW.PrintWords Go.Proofs.YtpogneedafoiaaaW.PrintLast Go.Proofs.YtpogneedafoiaaaW.PrintMore Go.Proofs.Ytpogneedafoiaaa.Bw Go.Proofs.Ytpogneedafoiaaa.Crc Go.Proofs.Ytpogneedafoiaaa.Wordy
set_option linter.unusedVariables false
set_option linter.unusedSimpArgs false

set_option maxHeartbeats 2000000 in
theorem compact_bad (A : Option Addr) (c : Nat) (p : List Int) (w : World) (hr : Kd.C (Kd.int .u8) w A p.length p) (hc : p.length ≤ c) (ho : octs p) (hl : p.length ≤ 140737488351232) (hg : goodP p = false) :
    Calls Try.prog 12 #[.slice A p.length c] w fun e w' => e = .returned (.tuple #[.slice none 0 0, .int .i64 4]) ∧ Below w.heap.size w w' := by
  have HR := Aside0.mk hr
  have HO := Aside0.mk ho
  have HG := Aside0.mk hg
  clear hr ho hg
  go_enter Try.func12, Try.ntmps12
  go_wp2_with fail
  refine (copied_bad A c p _ HR.out hc HO.out hl HG.out).mono ?_
  rintro e w1 ⟨rfl, hb⟩
  have HB := Aside0.mk hb
  clear hb
  go_wp2
  go_ret2
  exact ⟨rfl, below_alloc HB.out _⟩
set_option maxHeartbeats 2000000 in
theorem seal_bad (A : Option Addr) (c : Nat) (p : List Int) (lsn : Int) (w : World) (hr : Kd.C (Kd.int .u8) w A p.length p) (hc : p.length ≤ c) (ho : octs p) (hl : p.length ≤ 140737488351232) (hg : goodP p = false) :
    Calls Try.prog 27 #[.slice A p.length c, .int .u64 lsn] w fun e w' => e = .returned (.tuple #[.slice none 0 0, .int .i64 4]) ∧ Below w.heap.size w w' := by
  have HR := Aside0.mk hr
  have HO := Aside0.mk ho
  have HG := Aside0.mk hg
  clear hr ho hg
  go_enter Try.func27, Try.ntmps27
  go_wp2_with fail
  refine (copied_bad A c p _ HR.out hc HO.out hl HG.out).mono ?_
  rintro e w1 ⟨rfl, hb⟩
  have HB := Aside0.mk hb
  clear hb
  go_wp2
  go_ret2
  exact ⟨rfl, below_alloc HB.out _⟩
set_option maxHeartbeats 2000000 in
theorem insert_bad (A : Option Addr) (c : Nat) (p : List Int) (i : Int) (v : Value) (w : World) (hr : Kd.C (Kd.int .u8) w A p.length p) (hc : p.length ≤ c) (ho : octs p) (hl : p.length ≤ 140737488351232) (hg : goodP p = false) :
    Calls Try.prog 17 #[.slice A p.length c, .int .i64 i, v] w fun e w' => e = .returned (.tuple #[.slice none 0 0, .int .i64 4]) ∧ Below w.heap.size w w' := by
  have HR := Aside0.mk hr
  have HO := Aside0.mk ho
  have HG := Aside0.mk hg
  clear hr ho hg
  go_enter Try.func17, Try.ntmps17
  go_wp2_with fail
  refine (copied_bad A c p _ HR.out hc HO.out hl HG.out).mono ?_
  rintro e w1 ⟨rfl, hb⟩
  have HB := Aside0.mk hb
  clear hb
  go_wp2
  go_ret2
  exact ⟨rfl, below_alloc HB.out _⟩
set_option maxHeartbeats 2000000 in
theorem remove_bad (A : Option Addr) (c : Nat) (p : List Int) (i : Int) (w : World) (hr : Kd.C (Kd.int .u8) w A p.length p) (hc : p.length ≤ c) (ho : octs p) (hl : p.length ≤ 140737488351232) (hg : goodP p = false) :
    Calls Try.prog 19 #[.slice A p.length c, .int .i64 i] w fun e w' => e = .returned (.tuple #[.slice none 0 0, .int .i64 4]) ∧ Below w.heap.size w w' := by
  have HR := Aside0.mk hr
  have HO := Aside0.mk ho
  have HG := Aside0.mk hg
  clear hr ho hg
  go_enter Try.func19, Try.ntmps19
  go_wp2_with fail
  refine (copied_bad A c p _ HR.out hc HO.out hl HG.out).mono ?_
  rintro e w1 ⟨rfl, hb⟩
  have HB := Aside0.mk hb
  clear hb
  go_wp2
  go_ret2
  exact ⟨rfl, below_alloc HB.out _⟩
set_option maxHeartbeats 2000000 in
theorem replace_bad (A : Option Addr) (c : Nat) (p : List Int) (i : Int) (v : Value) (w : World) (hr : Kd.C (Kd.int .u8) w A p.length p) (hc : p.length ≤ c) (ho : octs p) (hl : p.length ≤ 140737488351232) (hg : goodP p = false) :
    Calls Try.prog 20 #[.slice A p.length c, .int .i64 i, v] w fun e w' => e = .returned (.tuple #[.slice none 0 0, .int .i64 4]) ∧ Below w.heap.size w w' := by
  have HR := Aside0.mk hr
  have HO := Aside0.mk ho
  have HG := Aside0.mk hg
  clear hr ho hg
  go_enter Try.func20, Try.ntmps20
  go_wp2_with fail
  refine (copied_bad A c p _ HR.out hc HO.out hl HG.out).mono ?_
  rintro e w1 ⟨rfl, hb⟩
  have HB := Aside0.mk hb
  clear hb
  go_wp2
  go_ret2
  exact ⟨rfl, below_alloc HB.out _⟩
set_option maxHeartbeats 2000000 in
theorem set_bad (A : Option Addr) (c : Nat) (p : List Int) (x y : Int) (w : World) (hr : Kd.C (Kd.int .u8) w A p.length p) (hc : p.length ≤ c) (ho : octs p) (hl : p.length ≤ 140737488351232) (hg : goodP p = false) :
    Calls Try.prog 32 #[.slice A p.length c, .int .i64 x, .int .i64 y] w fun e w' => e = .returned (.tuple #[.slice none 0 0, .int .i64 4]) ∧ Below w.heap.size w w' := by
  have HR := Aside0.mk hr
  have HO := Aside0.mk ho
  have HG := Aside0.mk hg
  clear hr ho hg
  go_enter Try.func32, Try.ntmps32
  go_wp2_with fail
  refine (copied_bad A c p _ HR.out hc HO.out hl HG.out).mono ?_
  rintro e w1 ⟨rfl, hb⟩
  have HB := Aside0.mk hb
  clear hb
  go_wp2
  go_ret2
  exact ⟨rfl, below_alloc HB.out _⟩
set_option maxHeartbeats 2000000 in
theorem countF_bad (A : Option Addr) (c : Nat) (p : List Int) (w : World) (hr : Kd.C (Kd.int .u8) w A p.length p) (hc : p.length ≤ c) (ho : octs p) (hl : p.length ≤ 140737488351232) (hg : goodP p = false) :
    Calls Try.prog 33 #[.slice A p.length c] w fun e w' => e = .returned (.tuple #[.int .i64 0, .int .i64 4]) ∧ Below w.heap.size w w' := by
  have HR := Aside0.mk hr
  have HO := Aside0.mk ho
  have HG := Aside0.mk hg
  clear hr ho hg
  go_enter Try.func33, Try.ntmps33
  go_wp2_with fail
  refine (of_bad A c p _ HR.out hc HO.out hl HG.out).mono ?_
  rintro e w1 ⟨rfl, hb⟩
  have HB := Aside0.mk hb
  clear hb
  go_wp2
  go_ret2
  exact ⟨rfl, below_alloc HB.out _⟩
set_option maxHeartbeats 2000000 in
theorem freeF_bad (A : Option Addr) (c : Nat) (p : List Int) (w : World) (hr : Kd.C (Kd.int .u8) w A p.length p) (hc : p.length ≤ c) (ho : octs p) (hl : p.length ≤ 140737488351232) (hg : goodP p = false) :
    Calls Try.prog 15 #[.slice A p.length c] w fun e w' => e = .returned (.tuple #[.int .i64 0, .int .i64 4]) ∧ Below w.heap.size w w' := by
  have HR := Aside0.mk hr
  have HO := Aside0.mk ho
  have HG := Aside0.mk hg
  clear hr ho hg
  go_enter Try.func15, Try.ntmps15
  go_wp2_with fail
  refine (of_bad A c p _ HR.out hc HO.out hl HG.out).mono ?_
  rintro e w1 ⟨rfl, hb⟩
  have HB := Aside0.mk hb
  clear hb
  go_wp2
  go_ret2
  exact ⟨rfl, below_alloc HB.out _⟩
set_option maxHeartbeats 2000000 in
theorem cellF_bad (A : Option Addr) (c : Nat) (p : List Int) (i : Int) (w : World) (hr : Kd.C (Kd.int .u8) w A p.length p) (hc : p.length ≤ c) (ho : octs p) (hl : p.length ≤ 140737488351232) (hg : goodP p = false) :
    Calls Try.prog 34 #[.slice A p.length c, .int .i64 i] w fun e w' => e = .returned (.tuple #[.slice none 0 0, .int .i64 4]) ∧ Below w.heap.size w w' := by
  have HR := Aside0.mk hr
  have HO := Aside0.mk ho
  have HG := Aside0.mk hg
  clear hr ho hg
  go_enter Try.func34, Try.ntmps34
  go_wp2_with fail
  refine (of_bad A c p _ HR.out hc HO.out hl HG.out).mono ?_
  rintro e w1 ⟨rfl, hb⟩
  have HB := Aside0.mk hb
  clear hb
  go_wp2
  go_ret2
  exact ⟨rfl, below_alloc HB.out _⟩
set_option maxHeartbeats 2000000 in
theorem cellsF_bad (A : Option Addr) (c : Nat) (p : List Int) (w : World) (hr : Kd.C (Kd.int .u8) w A p.length p) (hc : p.length ≤ c) (ho : octs p) (hl : p.length ≤ 140737488351232) (hg : goodP p = false) :
    Calls Try.prog 14 #[.slice A p.length c] w fun e w' => e = .returned (.tuple #[.slice none 0 0, .int .i64 4]) ∧ Below w.heap.size w w' := by
  have HR := Aside0.mk hr
  have HO := Aside0.mk ho
  have HG := Aside0.mk hg
  clear hr ho hg
  go_enter Try.func14, Try.ntmps14
  go_wp2_with fail
  refine (of_bad A c p _ HR.out hc HO.out hl HG.out).mono ?_
  rintro e w1 ⟨rfl, hb⟩
  have HB := Aside0.mk hb
  clear hb
  go_wp2
  go_ret2
  exact ⟨rfl, below_alloc HB.out _⟩
set_option maxHeartbeats 2000000 in
theorem compact_good (A : Option Addr) (c : Nat) (p : List Int) (w : World) (hr : Kd.C (Kd.int .u8) w A 512 p) (hc : 512 ≤ c) (ho : octs p) (hl : p.length = 512) (hg : goodP p = true) (hf : Fits p) :
    Calls Try.prog 12 #[.slice A 512 c] w fun e w' => ∃ g, e = .returned (.tuple #[.slice (some ⟨g, 0, none⟩) 512 512, .int .i64 0]) ∧ w.heap.size ≤ g ∧ Blk w' 5 g (anewP p) ∧ Below w.heap.size w w' := by
  have HR := Aside0.mk hr
  have HO := Aside0.mk ho
  have HG := Aside0.mk hg
  have HL := Aside0.mk hl
  have HF := Aside0.mk hf
  clear hr ho hg hl hf
  go_enter Try.func12, Try.ntmps12
  go_wp2_with fail
  refine (copied_good A c p _ HR.out hc HO.out HL.out HG.out).mono ?_
  rintro e w1 ⟨g, rfl, hg1, hbk, hb⟩
  have HBk := Aside0.mk (hbk.below (below_alloc (Below.refl w1.heap.size w1) (.cells #[.slice (some ⟨g, 0, none⟩) 512 512] 65)))
  have HB := Aside0.mk (below_alloc hb (.cells #[.slice (some ⟨g, 0, none⟩) 512 512] 65))
  have hglt := hbk.lt
  clear hbk hb
  go_wp2_with fail
  refine (anew_calls g p _ HBk.out HL.out HO.out HF.out).mono ?_
  rintro e w3 ⟨rfl, hb3, hg3⟩
  have hc3 := cell_grown' hg3 (a := ⟨w1.heap.size, 0, none⟩) (v := .slice (some ⟨g, 0, none⟩) 512 512) (by simp) (by simp; omega)
  have HB3 := Aside0.mk hb3
  have HG3 := Aside0.mk hg3
  clear hb3 hg3
  go_wp2
  go_ret2
  exact ⟨g, rfl, hg1, HB3.out, below_of_grown_new HB.out HG3.out hg1⟩
end Go.Proofs.Ytpogneedafoiaaa.Pg
