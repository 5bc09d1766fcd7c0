/- Contracts by hand: what is told. -/
import Derived.Test.YtpogneedafoiaaaPgAns
import Derived.Test.YtpogneedafoiaaaRfR
namespace Go.Proofs.Ytpogneedafoiaaa.Pg
open Go.RowKit Go.Proofs.YtpogneedafoiaaaW.PrintWords Go.Proofs.YtpogneedafoiaaaW.PrintLast Go.Proofs.YtpogneedafoiaaaW.PrintMore Go.Proofs.Ytpogneedafoiaaa.Bw Go.Proofs.Ytpogneedafoiaaa.Crc Go.Proofs.Ytpogneedafoiaaa.Wordy
set_option linter.unusedVariables false
set_option linter.unusedSimpArgs false

theorem told_any (A B : Option Addr) (c d : Nat) (a b : List Int) (e f : Int) (w : World) (ha : Kd.C (Kd.int .u8) w A a.length a) (hc : a.length ≤ c) (hb : Kd.C (Kd.int .u8) w B b.length b) (hd : b.length ≤ d) (oa : octs a) (ob : octs b) :
    Calls Try.prog 22 #[.slice A a.length c, .int .i64 e, .slice B b.length d, .int .i64 f] w fun r w' => r = .returned (.bool (decide (e = f ∧ a = b))) ∧ Below w.heap.size w w' := by
  refine (Rf.munimentlaw5_told.calls A c a e B d b f _ w ha hc hb hd ?_).mono (by rintro r w' ⟨rfl, n, rfl⟩; exact ⟨rfl, pw_below_drewN (Below.refl _ _) n⟩)
  unfold Rf.munimentlaw5_told.f
  by_cases he : e = f
  · rw [if_pos he, same_str oa ob]
    congr 1
    exact decide_eq_decide.mpr ⟨fun h => ⟨he, h⟩, fun h => h.2⟩
  · rw [if_neg he, decide_eq_false (fun h => he h.1)]
/-- told nothing -/
theorem told_nil (A : Option Addr) (a : List Int) (e f : Int) (w : World) (ha : Kd.C (Kd.int .u8) w A a.length a) (oa : octs a) :
    Calls Try.prog 22 #[.slice A a.length a.length, .int .i64 e, .slice none 0 0, .int .i64 f] w fun r w' => r = .returned (.bool (decide (e = f ∧ a = []))) ∧ Below w.heap.size w w' :=
  told_any A none a.length 0 a [] e f w ha (Nat.le_refl _) (rb_of_reads ⟨rfl, by decide, fun h => absurd h (by decide)⟩) (Nat.le_refl _) oa octs_nil
theorem rgood_calls (A : Option Addr) (c : Nat) (p : List Int) (w : World) (hr : Kd.C (Kd.int .u8) w A p.length p) (hc : p.length ≤ c) (ho : octs p) (hl : p.length ≤ 140737488351232) :
    Calls Try.prog 21 #[.slice A p.length c] w fun e w' => e = .returned (.bool (goodP p)) ∧ Below w.heap.size w w' :=
  Rf.munimentref5_Good.calls 100000 A c p _ w hr hc (rgood_eq p ho hl 100000 (Nat.le_refl _))
theorem rcount_calls (A : Option Addr) (c : Nat) (p : List Int) (w : World) (hr : Kd.C (Kd.int .u8) w A p.length p) (hc : p.length ≤ c) (ho : octs p) (hl : p.length = 512) :
    Calls Try.prog 23 #[.slice A p.length c] w fun e w' => e = .returned (.int .i64 ((cnt p : Nat) : Int)) ∧ Below w.heap.size w w' :=
  (Rf.munimentref5_Count.calls 9 A c p _ w hr hc (rcnt_eq p ho hl 9 (Nat.le_refl _))).mono (by rintro r w' ⟨rfl, n, rfl⟩; exact ⟨rfl, pw_below_drewN (Below.refl _ _) n⟩)
/-- what the reference tells: bytes to be read -/
def Told (r : List Int) (w : World) (v : Value) (w' : World) : Prop := ∃ A' c', v = .slice A' r.length c' ∧ r.length ≤ c' ∧ Kd.C (Kd.int .u8) w' A' r.length r ∧ Below w.heap.size w w'
theorem told_R {w w' : World} {v : Value} {r : List Int} (h : Kd.R (Kd.int .u8) 5 w' w.heap.size (fun _ => True) v r) (hb : Below w.heap.size w w') : Told r w v w' := by
  obtain ⟨A', c', e, h1, h2⟩ := Kd.R_reads h
  exact ⟨A', c', e, h1, h2, hb⟩
end Go.Proofs.Ytpogneedafoiaaa.Pg
