/- SumKnown: numbers, and the walk. -/
import Derived.Test.YtlcididlnfclgaaPower
namespace Go.Proofs.Ytlcididlnfclgaa.Sums
open Go.RowKit Go.Proofs.YtlcididlnfclgaaW.PrintWords Go.Proofs.YtlcididlnfclgaaW.PrintLast Go.Proofs.YtlcididlnfclgaaW.PrintMore Go.Proofs.Ytlcididlnfclgaa.Bw Go.Proofs.Ytlcididlnfclgaa.Crc
set_option linter.unusedVariables false
set_option linter.unusedSimpArgs false
def mat0 : List Int := [3988292384, 1, 2, 4, 8, 16, 32, 64, 128, 256, 512, 1024, 2048, 4096, 8192, 16384, 32768, 65536, 131072, 262144, 524288, 1048576, 2097152, 4194304, 8388608, 16777216, 33554432, 67108864, 134217728, 268435456, 536870912, 1073741824]
def mat1 : List Int := [1994146192, 3988292384, 1, 2, 4, 8, 16, 32, 64, 128, 256, 512, 1024, 2048, 4096, 8192, 16384, 32768, 65536, 131072, 262144, 524288, 1048576, 2097152, 4194304, 8388608, 16777216, 33554432, 67108864, 134217728, 268435456, 536870912]
def mat2 : List Int := [498536548, 997073096, 1994146192, 3988292384, 1, 2, 4, 8, 16, 32, 64, 128, 256, 512, 1024, 2048, 4096, 8192, 16384, 32768, 65536, 131072, 262144, 524288, 1048576, 2097152, 4194304, 8388608, 16777216, 33554432, 67108864, 134217728]
def mat3 : List Int := [1996959894, 3993919788, 124634137, 249268274, 498536548, 997073096, 1994146192, 3988292384, 1, 2, 4, 8, 16, 32, 64, 128, 256, 512, 1024, 2048, 4096, 8192, 16384, 32768, 65536, 131072, 262144, 524288, 1048576, 2097152, 4194304, 8388608]
def mat4 : List Int := [421212481, 842424962, 1684849924, 3369699848, 1254232657, 2508465314, 4034481925, 998479947, 1996959894, 3993919788, 124634137, 249268274, 498536548, 997073096, 1994146192, 3988292384, 1, 2, 4, 8, 16, 32, 64, 128, 256, 512, 1024, 2048, 4096, 8192, 16384, 32768]
def mat5 : List Int := [3099354981, 2852767883, 2405603159, 3316918511, 1343838111, 2687676222, 2601801789, 3982079547, 29518391, 59036782, 118073564, 236147128, 472294256, 944588512, 1889177024, 3778354048, 421212481, 842424962, 1684849924, 3369699848, 1254232657, 2508465314, 4034481925, 998479947, 1996959894, 3993919788, 124634137, 249268274, 498536548, 997073096, 1994146192, 3988292384]
theorem mat0_eq : pow0 31 = mat0 := by decide +kernel
theorem mat1_eq : twiceK mat0 32 = mat1 := by decide +kernel
theorem mat2_eq : twiceK mat1 32 = mat2 := by decide +kernel
theorem mat3_eq : twiceK mat2 32 = mat3 := by decide +kernel
theorem mat4_eq : twiceK mat3 32 = mat4 := by decide +kernel
theorem mat5_eq : twiceK mat4 32 = mat5 := by decide +kernel
theorem ofP_eq : ofP mat5 3421846044 32 = 1447986849 := by decide +kernel
theorem join_eq : joinP 3421846044 2646261639 4 = 3421780262 := by
  unfold joinP
  have h3 : iterT 3 (pow0 31) = mat3 := by
    rw [mat0_eq]
    show twiceK (twiceK (twiceK mat0 32) 32) 32 = mat3
    rw [mat1_eq, mat2_eq, mat3_eq]
  have b4 : (Go.bits .and .i64 ((4 : Nat) : Int) 1 == 1) = false := by decide +kernel
  have b2 : (Go.bits .and .i64 ((2 : Nat) : Int) 1 == 1) = false := by decide +kernel
  have b1 : (Go.bits .and .i64 ((1 : Nat) : Int) 1 == 1) = true := by decide +kernel
  rw [h3, joinL, if_pos (by decide), if_neg (by rw [b4]; decide), mat4_eq, show 4 / 2 = 2 from rfl, joinL, if_pos (by decide), if_neg (by rw [b2]; decide), mat5_eq, show 2 / 2 = 1 from rfl, joinL, if_pos (by decide), if_pos b1, ofP_eq, show 1 / 2 = 0 from rfl, joinL, if_neg (by decide)]
  decide +kernel
theorem crc_a : more 0 [49, 50, 51, 52, 53] = 3421846044 := by decide +kernel
theorem crc_b : more 0 [54, 55, 56, 57] = 2646261639 := by decide +kernel
theorem crc_c : more 0 [49, 50, 51, 52, 53, 54, 55, 56, 57] = 3421780262 := by decide +kernel
theorem crc_d : more 3421846044 [54, 55, 56, 57] = 3421780262 := by decide +kernel
theorem crc_n : more 0 [] = 0 := by decide +kernel
theorem of_any (A : Option Addr) (c : Nat) (l : List Int) (r : Int) (w : World) (hr : Kd.C (Kd.int .u8) w A l.length l) (hc : l.length ≤ c) (ho : octs l) (hl : l.length ≤ 140737488351232) (h : more 0 l = r) :
    Calls Try.prog 8 #[.slice A l.length c] w fun e w' => e = .returned (.int .u32 r) ∧ Drawn0 w w' := by
  obtain ⟨k, hk⟩ : ∃ k, 10 * l.length < k := ⟨_, Nat.lt_succ_self _⟩
  exact sum_Of.calls k A c l r w hr hc (by rw [Pure.Of_eq l ho hl k hk, h])
theorem more_any (A : Option Addr) (c : Nat) (l : List Int) (s r : Int) (w : World) (hr : Kd.C (Kd.int .u8) w A l.length l) (hc : l.length ≤ c) (ho : octs l) (hl : l.length ≤ 140737488351232) (hs : 0 ≤ s ∧ s < 4294967296) (h : more s l = r) :
    Calls Try.prog 14 #[.int .u32 s, .slice A l.length c] w fun e w' => e = .returned (.int .u32 r) ∧ Drawn0 w w' := by
  obtain ⟨k, hk⟩ : ∃ k, 10 * l.length < k := ⟨_, Nat.lt_succ_self _⟩
  exact sum_More.calls k s A c l r w hr hc (by rw [Pure.More_eq l ho hl s hs.1 hs.2 k hk, h])
theorem octs_of (l : List Int) (h : l.all (fun x => decide (0 ≤ x ∧ x < 256)) = true) : octs l := fun x hx => of_decide_eq_true (List.all_eq_true.mp h x hx)
set_option maxHeartbeats 8000000 in
theorem known_calls (w : World) : Calls Try.prog 6 #[] w fun e w' => e = .returned (.bool true) ∧ Below w.heap.size w w' := by
  have kc := conv_const
  have kd := fun (w : World) (n : Nat) (C : Array Value) (k c : Nat) => conv_const (w.drewN n) C w.heap.size k c rfl
  go_enter Try.func6, Try.ntmps6
  go_wp2_with fail
  refine (of_any _ _ [49, 50, 51, 52, 53] 3421846044 _ (rb_block (e := 5) (fz := (5, 6)) (heap_new _ _ _ (by simp)) (by decide)) (by decide) (octs_of _ (by decide)) (by decide) crc_a).mono ?_
  rintro e w1 ⟨rfl, ⟨nd1, rfl⟩⟩
  go_wp2_with fail
  refine (of_any _ _ [54, 55, 56, 57] 2646261639 _ (rb_block (e := 5) (fz := (4, 5)) (heap_new _ _ _ (by simp)) (by decide)) (by decide) (octs_of _ (by decide)) (by decide) crc_b).mono ?_
  rintro e w2 ⟨rfl, ⟨nd2, rfl⟩⟩
  go_wp2_with fail
  have hj := join_calls 3421846044 2646261639 4 (by decide)
  rw [join_eq] at hj
  refine (hj _).mono ?_
  clear hj
  rintro e w3 ⟨rfl, hb3⟩
  have HB3 := Aside0.mk (below_step (w := w) (by repeat (first | exact Below.refl _ _ | apply below_alloc | apply pw_below_drewN | apply below_drew1)) hb3)
  clear hb3
  go_wp2_with fail
  refine (put_ok _ _ [0, 0, 0] 1 2 258 _ (rb_block (e := 5) (fz := (0, 0)) (heap_new _ _ _ rfl) (by decide)) (by decide) (by decide) (fun h => by cases h) (by decide) (by decide) (by decide) (by decide) (fun _ => by decide) (by decide)).mono ?_
  rintro e w4 ⟨gp, rfl, hgp, hbp, hbl⟩
  have HP := Aside0.mk hbp
  have HB4 := Aside0.mk (below_step (w := w) (below_alloc HB3.out _) hbl)
  clear hbp hbl HB3
  go_wp2_with fail
  refine (put_big _ _ [0] 0 1 256 _ (rb_block (e := 5) (fz := (0, 0)) (heap_new _ _ _ rfl) (by decide)) (by decide) (by decide) (by decide) (by decide) (by decide)).mono ?_
  rintro e w5 ⟨rfl, ⟨nd5, rfl⟩⟩
  go_wp2_with fail
  refine (put_no _ _ [0] 0 3 1 _ (rb_block (e := 5) (fz := (0, 0)) (heap_new _ _ _ (by simp)) (by decide)) (by decide) (by decide) (by decide)).mono ?_
  rintro e w6 ⟨rfl, ⟨nd6, rfl⟩⟩
  have HP6 := Aside0.mk (HP.out.below (w' := (((w4.alloc (.cells #[.int .u8 0] 5)).drewN nd5).alloc (.cells #[.int .u8 0] 5)).drewN nd6) (by repeat (first | exact Below.refl _ _ | apply below_alloc | apply pw_below_drewN | apply below_drew1)))
  go_wp2_with fail
  refine (awake_calls _).mono ?_
  rintro e w7 ⟨rfl, hb7⟩
  have HB7 := Aside0.mk (below_step (w := w) (by repeat (first | exact HB4.out | apply below_alloc | apply pw_below_drewN | apply below_drew1)) hb7)
  have HP7 := Aside0.mk (HP6.out.below hb7)
  clear hb7 HP HB4 HP6
  go_wp2_with fail
  refine (of_any none 0 [] 0 _ (rb_of_reads ⟨rfl, by decide, fun h => absurd h (by decide)⟩) (by decide) (octs_of _ (by decide)) (by decide) crc_n).mono ?_
  rintro e w8 ⟨rfl, ⟨nd8, rfl⟩⟩
  go_wp2_with fail
  refine (of_any _ _ [49, 50, 51, 52, 53, 54, 55, 56, 57] 3421780262 _ (rb_block (e := 5) (fz := (9, 10)) (heap_new _ _ _ (by simp)) (by decide)) (by decide) (octs_of _ (by decide)) (by decide) crc_c).mono ?_
  rintro e w9 ⟨rfl, ⟨nd9, rfl⟩⟩
  go_wp2_with fail
  refine (of_any _ _ [49, 50, 51, 52, 53] 3421846044 _ (rb_block (e := 5) (fz := (5, 6)) (heap_new _ _ _ (by simp)) (by decide)) (by decide) (octs_of _ (by decide)) (by decide) crc_a).mono ?_
  rintro e wa ⟨rfl, ⟨nda, rfl⟩⟩
  go_wp2_with fail
  refine (more_any _ _ [54, 55, 56, 57] 3421846044 3421780262 _ (rb_block (e := 5) (fz := (4, 5)) (heap_new _ _ _ (by simp)) (by decide)) (by decide) (octs_of _ (by decide)) (by decide) (by decide) crc_d).mono ?_
  rintro e wb ⟨rfl, ⟨ndb, rfl⟩⟩
  have hcv := fun (W : World) (h : Below w7.heap.size w7 W) => Kd.C_string (P := Try.prog) (w := W) (A := some ⟨gp, 0, none⟩) (c := 3) Try.underlying22 Try.underlying5 Try.underlying9 ((HP7.out.below h).rb (by decide))
  have es : strOfNums (layN [0, 0, 0] 1 258 2) = ⟨#[0, 2, 1]⟩ := by decide +kernel
  rw [es] at hcv
  have hcv1 := hcv _ (by repeat (first | exact Below.refl _ _ | apply pw_below_drewN | apply below_alloc | apply below_drew1) : Below w7.heap.size w7 ((((((((w7.drewN nd8).alloc (.cells (nums .u8 [49, 50, 51, 52, 53, 54, 55, 56, 57]).toArray 5 (9, 10))).drewN nd9).alloc (.cells (nums .u8 [49, 50, 51, 52, 53]).toArray 5 (5, 6))).drewN nda).alloc (.cells (nums .u8 [54, 55, 56, 57]).toArray 5 (4, 5))).drewN ndb)))
  clear hcv
  have hl3 : (layN [0, 0, 0] 1 258 2).length = 3 := rfl
  rw [hl3] at hcv1
  go_wp2
  go_ret
  exact ⟨rfl, by repeat (first | exact HB7.out | apply pw_below_drewN | apply below_alloc | apply below_drew1)⟩
end Go.Proofs.Ytlcididlnfclgaa.Sums
