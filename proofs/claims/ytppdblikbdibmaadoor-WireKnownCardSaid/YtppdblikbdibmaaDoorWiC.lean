/- Contracts by hand: the reference's head of a frame; frames one behind the other, both ways. -/
import Derived.Test.YtppdblikbdibmaaDoorWiB
namespace Go.Proofs.YtppdblikbdibmaaDoor.Wi
open Go.RowKit Go.Proofs.YtppdblikbdibmaaDoorW.PrintWords Go.Proofs.YtppdblikbdibmaaDoorW.PrintLast Go.Proofs.YtppdblikbdibmaaDoorW.PrintMore Go.Proofs.YtppdblikbdibmaaDoor.Bw Go.Proofs.YtppdblikbdibmaaDoor.Crc Go.Proofs.YtppdblikbdibmaaDoor.Wordy
set_option linter.unusedVariables false
set_option linter.unusedSimpArgs false

def HeadAns (l : List Int) (w : World) (e : Ending) (w' : World) : Prop := e = .returned (.tuple #[.int .i64 (headP l).1, .int .i64 (headP l).2]) ∧ Drawn0 w w'
theorem head_is {l : List Int} {w w' : World} {n e : Int} (h1 : ((headP l).1 : Int) = n) (h2 : (headP l).2 = e) (hd : Drawn0 w w') : HeadAns l w (.returned (.tuple #[.int .i64 n, .int .i64 e])) w' := ⟨by rw [h1, h2], hd⟩
theorem drawn_trans {w w1 w2 : World} (h : Drawn0 w w1) (k : Drawn0 w1 w2) : Drawn0 w w2 := by
  obtain ⟨n, rfl⟩ := h.out
  obtain ⟨m, rfl⟩ := k.out
  exact (Drawn0.refl _ |>.step n).step m
theorem rb_drawn {w w' : World} {A : Option Addr} {n : Nat} {xs : List Int} (h : Kd.C (Kd.int .u8) w A n xs) (hd : Drawn0 w w') : Kd.C (Kd.int .u8) w' A n xs := by
  obtain ⟨k, rfl⟩ := hd.out
  exact h
set_option maxRecDepth 100000 in
set_option maxHeartbeats 4000000 in
theorem head_calls (A : Option Addr) (c : Nat) (l : List Int) (w : World) (hr : Kd.C (Kd.int .u8) w A l.length l) (hc : l.length ≤ c) (ho : octs l) (hl : l.length ≤ 140737488351232) :
    Calls Tryd.prog 36 #[.slice A l.length c] w (HeadAns l w) := by
  have HR := Aside0.mk hr
  have HO := Aside0.mk ho
  clear hr ho
  go_enter Tryd.func36, Tryd.ntmps36
  go_wp2_with fail
  go_loopg [4] 2 (fun d v4 ws => ∃ k : Nat, v4 = .int .i64 k ∧ Aside0 (k + d = 2) ∧ Aside0 (∀ j, j < k → okAt l j = true) ∧ Aside0 (Drawn0 w ws))
  case atStart => exact ⟨0, rfl, ⟨rfl⟩, ⟨fun j h => absurd h (by omega)⟩, ⟨Drawn0.refl _⟩⟩
  case round =>
    obtain ⟨k, rfl, HK, HJ, HD⟩ := hrel
    have hk := HK.out
    by_cases hlt : k < 2
    · obtain ⟨c0, hc0⟩ : ∃ c0 : Int, (if k = 0 then 77 else 68) = c0 := ⟨_, rfl⟩
      have hix := fun W => ix110 k hlt W
      rw [hc0] at hix
      have q0 : decide ((k : Int) < 2) = true := decide_eq_true (by omega)
      by_cases hkl : k < l.length
      · obtain ⟨ad, rfl⟩ := rb_some HR.out (by omega)
        obtain ⟨ad', e', hcell⟩ := (rb_reads (rb_drawn HR.out HD.out)).2.2 (by omega)
        obtain rfl := Option.some.inj e'
        have hx := hcell k hkl
        clear hcell e'
        obtain ⟨x0, hx0⟩ : ∃ x0, l.getD k 0 = x0 := ⟨_, rfl⟩
        rw [hx0] at hx
        have q1 : decide (k < l.length) = true := decide_eq_true hkl
        have t1 : (0 : Int) ≤ (k : Int) := by omega
        have t2 : (k : Int) < (l.length : Int) := by omega
        by_cases he : x0 = c0
        · have q2 : (x0 != c0) = false := by rw [he]; simp
          have HOK := Aside0.mk (show okAt l k = true by unfold okAt; rw [hc0, hx0, q2]; simp)
          clear he hc0 hx0
          go_wp2_with fail
          go_quiet (fail)
          go_wp2_with fail
          go_roundg (gk - 1)
          case measure => have := HK.out; omega
          case rel =>
            refine ⟨k + 1, by go_num, ⟨by have := HK.out; omega⟩, ⟨fun j hj => ?_⟩, ⟨HD.out.step _⟩⟩
            by_cases hjk : j = k
            · rw [hjk]; exact HOK.out
            · exact HJ.out j (by omega)
        · have q2 : (x0 != c0) = true := by simpa using he
          have HOK := Aside0.mk (okAt_bad hlt (show okAt l k = false by unfold okAt; rw [hc0, hx0, q2, q1]; rfl))
          clear he hc0 hx0
          go_wp2_with fail
          go_quiet (fail)
          go_wp2_with fail
          go_ret2
          exact head_is (by unfold headP; rw [HOK.out]; rfl) (by unfold headP; rw [HOK.out]; rfl) (HD.out.step _)
      · have q1 : decide (k < l.length) = false := decide_eq_false hkl
        have HOK := Aside0.mk (show ∀ j, j < 2 → okAt l j = true by
          intro j hj
          by_cases h : j < k
          · exact HJ.out j h
          · unfold okAt
            rw [decide_eq_false (by omega)]
            rfl)
        clear hc0
        have HBH := Aside0.mk (okAt_all HOK.out)
        have q3 : decide ((l.length : Int) < 4) = true := decide_eq_true (by omega)
        have h4 : l.length < 4 := by omega
        have H4 := Aside0.mk h4
        go_wp2_with fail
        go_ret2
        exact head_is (by unfold headP; rw [HBH.out, if_pos H4.out]; rfl) (by unfold headP; rw [HBH.out, if_pos H4.out]; rfl) HD.out
    · obtain rfl : k = 2 := by omega
      have HBH := Aside0.mk (okAt_all HJ.out)
      clear hk hlt HJ HK
      by_cases h4 : l.length < 4
      · have q1 : decide ((l.length : Int) < 4) = true := decide_eq_true (by omega)
        have H4 := Aside0.mk h4
        go_wp2_with fail
        go_ret2
        exact head_is (by unfold headP; rw [HBH.out, if_pos H4.out]; rfl) (by unfold headP; rw [HBH.out, if_pos H4.out]; rfl) HD.out
      · have q1 : decide ((l.length : Int) < 4) = false := decide_eq_false (by omega)
        go_wp2_with fail
        refine (rget_calls A c l 2 2 _ _ _ (rb_drawn HR.out HD.out) hc HO.out hl rfl rfl (by decide) (by omega)).mono ?_
        rintro e w2 ⟨rfl, hd2⟩
        have HD2 := Aside0.mk (drawn_trans HD.out hd2)
        clear hd2
        obtain ⟨n, hn⟩ : ∃ n, numAt l 2 2 = n := ⟨_, rfl⟩
        have hn5 : n < 65536 := by rw [← hn]; exact sizeH_lt HO.out
        rw [hn]
        have HN := Aside0.mk (show sizeH l = n from hn)
        clear hn
        have hcv : IntKind.i64.wrap (n : Int) = (n : Int) := IntWalk.i64_in _ (by omega)
        by_cases hbig : 12000 < n
        · have q2 : decide ((12000 : Int) < (n : Int)) = true := decide_eq_true (by omega)
          have HBG := Aside0.mk hbig
          clear hbig
          go_wp2_with fail
          go_ret2
          exact head_is (by unfold headP; rw [HBH.out, HN.out, if_neg (by decide), if_neg h4, if_pos HBG.out]; rfl) (by unfold headP; rw [HBH.out, HN.out, if_neg (by decide), if_neg h4, if_pos HBG.out]) HD2.out
        · have q2 : decide ((12000 : Int) < (n : Int)) = false := decide_eq_false (by omega)
          by_cases hsh : l.length < n + 8
          · have q3 : decide ((l.length : Int) < (n : Int) + 8) = true := decide_eq_true (by omega)
            have HSH := Aside0.mk hsh
            have HBG := Aside0.mk hbig
            clear hsh
            go_wp2_with fail
            go_ret2
            exact head_is (by unfold headP; rw [HBH.out, HN.out, if_neg (by decide), if_neg h4, if_neg HBG.out, if_pos HSH.out]; rfl) (by unfold headP; rw [HBH.out, HN.out, if_neg (by decide), if_neg h4, if_neg HBG.out, if_pos HSH.out]) HD2.out
          · have q3 : decide ((l.length : Int) < (n : Int) + 8) = false := decide_eq_false (by omega)
            have HBG := Aside0.mk hbig
            have HSH := Aside0.mk hsh
            have H4 := Aside0.mk h4
            obtain ⟨ad, rfl⟩ := rb_some HR.out (by omega)
            have hlT : (l.take (n + 4)).length = n + 4 := by rw [List.length_take]; omega
            go_wp2_with fail
            have hrT := rb_cut HR.out 0 (n + 4) (by omega)
            rw [List.drop_zero, show ad.add 0 = ad from by unfold Addr.add; simp] at hrT
            have h := rof_calls (some ad) c (l.take (n + 4)) w2 (by rw [hlT]; exact rb_drawn hrT HD2.out) (by rw [hlT]; omega) (octs_take HO.out _) (by rw [hlT]; omega)
            rw [hlT] at h
            refine h.mono ?_
            obtain ⟨y, hy⟩ : ∃ y, more 0 (l.take (n + 4)) = y := ⟨_, rfl⟩
            have hyl : 0 ≤ y ∧ y < 4294967296 := by rw [← hy]; exact more_range (by decide) (octs_take HO.out _)
            rw [hy]
            rintro e w3 ⟨rfl, hd3⟩
            have HD3 := Aside0.mk (drawn_trans HD2.out hd3)
            have HY := Aside0.mk hy
            clear hd3 hy h hrT hlT
            have hyw : IntKind.u64.wrap y = y := by rw [IntKind.wrap_u64]; omega
            go_wp2_with fail
            refine (rget_calls (some ad) c l (n + 4) 4 _ _ _ (rb_drawn HR.out HD3.out) hc HO.out hl (by omega) rfl (by decide) (by omega)).mono ?_
            obtain ⟨x, hx⟩ : ∃ x, numAt l (n + 4) 4 = x := ⟨_, rfl⟩
            rw [hx]
            rintro e w4 ⟨rfl, hd4⟩
            have HD4 := Aside0.mk (drawn_trans HD3.out hd4)
            have HX := Aside0.mk hx
            clear hd4 hx
            by_cases hne : (x : Int) = y
            · have q4 : (y != (x : Int)) = false := by rw [hne]; simp
              have HNE := Aside0.mk hne
              clear hne
              go_wp2_with fail
              go_ret2
              have hh : headP l = (n + 8, 0) := by
                unfold headP
                rw [HBH.out, HN.out, if_neg (by decide), if_neg H4.out, if_neg HBG.out, if_neg HSH.out, HX.out, HY.out, if_neg (by rw [HNE.out]; exact fun h => h rfl)]
              exact head_is (n := (n : Int) + 8) (by rw [hh]; show ((n + 8 : Nat) : Int) = _; omega) (by rw [hh]) HD4.out
            · have q4 : (y != (x : Int)) = true := by simpa using fun h => hne h.symm
              have HNE := Aside0.mk hne
              clear hne
              go_wp2_with fail
              go_ret2
              have hh : headP l = (n + 8, 8) := by
                unfold headP
                rw [HBH.out, HN.out, if_neg (by decide), if_neg H4.out, if_neg HBG.out, if_neg HSH.out, HX.out, HY.out, if_pos HNE.out]
              exact head_is (n := (n : Int) + 8) (by rw [hh]; show ((n + 8 : Nat) : Int) = _; omega) (by rw [hh]) HD4.out
end Go.Proofs.YtppdblikbdibmaaDoor.Wi
