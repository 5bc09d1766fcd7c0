/- Contracts by hand: a frame at the beginning of bytes. -/
import Derived.Test.YtppdblikbdibmaaDoorWiA
namespace Go.Proofs.YtppdblikbdibmaaDoor.Wi
open Go.RowKit Go.Proofs.YtppdblikbdibmaaDoorW.PrintWords Go.Proofs.YtppdblikbdibmaaDoorW.PrintLast Go.Proofs.YtppdblikbdibmaaDoorW.PrintMore Go.Proofs.YtppdblikbdibmaaDoor.Bw Go.Proofs.YtppdblikbdibmaaDoor.Crc Go.Proofs.YtppdblikbdibmaaDoor.Wordy
set_option linter.unusedVariables false
set_option linter.unusedSimpArgs false

def okAt (l : List Int) (j : Nat) : Bool := !(decide (j < l.length) && (l.getD j 0 != (if j = 0 then 77 else 68)))
theorem okAt_all {l : List Int} (h : ∀ j, j < 2 → okAt l j = true) : badHead l = false := by
  have h0 := h 0 (by decide)
  have h1 := h 1 (by decide)
  unfold okAt at h0 h1
  unfold badHead
  simp at h0 h1 ⊢
  refine ⟨fun h => ?_, fun h => ?_⟩
  · rcases h0 with h0 | h0
    · rw [h0] at h; simp at h
    · exact h0
  · rcases h1 with h1 | h1
    · omega
    · exact h1
theorem okAt_bad {l : List Int} {k : Nat} (hk : k < 2) (h : okAt l k = false) : badHead l = true := by
  unfold okAt at h
  unfold badHead
  rcases k with _ | _ | k
  · simp at h ⊢
    exact .inl h
  · simp at h ⊢
    exact .inr h
  · omega
def FrameAns (A : Option Addr) (l : List Int) (w : World) (e : Ending) (w' : World) : Prop := ∃ A', e = .returned (.tuple #[.slice A' (bodyH l).length (bodyH l).length, .int .i64 (headP l).1, .int .i64 (headP l).2]) ∧ (∀ W, Kd.C (Kd.int .u8) W A l.length l → Kd.C (Kd.int .u8) W A' (bodyH l).length (bodyH l)) ∧ Drawn0 w w'
theorem ix110 (k : Nat) (hk : k < 2) (W : World) : (Instr.index 110 (.agg #[.int .u8 77, .int .u8 68]) (.int .i64 (k : Int))).run Tryd.prog W = .ok (.int .u8 (if k = 0 then 77 else 68)) W := by
  rcases k with _ | _ | k
  · kernel_rfl
  · kernel_rfl
  · omega
theorem rb_nil (w : World) : Kd.C (Kd.int .u8) w none 0 [] := rb_of_reads ⟨rfl, by decide, fun h => absurd h (by decide)⟩
theorem frame_err {A : Option Addr} {l : List Int} {w w' : World} {n : Int} {e : Int} (h1 : ((headP l).1 : Int) = n) (h2 : (headP l).2 = e) (he : e ≠ 0) (hd : Drawn0 w w') : FrameAns A l w (.returned (.tuple #[.slice none 0 0, .int .i64 n, .int .i64 e])) w' := by
  have hb : bodyH l = [] := by unfold bodyH; rw [h2, if_neg he]
  refine ⟨none, by rw [hb, h1, h2]; rfl, fun W _ => ?_, hd⟩
  rw [hb]
  exact rb_nil _
theorem rb_zero (w : World) (A : Option Addr) : Kd.C (Kd.int .u8) w A 0 [] := rb_of_reads ⟨rfl, by decide, fun h => absurd h (by decide)⟩
theorem frame_ok {A0 : Option Addr} {l : List Int} {w : World} {n : Nat} (h1 : headP l = (n + 8, 0)) (h2 : bodyH l = (l.drop 4).take n) (h3 : (bodyH l).length = n) :
    ∀ (w' : World) (A : Option Addr) (m : Int), (∀ W, Kd.C (Kd.int .u8) W A0 l.length l → Kd.C (Kd.int .u8) W A n ((l.drop 4).take n)) → Drawn0 w w' → m = 4 + (n : Int) + 4 → FrameAns A0 l w (.returned (.tuple #[.slice A n n, .int .i64 m, .int .i64 0])) w' := by
  intro w' A m hr hd hm
  refine ⟨A, ?_, ?_, hd⟩
  · rw [h1, h3, hm, show 4 + (n : Int) + 4 = ((n + 8 : Nat) : Int) by omega]
  · rw [h3, h2]
    exact hr
set_option maxRecDepth 100000 in
set_option maxHeartbeats 4000000 in
theorem frame_calls (A : Option Addr) (c : Nat) (l : List Int) (w : World) (hr : Kd.C (Kd.int .u8) w A l.length l) (hc : l.length ≤ c) (ho : octs l) (hl : l.length ≤ 140737488351232) :
    Calls Tryd.prog 40 #[.slice A l.length c] w (FrameAns A l w) := by
  have HR := Aside0.mk hr
  have HO := Aside0.mk ho
  clear hr ho
  go_enter Tryd.func40, Tryd.ntmps40
  go_wp2_with fail
  go_loopg [5, 6, 9] 2 (fun d v5 v6 v9 ws => ∃ k : Nat, v9 = .int .i64 k ∧ Aside0 (k + d = 2) ∧ Aside0 (∀ j, j < k → okAt l j = true) ∧ ws = w)
  case atStart => exact ⟨0, rfl, ⟨rfl⟩, ⟨fun j h => absurd h (by omega)⟩, rfl⟩
  case round =>
    obtain ⟨k, rfl, HK, HJ, rfl⟩ := hrel
    have hk := HK.out
    by_cases hlt : k < 2
    · obtain ⟨c0, hc0⟩ : ∃ c0 : Int, (if k = 0 then 77 else 68) = c0 := ⟨_, rfl⟩
      have hix := fun W => ix110 k hlt W
      rw [hc0] at hix
      by_cases hkl : k < l.length
      · obtain ⟨ad, rfl⟩ := rb_some HR.out (by omega)
        obtain ⟨ad', e', hcell⟩ := (rb_reads HR.out).2.2 (by omega)
        obtain rfl := Option.some.inj e'
        have hx := hcell k hkl
        clear hcell e'
        obtain ⟨x0, hx0⟩ : ∃ x0, l.getD k 0 = x0 := ⟨_, rfl⟩
        rw [hx0] at hx
        have q1 : decide (k < l.length) = true := decide_eq_true hkl
        by_cases he : x0 = c0
        · have q2 : (x0 != c0) = false := by rw [he]; simp
          have HOK := Aside0.mk (show okAt l k = true by unfold okAt; rw [hc0, hx0, q2]; simp)
          clear he hc0 hx0
          go_wp2_with fail
          go_roundg (gk - 1)
          case measure => have := HK.out; omega
          case rel =>
            refine ⟨k + 1, by go_num, ⟨by have := HK.out; omega⟩, ⟨fun j hj => ?_⟩, rfl⟩
            by_cases hjk : j = k
            · rw [hjk]; exact HOK.out
            · exact HJ.out j (by omega)
        · have q2 : (x0 != c0) = true := by simpa using he
          have HOK := Aside0.mk (okAt_bad hlt (show okAt l k = false by unfold okAt; rw [hc0, hx0, q2, q1]; rfl))
          clear he hc0 hx0
          go_wp2_with fail
          go_ret3
          exact frame_err (by unfold headP; rw [HOK.out]; rfl) (by unfold headP; rw [HOK.out]; rfl) (by decide) (Drawn0.refl _)
      · have q1 : decide (k < l.length) = false := decide_eq_false hkl
        have HOK := Aside0.mk (show okAt l k = true by unfold okAt; rw [q1]; rfl)
        clear hc0
        go_wp2_with fail
        go_roundg (gk - 1)
        case measure => have := HK.out; omega
        case rel =>
          refine ⟨k + 1, by go_num, ⟨by have := HK.out; omega⟩, ⟨fun j hj => ?_⟩, rfl⟩
          by_cases hjk : j = k
          · rw [hjk]; exact HOK.out
          · exact HJ.out j (by omega)
    · obtain rfl : k = 2 := by omega
      have HBH := Aside0.mk (okAt_all HJ.out)
      clear hk hlt HJ HK
      by_cases h4 : l.length < 4
      · have q1 : decide ((l.length : Int) < 4) = true := decide_eq_true (by omega)
        have H4 := Aside0.mk h4
        go_wp2_with fail
        go_ret3
        exact frame_err (by unfold headP; rw [HBH.out, if_pos H4.out]; rfl) (by unfold headP; rw [HBH.out, if_pos H4.out]; rfl) (by decide) (Drawn0.refl _)
      · have q1 : decide ((l.length : Int) < 4) = false := decide_eq_false (by omega)
        have hc4 : ¬ (c = 2) := by omega
        obtain ⟨ad, rfl⟩ := rb_some HR.out (by omega)
        go_wp2_with fail
        have hr2 := rb_cut HR.out 2 2 (by omega)
        have hl2 : ((l.drop 2).take 2).length = 2 := by rw [List.length_take, List.length_drop]; omega
        have hcw := word_calls (some ⟨ad.block, ad.off + 2, none⟩) (c - 2) ((l.drop 2).take 2) wr (by rw [hl2]; exact hr2) (by rw [hl2]; omega) (octs_take (octs_drop HO.out _) _) (by rw [hl2]; decide)
        rw [hl2] at hcw
        refine hcw.mono ?_
        rintro e w2 ⟨rfl, ⟨nd, rfl⟩⟩
        clear hcw hl2 hr2
        obtain ⟨n, hn⟩ : ∃ n, num ((l.drop 2).take 2) = n := ⟨_, rfl⟩
        have hn5 : n < 65536 := by rw [← hn]; exact sizeH_lt HO.out
        rw [hn]
        have HN := Aside0.mk (show sizeH l = n from hn)
        clear hn
        have hcv : IntKind.i64.wrap (n : Int) = (n : Int) := IntWalk.i64_in _ (by omega)
        by_cases hbig : 12000 < n
        · have q2 : decide ((12000 : Int) < (n : Int)) = true := decide_eq_true (by omega)
          have HBG := Aside0.mk hbig
          clear hbig
          go_wp2_with fail
          go_ret3
          exact frame_err (by unfold headP; rw [HBH.out, HN.out, if_neg (by decide), if_neg h4, if_pos HBG.out]; rfl) (by unfold headP; rw [HBH.out, HN.out, if_neg (by decide), if_neg h4, if_pos HBG.out]) (by decide) (Drawn0.step (Drawn0.refl _) _)
        · have q2 : decide ((12000 : Int) < (n : Int)) = false := decide_eq_false (by omega)
          by_cases hsh : l.length < n + 8
          · have q3 : decide ((l.length : Int) < 4 + (n : Int) + 4) = true := decide_eq_true (by omega)
            have HSH := Aside0.mk hsh
            have HBG := Aside0.mk hbig
            clear hsh
            go_wp2_with fail
            go_ret3
            exact frame_err (by unfold headP; rw [HBH.out, HN.out, if_neg (by decide), if_neg h4, if_neg HBG.out, if_pos HSH.out]; rfl) (by unfold headP; rw [HBH.out, HN.out, if_neg (by decide), if_neg h4, if_neg HBG.out, if_pos HSH.out]) (by decide) (Drawn0.step (Drawn0.refl _) _)
          · have q3 : decide ((l.length : Int) < 4 + (n : Int) + 4) = false := decide_eq_false (by omega)
            have t1 : IntKind.i64.wrap (4 + (n : Int) + 4 - 4) = 4 + (n : Int) := by rw [IntWalk.i64_in _ (by omega)]; omega
            have t2 : (4 + (n : Int)).toNat = 4 + n := by omega
            have t3 : (4 + (n : Int) + 4).toNat = 4 + n + 4 := by omega
            have t4 : (0 : Int) ≤ 4 + (n : Int) := by omega
            have t5 : 4 + (n : Int) ≤ (l.length : Int) := by omega
            have t6 : 4 + (n : Int) ≤ 4 + (n : Int) + 4 := by omega
            have t7 : 4 + (n : Int) + 4 ≤ (l.length : Int) := by omega
            have t8 : 4 + n ≤ c := by omega
            have t9 : ¬ (c = 4 + n) := by omega
            have HBG := Aside0.mk hbig
            have HSH := Aside0.mk hsh
            have H4 := Aside0.mk h4
            obtain ⟨x, hx⟩ : ∃ x, numAt l (4 + n) 4 = x := ⟨_, rfl⟩
            have hxl : x < 4294967296 := by rw [← hx]; exact numAt4_lt HO.out _
            have hr4 := rb_cut HR.out (4 + n) 4 (by omega)
            have hl4 : ((l.drop (4 + n)).take 4).length = 4 := by rw [List.length_take, List.length_drop]; omega
            have hrT := rb_cut HR.out 0 (4 + n) (by omega)
            have hlT : (l.take (4 + n)).length = 4 + n := by rw [List.length_take]; omega
            have hW : ∀ m, Calls Tryd.prog 65 #[.slice (some (ad.add (4 + n))) 4 (c - (4 + n))] (wr.drewN (nd + m)) fun e w'' => e = .returned (.int .u64 (x : Int)) ∧ ∃ k, w'' = wr.drewN (nd + k) := by
              intro m
              have h := word_calls (some (ad.add (4 + n))) (c - (4 + n)) ((l.drop (4 + n)).take 4) (wr.drewN (nd + m)) (by rw [hl4]; exact hr4) (by rw [hl4]; omega) (octs_take (octs_drop HO.out _) _) (by rw [hl4]; decide)
              rw [hl4, show num ((l.drop (4 + n)).take 4) = x from hx] at h
              exact h.mono (by rintro e w' ⟨rfl, ⟨k, rfl⟩⟩; exact ⟨rfl, m + k, by rw [World.drewN_drewN, Nat.add_assoc]⟩)
            obtain ⟨y, hy⟩ : ∃ y, more 0 (l.take (4 + n)) = y := ⟨_, rfl⟩
            have hyl : 0 ≤ y ∧ y < 4294967296 := by rw [← hy]; exact more_range (by decide) (octs_take HO.out _)
            have hO : ∀ m, Calls Tryd.prog 51 #[.slice (some ad) (4 + n) c] (wr.drewN (nd + m)) fun e w'' => e = .returned (.int .u32 y) ∧ ∃ k, w'' = wr.drewN (nd + k) := by
              intro m
              have h := of_calls (some ad) c (l.take (4 + n)) (wr.drewN (nd + m)) (by rw [hlT]; have := hrT; rw [List.drop_zero, show ad.add 0 = ad from by unfold Addr.add; simp] at this; exact this) (by rw [hlT]; omega) (octs_take HO.out _) (by rw [hlT]; omega)
              rw [hlT, hy] at h
              exact h.mono (by rintro e w' ⟨rfl, ⟨k, rfl⟩⟩; exact ⟨rfl, m + k, by rw [World.drewN_drewN, Nat.add_assoc]⟩)
            have HW := Aside0.mk hW
            have HO1 := Aside0.mk hO
            have HX := Aside0.mk hx
            have HY := Aside0.mk hy
            have hr4b := Aside0.mk (show ∀ W, Kd.C (Kd.int .u8) W (some ad) l.length l → Kd.C (Kd.int .u8) W (some (ad.add 4)) n ((l.drop 4).take n) from fun W h => rb_cut h 4 n (by omega))
            clear hW hO hx hy hr4 hrT hl4 hlT
            have hxw : IntKind.u32.wrap (x : Int) = (x : Int) := by rw [IntKind.wrap_u32]; omega
            by_cases hne : (x : Int) = y
            · have q4 : ((x : Int) != y) = false := by simpa using hne
              have HNE := Aside0.mk hne
              clear hne
              go_wp2_with fail
              go_quiet (first | (go_at_call 65; exact HW.out _) | (go_at_call 51; exact HO1.out _))
              have hh : headP l = (n + 8, 0) := by
                unfold headP
                rw [HBH.out, HN.out, if_neg (by decide), if_neg H4.out, if_neg HBG.out, if_neg HSH.out, Nat.add_comm n 4, HX.out, HY.out, if_neg (by rw [HNE.out]; exact fun h => h rfl)]
              have hbd : bodyH l = (l.drop 4).take n := by unfold bodyH; rw [hh, if_pos rfl, HN.out]
              have hbl : (bodyH l).length = n := by rw [hbd, List.length_take, List.length_drop]; omega
              have HF := Aside0.mk (frame_ok (A0 := some ad) (w := wr) (n := n) hh hbd hbl)
              clear hh hbd hbl
              by_cases hn0 : n = 0
              · subst hn0
                go_wp2_with fail
                go_ret3
                exact HF.out _ _ _ (fun W _ => by rw [List.take_zero]; exact rb_zero _ _) (Drawn0.step (Drawn0.refl _) _) rfl
              · have hn1 : ¬ (4 + n = 4) := by omega
                go_wp2_with fail
                go_ret3
                exact HF.out _ _ _ hr4b.out (Drawn0.step (Drawn0.refl _) _) rfl
            · have q4 : ((x : Int) != y) = true := by simpa using hne
              have HNE := Aside0.mk hne
              clear hne
              go_wp2_with fail
              go_quiet (first | (go_at_call 65; exact HW.out _) | (go_at_call 51; exact HO1.out _))
              go_wp2_with fail
              go_ret3
              have hh : headP l = (n + 8, 8) := by
                unfold headP
                rw [HBH.out, HN.out, if_neg (by decide), if_neg H4.out, if_neg HBG.out, if_neg HSH.out, Nat.add_comm n 4, HX.out, HY.out, if_pos HNE.out]
              exact frame_err (n := 4 + (n : Int) + 4) (by rw [hh]; show ((n + 8 : Nat) : Int) = _; omega) (by rw [hh]) (by decide) (Drawn0.step (Drawn0.step (Drawn0.refl _) _) _)
end Go.Proofs.YtppdblikbdibmaaDoor.Wi
