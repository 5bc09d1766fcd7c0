/- Contracts by hand: the walk of PageLists. -/
import Derived.Test.YtpogneedafoiaaaPgLi
import Derived.Test.YtpogneedafoiaaaPgU
namespace Go.Proofs.Ytpogneedafoiaaa.Pg
open Go.RowKit Go.Proofs.YtpogneedafoiaaaW.PrintWords Go.Proofs.YtpogneedafoiaaaW.PrintLast Go.Proofs.YtpogneedafoiaaaW.PrintMore Go.Proofs.Ytpogneedafoiaaa.Bw Go.Proofs.Ytpogneedafoiaaa.Crc Go.Proofs.Ytpogneedafoiaaa.Wordy
set_option pp.deepTerms true
set_option pp.deepTerms.threshold 100000
set_option pp.maxSteps 10000000
set_option linter.unusedVariables false
set_option linter.unusedSimpArgs false

/-- bytes that were read when the call began: of no world since -/
def foreign (w0 : World) : Kd (List Int) where
  sz := 1
  E := []
  K := fun _ xs cs => ∃ A c, cs = [.slice A xs.length c] ∧ xs.length ≤ c ∧ Kd.C (Kd.int .u8) w0 A xs.length xs
  M := fun _ _ _ xs cs => ∃ A c, cs = [.slice A xs.length c] ∧ xs.length ≤ c ∧ Kd.C (Kd.int .u8) w0 A xs.length xs
  K_len := by
    rintro w x cs ⟨A, c, rfl, _⟩
    rfl
  K_one := by
    rintro w x cs ⟨A, c, rfl, _⟩ u hu
    rw [List.mem_singleton.1 hu]
    rfl
  K_below := fun _ h => h
  K_of_M := fun h => h
  M_mono := fun _ h => h
  M_bound := fun h => h
  M_move := fun _ h => h
  M_lower := fun _ h => h
/-- what is read of them now -/
theorem foreign_reads {w0 w : World} {A : Option Addr} {n : Nat} {xs : List (List Int)} (h : Kd.C (foreign w0) w A n xs) (hb : Below w0.heap.size w0 w) : Kd.C (Kd.slice 5 (Kd.int .u8)) w A n xs :=
  ReadsRow.imp_ h (Below.refl _ _) (fun p c hp => by
    obtain ⟨A, k, e, h1, h2⟩ := hp
    exact ⟨A, k, e, h1, Kd.C_below h2 hb⟩)
structure Deed where
  d : Int
  a : Int
  C : List Int
/-- a deed's three cells, as they are read -/
def deedAt (w : World) (x : Addr) (i : Nat) (D : Deed) : Prop := ∃ A c, w.cell? (x.add (i * 3)) = some (.int .i64 D.d) ∧ w.cell? ((x.add (i * 3)).add 1) = some (.int .i64 D.a) ∧ w.cell? ((x.add (i * 3)).add 2) = some (.slice A D.C.length c) ∧ D.C.length ≤ c ∧ Kd.C (Kd.int .u8) w A D.C.length D.C ∧ octs D.C ∧ D.C.length ≤ 140737488351232 ∧ (-9223372036854775808 ≤ D.a ∧ D.a ≤ 9223372036854775807)
set_option maxRecDepth 100000 in
theorem new3_good : goodP (newP 3) = true := by decide +kernel
set_option maxRecDepth 100000 in
theorem new3_cells : cellsP (newP 3) = [] := by decide +kernel
theorem sumC_take {cs : List (List Int)} {k : Nat} (hk : k < cs.length) : sumC (cs.take (k + 1)) = sumC (cs.take k) + 4 + (Rf.rd_L2 cs k).length := by
  rw [List.take_succ_eq_append_getElem hk, sumC_append]
  have e : Rf.rd_L2 cs (k : Int) = cs[k] := by
    unfold Rf.rd_L2
    rw [Int.toNat_natCast, List.getD_eq_getElem?_getD, List.getElem?_eq_getElem hk]
    rfl
  rw [e, sumC, sumC]
  omega
theorem tmod_bounds (a : Int) (n : Nat) (h : 0 < n) : -(n : Int) < Int.tmod a n ∧ Int.tmod a n < n := by
  have h1 := Int.natAbs_tmod a (n : Int)
  have h2 : a.natAbs % (n : Int).natAbs < n := Nat.mod_lt _ h
  omega
theorem cell_at1 {w : World} {g t : Nat} {v0 v1 v2 : Value} (h : w.heap[g]? = some (.cells #[v0, v1, v2] t (0, 0))) : w.cell? ⟨g, 1, none⟩ = some v1 := by
  unfold World.cell?
  rw [h]
  rfl
theorem cell_at2 {w : World} {g t : Nat} {v0 v1 v2 : Value} (h : w.heap[g]? = some (.cells #[v0, v1, v2] t (0, 0))) : w.cell? ⟨g, 2, none⟩ = some v2 := by
  unfold World.cell?
  rw [h]
  rfl
theorem cell_at0 {w : World} {g t : Nat} {v0 v1 v2 : Value} (h : w.heap[g]? = some (.cells #[v0, v1, v2] t (0, 0))) : w.cell? ⟨g, 0, none⟩ = some v0 := by
  unfold World.cell?
  rw [h]
  rfl
theorem rd_cellsP {p : List Int} {i : Nat} (hi : i < cnt p) : Rf.rd_L2 (cellsP p) (i : Int) = cellP p i := by
  unfold Rf.rd_L2
  rw [Int.toNat_natCast, List.getD_eq_getElem?_getD, cellsP_get hi]
  rfl
theorem replace_fit (A B : Option Addr) (c cc : Nat) (p l : List Int) (i : Nat) (w : World) (hr : Kd.C (Kd.int .u8) w A 512 p) (hc : 512 ≤ c) (ho : octs p) (hl : p.length = 512) (hg : goodP p = true) (hr2 : Kd.C (Kd.int .u8) w B l.length l) (hc2 : l.length ≤ cc) (hi : i < cnt p) (hll : l.length ≤ 140737488351232) (hfit : l.length ≤ szP p i ∨ (l.length : Int) - szP p i ≤ freeP p) :
    Calls Try.prog 20 #[.slice A 512 c, .int .i64 i, .slice B l.length cc] w fun e w' => ∃ g, e = .returned (.tuple #[.slice (some ⟨g, 0, none⟩) 512 512, .int .i64 0]) ∧ w.heap.size ≤ g ∧ Blk w' 5 g (replaceP p i l) ∧ Below w.heap.size w w' := by
  by_cases hs : l.length ≤ szP p i
  · exact replace_small A B c cc p l i w hr hc ho hl hg hr2 hc2 hi hs
  · exact replace_big A B c cc p l i w hr hc ho hl hg hr2 hc2 hi (by omega) hll (hfit.resolve_left hs)
theorem sumC_le (cs : List (List Int)) (k : Nat) : sumC (cs.take k) ≤ sumC cs := by
  conv => rhs; rw [← List.take_append_drop k cs]
  rw [sumC_append]
  omega
theorem az (W : World) (o : Obj) : (W.alloc o).heap.size = W.heap.size + 1 := by simp
theorem dz (W : World) : W.drew.heap = W.heap := rfl
theorem aget_new {W : World} {o : Obj} {b : Nat} (h : b = W.heap.size) : (W.alloc o).heap[b]? = some o := heap_new W o _ h
theorem aget_old {W : World} {o : Obj} {b : Nat} (h : b < W.heap.size) : (W.alloc o).heap[b]? = W.heap[b]? := (below_alloc (Below.refl W.heap.size W) o).block b h
theorem get_drew {W : World} {b : Nat} {o : Option Obj} (h : W.heap[b]? = o) : W.drew.heap[b]? = o := h
theorem R_empty {α : Type} (d : Kd α) {W : World} {base e g : Nat} (hb : base ≤ W.heap.size) (hg : g = W.heap.size) : d.R e (W.alloc (.cells #[] e)) base (fun _ => True) (.slice (some ⟨g, 0, none⟩) 0 0) [] := by
  subst hg
  refine ⟨fun _ _ => trivial, [], ?_, Reps.none _ _⟩
  have h2 := World.ownsRow_lit (base := base) (e := e) (size := d.sz) W #[] 0 hb (by simp [maxLen]) (by simp)
  simpa using h2
theorem one_read {w0 W : World} {b t c : Nat} {A : Option Addr} {x : List Int} (h : W.heap[b]? = some (.cells #[.slice A x.length c] t (0, 0))) (h1 : x.length ≤ c) (hr : Kd.C (Kd.int .u8) w0 A x.length x) : (foreign w0).C W (some ⟨b, 0, none⟩) 1 [x] := by
  refine ⟨rfl, by decide, fun _ => ⟨_, rfl, fun j p hj => ?_⟩⟩
  rcases j with _ | j
  · obtain rfl : x = p := by simpa using hj
    refine ⟨[.slice A x.length c], rfl, ⟨A, c, rfl, h1, hr⟩, fun i u hu => ?_⟩
    rcases i with _ | i
    · obtain rfl : Value.slice A x.length c = u := by simpa using hu
      unfold World.cell?
      simp [Addr.add, h]
    · simp at hu
  · simp at hj
theorem ap_step {w W3 W : World} {ops : Array Oper} {o : Oper} {a : Act} {Kc : Act → World → Prop} {Q : Exit → Act → World → Prop} (S X : Operand) (hw : Region.wanted o (yielded ops a.tmps) = true) (ho : o.op = .call { callee := .builtin .append, args := #[S, X], argTypes := #[28, 28] })
    (v : Value) (xs ys : List (List Int)) (A : Option Addr) (m c : Nat) (hs : a.eval S = v) (hx : a.eval X = .slice A m c)
    (HO : Kd.R (foreign w) 22 W W3.heap.size (fun _ => True) v xs) (HR : (foreign w).C W A m ys) (HB : Below W3.heap.size W3 W) (hl : xs.length + m ≤ 1000)
    (h : ∀ v1 w1, Kd.R (foreign w) 22 w1 W3.heap.size (fun _ => True) v1 (xs ++ ys) → Below W3.heap.size W3 w1 → W.grownBy w1 v.ownBlock → Kc (a.put o.dst v1) w1) :
    if Region.wanted o (yielded ops a.tmps) = true then Oper.wp Try.prog o a W Kc Q else Kc (a.put o.dst undef) W :=
  Kd.R_append_rows_step (foreign w) (w0 := W3) W3.heap.size hw S X 28 22 (.slice none 0 0) 24 ho Try.underlying28 info22 rfl (Nat.lt_succ_self 0) (by decide) v xs ys A m c (fun _ => True) (fun _ => False) hs hx HO HR (fun _ _ h => h) (fun _ h => h.elim) (fun _ _ => trivial) HB HB.size (by omega) (fun v1 w1 h1 h2 h3 _ => h v1 w1 h1 h2 h3)
set_option maxRecDepth 100000 in
set_option maxHeartbeats 16000000 in
theorem lists_w (x : Addr) (len cap : Nat) (D : Nat → Deed) (w : World) (hl : len ≤ cap) (hl2 : len ≤ 140737488351232) (hd : ∀ i, i < len → deedAt w x i (D i)) :
    Calls Try.prog 7 #[.slice (some x) len cap] w fun e w' => e = .returned (.bool true) ∧ Below w.heap.size w w' := by
  have HD := Aside0.mk hd
  clear hd
  go_enter Try.func7, Try.ntmps7
  go_wp2_with fail
  refine (awake_x _).mono ?_
  rintro e w1 ⟨rfl, hb⟩
  have HB1 := Aside0.mk hb
  clear hb
  go_wp2_with fail
  refine (new_good 3 _ (by decide)).mono ?_
  rintro e w2 ⟨g, rfl, hg, hbk, hb⟩
  have HBk := Aside0.mk hbk
  have HB2 := Aside0.mk (below_step HB1.out hb)
  clear hb hbk HB1
  go_wp2_with fail
  go_loopg [3, 5, 6] len (fun d v3 v5 v6 wr => ∃ (k gp : Nat) (P : List Int), v3 = .slice (some ⟨gp, 0, none⟩) 512 512 ∧ v6 = .int .i64 k ∧ Aside0 (k + d = len) ∧ Aside0 (goodP P = true ∧ octs P) ∧ Aside0 (Blk wr 5 gp P) ∧ Aside0 (Kd.R (foreign w) 22 wr w.heap.size (fun _ => True) v5 (cellsP P)) ∧ Aside0 (Below w.heap.size w wr))
  case atStart => exact ⟨0, g, _, rfl, rfl, ⟨by omega⟩, ⟨new3_good, (newP_fine (k := 3) (by decide)).1⟩, HBk, ⟨by rw [new3_cells]; exact Kd.R_nil _ _ _ _ _⟩, HB2⟩
  case round =>
    clear HBk HB2
    obtain ⟨k, gp, P, rfl, rfl, HK, HG, HBk, HC, HB⟩ := hrel
    have hk := HK.out
    obtain ⟨m0, hm0⟩ : ∃ m0, m0 = gk := ⟨_, rfl⟩
    have HM0 := Aside0.mk hm0
    clear hm0
    by_cases hlt : k < len
    · obtain ⟨Ad, cd, hd0, hd1, hd2, hdl, hdr, hdo, hdm, hda⟩ := HD.out k hlt
      have he0 := pw_cell_below HB.out hd0
      have he1 := pw_cell_below HB.out hd1
      have he2 := pw_cell_below HB.out hd2
      rw [show (x.add (k * 3)).add 1 = (⟨(x.add (k * 3)).block, (x.add (k * 3)).off + 1, none⟩ : Addr) by simp [Addr.add]] at he1
      rw [show (x.add (k * 3)).add 2 = (⟨(x.add (k * 3)).block, (x.add (k * 3)).off + 2, none⟩ : Addr) by simp [Addr.add]] at he2
      clear hd0 hd1 hd2
      obtain ⟨A5, c5, ev⟩ := Kd.R_slice HC.out
      subst ev
      have HG1 := HG.out.1
      have HO1 := HG.out.2
      have hfs := free_sum HG1
      have hfn := free_nonneg HG1
      have hcn : (cellsP P).length ≤ 121 := by rw [cellsP_length]; have := (good_iff.mp HG1).slots; have := (good_iff.mp HG1).low; omega
      have hgh := heap_new wr (.cells #[.int .i64 (D k).d, .int .i64 (D k).a, .slice Ad (D k).C.length cd] 53) _ rfl
      have HBk1 := Aside0.mk (HBk.out.below (below_alloc (Below.refl wr.heap.size wr) (.cells #[.int .i64 (D k).d, .int .i64 (D k).a, .slice Ad (D k).C.length cd] 53)))
      have HC1 := Aside0.mk (Kd.R_alloc HC.out (.cells #[.int .i64 (D k).d, .int .i64 (D k).a, .slice Ad (D k).C.length cd] 53))
      have HB1 := Aside0.mk (below_alloc HB.out (.cells #[.int .i64 (D k).d, .int .i64 (D k).a, .slice Ad (D k).C.length cd] 53))
      have HRd := Aside0.mk hdr
      clear hdr
      go_wp2_with fail
      obtain ⟨W1, hW1⟩ : ∃ W1, wr.alloc (.cells #[.int .i64 (D k).d, .int .i64 (D k).a, .slice Ad (D k).C.length cd] 53) = W1 := ⟨_, rfl⟩
      rw [hW1] at hgh HBk1 HC1 HB1 ⊢
      have HGh := Aside0.mk hgh
      obtain ⟨bd, hbd⟩ : ∃ bd, wr.heap.size = bd := ⟨_, rfl⟩
      rw [hbd] at HGh ⊢
      clear hgh hW1 he0 he1 he2 HBk HC HB
      obtain ⟨Ac, cc, ev, hnc, hrc⟩ := Kd.R_reads HC1.out
      have hrc := foreign_reads hrc HB1.out
      simp only [Value.slice.injEq, true_and] at ev
      obtain ⟨rfl, rfl⟩ := ev
      have HRC := Aside0.mk hrc
      clear hrc
      go_loopg [8, 9] (cellsP P).length (fun m v8 v9 ws => ∃ j : Nat, v9 = .int .i64 j ∧ v8 = .int .i64 (486 - (sumC ((cellsP P).take j) : Int)) ∧ Aside0 (j + m = (cellsP P).length) ∧ ws = W1)
      case atStart => exact ⟨0, rfl, by simp [sumC], ⟨by omega⟩, rfl⟩
      case round =>
        obtain ⟨j, rfl, rfl, HJ, rfl⟩ := hrel
        have hj := HJ.out
        by_cases hjl : j < (cellsP P).length
        · obtain ⟨ad1, A1, c1, e1, hx1, hl1, hr1⟩ := Rf.at_L2 HRC.out j (by omega) (by omega)
          subst e1
          rw [Int.toNat_natCast] at hx1
          have hst := sumC_take hjl
          have hsl := sumC_le (cellsP P) (j + 1)
          have HST := Aside0.mk hst
          have hw1 : IntKind.i64.wrap (486 - (sumC ((cellsP P).take j) : Int) - 4) = 486 - (sumC ((cellsP P).take j) : Int) - 4 := IntWalk.i64_in _ (by omega)
          have hw2 : IntKind.i64.wrap (486 - (sumC ((cellsP P).take j) : Int) - 4 - ((Rf.rd_L2 (cellsP P) j).length : Int)) = 486 - (sumC ((cellsP P).take (j + 1)) : Int) := by rw [IntWalk.i64_in _ (by omega)]; omega
          clear hr1 hst
          go_wp2_with fail
          go_roundg (gk - 1)
          case measure => have := HJ.out; omega
          case rel => exact ⟨j + 1, by go_num, by first | rfl | (have := HST.out; go_num), ⟨by have := HJ.out; omega⟩, rfl⟩
        · obtain rfl : j = (cellsP P).length := by omega
          have etk : (cellsP P).take (cellsP P).length = cellsP P := List.take_of_length_le (Nat.le_refl _)
          rw [etk]
          clear etk hjl hj HJ
          go_wp2_with fail
          refine (compact_good (some ⟨gp, 0, none⟩) 512 P _ (blk_rb5 HBk1.out (good_facts HG1).1) (Nat.le_refl _) HO1 (good_facts HG1).1 HG1 (fits_of_good HG1)).mono ?_
          rintro e W2 ⟨gq, rfl, hgq, hbq, hb⟩
          have HBq := Aside0.mk hbq
          have HBk2 := Aside0.mk (HBk1.out.below hb)
          have HC2 := Aside0.mk (Kd.R_below HC1.out hb)
          have HB2 := Aside0.mk (below_step HB1.out hb)
          have HGh2 := Aside0.mk (heap_below hb HGh.out)
          clear hb hbq HBk1 HC1 HB1 HGh HRC
          obtain ⟨n, hnn⟩ : ∃ n, (cellsP P).length = n := ⟨_, rfl⟩
          have HNN := Aside0.mk hnn
          have hcn' : n ≤ 121 := by rw [← hnn]; exact hcn
          rw [hnn] at hnc HC2 ⊢
          clear hcn hnn
          go_upto_if 58 with fail
          go_cut [13] (fun s13 wx => ∃ at_ : Nat, s13 = .int .i64 at_ ∧ Aside0 (at_ < n ∨ at_ = 0 ∧ n = 0) ∧ wx = W2)
          case first =>
            by_cases hn : n = 0
            · have q1 : decide ((0 : Int) < (n : Int)) = false := decide_eq_false (by omega)
              have q1' : decide (0 < n) = false := decide_eq_false (by omega)
              have HN := Aside0.mk hn
              clear hn
              rw [q1']
              go_wp2_with fail
              go_meet
              exact ⟨0, rfl, ⟨.inr ⟨rfl, HN.out⟩⟩, rfl⟩
            · have q1 : decide ((0 : Int) < (n : Int)) = true := decide_eq_true (by omega)
              have q1' : decide (0 < n) = true := decide_eq_true (by omega)
              have hx1 := cell_at1 HGh2.out
              obtain ⟨r, hr⟩ : ∃ r, Int.tmod (D k).a (n : Int) = r := ⟨_, rfl⟩
              have hrb : -(n : Int) < r ∧ r < n := by rw [← hr]; exact tmod_bounds _ _ (by omega)
              have hrw : IntKind.i64.wrap r = r := IntWalk.i64_in _ (by omega)
              have hrn : IntKind.i64.wrap (-r) = -r := IntWalk.i64_in _ (by omega)
              by_cases hneg : r < 0
              · have q2 : decide (r < 0) = true := decide_eq_true hneg
                have HRB := Aside0.mk (And.intro hrb hneg)
                clear hrb hneg
                go_wp2_with fail
                go_meet
                exact ⟨(-r).toNat, by (have := HRB.out); first | rfl | (exact congrArg (Value.int .i64) (by omega)), ⟨.inl (by have := HRB.out; omega)⟩, rfl⟩
              · have q2 : decide (r < 0) = false := decide_eq_false hneg
                have HRB := Aside0.mk (And.intro hrb hneg)
                clear hrb hneg
                go_wp2_with fail
                go_meet
                exact ⟨r.toNat, by (have := HRB.out); first | rfl | (exact congrArg (Value.int .i64) (by omega)), ⟨.inl (by have := HRB.out; omega)⟩, rfl⟩
          case rest =>
            obtain ⟨at_, rfl, HAt, rfl⟩ := hcut
            have hx0 := cell_at0 HGh2.out
            have hx1 := cell_at1 HGh2.out
            have hx2 := cell_at2 HGh2.out
            go_upto_block 4 with fail
            obtain ⟨b3, hb3⟩ : ∃ b3, bits .and .i64 (D k).d 3 = b3 := ⟨_, rfl⟩
            rw [hb3]
            have hatn : at_ ≤ n := by have := HAt.out; omega
            have hatc : at_ ≤ c5 := Nat.le_trans hatn hnc
            have HAN := Aside0.mk hatn
            go_cut [10, 11, 12] (fun s10 s11 s12 wx => ∃ (gn : Nat) (Q : List Int), s10 = .slice (some ⟨gn, 0, none⟩) 512 512 ∧ s11 = .int .i64 0 ∧ Aside0 (goodP Q = true ∧ octs Q) ∧ Aside0 (Blk wx 5 gn Q) ∧ Aside0 (Kd.R (foreign w) 22 wx w.heap.size (fun _ => True) s12 (cellsP Q)) ∧ Aside0 (Below w.heap.size w wx))
            case first =>
              by_cases h0 : b3 = 0
              · subst h0
                as_aux_lemma =>
                  by_cases hf : ((D k).C.length : Int) + 4 ≤ freeP P
                  · have q3 : decide ((486 : Int) - (sumC (cellsP P) : Int) < ((D k).C.length : Int) + 4) = false := decide_eq_false (by omega)
                    have hw4 : IntKind.i64.wrap (((D k).C.length : Int) + 4) = ((D k).C.length : Int) + 4 := IntWalk.i64_in _ (by omega)
                    have hi : at_ ≤ cnt P := by have := HAt.out; have := HNN.out; rw [cellsP_length] at this; omega
                    go_wp2_with fail
                    refine (insert_good _ Ad 512 cd P (D k).C at_ _ (blk_rb5 HBk2.out (good_facts HG1).1) (Nat.le_refl _) HO1 (good_facts HG1).1 HG1 (Kd.C_below HRd.out HB2.out) hdl hi hdm hf).mono ?_
                    rintro e W3 ⟨gi, rfl, hgi, hbi, hb⟩
                    have HI := Aside0.mk hbi
                    have hx2 := pw_cell_below hb hx2
                    have HC3 := Aside0.mk (Kd.R_below HC2.out hb)
                    have HB3 := Aside0.mk (below_step HB2.out hb)
                    clear hbi hb
                    go_wp2_with fail
                    have hcC := (Kd.R_reads' HC3.out).2.2
                    have hlc : (cellsP P).length = n := HNN.out
                    have hcT := Kd.C_take hcC (m := at_) (by omega)
                    have hcD := Kd.C_drop hcC (m := at_) (c := c5) (by omega) (by omega)
                    rw [show (foreign w).sz = 1 from rfl, Nat.mul_one, show ((cellsP P).drop at_).length = n - at_ by rw [List.length_drop]; omega] at hcD
                    rw [show ((cellsP P).take at_).length = at_ by rw [List.length_take]; omega] at hcT
                    have HCT := Aside0.mk hcT
                    have HCD := Aside0.mk hcD
                    clear hcT hcD hcC hlc
                    go_region_held3 (fun w' => w'.cell? ⟨bd, 2, none⟩ = some (.slice Ad (D k).C.length cd) ∧ Below W3.heap.size W3 w') (first | go_split_ands; exact ⟨pw_cell_below (w := W3) (by (repeat (with_reducible first | assumption | exact Below.refl _ _ | refine below_alloc ?_ _ | refine Below.drew ?_))) hx2, by (repeat (with_reducible first | assumption | exact Below.refl _ _ | refine below_alloc ?_ _ | refine Below.drew ?_))⟩) (first
                      | ((with_reducible refine ap_step (w := w) (W3 := W3) (.tmp 89) (.tmp 92) rfl rfl (.slice (some ⟨_, 0, none⟩) 0 0) ([]) (((cellsP P).take at_)) A5 at_ c5 rfl rfl ?_ ?_ ?_ ?_ ?_); ((repeat (first | ((with_reducible refine R_empty _ ?_ ?_) <;> (first | with_reducible rfl | omega | (simp only [az, dz]; omega) | simp only [az, dz])) | with_reducible refine Kd.R_drew ?_ | with_reducible refine Kd.R_alloc ?_ _))); ((refine Kd.C_below HCT.out ?_; go_split_ands; (repeat (with_reducible first | assumption | exact Below.refl _ _ | refine below_alloc ?_ _ | refine Below.drew ?_)))); (go_split_ands; (repeat (with_reducible first | assumption | exact Below.refl _ _ | refine below_alloc ?_ _ | refine Below.drew ?_))); (simp only [List.length_append, List.length_take, List.length_nil, List.length_cons]; omega); intro v1 w4 hR1 hB1 hG1)
                      | ((with_reducible refine ap_step (w := w) (W3 := W3) (.tmp 93) (.tmp 96) rfl rfl v1 ([] ++ ((cellsP P).take at_)) ([(D k).C]) (some ⟨_, 0, none⟩) 1 1 rfl rfl ?_ ?_ ?_ ?_ ?_); ((repeat (first | with_reducible exact hR1 | with_reducible refine Kd.R_drew ?_ | with_reducible refine Kd.R_alloc ?_ _))); ((first | (refine one_read (t := 22) ?_ hdl HRd.out; ((repeat with_reducible refine get_drew ?_); (first | ((with_reducible refine aget_new ?_) <;> (first | with_reducible rfl | omega | (simp only [az, dz]; omega) | simp only [az, dz])) | ((with_reducible refine (aget_old ?_).trans (aget_new ?_)) <;> (first | with_reducible rfl | omega | (simp only [az, dz]; omega) | simp only [az, dz]))))) | (refine one_read (t := 22) ((hG1.block _ (by (first | with_reducible rfl | omega | (simp only [az, dz]; omega) | simp only [az, dz])) (by simp [Value.ownBlock])).trans ?_) hdl HRd.out; ((repeat with_reducible refine get_drew ?_); (first | ((with_reducible refine aget_new ?_) <;> (first | with_reducible rfl | omega | (simp only [az, dz]; omega) | simp only [az, dz])) | ((with_reducible refine (aget_old ?_).trans (aget_new ?_)) <;> (first | with_reducible rfl | omega | (simp only [az, dz]; omega) | simp only [az, dz]))))))); (go_split_ands; (repeat (with_reducible first | assumption | exact Below.refl _ _ | refine below_alloc ?_ _ | refine Below.drew ?_))); (simp only [List.length_append, List.length_take, List.length_nil, List.length_cons]; omega); intro v2 w5 hR2 hB2 hG2)
                      | ((with_reducible refine ap_step (w := w) (W3 := W3) (.tmp 97) (.tmp 100) rfl rfl v2 ([] ++ ((cellsP P).take at_) ++ [(D k).C]) ((cellsP P).drop at_) (if c5 = at_ then A5 else Option.map (fun x => x.add at_) A5) (n - at_) (c5 - at_) rfl rfl ?_ ?_ ?_ ?_ ?_); ((repeat (first | with_reducible exact hR2 | with_reducible refine Kd.R_drew ?_ | with_reducible refine Kd.R_alloc ?_ _))); ((refine Kd.C_below HCD.out ?_; go_split_ands; (repeat (with_reducible first | assumption | exact Below.refl _ _ | refine below_alloc ?_ _ | refine Below.drew ?_)))); (go_split_ands; (repeat (with_reducible first | assumption | exact Below.refl _ _ | refine below_alloc ?_ _ | refine Below.drew ?_))); (simp only [List.length_append, List.length_take, List.length_nil, List.length_cons]; omega); intro v3 w6 hR3 hB3 hG3))
                    all_goals
                      generalize (if c5 = at_ then A5 else Option.map (fun x => x.add at_) A5) = A9
                      go_wp2_with fail
                      go_meet
                      have hwf := insert_wf (l := (D k).C) HG1 hi hf
                      exact ⟨gi, insertP P at_ (D k).C, rfl, rfl, ⟨good_iff.mpr hwf.1, insertP_octs HO1 hdo _⟩, ⟨HI.out.below hB3⟩, ⟨by rw [hwf.2]; exact (show insL (cellsP P) at_ (D k).C = [] ++ (cellsP P).take at_ ++ [(D k).C] ++ (cellsP P).drop at_ by simp [insL]) ▸ Kd.R_lower hR3 HB3.out.size⟩, ⟨below_step HB3.out hB3⟩⟩
                  · have q3 : decide ((486 : Int) - (sumC (cellsP P) : Int) < ((D k).C.length : Int) + 4) = true := decide_eq_true (by omega)
                    have hw4 : IntKind.i64.wrap (((D k).C.length : Int) + 4) = ((D k).C.length : Int) + 4 := IntWalk.i64_in _ (by omega)
                    have HF := Aside0.mk hf
                    clear hf
                    go_wp2_with fail
                    refine (insert_full _ Ad 512 cd P (D k).C at_ _ (blk_rb5 HBk2.out (good_facts HG1).1) (Nat.le_refl _) HO1 (good_facts HG1).1 HG1 (by have := HAt.out; have := HNN.out; rw [cellsP_length] at this; omega) hdm (by have := HF.out; omega)).mono ?_
                    rintro e W3 ⟨rfl, hb⟩
                    have hx2 := pw_cell_below hb hx2
                    have HBk3 := Aside0.mk (HBk2.out.below hb)
                    have HC3 := Aside0.mk (Kd.R_below HC2.out hb)
                    have HB3 := Aside0.mk (below_step HB2.out hb)
                    clear hb
                    go_wp2_with fail
                    go_roundg (m0 - 1)
                    case measure => have := HK.out; have := HM0.out; omega
                    case rel => exact ⟨k + 1, gp, P, rfl, by go_num, ⟨by have := HK.out; have := HM0.out; omega⟩, HG, HBk3, HC3, HB3⟩
              · by_cases h1 : b3 = 1
                · subst h1
                  by_cases hn : n = 0
                  · have q5 : ((n : Int) == 0) = true := beq_iff_eq.mpr (by omega)
                    have HN := Aside0.mk hn
                    clear hn h0
                    go_wp2_with fail
                    go_roundg (m0 - 1)
                    case measure => have := HK.out; have := HM0.out; omega
                    case rel => exact ⟨k + 1, gp, P, rfl, by go_num, ⟨by have := HK.out; have := HM0.out; omega⟩, HG, HBk2, HC2, HB2⟩
                  · clear h0
                    as_aux_lemma =>
                      have hlt : at_ < n := by have := HAt.out; omega
                      have q5 : ((n : Int) == 0) = false := beq_eq_false_iff_ne.mpr (by omega)
                      have hic : at_ < cnt P := by have := HNN.out; rw [cellsP_length] at this; omega
                      have t1 : IntKind.i64.wrap ((at_ : Int) + 1) = (at_ : Int) + 1 := IntWalk.i64_in _ (by omega)
                      have t2 : ((at_ : Int) + 1).toNat = at_ + 1 := by omega
                      have t3 : (0 : Int) ≤ (at_ : Int) + 1 := by omega
                      have t4 : (at_ : Int) + 1 ≤ (n : Int) := by omega
                      have t5 : at_ + 1 ≤ n := hlt
                      have t6 : at_ + 1 ≤ c5 := by omega
                      have hcC := (Kd.R_reads' HC2.out).2.2
                      have hlc : (cellsP P).length = n := HNN.out
                      have hcT := Kd.C_take hcC (m := at_) (by omega)
                      have hcD := Kd.C_drop hcC (m := at_ + 1) (c := c5) (by omega) (by omega)
                      rw [show (foreign w).sz = 1 from rfl, Nat.mul_one, show ((cellsP P).drop (at_ + 1)).length = n - (at_ + 1) by rw [List.length_drop]; omega] at hcD
                      rw [show ((cellsP P).take at_).length = at_ by rw [List.length_take]; omega] at hcT
                      have HCT := Aside0.mk hcT
                      have HCD := Aside0.mk hcD
                      clear hcT hcD hcC hlc
                      go_wp2_with fail
                      go_region_held3 (fun w' => Below wc.heap.size wc w') (((try go_split_ands); (repeat (with_reducible first | assumption | exact Below.refl _ _ | refine below_alloc ?_ _ | refine Below.drew ?_)))) (first
                      | ((with_reducible refine ap_step (w := w) (W3 := wc) (.tmp 108) (.tmp 111) rfl rfl (.slice (some ⟨_, 0, none⟩) 0 0) ([]) ((cellsP P).take at_) A5 at_ c5 rfl rfl ?_ ?_ ?_ ?_ ?_); ((repeat (first | ((with_reducible refine R_empty _ ?_ ?_) <;> (first | with_reducible rfl | omega | (simp only [az, dz]; omega) | simp only [az, dz])) | with_reducible refine Kd.R_drew ?_ | with_reducible refine Kd.R_alloc ?_ _))); ((refine Kd.C_below HCT.out ?_; (try go_split_ands); (repeat (with_reducible first | assumption | exact Below.refl _ _ | refine below_alloc ?_ _ | refine Below.drew ?_)))); ((try go_split_ands); (repeat (with_reducible first | assumption | exact Below.refl _ _ | refine below_alloc ?_ _ | refine Below.drew ?_))); (simp only [List.length_append, List.length_take, List.length_drop, List.length_nil, List.length_cons]; omega); intro v1 y1 hR1 hB1 hG1)
                      | ((with_reducible refine ap_step (w := w) (W3 := wc) (.tmp 112) (.tmp 116) rfl rfl v1 ([] ++ (cellsP P).take at_) ((cellsP P).drop (at_ + 1)) (if c5 = at_ + 1 then A5 else Option.map (fun x => x.add (at_ + 1)) A5) (n - (at_ + 1)) (c5 - (at_ + 1)) rfl rfl ?_ ?_ ?_ ?_ ?_); ((repeat (first | with_reducible exact hR1 | with_reducible refine Kd.R_drew ?_ | with_reducible refine Kd.R_alloc ?_ _))); ((refine Kd.C_below HCD.out ?_; (try go_split_ands); (repeat (with_reducible first | assumption | exact Below.refl _ _ | refine below_alloc ?_ _ | refine Below.drew ?_)))); ((try go_split_ands); (repeat (with_reducible first | assumption | exact Below.refl _ _ | refine below_alloc ?_ _ | refine Below.drew ?_))); (simp only [List.length_append, List.length_take, List.length_drop, List.length_nil, List.length_cons]; omega); intro v2 y2 hR2 hB2 hG2))
                      generalize (if c5 = at_ + 1 then A5 else Option.map (fun x : Addr => ({ block := x.block, off := x.off + (at_ + 1) } : Addr)) A5) = A9
                      have HGh3 := Aside0.mk (heap_below hB2 HGh2.out)
                      have HBk3 := Aside0.mk (HBk2.out.below hB2)
                      have HB3 := Aside0.mk (below_step HB2.out hB2)
                      have HC3 := Aside0.mk (Kd.R_below HC2.out hB2)
                      clear hx0 hx1 hx2
                      have hx0 := cell_at0 HGh3.out
                      have hx1 := cell_at1 HGh3.out
                      have hx2 := cell_at2 HGh3.out
                      go_wp2_with fail
                      refine (remove_good (some ⟨gp, 0, none⟩) 512 P at_ _ (blk_rb5 HBk3.out (good_facts HG1).1) (Nat.le_refl _) HO1 (good_facts HG1).1 HG1 hic).mono ?_
                      rintro e W4 ⟨gr, rfl, hgr, hbr, hb⟩
                      have HRm := Aside0.mk hbr
                      have HB4 := Aside0.mk (below_step HB3.out hb)
                      have HR4 := Aside0.mk (Kd.R_below hR2 hb)
                      clear hb hbr
                      go_wp2_with fail
                      go_meet
                      have hwf := remove_wf HG1 hic
                      exact ⟨gr, removeP P at_, rfl, rfl, ⟨good_iff.mpr hwf.1, removeP_octs HO1 _⟩, HRm, ⟨by rw [hwf.2]; exact (show remL (cellsP P) at_ = [] ++ (cellsP P).take at_ ++ (cellsP P).drop (at_ + 1) by simp [remL]) ▸ Kd.R_lower HR4.out HB2.out.size⟩, HB4⟩
                · by_cases h2 : b3 = 2
                  · subst h2
                    by_cases hn : n = 0
                    · have q5 : ((n : Int) == 0) = true := beq_iff_eq.mpr (by omega)
                      have HN := Aside0.mk hn
                      clear hn h0 h1
                      go_wp2_with fail
                      go_roundg (m0 - 1)
                      case measure => have := HK.out; have := HM0.out; omega
                      case rel => exact ⟨k + 1, gp, P, rfl, by go_num, ⟨by have := HK.out; have := HM0.out; omega⟩, HG, HBk2, HC2, HB2⟩
                    · clear h0 h1
                      as_aux_lemma =>
                        have hlt : at_ < n := by have := HAt.out; omega
                        have q5 : ((n : Int) == 0) = false := beq_eq_false_iff_ne.mpr (by omega)
                        have hic : at_ < cnt P := by have := HNN.out; rw [cellsP_length] at this; omega
                        have t1 : IntKind.i64.wrap ((at_ : Int) + 1) = (at_ : Int) + 1 := IntWalk.i64_in _ (by omega)
                        have t2 : ((at_ : Int) + 1).toNat = at_ + 1 := by omega
                        have t3 : (0 : Int) ≤ (at_ : Int) + 1 := by omega
                        have t4 : (at_ : Int) + 1 ≤ (n : Int) := by omega
                        have t5 : at_ + 1 ≤ n := hlt
                        have t6 : at_ + 1 ≤ c5 := by omega
                        have hcC := (Kd.R_reads' HC2.out).2.2
                        have hlc : (cellsP P).length = n := HNN.out
                        have hcT := Kd.C_take hcC (m := at_) (by omega)
                        have hcD := Kd.C_drop hcC (m := at_ + 1) (c := c5) (by omega) (by omega)
                        rw [show (foreign w).sz = 1 from rfl, Nat.mul_one, show ((cellsP P).drop (at_ + 1)).length = n - (at_ + 1) by rw [List.length_drop]; omega] at hcD
                        rw [show ((cellsP P).take at_).length = at_ by rw [List.length_take]; omega] at hcT
                        have HCT := Aside0.mk hcT
                        have HCD := Aside0.mk hcD
                        clear hcT hcD hcC hlc
                        go_wp2_with fail
                        go_region_held3 (fun w' => Below wc.heap.size wc w') (((try go_split_ands); (repeat (with_reducible first | assumption | exact Below.refl _ _ | refine below_alloc ?_ _ | refine Below.drew ?_)))) (first
                        | ((with_reducible refine ap_step (w := w) (W3 := wc) (.tmp 108) (.tmp 111) rfl rfl (.slice (some ⟨_, 0, none⟩) 0 0) ([]) ((cellsP P).take at_) A5 at_ c5 rfl rfl ?_ ?_ ?_ ?_ ?_); ((repeat (first | ((with_reducible refine R_empty _ ?_ ?_) <;> (first | with_reducible rfl | omega | (simp only [az, dz]; omega) | simp only [az, dz])) | with_reducible refine Kd.R_drew ?_ | with_reducible refine Kd.R_alloc ?_ _))); ((refine Kd.C_below HCT.out ?_; (try go_split_ands); (repeat (with_reducible first | assumption | exact Below.refl _ _ | refine below_alloc ?_ _ | refine Below.drew ?_)))); ((try go_split_ands); (repeat (with_reducible first | assumption | exact Below.refl _ _ | refine below_alloc ?_ _ | refine Below.drew ?_))); (simp only [List.length_append, List.length_take, List.length_drop, List.length_nil, List.length_cons]; omega); intro v1 y1 hR1 hB1 hG1)
                        | ((with_reducible refine ap_step (w := w) (W3 := wc) (.tmp 112) (.tmp 116) rfl rfl v1 ([] ++ (cellsP P).take at_) ((cellsP P).drop (at_ + 1)) (if c5 = at_ + 1 then A5 else Option.map (fun x => x.add (at_ + 1)) A5) (n - (at_ + 1)) (c5 - (at_ + 1)) rfl rfl ?_ ?_ ?_ ?_ ?_); ((repeat (first | with_reducible exact hR1 | with_reducible refine Kd.R_drew ?_ | with_reducible refine Kd.R_alloc ?_ _))); ((refine Kd.C_below HCD.out ?_; (try go_split_ands); (repeat (with_reducible first | assumption | exact Below.refl _ _ | refine below_alloc ?_ _ | refine Below.drew ?_)))); ((try go_split_ands); (repeat (with_reducible first | assumption | exact Below.refl _ _ | refine below_alloc ?_ _ | refine Below.drew ?_))); (simp only [List.length_append, List.length_take, List.length_drop, List.length_nil, List.length_cons]; omega); intro v2 y2 hR2 hB2 hG2))
                        generalize (if c5 = at_ + 1 then A5 else Option.map (fun x : Addr => ({ block := x.block, off := x.off + (at_ + 1) } : Addr)) A5) = A9
                        have HGh3 := Aside0.mk (heap_below hB2 HGh2.out)
                        have HBk3 := Aside0.mk (HBk2.out.below hB2)
                        have HB3 := Aside0.mk (below_step HB2.out hB2)
                        have HC3 := Aside0.mk (Kd.R_below HC2.out hB2)
                        clear hx0 hx1 hx2
                        have hx0 := cell_at0 HGh3.out
                        have hx1 := cell_at1 HGh3.out
                        have hx2 := cell_at2 HGh3.out
                        have hsz : (Rf.rd_L2 (cellsP P) at_).length = szP P at_ := by rw [rd_cellsP hic]; exact cellP_length (good_facts HG1).1 ((good_iff.mp HG1).fit at_ hic).2
                        have hszl : szP P at_ ≤ 512 := by have := ((good_iff.mp HG1).fit at_ hic).2; omega
                        have hw5 : IntKind.i64.wrap (((D k).C.length : Int) - ((Rf.rd_L2 (cellsP P) at_).length : Int)) = ((D k).C.length : Int) - ((Rf.rd_L2 (cellsP P) at_).length : Int) := IntWalk.i64_in _ (by omega)
                        by_cases hfit0 : ((D k).C.length : Int) - szP P at_ ≤ freeP P
                        · have hfit : (D k).C.length ≤ szP P at_ ∨ ((D k).C.length : Int) - szP P at_ ≤ freeP P := .inr hfit0
                          have q6 : decide ((486 : Int) - (sumC (cellsP P) : Int) < ((D k).C.length : Int) - ((Rf.rd_L2 (cellsP P) at_).length : Int)) = false := decide_eq_false (by omega)
                          have HSZ := Aside0.mk hsz
                          clear hsz
                          go_wp2_with fail
                          refine (replace_fit (some ⟨gp, 0, none⟩) Ad 512 cd P (D k).C at_ _ (blk_rb5 HBk3.out (good_facts HG1).1) (Nat.le_refl _) HO1 (good_facts HG1).1 HG1 (Kd.C_below HRd.out HB3.out) hdl hic hdm hfit).mono ?_
                          rintro e W4 ⟨gr, rfl, hgr, hbr, hb⟩
                          have HRm := Aside0.mk hbr
                          have HB4 := Aside0.mk (below_step HB3.out hb)
                          have HC4 := Aside0.mk (Kd.R_below HC3.out hb)
                          have HGh4 := Aside0.mk (heap_below hb HGh3.out)
                          clear hb hbr hR1 hB1 hG1 hR2 hB2 hG2
                          clear hx0 hx1 hx2
                          have hx0 := cell_at0 HGh4.out
                          have hx1 := cell_at1 HGh4.out
                          have hx2 := cell_at2 HGh4.out
                          obtain ⟨ad1, A1, c1, e1, hy1, hl1, hr1⟩ := Rf.at_L2 (foreign_reads (Kd.R_reads' HC4.out).2.2 HB4.out) at_ (by omega) (by have := HNN.out; omega)
                          rw [Int.toNat_natCast] at hy1
                          subst e1
                          clear hr1
                          have t7 : (0 : Int) ≤ (at_ : Int) := by omega
                          have t8 : (at_ : Int) < (n : Int) := by omega
                          go_wp2_with fail
                          go_quiet (fail)
                          go_wp2_with fail
                          obtain ⟨W6, hW6⟩ : ∃ W6, W4.drewN nq = W6 := ⟨_, rfl⟩
                          have HB6 := Aside0.mk (show Below w.heap.size w W6 by rw [← hW6]; exact pw_below_drewN HB4.out _)
                          have HC6 := Aside0.mk (show Kd.R (foreign w) 22 W6 w.heap.size (fun _ => True) (.slice (some ad1) n c5) (cellsP P) by rw [← hW6]; exact HC4.out)
                          have HRm := Aside0.mk (show Blk W6 5 gr (replaceP P at_ (D k).C) by rw [← hW6]; exact HRm.out)
                          have hx2 : W6.cell? ⟨bd, 2, none⟩ = some (.slice Ad (D k).C.length cd) := by rw [← hW6]; exact hx2
                          rw [hW6]
                          clear hW6 hx0 hx1 hy1
                          have hcC := (Kd.R_reads' HC6.out).2.2
                          have hlc : (cellsP P).length = n := HNN.out
                          have hcT := Kd.C_take hcC (m := at_) (by omega)
                          have hcD := Kd.C_drop hcC (m := at_ + 1) (c := c5) (by omega) (by omega)
                          rw [show (foreign w).sz = 1 from rfl, Nat.mul_one, show ((cellsP P).drop (at_ + 1)).length = n - (at_ + 1) by rw [List.length_drop]; omega] at hcD
                          rw [show ((cellsP P).take at_).length = at_ by rw [List.length_take]; omega] at hcT
                          have HCT := Aside0.mk hcT
                          have HCD := Aside0.mk hcD
                          clear hcT hcD hcC hlc
                          go_region_held3 (fun w' => w'.cell? ⟨bd, 2, none⟩ = some (.slice Ad (D k).C.length cd) ∧ Below W6.heap.size W6 w') (first | go_split_ands; exact ⟨pw_cell_below (w := W6) (by (repeat (with_reducible first | assumption | exact Below.refl _ _ | refine below_alloc ?_ _ | refine Below.drew ?_))) hx2, by (repeat (with_reducible first | assumption | exact Below.refl _ _ | refine below_alloc ?_ _ | refine Below.drew ?_))⟩) (first
                          | ((with_reducible refine ap_step (w := w) (W3 := W6) (.tmp 149) (.tmp 152) rfl rfl (.slice (some ⟨_, 0, none⟩) 0 0) ([]) ((cellsP P).take at_) (some ad1) at_ c5 rfl rfl ?_ ?_ ?_ ?_ ?_); ((repeat (first | ((with_reducible refine R_empty _ ?_ ?_) <;> (first | with_reducible rfl | omega | (simp only [az, dz]; omega) | simp only [az, dz])) | with_reducible refine Kd.R_drew ?_ | with_reducible refine Kd.R_alloc ?_ _))); ((refine Kd.C_below HCT.out ?_; (try go_split_ands); (repeat (with_reducible first | assumption | exact Below.refl _ _ | refine below_alloc ?_ _ | refine Below.drew ?_)))); ((try go_split_ands); (repeat (with_reducible first | assumption | exact Below.refl _ _ | refine below_alloc ?_ _ | refine Below.drew ?_))); (simp only [List.length_append, List.length_take, List.length_drop, List.length_nil, List.length_cons]; omega); intro v1 y1 hR1 hB1 hG1)
                          | ((with_reducible refine ap_step (w := w) (W3 := W6) (.tmp 153) (.tmp 156) rfl rfl v1 ([] ++ (cellsP P).take at_) ([(D k).C]) (some ⟨_, 0, none⟩) 1 1 rfl rfl ?_ ?_ ?_ ?_ ?_); ((repeat (first | with_reducible exact hR1 | with_reducible refine Kd.R_drew ?_ | with_reducible refine Kd.R_alloc ?_ _))); ((first | (refine one_read (t := 22) ?_ hdl HRd.out; ((repeat with_reducible refine get_drew ?_); (first | ((with_reducible refine aget_new ?_) <;> (first | with_reducible rfl | omega | (simp only [az, dz]; omega) | simp only [az, dz])) | ((with_reducible refine (aget_old ?_).trans (aget_new ?_)) <;> (first | with_reducible rfl | omega | (simp only [az, dz]; omega) | simp only [az, dz]))))) | (refine one_read (t := 22) ((hG1.block _ (by (first | with_reducible rfl | omega | (simp only [az, dz]; omega) | simp only [az, dz])) (by simp [Value.ownBlock])).trans ?_) hdl HRd.out; ((repeat with_reducible refine get_drew ?_); (first | ((with_reducible refine aget_new ?_) <;> (first | with_reducible rfl | omega | (simp only [az, dz]; omega) | simp only [az, dz])) | ((with_reducible refine (aget_old ?_).trans (aget_new ?_)) <;> (first | with_reducible rfl | omega | (simp only [az, dz]; omega) | simp only [az, dz]))))))); ((try go_split_ands); (repeat (with_reducible first | assumption | exact Below.refl _ _ | refine below_alloc ?_ _ | refine Below.drew ?_))); (simp only [List.length_append, List.length_take, List.length_drop, List.length_nil, List.length_cons]; omega); intro v2 y2 hR2 hB2 hG2)
                          | ((with_reducible refine ap_step (w := w) (W3 := W6) (.tmp 157) (.tmp 161) rfl rfl v2 ([] ++ (cellsP P).take at_ ++ [(D k).C]) ((cellsP P).drop (at_ + 1)) (if c5 = at_ + 1 then (some ad1) else Option.map (fun x => x.add (at_ + 1)) (some ad1)) (n - (at_ + 1)) (c5 - (at_ + 1)) rfl rfl ?_ ?_ ?_ ?_ ?_); ((repeat (first | with_reducible exact hR2 | with_reducible refine Kd.R_drew ?_ | with_reducible refine Kd.R_alloc ?_ _))); ((refine Kd.C_below HCD.out ?_; (try go_split_ands); (repeat (with_reducible first | assumption | exact Below.refl _ _ | refine below_alloc ?_ _ | refine Below.drew ?_)))); ((try go_split_ands); (repeat (with_reducible first | assumption | exact Below.refl _ _ | refine below_alloc ?_ _ | refine Below.drew ?_))); (simp only [List.length_append, List.length_take, List.length_drop, List.length_nil, List.length_cons]; omega); intro v3 y3 hR3 hB3 hG3))
                          all_goals
                            generalize (if c5 = at_ + 1 then some ad1 else some ({ block := ad1.block, off := ad1.off + (at_ + 1) } : Addr)) = A9
                            go_wp2_with fail
                            go_meet
                            have hwf := replace_wf HG1 hic hfit
                            exact ⟨gr, replaceP P at_ (D k).C, rfl, rfl, ⟨good_iff.mpr hwf.1, replaceP_octs HO1 hdo _⟩, ⟨HRm.out.below hB3⟩, ⟨by rw [hwf.2]; exact (show repL (cellsP P) at_ (D k).C = [] ++ (cellsP P).take at_ ++ [(D k).C] ++ (cellsP P).drop (at_ + 1) by simp [repL]) ▸ Kd.R_lower hR3 HB6.out.size⟩, ⟨below_step HB6.out hB3⟩⟩
                        · have q6 : decide ((486 : Int) - (sumC (cellsP P) : Int) < ((D k).C.length : Int) - ((Rf.rd_L2 (cellsP P) at_).length : Int)) = true := decide_eq_true (by omega)
                          have HSZ := Aside0.mk hsz
                          have HF0 := Aside0.mk hfit0
                          clear hsz hfit0
                          go_wp2_with fail
                          refine (replace_full (some ⟨gp, 0, none⟩) Ad 512 cd P (D k).C at_ _ (blk_rb5 HBk3.out (good_facts HG1).1) (Nat.le_refl _) HO1 (good_facts HG1).1 HG1 hic hdm (by have := HF0.out; omega) (by have := HF0.out; omega)).mono ?_
                          rintro e W4 ⟨rfl, hb⟩
                          have HB4 := Aside0.mk (below_step HB3.out hb)
                          have HC4 := Aside0.mk (Kd.R_below HC3.out hb)
                          have HBk4 := Aside0.mk (HBk3.out.below hb)
                          have HGh4 := Aside0.mk (heap_below hb HGh3.out)
                          clear hb hR1 hB1 hG1 hR2 hB2 hG2
                          clear hx0 hx1 hx2
                          have hx0 := cell_at0 HGh4.out
                          have hx1 := cell_at1 HGh4.out
                          have hx2 := cell_at2 HGh4.out
                          obtain ⟨ad1, A1, c1, e1, hy1, hl1, hr1⟩ := Rf.at_L2 (foreign_reads (Kd.R_reads' HC4.out).2.2 HB4.out) at_ (by omega) (by have := HNN.out; omega)
                          rw [Int.toNat_natCast] at hy1
                          subst e1
                          clear hr1
                          have t7 : (0 : Int) ≤ (at_ : Int) := by omega
                          have t8 : (at_ : Int) < (n : Int) := by omega
                          go_wp2_with fail
                          go_quiet (fail)
                          go_wp2_with fail
                          go_roundg (m0 - 1)
                          case measure => have := HK.out; have := HM0.out; omega
                          case rel => exact ⟨k + 1, gp, P, rfl, by go_num, ⟨by have := HK.out; have := HM0.out; omega⟩, HG, HBk4, HC4, ⟨pw_below_drewN HB4.out _⟩⟩
                  · have q1 : (b3 == 0) = false := beq_eq_false_iff_ne.mpr h0
                    have q2 : (b3 == 1) = false := beq_eq_false_iff_ne.mpr h1
                    have q3 : (b3 == 2) = false := beq_eq_false_iff_ne.mpr h2
                    clear h0 h1 h2
                    go_wp2_with fail
                    go_meet
                    exact ⟨gq, anewP P, rfl, rfl, ⟨good_iff.mpr (anew_wf (good_iff.mp HG1) (fits_of_good HG1)), anew_octs HO1⟩, HBq, ⟨by rw [anew_cells (good_facts HG1).1 (fits_of_good HG1)]; exact HC2.out⟩, HB2⟩
            case rest =>
              as_aux_lemma =>
                obtain ⟨gn, Q, rfl, rfl, HGQ, HBkQ, HCQ, HBQ⟩ := hcut
                obtain ⟨A12, c12, ev⟩ := Kd.R_slice HCQ.out
                subst ev
                clear hx0 hx1 hx2 HBk2 HC2 HB2 HGh2 HBq HAt HAN hatn hatc hb3 HNN
                go_wp2_with fail
                refine (good5 (some ⟨gn, 0, none⟩) 512 Q _ (blk_rb5 HBkQ.out (good_facts HGQ.out.1).1) (Nat.le_refl _) HGQ.out.2 (good_facts HGQ.out.1).1).mono ?_
                rw [HGQ.out.1]
                rintro e W4 ⟨rfl, hb⟩
                have HBk4 := Aside0.mk (HBkQ.out.below hb)
                have HC4 := Aside0.mk (Kd.R_below HCQ.out hb)
                have HB4 := Aside0.mk (below_step HBQ.out hb)
                clear hb HBkQ HCQ HBQ
                go_wp2_with fail
                refine (cells_p (some ⟨gn, 0, none⟩) 512 Q _ (blk_rb5 HBk4.out (good_facts HGQ.out.1).1) (Nat.le_refl _) HGQ.out.2 (good_facts HGQ.out.1).1 HGQ.out.1).mono ?_
                rintro e W5 ⟨A14, c14, rfl, hc14, hr14, hb⟩
                have HR14 := Aside0.mk hr14
                have HBk5 := Aside0.mk (HBk4.out.below hb)
                have HC5 := Aside0.mk (Kd.R_below HC4.out hb)
                have HB5 := Aside0.mk (below_step HB4.out hb)
                clear hb hr14 HBk4 HC4 HB4
                go_wp2_with fail
                refine (freeF_good (some ⟨gn, 0, none⟩) 512 Q _ (blk_rb5 HBk5.out (good_facts HGQ.out.1).1) (Nat.le_refl _) HGQ.out.2 (good_facts HGQ.out.1).1 HGQ.out.1 (by have := (good_iff.mp HGQ.out.1).slots; have := (good_iff.mp HGQ.out.1).low; omega)).mono ?_
                rintro e W6 ⟨rfl, hb⟩
                have HR14b := Aside0.mk (Kd.C_below HR14.out hb)
                have HBk6 := Aside0.mk (HBk5.out.below hb)
                have HC6 := Aside0.mk (Kd.R_below HC5.out hb)
                have HB6 := Aside0.mk (below_step HB5.out hb)
                have hfs2 := free_sum HGQ.out.1
                have hfn2 := free_nonneg HGQ.out.1
                have hcn2 : (cellsP Q).length ≤ 121 := by rw [cellsP_length]; have := (good_iff.mp HGQ.out.1).slots; have := (good_iff.mp HGQ.out.1).low; omega
                clear hb HR14 HBk5 HC5 HB5
                go_wp2_with fail
                obtain ⟨Ac2, cc2, ev, hnc2, hrc2⟩ := Kd.R_reads HC6.out
                have hrc2 := foreign_reads hrc2 HB6.out
                simp only [Value.slice.injEq, true_and] at ev
                obtain ⟨rfl, rfl⟩ := ev
                have HRC2 := Aside0.mk hrc2
                clear hrc2
                go_loopg [18, 19] (cellsP Q).length (fun m v8 v9 ws => ∃ j : Nat, v9 = .int .i64 j ∧ v8 = .int .i64 (486 - (sumC ((cellsP Q).take j) : Int)) ∧ Aside0 (j + m = (cellsP Q).length) ∧ ws = W6)
                case atStart => exact ⟨0, rfl, by simp [sumC], ⟨by omega⟩, rfl⟩
                case round =>
                  obtain ⟨j, rfl, rfl, HJ, rfl⟩ := hrel
                  have hj := HJ.out
                  by_cases hjl : j < (cellsP Q).length
                  · obtain ⟨ad1, A1, c1, e1, hx1, hl1, hr1⟩ := Rf.at_L2 HRC2.out j (by omega) (by omega)
                    subst e1
                    rw [Int.toNat_natCast] at hx1
                    have hst := sumC_take hjl
                    have hsl := sumC_le (cellsP Q) (j + 1)
                    have HST := Aside0.mk hst
                    have hw1 : IntKind.i64.wrap (486 - (sumC ((cellsP Q).take j) : Int) - 4) = 486 - (sumC ((cellsP Q).take j) : Int) - 4 := IntWalk.i64_in _ (by omega)
                    have hw2 : IntKind.i64.wrap (486 - (sumC ((cellsP Q).take j) : Int) - 4 - ((Rf.rd_L2 (cellsP Q) j).length : Int)) = 486 - (sumC ((cellsP Q).take (j + 1)) : Int) := by rw [IntWalk.i64_in _ (by omega)]; omega
                    clear hr1 hst
                    go_wp2_with fail
                    go_roundg (gk - 1)
                    case measure => have := HJ.out; omega
                    case rel => exact ⟨j + 1, by go_num, by first | rfl | (have := HST.out; go_num), ⟨by have := HJ.out; omega⟩, rfl⟩
                  · obtain rfl : j = (cellsP Q).length := by omega
                    have etk : (cellsP Q).take (cellsP Q).length = cellsP Q := List.take_of_length_le (Nat.le_refl _)
                    have hneq : ((486 - (sumC (cellsP Q) : Int)) != 486 - (sumC (cellsP Q) : Int)) = false := by simp
                    rw [etk]
                    clear etk hjl hj HJ
                    try rw [hfs2]
                    go_wp2_with fail
                    have hll := lists_x A14 A12 c14 c12 (cellsP Q) (cellsP Q) _ HR14b.out HRC2.out hc14 hnc2 (octs_cells HGQ.out.2) (octs_cells HGQ.out.2)
                    rw [decide_eq_true rfl] at hll
                    refine hll.mono ?_
                    rintro e W7 ⟨rfl, hb⟩
                    have HBk7 := Aside0.mk (HBk6.out.below hb)
                    have HC7 := Aside0.mk (Kd.R_below HC6.out hb)
                    have HB7 := Aside0.mk (below_step HB6.out hb)
                    clear hb hll HBk6 HC6 HB6
                    go_wp2_with fail
                    go_roundg (m0 - 1)
                    case measure => have := HK.out; have := HM0.out; omega
                    case rel => exact ⟨k + 1, gn, Q, rfl, by go_num, ⟨by have := HK.out; have := HM0.out; omega⟩, HGQ, HBk7, HC7, HB7⟩
    · obtain rfl : k = len := by omega
      go_wp2_with fail
      go_ret
      exact ⟨rfl, HB.out⟩
end Go.Proofs.Ytpogneedafoiaaa.Pg
