/- TrailDoes: the law's walk: it answers true. No conditions. -/
import Derived.Test.YtcjachhdoogbaaaTDuo
set_option linter.unusedVariables false
set_option linter.unusedSimpArgs false
namespace Go.Proofs.Ytcjachhdoogbaaa.PT
open Go.RowKit Go.Proofs.YtcjachhdoogbaaaW.PrintWords Go.Proofs.YtcjachhdoogbaaaW.PrintLast Go.Proofs.YtcjachhdoogbaaaW.PrintMore
theorem newC_zero (D : List (List S62)) (h : ∀ x ∈ D, Dom x) : newC D = 0 := by
  induction D with
  | nil => rfl
  | cons d D ih =>
    rw [newC, if_pos ((chk_zero d).2 (h d (by simp)))]
    exact ih (fun x hx => h x (by simp [hx]))
/-- The two numbers at the head of a block that is not written. -/
theorem int2_held {T : Nat → Prop} {w : World} {b : Nat} {arr : Array Value} {e : TypeId} {x y : Int} (h : w.heap[b]? = some (.cells arr e (0, 0))) (h0 : arr[0]? = some (.int .i64 x)) (h1 : arr[1]? = some (.int .i64 y)) (hT : ¬ T b) : Held (Kd.int .i64) T w (some ⟨b, 0, none⟩) 2 [x, y] :=
  ⟨Nat.le_refl _, fun W' hW => by
    have hh := (hW b ⟨hT, blk_lt h⟩ (blk_lt h)).trans h
    refine ⟨rfl, by show 2 ≤ 9223372036854775807; decide, fun _ => ⟨_, rfl, fun j p hj => ?_⟩⟩
    match j, hj with
    | 0, hj => exact ⟨[.int .i64 x], rfl, by cases hj; rfl, fun t u ht => by
        match t, ht with
        | 0, ht => cases ht; exact (cell_at hh 0).trans h0⟩
    | 1, hj => exact ⟨[.int .i64 y], rfl, by cases hj; rfl, fun t u ht => by
        match t, ht with
        | 0, ht => cases ht; exact (cell_at hh 1).trans h1⟩⟩
theorem int2_cells {T : Nat → Prop} {w : World} {b : Nat} {x y : Int} (h : Held (Kd.int .i64) T w (some ⟨b, 0, none⟩) 2 [x, y]) : w.cell? ⟨b, 0, none⟩ = some (.int .i64 x) ∧ w.cell? ⟨b, 1, none⟩ = some (.int .i64 y) := by
  obtain ⟨_, _, hC⟩ := h.now
  obtain ⟨ad, e, hr⟩ := hC (by show 0 < 2; decide)
  cases e
  obtain ⟨c0, _, k0, h0⟩ := hr 0 x rfl
  obtain ⟨c1, _, k1, h1⟩ := hr 1 y rfl
  have e0 : c0 = [.int .i64 x] := k0
  have e1 : c1 = [.int .i64 y] := k1
  subst e0; subst e1
  exact ⟨h0 0 _ rfl, h1 0 _ rfl⟩
set_option maxRecDepth 100000
set_option maxHeartbeats 4000000
theorem does_calls (A0 : Option Addr) (c0 : Nat) (l0 : List (List Int)) (A1 : Option Addr) (c1 : Nat) (l1 : List S33) (w : World) (hr0 : Kd.C kI w A0 l0.length l0) (hc0 : l0.length ≤ c0) (hr1 : Kd.C k33 w A1 l1.length l1) (hc1 : l1.length ≤ c1) :
    Calls Try.prog 8 #[.slice A0 l0.length c0, .slice A1 l1.length c1] w fun e w' => e = .returned (.bool true) ∧ Below w.heap.size w w' := by
  have HR0 := Aside0.mk hr0
  have HC0 := Aside0.mk hc0
  have HR1 := Aside0.mk hr1
  have HC1 := Aside0.mk hc1
  obtain ⟨D, hD, hD1, hD2⟩ := doms_f KK l0 (by rw [kk]; omega)
  have HD := Aside0.mk hD
  have HG := Aside0.mk (show Good D [] 0 from ⟨by omega, fun x hx => (hD2 x hx).1, fun c hc => (by cases hc), by simp⟩)
  clear hr0 hc0 hr1 hc1 hD hD1 hD2
  have hu25 := Try.underlying25
  have hu3 := Try.underlying3
  have hu33 := Try.underlying33
  go_enter Try.func8, Try.ntmps8
  go_wp2_with fail
  refine (s_domsX A0 c0 l0 D w HR0.out HC0.out HD.out).mono ?_
  rintro e w1 ⟨AD, cD, rfl, hf, hb⟩
  have HB1 := Aside0.mk hb
  have HF := Aside0.mk hf
  clear hb hf
  go_wp2_with fail
  refine (s_new AD cD D w1 (Kd.F_now HF.out.2) HF.out.1 HG.out).mono ?_
  rintro e w2 ⟨g0, T0, rfl, hs⟩
  have HS2 := Aside0.mk hs
  clear hs HF
  go_wp2_with fail
  refine (s_domsX A0 c0 l0 D w2 (Kd.C_below (Kd.C_below HR0.out HB1.out) HS2.out.below) HC0.out HD.out).mono ?_
  rintro e w3 ⟨AE, cE, rfl, hf, hb⟩
  have HS3 := Aside0.mk (HS2.out.read hb)
  have HF := Aside0.mk hf
  clear hb hf HS2
  go_wp2_with fail
  refine (newR_calls AE cE D w3 (Kd.F_now HF.out.2) HF.out.1 ⟨by have := HG.out.len; omega, fun x hx => by have := HG.out.small x hx; omega⟩).mono ?_
  rintro e w4 ⟨hb, ⟨_, kb, Al, cl, rfl, hkb, hblk, hfr, hfk⟩ | ⟨hne, _⟩⟩
  rotate_left
  · exact absurd (newC_zero D HG.out.dom) hne
  have HX4 := Aside0.mk (show Duo T0 (fun k => w3.heap.size ≤ k ∧ k < w4.heap.size) w1 w4 w1.heap.size g0 kb D [] [] 0 D (0 : Nat) [] from
    ⟨HS3.out.read hb, ⟨Al, cl, none, 0, ⟨hkb, blk_lt hblk⟩, Nat.le_trans HS3.out.size hkb, hblk, hfr.1, Kd.F_mono (Kd.F_bound hfk) (fun k hk => ⟨⟨hk.1.1, hk.2⟩, hk.1.2, by simp [Value.ownBlock]⟩), Kd.N_nil _ _ _ _ _⟩,
      fun k h1 h2 => absurd (HS3.out.hi k h1) (Nat.not_lt.2 h2.1), fun k h1 => h1.2⟩)
  have HH4 := Aside0.mk ((((Held.of_C (T := fun k => T0 k ∨ (w3.heap.size ≤ k ∧ k < w4.heap.size)) heap33 HR1.out HC1.out (base := w1.heap.size) (fun k hk => hk.elim (HS3.out.lo k) (fun h => Nat.le_trans HS3.out.size h.1)) HB1.out.size).below HB1.out).below HS3.out.below).below hb)
  clear hb hkb hblk hfr hfk HS3 HF HR0 HC0 HR1 HC1 HD
  go_wp2_with fail
  go_loopg [5, 9] (min l1.length 40) (fun j v5 v9 wr => ∃ (i g : Nat), v5 = .pointer (some ⟨g, 0, none⟩) ∧ v9 = .int .i64 (i : Int) ∧ Aside0 (i + j = min l1.length 40) ∧ Aside0 (∃ T R L C M, Duo T R w1 wr w1.heap.size g kb L C M i L (C.length : Int) (M.map (snap L C)) ∧ Mrk C M i ∧ Held k33 (fun k => T k ∨ R k) wr A1 c1 l1))
  case atStart => exact ⟨0, g0, rfl, rfl, ⟨Nat.zero_add _⟩, ⟨T0, _, D, [], [], HX4.out, ⟨by simp, fun m hm => (by cases hm), List.Pairwise.nil⟩, HH4.out⟩⟩
  case round =>
    obtain ⟨i, g, rfl, rfl, HI, HX0⟩ := hrel
    obtain ⟨T, R, L, C, M, hx, hm, hh⟩ := HX0.out
    have HX := Aside0.mk hx
    have HM := Aside0.mk hm
    have HH := Aside0.mk hh
    clear hx hm hh HX4 HH4 HX0
    by_cases hlt : i < l1.length
    · by_cases h40 : i < 40
      · have hi1 : (i : Int) < (l1.length : Int) := by omega
        obtain ⟨ad, A2, c2, A3, c3, e, hx0, hx1, hx2, hx3, hh2, hh3⟩ := at_H33 HH.out (i : Int) (by omega) hi1
        cases e
        rw [Int.toNat_natCast] at hx0 hx1 hx2 hx3
        have H2 := Aside0.mk hh2
        have H3 := Aside0.mk hh3
        have q1 := eq_true hi1
        have q2 := eq_true hlt
        have q3 : decide ((i : Int) < (l1.length : Int)) = true := decide_eq_true hi1
        have q4 : decide ((i : Int) < 40) = true := decide_eq_true (by omega)
        have q5 := eq_true h40
        obtain ⟨j, hj⟩ : ∃ j, gk = j + 1 := ⟨gk - 1, by have := HI.out; omega⟩
        have HJ := Aside0.mk hj
        have HI40 := Aside0.mk h40
        clear hj hh2 hh3
        go_wp2_with fail
        have hbk := heap_alloc_new wr (.cells #[.int .i64 (rd_T33 l1 (i : Int)).f0, .int .i64 (rd_T33 l1 (i : Int)).f1, .slice A2 (rd_T33 l1 (i : Int)).f2.length c2, .slice A3 (rd_T33 l1 (i : Int)).f3.length c3] 33)
        have hb3 := below_alloc (Below.refl wr.heap.size wr) (.cells #[.int .i64 (rd_T33 l1 (i : Int)).f0, .int .i64 (rd_T33 l1 (i : Int)).f1, .slice A2 (rd_T33 l1 (i : Int)).f2.length c2, .slice A3 (rd_T33 l1 (i : Int)).f3.length c3] 33)
        obtain ⟨w3', hw3⟩ : ∃ w3', w3' = wr.alloc (.cells #[.int .i64 (rd_T33 l1 (i : Int)).f0, .int .i64 (rd_T33 l1 (i : Int)).f1, .slice A2 (rd_T33 l1 (i : Int)).f2.length c2, .slice A3 (rd_T33 l1 (i : Int)).f3.length c3] 33) := ⟨_, rfl⟩
        rw [← hw3] at hbk hb3
        rw [← hw3]
        have HX4 := Aside0.mk (HX.out.read hb3)
        have HH4 := Aside0.mk (HH.out.below hb3)
        have HO4 := Aside0.mk (int2_held (T := fun k => T k ∨ R k) hbk rfl rfl (fun h => absurd (h.elim (HX.out.s.hi _) (HX.out.rhi _)) (Nat.lt_irrefl _)))
        have H24 := Aside0.mk (H2.out.below hb3)
        have H34 := Aside0.mk (H3.out.below hb3)
        clear hbk hb3 hw3 hx0 hx1 hx2 hx3 HX HH H2 H3
        refine (d_part (rd_T33 l1 (i : Int)).f0 (rd_T33 l1 (i : Int)).f1 A2 c2 (rd_T33 l1 (i : Int)).f2 A3 c3 (rd_T33 l1 (i : Int)).f3 HX4.out ⟨HX4.out.s.good.len, HX4.out.s.good.dom⟩ H24.out H34.out).mono ?_
        rintro e w5 ⟨A5, c5, d, rfl, hd, hdl, hb⟩
        have HD5 := Aside0.mk hd
        have HDL := Aside0.mk hdl
        have HX5 := Aside0.mk (HX4.out.read hb)
        have HH5 := Aside0.mk (HH4.out.below hb)
        have HO5 := Aside0.mk (HO4.out.below hb)
        clear hd hdl hb HX4 HH4 HO4 H24 H34
        obtain ⟨z, hz⟩ : ∃ z, z = (rd_T33 l1 (i : Int)).f0 := ⟨_, rfl⟩
        obtain ⟨y, hy⟩ : ∃ y, y = (rd_T33 l1 (i : Int)).f1 := ⟨_, rfl⟩
        rw [← hz, ← hy] at HO5
        rw [← hz, ← hy]
        obtain ⟨hy0, hy1⟩ := int2_cells HO5.out
        clear hz hy
        by_cases z0 : z = 0
        · subst z0
          go_wp2_with fail
          obtain ⟨L', C', r, hset, -⟩ := setS_f KK L C y d (by rw [kk]; omega) HX5.out.s.good.dom (by have := HDL.out; omega)
          have HSET := Aside0.mk hset
          have HMS := Aside0.mk (mrk_set HX5.out.s.good HM.out (by have := HDL.out; omega) hset)
          have HSR := Aside0.mk (setR_setS L C y d HX5.out.s.good.dom (by have := HDL.out; omega) L' C' r hset)
          have HGL := Aside0.mk HX5.out.s.good
          clear hset
          refine (d_set y A5 c5 d L' C' r HX5.out HD5.out (by have := HDL.out; omega) (by have := HI40.out; omega) HSET.out).mono ?_
          rintro e w6 ⟨T6, rfl, hx, hk⟩
          have HX6 := Aside0.mk hx
          have HH6 := Aside0.mk (hk _ _ _ _ HH5.out)
          have HD6 := Aside0.mk (hk _ _ _ _ HD5.out)
          have HO6 := Aside0.mk (hk _ _ _ _ HO5.out)
          clear hx hk hy0 hy1 HX5 HH5 HD5 HO5
          obtain ⟨hy0, hy1⟩ := int2_cells HO6.out
          go_wp2_with fail
          refine (d_rset y A5 c5 d L' (C'.length : Int) r HX6.out HD6.out HDL.out ⟨HGL.out.len, HGL.out.dom⟩ ⟨by omega, by have := HGL.out.few; have := HI40.out; omega⟩ HSR.out).mono ?_
          rintro e w7 ⟨R7, rfl, hx, hk⟩
          rw [HMS.out.2] at hx
          have HX7 := Aside0.mk hx
          have HH7 := Aside0.mk (hk _ _ _ _ HH6.out)
          have HD7 := Aside0.mk (hk _ _ _ _ HD6.out)
          have HO7 := Aside0.mk (hk _ _ _ _ HO6.out)
          clear hx hk hy0 hy1 HX6 HH6 HD6 HO6
          obtain ⟨hy0, hy1⟩ := int2_cells HO7.out
          have r1 : (r == r) = true := beq_self_eq_true r
          have r2 : (r != r) = false := bne_self_eq_false r
          have r3 : decide (r = r) = true := decide_eq_true rfl
          go_wp2_with fail
          refine (d_same HX7.out (by simp)).mono ?_
          rintro e wy ⟨rfl, hb⟩
          have HXy := Aside0.mk (HX7.out.read hb)
          have HHy := Aside0.mk (HH7.out.below hb)
          clear hb hy0 hy1
          go_wp2
          go_roundg j
          case measure => have := HJ.out; omega
          case rel =>
            have e0 := HI.out
            have e1 := HJ.out
            exact ⟨i + 1, g, by simp, by simp, ⟨by omega⟩, ⟨T6, R7, L', C', M, HXy.out, HMS.out.1, HHy.out⟩⟩
        · have z01 : (z == 0) = false := beq_eq_false_iff_ne.mpr z0
          have z02 : decide (z = 0) = false := decide_eq_false z0
          by_cases z1 : z = 1
          · subst z1
            go_wp2_with fail
            refine (d_mark HX5.out (by have := HM.out.len; have := HI40.out; omega)).mono ?_
            rintro e w6 ⟨T6, rfl, hx, hk⟩
            have HX6 := Aside0.mk hx
            have HH6 := Aside0.mk (hk _ _ _ _ HH5.out)
            have HO6 := Aside0.mk (hk _ _ _ _ HO5.out)
            clear hx hk hy0 hy1 HX5 HH5 HD5 HO5
            obtain ⟨hy0, hy1⟩ := int2_cells HO6.out
            go_wp2_with fail
            refine (d_rmark HX6.out ⟨HX6.out.s.good.len, fun x hx => by have := HX6.out.s.good.small x hx; omega⟩ (by rw [List.length_map]; have := HM.out.len; have := HI40.out; omega)).mono ?_
            rintro e w7 ⟨R7, rfl, hx, hk⟩
            have HMK := Aside0.mk (mrk_mark L HM.out)
            rw [HMK.out.2] at hx
            have HX7 := Aside0.mk (hx.more (Nat.le_succ i))
            have HH7 := Aside0.mk (hk _ _ _ _ HH6.out)
            have HO7 := Aside0.mk (hk _ _ _ _ HO6.out)
            clear hx hk hy0 hy1 HX6 HH6 HO6
            obtain ⟨hy0, hy1⟩ := int2_cells HO7.out
            go_wp2_with fail
            refine (d_same HX7.out (by simp)).mono ?_
            rintro e wy ⟨rfl, hb⟩
            have HXy := Aside0.mk (HX7.out.read hb)
            have HHy := Aside0.mk (HH7.out.below hb)
            clear hb hy0 hy1
            go_wp2
            go_roundg j
            case measure => have := HJ.out; omega
            case rel =>
              have e0 := HI.out
              have e1 := HJ.out
              exact ⟨i + 1, g, by simp, by simp, ⟨by omega⟩, ⟨T6, R7, L, C, M ++ [(C.length : Int)], HXy.out, HMK.out.1, HHy.out⟩⟩
          · have z11 : (z == 1) = false := beq_eq_false_iff_ne.mpr z1
            have z12 : decide (z = 1) = false := decide_eq_false z1
            by_cases z2 : z = 2
            · subst z2
              by_cases hM0 : 0 < M.length
              · obtain ⟨M', m, rfl⟩ := last_of hM0
                clear hM0
                have HMK := Aside0.mk (mrk_back L HM.out)
                have HML := Aside0.mk (show M'.length ≤ 40 by have := HMK.out.1.len; have := HI40.out; omega)
                go_wp2_with fail
                refine (d_back m HX5.out HMK.out.2.2.2 (by have := HML.out; omega) (by have := HI40.out; omega)).mono ?_
                rintro e w6 ⟨T6, rfl, hx, hk⟩
                rw [HMK.out.2.1] at hx
                have HX6 := Aside0.mk hx
                have HH6 := Aside0.mk (hk _ _ _ _ HH5.out)
                have HO6 := Aside0.mk (hk _ _ _ _ HO5.out)
                clear hx hk hy0 hy1 HX5 HH5 HD5 HO5
                obtain ⟨hy0, hy1⟩ := int2_cells HO6.out
                go_wp2_with fail
                refine (d_rback (⟨undo L C m.toNat, m⟩ : S74) HX6.out ⟨HX6.out.s.good.len, fun x hx => by have := HX6.out.s.good.small x hx; omega⟩ (by rw [List.length_map]; have := HML.out; omega)).mono ?_
                rintro e w7 ⟨R7, rfl, hx0, hk⟩
                have hx : Duo T6 R7 w1 w7 w1.heap.size g kb (undo L C m.toNat) (C.take m.toNat) M' i (undo L C m.toNat) ((C.take m.toNat).length : Int) (M'.map (snap (undo L C m.toNat) (C.take m.toNat))) := by rw [HMK.out.2.2.1]; exact hx0
                have HX7 := Aside0.mk (hx.more (Nat.le_succ i))
                have HH7 := Aside0.mk (hk _ _ _ _ HH6.out)
                have HO7 := Aside0.mk (hk _ _ _ _ HO6.out)
                clear hx hx0 hk hy0 hy1 HX6 HH6 HO6
                obtain ⟨hy0, hy1⟩ := int2_cells HO7.out
                go_wp2_with fail
                refine (d_same HX7.out (by simp)).mono ?_
                rintro e wy ⟨rfl, hb⟩
                have HXy := Aside0.mk (HX7.out.read hb)
                have HHy := Aside0.mk (HH7.out.below hb)
                clear hb hy0 hy1
                go_wp2
                go_roundg j
                case measure => have := HJ.out; omega
                case rel =>
                  have e0 := HI.out
                  have e1 := HJ.out
                  exact ⟨i + 1, g, by simp, by simp, ⟨by omega⟩, ⟨T6, R7, undo L C m.toNat, C.take m.toNat, M', HXy.out, HMK.out.1, HHy.out⟩⟩
              · obtain rfl : M = [] := List.eq_nil_of_length_eq_zero (by omega)
                clear hM0
                go_wp2_with fail
                refine (back_none HX5.out.s.st).mono ?_
                rintro e w6 ⟨rfl, hb⟩
                have HX6 := Aside0.mk (HX5.out.read hb)
                have HH6 := Aside0.mk (HH5.out.below hb)
                have HO6 := Aside0.mk (HO5.out.below hb)
                clear hb hy0 hy1 HX5 HH5 HD5 HO5
                obtain ⟨hy0, hy1⟩ := int2_cells HO6.out
                go_wp2_with fail
                refine (rback_none HX6.out.r).mono ?_
                rintro e w7 ⟨rfl, hb⟩
                have HX7 := Aside0.mk ((HX6.out.read hb).more (Nat.le_succ i))
                have HH7 := Aside0.mk (HH6.out.below hb)
                have HO7 := Aside0.mk (HO6.out.below hb)
                clear hb hy0 hy1 HX6 HH6 HO6
                obtain ⟨hy0, hy1⟩ := int2_cells HO7.out
                go_wp2_with fail
                refine (d_same HX7.out (by simp)).mono ?_
                rintro e wy ⟨rfl, hb⟩
                have HXy := Aside0.mk (HX7.out.read hb)
                have HHy := Aside0.mk (HH7.out.below hb)
                clear hb hy0 hy1
                go_wp2
                go_roundg j
                case measure => have := HJ.out; omega
                case rel =>
                  have e0 := HI.out
                  have e1 := HJ.out
                  exact ⟨i + 1, g, by simp, by simp, ⟨by omega⟩, ⟨T, R, L, C, [], HXy.out, HM.out.more (Nat.le_succ i), HHy.out⟩⟩
            · have z21 : (z == 2) = false := beq_eq_false_iff_ne.mpr z2
              have z22 : decide (z = 2) = false := decide_eq_false z2
              by_cases z3 : z = 3
              · subst z3
                go_wp2_with fail
                refine (d_copy HX5.out (by have := HI40.out; omega) (by have := HM.out.len; have := HI40.out; omega)).mono ?_
                rintro e w6 ⟨g6, T6, To, U, rfl, hx, ho, hu, hk⟩
                have HGL := Aside0.mk hx.s.good
                have HX6 := Aside0.mk hx
                have HO_ := Aside0.mk ho
                have HU := Aside0.mk hu
                have HH6 := Aside0.mk (hk _ _ _ _ HH5.out)
                have HO6 := Aside0.mk (hk _ _ _ _ HO5.out)
                clear hx ho hu hk hy0 hy1 HX5 HH5 HD5 HO5
                obtain ⟨hy0, hy1⟩ := int2_cells HO6.out
                go_wp2_with fail
                refine (d_oldback HX6.out HO_.out HU.out HGL.out HM.out (by have := HI40.out; omega)).mono ?_
                rintro e w7 ⟨r7, L7, C7, M7, T7, rfl, hx, ho, hg, hk⟩
                have HG7 := Aside0.mk hg
                have HX7 := Aside0.mk hx
                have HO7_ := Aside0.mk ho
                have HH7 := Aside0.mk (hk _ _ _ _ HH6.out)
                have HO7 := Aside0.mk (hk _ _ _ _ HO6.out)
                clear hx ho hg hk hy0 hy1 HX6 HH6 HO6 HO_
                obtain ⟨hy0, hy1⟩ := int2_cells HO7.out
                go_wp2_with fail
                refine (d_oldset HX7.out HO7_.out HU.out HG7.out (by have := HI40.out; omega)).mono ?_
                rintro e w8 ⟨r8, rfl, hx, hk⟩
                have HX8 := Aside0.mk (hx.more (Nat.le_succ i))
                have HH8 := Aside0.mk (hk _ _ _ _ HH7.out)
                have HO8 := Aside0.mk (hk _ _ _ _ HO7.out)
                clear hx hk hy0 hy1 HX7 HH7 HO7
                obtain ⟨hy0, hy1⟩ := int2_cells HO8.out
                go_wp2_with fail
                refine (d_same HX8.out (by simp)).mono ?_
                rintro e wy ⟨rfl, hb⟩
                have HXy := Aside0.mk (HX8.out.read hb)
                have HHy := Aside0.mk (HH8.out.below hb)
                clear hb hy0 hy1
                go_wp2
                go_roundg j
                case measure => have := HJ.out; omega
                case rel =>
                  have e0 := HI.out
                  have e1 := HJ.out
                  exact ⟨i + 1, g6, by simp, by simp, ⟨by omega⟩, ⟨T6, R, L, C, M, HXy.out, HM.out.more (Nat.le_succ i), HHy.out⟩⟩
              · have z31 : (z == 3) = false := beq_eq_false_iff_ne.mpr z3
                have z32 : decide (z = 3) = false := decide_eq_false z3
                replace z0 := eq_false z0
                replace z1 := eq_false z1
                replace z2 := eq_false z2
                replace z3 := eq_false z3
                have HX7 := Aside0.mk (HX5.out.more (Nat.le_succ i))
                have HH7 := HH5
                clear HX5 HH5 HD5
                go_wp2_with fail
                refine (d_same HX7.out (by simp)).mono ?_
                rintro e wy ⟨rfl, hb⟩
                have HXy := Aside0.mk (HX7.out.read hb)
                have HHy := Aside0.mk (HH7.out.below hb)
                clear hb hy0 hy1
                go_wp2
                go_roundg j
                case measure => have := HJ.out; omega
                case rel =>
                  have e0 := HI.out
                  have e1 := HJ.out
                  exact ⟨i + 1, g, by simp, by simp, ⟨by omega⟩, ⟨T, R, L, C, M, HXy.out, HM.out.more (Nat.le_succ i), HHy.out⟩⟩
      · have q3 : decide ((i : Int) < (l1.length : Int)) = true := decide_eq_true (by omega)
        have q4 : decide ((i : Int) < 40) = false := decide_eq_false (by omega)
        have q1 := eq_true (show (i : Int) < (l1.length : Int) by omega)
        have q2 := eq_true hlt
        have q5 := eq_false h40
        clear hlt h40
        go_wp2_with fail
        refine (fixed_calls wr).mono ?_
        rintro e wf ⟨rfl, hb⟩
        have HBF := Aside0.mk (HX.out.read hb).s.below
        go_wp2
        go_ret
        exact ⟨rfl, HB1.out.trans (HBF.out.mono HB1.out.size)⟩
    · have q3 : decide ((i : Int) < (l1.length : Int)) = false := decide_eq_false (by omega)
      have q1 := eq_false (show ¬ (i : Int) < (l1.length : Int) by omega)
      have q2 := eq_false hlt
      clear hlt
      go_wp2_with fail
      refine (fixed_calls wr).mono ?_
      rintro e wf ⟨rfl, hb⟩
      have HBF := Aside0.mk (HX.out.read hb).s.below
      go_wp2
      go_ret
      exact ⟨rfl, HB1.out.trans (HBF.out.mono HB1.out.size)⟩
end Go.Proofs.Ytcjachhdoogbaaa.PT
