/- TrailLast: the law's walk: it answers true. No conditions. -/
import Derived.Test.YtcjachhdoogbaaaTMarks
set_option linter.unusedVariables false
set_option linter.unusedSimpArgs false
namespace Go.Proofs.Ytcjachhdoogbaaa.PT
open Go.RowKit Go.Proofs.YtcjachhdoogbaaaW.PrintWords Go.Proofs.YtcjachhdoogbaaaW.PrintLast Go.Proofs.YtcjachhdoogbaaaW.PrintMore
theorem heapI : Kd.Heap (Kd.int .i64) := Kd.heap_int _
/-- What a store was when it was marked, and what it is: the way back, and no value more. -/
structure After (Lm L : List (List S62)) (Cm C : List S67) : Prop where
  len : L.length = Lm.length
  back : undo L C Cm.length = Lm
  take : C.take Cm.length = Cm
  le : Cm.length ≤ C.length
  sub : ∀ v j, v ∈ vals (getL L j) → v ∈ vals (getL Lm j)
theorem After.refl (L : List (List S62)) (C : List S67) : After L L C C := ⟨rfl, undo_all L C, List.take_length, Nat.le_refl _, fun _ _ h => h⟩
theorem After.set {Lm L L' : List (List S62)} {Cm C C' : List S67} {i r : Int} {d : List S62} {n : Nat} (h : After Lm L Cm C) (hg : Good L C n) (hd : d.length ≤ 1000000) (hs : setS KK L C i d = some (L', C', r)) : After Lm L' Cm C' := by
  obtain ⟨_, h1, h2, h3, h4, h5⟩ := setS_good (by rw [kk]; omega) hg hd hs
  exact ⟨h1.trans h.len, (h2 _ h.le).trans h.back, (h3 _ h.le).trans h.take, Nat.le_trans h.le h4, fun v j hv => h.sub v j (h5 v j hv)⟩
theorem After.subL {Lm L : List (List S62)} {Cm C : List S67} (h : After Lm L Cm C) (u : Nat) (hu : u < L.length) (v : Int) (hv : v ∈ vals (rd_L3 L u)) : v ∈ vals (rd_L3 Lm u) := by
  have h1 := h.len
  have := h.sub v u
  unfold getL at this
  rw [if_pos ⟨by omega, by omega⟩, if_pos ⟨by omega, by omega⟩] at this
  exact this hv
set_option maxRecDepth 100000
set_option maxHeartbeats 4000000
theorem last_calls (A0 : Option Addr) (c0 : Nat) (l0 : List (List Int)) (A1 : Option Addr) (c1 : Nat) (l1 : List Int) (A2 : Option Addr) (c2 : Nat) (l2 : List Int) (w : World) (hr0 : Kd.C kI w A0 l0.length l0) (hc0 : l0.length ≤ c0) (hr1 : Kd.C (Kd.int .i64) w A1 l1.length l1) (hc1 : l1.length ≤ c1) (hr2 : Kd.C (Kd.int .i64) w A2 l2.length l2) (hc2 : l2.length ≤ c2) :
    Calls Try.prog 6 #[.slice A0 l0.length c0, .slice A1 l1.length c1, .slice A2 l2.length c2] w fun e w' => e = .returned (.bool true) ∧ Below w.heap.size w w' := by
  have HR0 := Aside0.mk hr0
  have HC0 := Aside0.mk hc0
  have HR1 := Aside0.mk hr1
  have HC1 := Aside0.mk hc1
  have HR2 := Aside0.mk hr2
  have HC2 := Aside0.mk hc2
  clear hr0 hc0 hr1 hc1 hr2 hc2
  have hu25 := Try.underlying25
  have hu3 := Try.underlying3
  go_enter Try.func6, Try.ntmps6
  go_wp2_with fail
  refine (s_doms A0 c0 l0 w HR0.out HC0.out).mono ?_
  rintro e w1 ⟨AD, cD, D, rfl, hf, hg, _, hb⟩
  have HB1 := Aside0.mk hb
  have HF := Aside0.mk hf
  have HG := Aside0.mk hg
  clear hb hf hg
  go_wp2_with fail
  refine (s_new AD cD D w1 (Kd.F_now HF.out.2) HF.out.1 HG.out).mono ?_
  rintro e w2 ⟨g, T, rfl, hs⟩
  have HS := Aside0.mk hs
  have HA := Aside0.mk (((Held.of_C (T := T) heapI HR1.out HC1.out hs.lo HB1.out.size).below HB1.out).below (hs.below))
  have HE := Aside0.mk (((Held.of_C (T := T) heapI HR2.out HC2.out hs.lo HB1.out.size).below HB1.out).below (hs.below))
  clear hs
  clear HF HR0 HC0 HR1 HC1 HR2 HC2
  go_wp2_with fail
  go_loopg [9] D.length (fun j v9 wr => ∃ i : Nat, v9 = .int .i64 (i : Int) ∧ Aside0 (i + j = D.length) ∧ Aside0 (∃ L C T, Stat T w1 wr w1.heap.size g L C [] i ∧ L.length = D.length ∧ Held (Kd.int .i64) T wr A1 c1 l1 ∧ Held (Kd.int .i64) T wr A2 c2 l2))
  case atStart => exact ⟨0, rfl, ⟨Nat.zero_add _⟩, ⟨D, [], T, HS.out, rfl, HA.out, HE.out⟩⟩
  case round =>
    obtain ⟨i, rfl, HI, HX⟩ := hrel
    obtain ⟨L, C, T, hs, hl, ha, he⟩ := HX.out
    have HS := Aside0.mk hs
    have HLD := Aside0.mk hl
    have HA := Aside0.mk ha
    have HE := Aside0.mk he
    have HL6 := Aside0.mk (show D.length ≤ 6 from HG.out.len)
    have HLE := Aside0.mk (show i ≤ 6 by have := HI.out; have := HG.out.len; omega)
    clear hs hl ha he HX
    go_wp2_with fail
    refine (s_len HS.out).mono ?_
    rintro e wa ⟨rfl, hb⟩
    have HSa := Aside0.mk (HS.out.read hb)
    have HAa := Aside0.mk (HA.out.below hb)
    have HEa := Aside0.mk (HE.out.below hb)
    clear hb HS HA HE
    by_cases hlt : i < L.length
    · have q1 := eq_true hlt
      have q2 := eq_true (show (i : Int) < (L.length : Int) by omega)
      have q3 : decide ((i : Int) < (L.length : Int)) = true := decide_eq_true (by omega)
      obtain ⟨j, hj⟩ : ∃ j, gk = j + 1 := ⟨gk - 1, by have := HI.out; have := HLD.out; omega⟩
      have HJ := Aside0.mk hj
      have hwi : wrap64 ((i : Int) + 1) = (i : Int) + 1 := wrap_id _ (by have := HLE.out; omega)
      clear hj hlt
      go_wp2_with fail
      refine (s_get (i : Int) HSa.out).mono ?_
      rintro e w5 ⟨Ag, cg, rfl, hf, hb⟩
      have HG5 := Aside0.mk (hf.held HSa.out.hi)
      have HS5 := Aside0.mk (HSa.out.read hb)
      have HA5 := Aside0.mk (HAa.out.below hb)
      have HE5 := Aside0.mk (HEa.out.below hb)
      clear hf hb HSa
      go_wp2_with fail
      refine (s_small A1 c1 l1 w5 HA5.out.now HA5.out.1).mono ?_
      rintro e w6 ⟨Ad, cd, d, rfl, hf, hdom, hdl, hb⟩
      have HX6 := Aside0.mk (hf.held HS5.out.hi)
      have HDOM := Aside0.mk hdom
      have HS6 := Aside0.mk (HS5.out.read hb)
      have HA6 := Aside0.mk (HA5.out.below hb)
      have HE6 := Aside0.mk (HE5.out.below hb)
      have HG6 := Aside0.mk (HG5.out.below hb)
      clear hf hb hdom hdl HS5
      go_wp2_with fail
      refine (s_pick Ag cg (getL L (i : Int)) Ad cd d false w6 HG6.out.now HG6.out.1 HX6.out.now HX6.out.1 (getL_dom L HS6.out.good.dom (i : Int)) HDOM.out).mono ?_
      rintro e w7 ⟨Ap, cp, dp, rfl, hf, hpl, _, hb⟩
      have HP7 := Aside0.mk (hf.held HS6.out.hi)
      have HPL := Aside0.mk hpl
      have HS7 := Aside0.mk (HS6.out.read hb)
      have HA7 := Aside0.mk (HA6.out.below hb)
      have HE7 := Aside0.mk (HE6.out.below hb)
      clear hf hb hpl HS6
      go_wp2_with fail
      refine (s_set (i : Int) Ap cp dp HS7.out HP7.out (by have := HPL.out; omega) (by have := HLE.out; omega)).mono ?_
      rintro e w8 ⟨L', C', r, T8, rfl, hset, hs8, hk8⟩
      have HSET := Aside0.mk hset
      have HS8 := Aside0.mk hs8
      have HA8 := Aside0.mk (hk8 _ _ _ _ HA7.out)
      have HE8 := Aside0.mk (hk8 _ _ _ _ HE7.out)
      clear hs8 hk8 hset
      go_wp2
      go_roundg j
      case measure => have := HJ.out; omega
      case rel =>
        have e0 := HI.out
        have e1 := HJ.out
        exact ⟨i + 1, by first | (simp; done) | (rw [hwi]; simp; done), ⟨by omega⟩, ⟨L', C', T8, HS8.out, (setS_good (by rw [kk]; omega) HS7.out.good (by have := HPL.out; omega) HSET.out).2.1.trans HLD.out, HA8.out, HE8.out⟩⟩
    · have q1 := eq_false hlt
      have q2 := eq_false (show ¬ (i : Int) < (L.length : Int) by omega)
      have q3 : decide ((i : Int) < (L.length : Int)) = false := decide_eq_false (by omega)
      clear hlt
      go_wp2_with fail
      refine (s_mark HSa.out (by decide)).mono ?_
      rintro e w4 ⟨T4, rfl, hs, hk⟩
      have HS4 := Aside0.mk hs
      have HE4 := Aside0.mk (hk _ _ _ _ HEa.out)
      clear hs hk HSa HAa HEa
      go_wp2_with fail
      refine (s_all HS4.out).mono ?_
      rintro e w5 ⟨Am, cm, rfl, hf, hb⟩
      have HM5 := Aside0.mk (hf.held HS4.out.hi)
      have HS5 := Aside0.mk (HS4.out.read hb)
      have HE5 := Aside0.mk (HE4.out.below hb)
      clear hf hb HS4 HE4
      go_wp2_with fail
      refine (s_changes HS5.out).mono ?_
      rintro e w6 ⟨rfl, hb⟩
      have HM6 := Aside0.mk (HM5.out.below hb)
      have HS6 := Aside0.mk (HS5.out.read hb)
      have HE6 := Aside0.mk (HE5.out.below hb)
      have HDM := Aside0.mk HS5.out.good.dom
      have HL6 := Aside0.mk HS5.out.good.len
      have HFEW := Aside0.mk (show i ≤ 6 from HLE.out)
      clear hb HM5 HS5 HE5
      go_wp2_with fail
      go_loopg [12] L.length (fun j v12 wr => ∃ i : Nat, v12 = .int .i64 (i : Int) ∧ Aside0 (i + j = L.length) ∧ Aside0 (∃ L2 C2 T, Stat T w1 wr w1.heap.size g L2 C2 [(C.length : Int)] (6 + i) ∧ After L L2 C C2 ∧ Held (Kd.int .i64) T wr A2 c2 l2 ∧ Held kL T wr Am cm L))
      case atStart => exact ⟨0, rfl, ⟨Nat.zero_add _⟩, ⟨L, C, T4, HS6.out.more HFEW.out, After.refl L C, HE6.out, HM6.out⟩⟩
      case round =>
        obtain ⟨Lm, hLm⟩ : ∃ Lm, Lm = L := ⟨L, rfl⟩
        obtain ⟨Cm, hCm⟩ : ∃ Cm, Cm = C := ⟨C, rfl⟩
        obtain ⟨i, rfl, HI, HX⟩ := hrel
        obtain ⟨L2, C2, T, hs, hl, he, hm⟩ := HX.out
        have HS := Aside0.mk hs
        have HAF := Aside0.mk hl
        have HE := Aside0.mk he
        have HM := Aside0.mk hm
        have HLE := Aside0.mk (show i ≤ 6 by have := HI.out; have := HL6.out; omega)
        clear hs hl he hm HX hLm hCm
        go_wp2_with fail
        refine (s_len HS.out).mono ?_
        rintro e wa ⟨rfl, hb⟩
        have HSa := Aside0.mk (HS.out.read hb)
        have HEa := Aside0.mk (HE.out.below hb)
        have HMa := Aside0.mk (HM.out.below hb)
        clear hb HS HM HE
        by_cases hlt : i < L2.length
        · have q1 := eq_true hlt
          have q2 := eq_true (show (i : Int) < (L2.length : Int) by omega)
          have q3 : decide ((i : Int) < (L2.length : Int)) = true := decide_eq_true (by omega)
          obtain ⟨j, hj⟩ : ∃ j, gk = j + 1 := ⟨gk - 1, by have := HI.out; have := HAF.out.len; omega⟩
          have HJ := Aside0.mk hj
          have hwi : wrap64 ((i : Int) + 1) = (i : Int) + 1 := wrap_id _ (by have := HLE.out; omega)
          clear hj hlt
          go_wp2_with fail
          refine (s_get (i : Int) HSa.out).mono ?_
          rintro e w5 ⟨Ag, cg, rfl, hf, hb⟩
          have HG5 := Aside0.mk (hf.held HSa.out.hi)
          have HS5 := Aside0.mk (HSa.out.read hb)
          have HE5 := Aside0.mk (HEa.out.below hb)
          have HM5 := Aside0.mk (HMa.out.below hb)
          clear hf hb HSa
          go_wp2_with fail
          refine (s_small A2 c2 l2 w5 HE5.out.now HE5.out.1).mono ?_
          rintro e w6 ⟨Ad, cd, d, rfl, hf, hdom, hdl, hb⟩
          have HX6 := Aside0.mk (hf.held HS5.out.hi)
          have HDOM := Aside0.mk hdom
          have HS6 := Aside0.mk (HS5.out.read hb)
          have HE6 := Aside0.mk (HE5.out.below hb)
          have HM6 := Aside0.mk (HM5.out.below hb)
          have HG6 := Aside0.mk (HG5.out.below hb)
          clear hf hb hdom hdl HS5
          go_wp2_with fail
          refine (s_pick Ag cg (getL L2 (i : Int)) Ad cd d false w6 HG6.out.now HG6.out.1 HX6.out.now HX6.out.1 (getL_dom L2 HS6.out.good.dom (i : Int)) HDOM.out).mono ?_
          rintro e w7 ⟨Ap, cp, dp, rfl, hf, hpl, _, hb⟩
          have HP7 := Aside0.mk (hf.held HS6.out.hi)
          have HPL := Aside0.mk hpl
          have HS7 := Aside0.mk (HS6.out.read hb)
          have HE7 := Aside0.mk (HE6.out.below hb)
          have HM7 := Aside0.mk (HM6.out.below hb)
          clear hf hb hpl HS6
          go_wp2_with fail
          refine (s_set (i : Int) Ap cp dp HS7.out HP7.out (by have := HPL.out; omega) (by have := HLE.out; omega)).mono ?_
          rintro e w8 ⟨L', C', r, T8, rfl, hset, hs8, hk8⟩
          have HSET := Aside0.mk hset
          have HS8 := Aside0.mk hs8
          have HE8 := Aside0.mk (hk8 _ _ _ _ HE7.out)
          have HM8 := Aside0.mk (hk8 _ _ _ _ HM7.out)
          clear hs8 hk8 hset
          go_wp2
          go_roundg j
          case measure => have := HJ.out; omega
          case rel =>
            have e0 := HI.out
            have e1 := HJ.out
            exact ⟨i + 1, by first | (simp; done) | (rw [hwi]; simp; done), ⟨by omega⟩, ⟨L', C', T8, HS8.out, HAF.out.set HS7.out.good (by have := HPL.out; omega) HSET.out, HE8.out, HM8.out⟩⟩
        · have q1 := eq_false hlt
          have q2 := eq_false (show ¬ (i : Int) < (L2.length : Int) by omega)
          have q3 : decide ((i : Int) < (L2.length : Int)) = false := decide_eq_false (by omega)
          clear hlt
          go_wp2_with fail
          refine (s_all HSa.out).mono ?_
          rintro e w7 ⟨Al, cl, rfl, hf, hb⟩
          have HW7 := Aside0.mk (hf.held HSa.out.hi)
          have HM7 := Aside0.mk (HMa.out.below hb)
          have HS7 := Aside0.mk (HSa.out.read hb)
          have HD2 := Aside0.mk HSa.out.good.dom
          have HL2 := Aside0.mk HSa.out.good.len
          clear hf hb HSa HMa HEa
          go_wp2_with fail
          refine (s_back (M := []) (C.length : Int) HS7.out (by omega) (by decide) (by have := HLE.out; omega)).mono ?_
          rintro e w8 ⟨T8, rfl, hs, hk⟩
          rw [Int.toNat_natCast, HAF.out.back, HAF.out.take] at hs
          have HS8 := Aside0.mk hs
          have HW8 := Aside0.mk (hk _ _ _ _ HW7.out)
          have HM8 := Aside0.mk (hk _ _ _ _ HM7.out)
          clear hs hk HS7 HW7 HM7
          go_wp2_with fail
          refine (s_all HS8.out).mono ?_
          rintro e w9 ⟨A9, c9, rfl, hf, hb⟩
          have HF9 := Aside0.mk (hf.held HS8.out.hi)
          have HM9 := Aside0.mk (HM8.out.below hb)
          have HW9 := Aside0.mk (HW8.out.below hb)
          have HS9 := Aside0.mk (HS8.out.read hb)
          clear hf hb HS8 HW8 HM8
          go_wp2_with fail
          refine (s_lsame A9 c9 L Am cm L w9 HF9.out.now HF9.out.1 HM9.out.now HM9.out.1 (by have := HL6.out; omega) HS9.out.good.small).mono ?_
          rintro e w10 ⟨rfl, hb⟩
          rw [decide_eq_true (rfl : L = L)]
          have HM10 := Aside0.mk (HM9.out.below hb)
          have HW10 := Aside0.mk (HW9.out.below hb)
          have HS10 := Aside0.mk (HS9.out.read hb)
          clear hb HS9 HW9 HM9 HF9
          go_wp2_with fail
          refine (s_changes HS10.out).mono ?_
          rintro e w11 ⟨rfl, hb⟩
          have HM11 := Aside0.mk (HM10.out.below hb)
          have HW11 := Aside0.mk (HW10.out.below hb)
          have HS11 := Aside0.mk (HS10.out.read hb)
          clear hb HS10 HW10 HM10
          go_wp2_with fail
          refine (s_level HS11.out).mono ?_
          rintro e w12 ⟨rfl, hb⟩
          have HM12 := Aside0.mk (HM11.out.below hb)
          have HW12 := Aside0.mk (HW11.out.below hb)
          have HS12 := Aside0.mk (HS11.out.read hb)
          clear hb HS11 HW11 HM11
          go_wp2_with fail
          go_loopg [14] L2.length (fun j v14 wr => ∃ u : Nat, v14 = .int .i64 (u : Int) ∧ Aside0 (u + j = L2.length) ∧ Aside0 (Stat T8 w1 wr w1.heap.size g L C [] (6 + i) ∧ Held kL T8 wr Al cl L2 ∧ Held kL T8 wr Am cm L))
          case atStart => exact ⟨0, rfl, ⟨Nat.zero_add _⟩, ⟨HS12.out, HW12.out, HM12.out⟩⟩
          case round =>
            obtain ⟨u, rfl, HU, HX⟩ := hrel
            have HS := Aside0.mk HX.out.1
            have HW := Aside0.mk HX.out.2.1
            have HM := Aside0.mk HX.out.2.2
            clear HX
            by_cases hlt : u < L2.length
            · have hlm : u < L.length := by have := HAF.out.len; omega
              have q1 := eq_true hlt
              have q2 := eq_true (show (u : Int) < (L2.length : Int) by omega)
              have q3 : decide ((u : Int) < (L2.length : Int)) = true := decide_eq_true (by omega)
              have q4 := eq_true hlm
              have q5 := eq_true (show (u : Int) < (L.length : Int) by omega)
              have q6 : decide ((u : Int) < (L.length : Int)) = true := decide_eq_true (by omega)
              obtain ⟨j, hj⟩ : ∃ j, gk = j + 1 := ⟨gk - 1, by have := HU.out; omega⟩
              have HJ := Aside0.mk hj
              have hwu : wrap64 ((u : Int) + 1) = (u : Int) + 1 := wrap_id _ (by have := HL2.out; omega)
              obtain ⟨al, B0, b0, e, hy0, hyl0, hyc0⟩ := at_L3 HW.out.now (u : Int) (by omega) (by omega)
              cases e
              obtain ⟨am, B1, b1, e, hy1, hyl1, hyc1⟩ := at_L3 HM.out.now (u : Int) (by omega) (by omega)
              cases e
              rw [Int.toNat_natCast] at hy0 hy1
              have HY0 := Aside0.mk (And.intro hyl0 (Kd.C_below hyc0 (below_drew (Below.refl wr.heap.size wr))))
              have HY1 := Aside0.mk (And.intro hyl1 (Kd.C_below hyc1 (below_drew (Below.refl wr.heap.size wr))))
              have hS0 : (World.drew wr).cell? (al.add u) = some (.slice B0 (rd_L3 L2 (u : Int)).length b0) ∧ (World.drew wr).cell? (am.add u) = some (.slice B1 (rd_L3 L (u : Int)).length b1) := ⟨hy0, hy1⟩
              have HS0 := Aside0.mk (HS.out.read (below_drew (Below.refl wr.heap.size wr)))
              have HW0 := Aside0.mk (HW.out.below (below_drew (Below.refl wr.heap.size wr)))
              have HM0 := Aside0.mk (HM.out.below (below_drew (Below.refl wr.heap.size wr)))
              have HUL := Aside0.mk (And.intro hlt hlm)
              clear hj hyl0 hyc0 hyl1 hyc1 hy0 hy1 HS HW HM hlt hlm
              go_wp2_with fail
              refine wp_region_held_drew (S := (fun W => W.cell? (al.add u) = some (.slice B0 (rd_L3 L2 (u : Int)).length b0) ∧ W.cell? (am.add u) = some (.slice B1 (rd_L3 L (u : Int)).length b1))) (by kernel_rfl) hS0 (fun hHeld => ?_)
              refine wpAnyH_take (i := 0) (v := ?_) rfl (by kernel_rfl) (by kernel_rfl) (by kernel_rfl) (fun _ _ _ h => h) (Or.inl ⟨by rfl, ?_⟩) (by assumption) ?_
              rotate_left
              · (intro w hSw; (try dsimp only at hSw); go_simp; all_goals (with_reducible rfl))
              try simp only [Act.put, List.setIfInBounds_toArray, List.set_cons_zero, List.set_cons_succ, List.getElem_toArray, List.getElem_cons_zero, List.getElem_cons_succ]
              refine wpAnyH_take (i := 1) (v := ?_) rfl (by kernel_rfl) (by kernel_rfl) (by kernel_rfl) (fun _ _ _ h => h) (Or.inl ⟨by rfl, ?_⟩) (by assumption) ?_
              rotate_left
              · (intro w hSw; (try dsimp only at hSw); go_simp; all_goals (with_reducible rfl))
              try simp only [Act.put, List.setIfInBounds_toArray, List.set_cons_zero, List.set_cons_succ, List.getElem_toArray, List.getElem_cons_zero, List.getElem_cons_succ]
              refine wpAnyH_take (i := 2) (v := ?_) rfl (by kernel_rfl) (by kernel_rfl) (by kernel_rfl) (fun _ _ _ h => h) (Or.inl ⟨by rfl, ?_⟩) (by assumption) ?_
              rotate_left
              · (intro w hSw; (try dsimp only at hSw); go_simp; all_goals (with_reducible rfl))
              try simp only [Act.put, List.setIfInBounds_toArray, List.set_cons_zero, List.set_cons_succ, List.getElem_toArray, List.getElem_cons_zero, List.getElem_cons_succ]
              refine wpAnyH_take (i := 3) (v := ?_) rfl (by kernel_rfl) (by kernel_rfl) (by kernel_rfl) (fun _ _ _ h => h) (Or.inl ⟨by rfl, ?_⟩) (by assumption) ?_
              rotate_left
              · (intro w hSw; (try dsimp only at hSw); go_simp; all_goals (with_reducible rfl))
              try simp only [Act.put, List.setIfInBounds_toArray, List.set_cons_zero, List.set_cons_succ, List.getElem_toArray, List.getElem_cons_zero, List.getElem_cons_succ]
              refine wpAnyH_take (i := 4) (v := ?_) rfl (by kernel_rfl) (by kernel_rfl) (by kernel_rfl) (fun _ _ _ h => h) (Or.inl ⟨by rfl, ?_⟩) (by assumption) ?_
              rotate_left
              · (intro w hSw; (try dsimp only at hSw); go_simp; all_goals (with_reducible rfl))
              try simp only [Act.put, List.setIfInBounds_toArray, List.set_cons_zero, List.set_cons_succ, List.getElem_toArray, List.getElem_cons_zero, List.getElem_cons_succ]
              refine wpAnyH_take (i := 5) (v := ?_) rfl (by kernel_rfl) (by kernel_rfl) (by kernel_rfl) (fun _ _ _ h => h) (Or.inl ⟨by rfl, ?_⟩) (by assumption) ?_
              rotate_left
              · (intro w hSw; (try dsimp only at hSw); go_simp; all_goals (with_reducible rfl))
              try simp only [Act.put, List.setIfInBounds_toArray, List.set_cons_zero, List.set_cons_succ, List.getElem_toArray, List.getElem_cons_zero, List.getElem_cons_succ]
              refine wpAnyH_take (i := 6) (v := ?_) rfl (by kernel_rfl) (by kernel_rfl) (by kernel_rfl) (fun _ _ _ h => h) (Or.inl ⟨by rfl, ?_⟩) (by assumption) ?_
              rotate_left
              · (intro w hSw; (try dsimp only at hSw); go_simp; all_goals (with_reducible rfl))
              try simp only [Act.put, List.setIfInBounds_toArray, List.set_cons_zero, List.set_cons_succ, List.getElem_toArray, List.getElem_cons_zero, List.getElem_cons_succ]
              refine wpAnyH_take (i := 7) (v := ?_) rfl (by kernel_rfl) (by kernel_rfl) (by kernel_rfl) (fun _ _ _ h => h) (Or.inl ⟨by rfl, ?_⟩) (by assumption) ?_
              rotate_left
              · (intro w hSw; (try dsimp only at hSw); go_simp; all_goals (with_reducible rfl))
              try simp only [Act.put, List.setIfInBounds_toArray, List.set_cons_zero, List.set_cons_succ, List.getElem_toArray, List.getElem_cons_zero, List.getElem_cons_succ]
              refine wpAnyH_ready (rs := [8]) (by kernel_rfl) (by simp) ?_
              refine AllReadyH.cons rfl (fun K hK => ?_) AllReadyH.nil
              go_simp
              go_at_call 17
              refine (s_pick B0 b0 (rd_L3 L2 (u : Int)) B1 b1 (rd_L3 L (u : Int)) false (World.drew wr) HY0.out.2 HY0.out.1 HY1.out.2 HY1.out.1 (HD2.out _ (rdL3_mem L2 (u : Int) (by omega) (by have := HUL.out.1; omega))) (HDM.out _ (rdL3_mem L (u : Int) (by omega) (by have := HUL.out.2; omega)))).mono ?_
              rintro e wp ⟨Ap, cp, dp, rfl, _, _, hz, hb⟩
              have hz0 : dp.length = 0 := hz.2 (filter_none (fun v hv => HAF.out.subL u HUL.out.1 v hv))
              rw [hz0]
              have hS1 : wp.cell? (al.add u) = some (.slice B0 (rd_L3 L2 (u : Int)).length b0) ∧ wp.cell? (am.add u) = some (.slice B1 (rd_L3 L (u : Int)).length b1) := ⟨(hb.cell (World.block_lt_of_cell? (World.drew wr) _ hS0.1)).trans hS0.1, (hb.cell (World.block_lt_of_cell? (World.drew wr) _ hS0.2)).trans hS0.2⟩
              have HS1 := Aside0.mk (HS0.out.read hb)
              have HW1 := Aside0.mk (HW0.out.below hb)
              have HM1 := Aside0.mk (HM0.out.below hb)
              clear hb hz hz0
              go_wp2_with fail
              refine hK.out _ _ hS1 (fun hHeld => ?_)
              clear hK K
              try simp only [Act.put, List.setIfInBounds_toArray, List.set_cons_zero, List.set_cons_succ, List.getElem_toArray, List.getElem_cons_zero, List.getElem_cons_succ]
              refine wpAnyH_take (i := 9) (v := ?_) rfl (by kernel_rfl) (by kernel_rfl) (by kernel_rfl) (fun _ _ _ h => h) (Or.inl ⟨by rfl, ?_⟩) (by assumption) ?_
              rotate_left
              · (intro w hSw; (try dsimp only at hSw); go_simp; all_goals (with_reducible rfl))
              try simp only [Act.put, List.setIfInBounds_toArray, List.set_cons_zero, List.set_cons_succ, List.getElem_toArray, List.getElem_cons_zero, List.getElem_cons_succ]
              refine wpAnyH_take (i := 10) (v := ?_) rfl (by kernel_rfl) (by kernel_rfl) (by kernel_rfl) (fun _ _ _ h => h) (Or.inl ⟨by rfl, ?_⟩) (by assumption) ?_
              rotate_left
              · (intro w hSw; (try dsimp only at hSw); go_simp; all_goals (with_reducible rfl))
              try simp only [Act.put, List.setIfInBounds_toArray, List.set_cons_zero, List.set_cons_succ, List.getElem_toArray, List.getElem_cons_zero, List.getElem_cons_succ]
              refine wpAnyH_done (by kernel_rfl) ?_ _
              go_wp2
              go_roundg j
              case measure => have := HJ.out; omega
              case rel =>
                have e0 := HU.out
                have e1 := HJ.out
                exact ⟨u + 1, by first | (simp; done) | (rw [hwu]; simp), ⟨by omega⟩, ⟨HS1.out, HW1.out, HM1.out⟩⟩
            · have q1 := eq_false hlt
              have q2 := eq_false (show ¬ (u : Int) < (L2.length : Int) by omega)
              have q3 : decide ((u : Int) < (L2.length : Int)) = false := decide_eq_false (by omega)
              have hll : L2.length = L.length := HAF.out.len
              clear hlt
              rw [hll] at q1 q2 q3 ⊢
              clear hll
              go_wp2_with fail
              refine (fixed_calls wr).mono ?_
              rintro e wf ⟨rfl, hb⟩
              have HBF := Aside0.mk (HS.out.read hb).below
              go_wp2
              go_ret
              exact ⟨rfl, HB1.out.trans (HBF.out.mono HB1.out.size)⟩
end Go.Proofs.Ytcjachhdoogbaaa.PT
