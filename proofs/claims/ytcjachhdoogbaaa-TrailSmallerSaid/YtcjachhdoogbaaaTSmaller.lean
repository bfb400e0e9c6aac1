/- TrailSmaller: the law's walk: it answers true. No conditions. -/
import Derived.Test.YtcjachhdoogbaaaTApi
set_option linter.unusedVariables false
set_option linter.unusedSimpArgs false
namespace Go.Proofs.Ytcjachhdoogbaaa.PT
open Go.RowKit Go.Proofs.YtcjachhdoogbaaaW.PrintWords Go.Proofs.YtcjachhdoogbaaaW.PrintLast Go.Proofs.YtcjachhdoogbaaaW.PrintMore
theorem and_seven (a : Int) : ∃ c : Int, Go.bits BinOp.and IntKind.i64 a 7 = c ∧ 0 ≤ c ∧ c ≤ 7 := by
  refine ⟨a % 8, ?_, by omega, by omega⟩
  have h16 : (BitVec.ofInt 64 7).toNat = 2 ^ 3 - 1 := by decide
  have key : (BitVec.ofInt 64 a &&& BitVec.ofInt 64 7).toNat = (a % ((2 ^ 64 : Nat) : Int)).toNat % 2 ^ 3 := by
    rw [BitVec.toNat_and, BitVec.toNat_ofInt, h16, Nat.and_two_pow_sub_one_eq_mod]
  show IntKind.i64.wrap ((BitVec.ofInt 64 a &&& BitVec.ofInt 64 7).toNat : Nat) = a % 8
  rw [key, IntKind.wrap_i64]
  omega
theorem Good.more {L : List (List S62)} {C : List S67} {n m : Nat} (h : Good L C n) (hm : n ≤ m) : Good L C m := ⟨h.len, h.dom, h.at_, Nat.le_trans h.few hm⟩
theorem Stat.more {T : Nat → Prop} {w0 w : World} {base g : Nat} {L : List (List S62)} {C : List S67} {M : List Int} {n m : Nat} (h : Stat T w0 w base g L C M n) (hm : n ≤ m) : Stat T w0 w base g L C M m := ⟨h.st, h.below, h.lo, h.hi, h.size, h.good.more hm⟩
theorem filter_none {x y : List Int} (h : ∀ v, v ∈ x → v ∈ y) : x.filter (fun v => decide (v ∈ y) == false) = [] := by
  rw [List.filter_eq_nil_iff]
  intro v hv
  simp [h v hv]
theorem smaller_plain {L L' : List (List S62)} {C C' : List S67} {i r : Int} {d : List S62} {n : Nat} (h : Good L C n) (hd : d.length ≤ 1000000) (hs : setS KK L C i d = some (L', C', r)) :
    ((getL L i = getL L' i ∧ C'.length = C.length) ∨ (getL L i ≠ getL L' i ∧ C'.length = C.length + 1 ∧ r = 0)) ∧ (0 ≤ i → i < L'.length → setS KK L' C' i (getL L' i) = some (L', C', 0)) := by
  have hkk : 34000000 ≤ KK := by rw [kk]; omega
  have hg := setS_good hkk h hd hs
  refine ⟨?_, fun h0 h1 => ?_⟩
  · obtain ⟨L1, C1, r1, e, hr, hc⟩ := setS_f KK L C i d hkk h.dom hd
    rw [hs] at e
    cases e
    rcases hc with ⟨rfl, rfl, _⟩ | ⟨h0, hne, rfl, rfl⟩
    · exact .inl ⟨rfl, rfl⟩
    · have hf := (hr.1 h0).1
      refine .inr ⟨?_, by simp, h0⟩
      unfold getL
      rw [List.length_set, if_pos hf, rdL3_set L i d hf.1 hf.2, if_pos hf]
      exact fun e => hne e.symm
  · have hmem := rdL3_mem L' i h0 h1
    obtain ⟨L1, C1, r1, e, hr, hc⟩ := setS_f KK L' C' i (getL L' i) hkk hg.1.dom (by have := dom_len _ (getL_dom L' hg.1.dom i); omega)
    have he : getL L' i = rd_L3 L' i := if_pos ⟨h0, h1⟩
    have h2 : r1 = 0 := hr.2 ⟨⟨h0, h1⟩, getL_dom L' hg.1.dom i, fun v hv => by rwa [he] at hv⟩
    rcases hc with ⟨rfl, rfl, _⟩ | ⟨_, hne, _⟩
    · rw [e, h2]
    · exact absurd he hne
set_option maxRecDepth 100000
set_option maxHeartbeats 1000000
theorem smaller_calls (A0 : Option Addr) (c0 : Nat) (l0 : List (List Int)) (A1 : Option Addr) (c1 : Nat) (l1 : List S33) (w : World) (hr0 : Kd.C kI w A0 l0.length l0) (hc0 : l0.length ≤ c0) (hr1 : Kd.C k33 w A1 l1.length l1) (hc1 : l1.length ≤ c1) :
    Calls Try.prog 3 #[.slice A0 l0.length c0, .slice A1 l1.length c1] w fun e w' => e = .returned (.bool true) ∧ Below w.heap.size w w' := by
  have HR0 := Aside0.mk hr0
  have HC0 := Aside0.mk hc0
  have HR1 := Aside0.mk hr1
  have HC1 := Aside0.mk hc1
  clear hr0 hc0 hr1 hc1
  go_enter Try.func3, Try.ntmps3
  go_wp2_with fail
  refine (s_doms A0 c0 l0 w HR0.out HC0.out).mono ?_
  rintro e w1 ⟨AD, cD, D, rfl, hf, hg, _, hb⟩
  have HB1 := Aside0.mk hb
  have HF := Aside0.mk hf
  have HG := Aside0.mk hg
  clear hb hf hg
  go_wp2_with fail
  refine (s_new AD cD D w1 (Kd.F_now HF.out.2) HF.out.1 HG.out).mono ?_
  rintro e w2 ⟨g, T, rfl, hs⟩
  have HS := Aside0.mk hs
  have HH := Aside0.mk (((Held.of_C (T := T) heap33 HR1.out HC1.out hs.lo HB1.out.size).below HB1.out).below (hs.below))
  clear hs
  clear HF HG HR0 HC0 HR1 HC1
  go_wp2_with fail
  go_loopg [7] (min l1.length 40) (fun j v7 wr => ∃ i : Nat, v7 = .int .i64 (i : Int) ∧ Aside0 (i + j = min l1.length 40) ∧ Aside0 (∃ L C T, Stat T w1 wr w1.heap.size g L C [] (2 * i) ∧ Held k33 T wr A1 c1 l1))
  case atStart => exact ⟨0, rfl, ⟨Nat.zero_add _⟩, ⟨D, [], T, HS.out, HH.out⟩⟩
  case round =>
    obtain ⟨i, rfl, HI, HX⟩ := hrel
    obtain ⟨L, C, T', hs, hh⟩ := HX.out
    have HS := Aside0.mk hs
    have HH := Aside0.mk hh
    clear hs hh HX
    by_cases hlt : i < l1.length
    · by_cases h40 : i < 40
      · have hi1 : (i : Int) < (l1.length : Int) := by omega
        obtain ⟨ad, A2, c2, A3, c3, e, hx0, hx1, hx2, hx3, hl2, hg2, hl3, hg3⟩ := at_T33 HH.out.now (i : Int) (by omega) hi1
        cases e
        rw [Int.toNat_natCast] at hx0 hx1 hx2 hx3
        have H2 := Aside0.mk (And.intro hl2 hg2)
        have q1 := eq_true hi1
        have q2 := eq_true hlt
        have q3 : decide ((i : Int) < (l1.length : Int)) = true := decide_eq_true hi1
        have q4 : decide ((i : Int) < 40) = true := decide_eq_true (by omega)
        have q5 := eq_true h40
        obtain ⟨j, hj⟩ : ∃ j, gk = j + 1 := ⟨gk - 1, by have := HI.out; omega⟩
        have HJ := Aside0.mk hj
        clear hj
        obtain ⟨kv, hkv, hk0, hk7⟩ := and_seven (rd_T33 l1 (i : Int)).f1
        have HK0 := Aside0.mk hk0
        have HI40 := Aside0.mk h40
        clear hx0 hx3 hl3 hg3 hk0 hk7 hl2 hg2
        go_wp2_with fail
        refine (s_get kv HS.out).mono ?_
        rintro e w3 ⟨Aw, cw, rfl, hf, hb⟩
        have HS3 := Aside0.mk (HS.out.read hb)
        have HW3 := Aside0.mk (hf.held HS.out.hi)
        have HH3 := Aside0.mk (HH.out.below hb)
        replace hx2 := (hb.cell (World.block_lt_of_cell? wr _ hx2)).trans hx2
        have H23 := Aside0.mk (And.intro H2.out.1 (Kd.C_below H2.out.2 hb))
        clear hf hb hx1 HS HH H2
        go_wp2_with fail
        refine (s_changes HS3.out).mono ?_
        rintro e w4 ⟨rfl, hb⟩
        have HS4 := Aside0.mk (HS3.out.read hb)
        have HW4 := Aside0.mk (HW3.out.below hb)
        have HH4 := Aside0.mk (HH3.out.below hb)
        replace hx2 := (hb.cell (World.block_lt_of_cell? w3 _ hx2)).trans hx2
        have H24 := Aside0.mk (And.intro H23.out.1 (Kd.C_below H23.out.2 hb))
        clear hb HS3 HW3 HH3 H23
        go_wp2_with fail
        refine (s_small A2 c2 _ w4 H24.out.2 H24.out.1).mono ?_
        rintro e w5 ⟨Ad, cd, d, rfl, hf, hdom, hdl, hb⟩
        have HS5 := Aside0.mk (HS4.out.read hb)
        have HW5 := Aside0.mk (HW4.out.below hb)
        have HH5 := Aside0.mk (HH4.out.below hb)
        have HD5 := Aside0.mk (hf.held HS4.out.hi)
        have HDL := Aside0.mk hdl
        clear hb hf hdl HS4 HW4 HH4 H24 hx2 hdom
        go_wp2_with fail
        refine (s_set kv Ad cd d HS5.out HD5.out (by have := HDL.out; omega) (by have := HI40.out; omega)).mono ?_
        rintro e w6 ⟨L', C', r, T6, rfl, hset, hs, hk⟩
        obtain ⟨hp1, hp2⟩ := smaller_plain HS5.out.good (by have := HDL.out; omega) hset
        have hp3 := (setS_good (by rw [kk]; omega) HS5.out.good (by have := HDL.out; omega) hset).2.2.2.2.2
        have HP2 := Aside0.mk hp2
        have HP3 := Aside0.mk hp3
        have HP1 := Aside0.mk hp1
        have HS6 := Aside0.mk hs
        have HW6 := Aside0.mk (hk _ _ _ _ HW5.out)
        have HH6 := Aside0.mk (hk _ _ _ _ HH5.out)
        have HFEW := Aside0.mk HS5.out.good.few
        have HGD := Aside0.mk (getL_dom L HS5.out.good.dom kv)
        clear hset hs hk hp1 hp2 hp3 HS5 HW5 HH5 HD5 HDL
        go_wp2_with fail
        refine (s_get kv HS6.out).mono ?_
        rintro e w7 ⟨An, cn, rfl, hf, hb⟩
        have HS7 := Aside0.mk (HS6.out.read hb)
        have HW7 := Aside0.mk (HW6.out.below hb)
        have HH7 := Aside0.mk (HH6.out.below hb)
        have HN7 := Aside0.mk (hf.held HS6.out.hi)
        clear hb hf HS6 HW6 HH6
        go_wp2_with fail
        refine (s_same Aw cw (getL L kv) An cn (getL L' kv) w7 HW7.out.now HW7.out.1 HN7.out.now HN7.out.1 (by have := dom_len _ HGD.out; omega)).mono ?_
        rintro e w8 ⟨rfl, hb⟩
        have HS8 := Aside0.mk (HS7.out.read hb)
        have HW8 := Aside0.mk (HW7.out.below hb)
        have HH8 := Aside0.mk (HH7.out.below hb)
        have HN8 := Aside0.mk (HN7.out.below hb)
        clear hb HS7 HW7 HH7 HN7
        rcases HP1.out with ⟨he, hcl⟩ | ⟨he, hcl, hr⟩
        · have e1 : decide (getL L kv = getL L' kv) = true := decide_eq_true he
          have e2 : wrap64 ((C.length : Int) + 0) = (C'.length : Int) := by rw [wrap_id _ (by have := HFEW.out; have := HI40.out; omega)]; omega
          have e3 : wrap64 (C.length : Int) = (C'.length : Int) := by rw [wrap_id _ (by have := HFEW.out; have := HI40.out; omega)]; omega
          rw [e1]
          clear he e1 hcl
          by_cases hr : r = 0
          · subst hr
            go_wp2_with fail
            refine (s_pick An cn (getL L' kv) Aw cw (getL L kv) false w8 HN8.out.now HN8.out.1 HW8.out.now HW8.out.1 (getL_dom L' HS8.out.good.dom kv) HGD.out).mono ?_
            rintro e w9 ⟨Ap, cp, dp, rfl, _, _, hz, hb⟩
            have hz0 : dp.length = 0 := hz.2 (filter_none (fun v hv => HP3.out v kv hv))
            rw [hz0]
            have HS9 := Aside0.mk (HS8.out.read hb)
            have HH9 := Aside0.mk (HH8.out.below hb)
            have HN9 := Aside0.mk (HN8.out.below hb)
            clear hb hz hz0 HS8 HH8 HN8 HW8
            go_wp2_with fail
            refine (s_changes HS9.out).mono ?_
            rintro e w10 ⟨rfl, hb⟩
            have HS10 := Aside0.mk (HS9.out.read hb)
            have HH10 := Aside0.mk (HH9.out.below hb)
            have HN10 := Aside0.mk (HN9.out.below hb)
            clear hb HS9 HH9 HN9
            go_wp2_with fail
            refine (s_changes HS10.out).mono ?_
            rintro e w11 ⟨rfl, hb⟩
            have HS11 := Aside0.mk (HS10.out.read hb)
            have HH11 := Aside0.mk (HH10.out.below hb)
            have HN11 := Aside0.mk (HN10.out.below hb)
            clear hb HS10 HH10 HN10
            go_wp2_with fail
            refine (s_len HS11.out).mono ?_
            rintro e w12 ⟨rfl, hb⟩
            have HS12 := Aside0.mk (HS11.out.read hb)
            have HH12 := Aside0.mk (HH11.out.below hb)
            have HN12 := Aside0.mk (HN11.out.below hb)
            clear hb HS11 HH11 HN11
            by_cases hkl : kv < (L'.length : Int)
            · have d1 : decide (kv < (L'.length : Int)) = true := decide_eq_true hkl
              have h3 := HP2.out HK0.out hkl
              have HP := Aside0.mk h3
              clear hkl h3
              go_wp2_with fail
              refine (s_set kv An cn (getL L' kv) HS12.out HN12.out (by have := dom_len _ (getL_dom L' HS12.out.good.dom kv); omega) (by have := HI40.out; omega)).mono ?_
              rintro e w13 ⟨L2, C2, r2, T13, rfl, hset, hs, hk⟩
              rw [HP.out] at hset
              cases hset
              have HS13 := Aside0.mk hs
              have HH13 := Aside0.mk (hk _ _ _ _ HH12.out)
              clear hs hk HS12 HH12 HN12
              go_wp2_with fail
              refine (s_changes HS13.out).mono ?_
              rintro e w14 ⟨rfl, hb⟩
              have HS14 := Aside0.mk (HS13.out.read hb)
              have HH14 := Aside0.mk (HH13.out.below hb)
              clear hb
              go_wp2
              go_roundg j
              case measure => have := HJ.out; omega
              case rel =>
                have e0 := HI.out
                have e1 := HJ.out
                exact ⟨i + 1, by simp, ⟨by omega⟩, ⟨L', C', _, HS14.out.more (by omega), HH14.out⟩⟩
            · have d1 : decide (kv < (L'.length : Int)) = false := decide_eq_false hkl
              clear hkl
              go_wp2_with fail
              refine (s_changes HS12.out).mono ?_
              rintro e w14 ⟨rfl, hb⟩
              have HS14 := Aside0.mk (HS12.out.read hb)
              have HH14 := Aside0.mk (HH12.out.below hb)
              clear hb
              go_wp2
              go_roundg j
              case measure => have := HJ.out; omega
              case rel =>
                have e0 := HI.out
                have e1 := HJ.out
                exact ⟨i + 1, by simp, ⟨by omega⟩, ⟨L', C', _, HS14.out.more (by omega), HH14.out⟩⟩
          · have r1 : (r == 0) = false := beq_eq_false_iff_ne.mpr hr
            have r2 : (r != 0) = true := bne_iff_ne.mpr hr
            clear hr
            go_wp2_with fail
            refine (s_pick An cn (getL L' kv) Aw cw (getL L kv) false w8 HN8.out.now HN8.out.1 HW8.out.now HW8.out.1 (getL_dom L' HS8.out.good.dom kv) HGD.out).mono ?_
            rintro e w9 ⟨Ap, cp, dp, rfl, _, _, hz, hb⟩
            have hz0 : dp.length = 0 := hz.2 (filter_none (fun v hv => HP3.out v kv hv))
            rw [hz0]
            have HS9 := Aside0.mk (HS8.out.read hb)
            have HH9 := Aside0.mk (HH8.out.below hb)
            have HN9 := Aside0.mk (HN8.out.below hb)
            clear hb hz hz0 HS8 HH8 HN8 HW8
            go_wp2_with fail
            refine (s_changes HS9.out).mono ?_
            rintro e w10 ⟨rfl, hb⟩
            have HS10 := Aside0.mk (HS9.out.read hb)
            have HH10 := Aside0.mk (HH9.out.below hb)
            have HN10 := Aside0.mk (HN9.out.below hb)
            clear hb HS9 HH9 HN9
            go_wp2_with fail
            refine (s_changes HS10.out).mono ?_
            rintro e w11 ⟨rfl, hb⟩
            have HS11 := Aside0.mk (HS10.out.read hb)
            have HH11 := Aside0.mk (HH10.out.below hb)
            have HN11 := Aside0.mk (HN10.out.below hb)
            clear hb HS10 HH10 HN10
            go_wp2_with fail
            refine (s_len HS11.out).mono ?_
            rintro e w12 ⟨rfl, hb⟩
            have HS12 := Aside0.mk (HS11.out.read hb)
            have HH12 := Aside0.mk (HH11.out.below hb)
            have HN12 := Aside0.mk (HN11.out.below hb)
            clear hb HS11 HH11 HN11
            by_cases hkl : kv < (L'.length : Int)
            · have d1 : decide (kv < (L'.length : Int)) = true := decide_eq_true hkl
              have h3 := HP2.out HK0.out hkl
              have HP := Aside0.mk h3
              clear hkl h3
              go_wp2_with fail
              refine (s_set kv An cn (getL L' kv) HS12.out HN12.out (by have := dom_len _ (getL_dom L' HS12.out.good.dom kv); omega) (by have := HI40.out; omega)).mono ?_
              rintro e w13 ⟨L2, C2, r2, T13, rfl, hset, hs, hk⟩
              rw [HP.out] at hset
              cases hset
              have HS13 := Aside0.mk hs
              have HH13 := Aside0.mk (hk _ _ _ _ HH12.out)
              clear hs hk HS12 HH12 HN12
              go_wp2_with fail
              refine (s_changes HS13.out).mono ?_
              rintro e w14 ⟨rfl, hb⟩
              have HS14 := Aside0.mk (HS13.out.read hb)
              have HH14 := Aside0.mk (HH13.out.below hb)
              clear hb
              go_wp2
              go_roundg j
              case measure => have := HJ.out; omega
              case rel =>
                have e0 := HI.out
                have e1 := HJ.out
                exact ⟨i + 1, by simp, ⟨by omega⟩, ⟨L', C', _, HS14.out.more (by omega), HH14.out⟩⟩
            · have d1 : decide (kv < (L'.length : Int)) = false := decide_eq_false hkl
              clear hkl
              go_wp2_with fail
              refine (s_changes HS12.out).mono ?_
              rintro e w14 ⟨rfl, hb⟩
              have HS14 := Aside0.mk (HS12.out.read hb)
              have HH14 := Aside0.mk (HH12.out.below hb)
              clear hb
              go_wp2
              go_roundg j
              case measure => have := HJ.out; omega
              case rel =>
                have e0 := HI.out
                have e1 := HJ.out
                exact ⟨i + 1, by simp, ⟨by omega⟩, ⟨L', C', _, HS14.out.more (by omega), HH14.out⟩⟩
        · have e1 : decide (getL L kv = getL L' kv) = false := decide_eq_false he
          have e2 : wrap64 ((C.length : Int) + 1) = (C'.length : Int) := by rw [wrap_id _ (by have := HFEW.out; have := HI40.out; omega)]; omega
          rw [e1]
          subst hr
          clear he e1 hcl
          go_wp2_with fail
          refine (s_pick An cn (getL L' kv) Aw cw (getL L kv) false w8 HN8.out.now HN8.out.1 HW8.out.now HW8.out.1 (getL_dom L' HS8.out.good.dom kv) HGD.out).mono ?_
          rintro e w9 ⟨Ap, cp, dp, rfl, _, _, hz, hb⟩
          have hz0 : dp.length = 0 := hz.2 (filter_none (fun v hv => HP3.out v kv hv))
          rw [hz0]
          have HS9 := Aside0.mk (HS8.out.read hb)
          have HH9 := Aside0.mk (HH8.out.below hb)
          have HN9 := Aside0.mk (HN8.out.below hb)
          clear hb hz hz0 HS8 HH8 HN8 HW8
          go_wp2_with fail
          refine (s_changes HS9.out).mono ?_
          rintro e w10 ⟨rfl, hb⟩
          have HS10 := Aside0.mk (HS9.out.read hb)
          have HH10 := Aside0.mk (HH9.out.below hb)
          have HN10 := Aside0.mk (HN9.out.below hb)
          clear hb HS9 HH9 HN9
          go_wp2_with fail
          refine (s_changes HS10.out).mono ?_
          rintro e w11 ⟨rfl, hb⟩
          have HS11 := Aside0.mk (HS10.out.read hb)
          have HH11 := Aside0.mk (HH10.out.below hb)
          have HN11 := Aside0.mk (HN10.out.below hb)
          clear hb HS10 HH10 HN10
          go_wp2_with fail
          refine (s_len HS11.out).mono ?_
          rintro e w12 ⟨rfl, hb⟩
          have HS12 := Aside0.mk (HS11.out.read hb)
          have HH12 := Aside0.mk (HH11.out.below hb)
          have HN12 := Aside0.mk (HN11.out.below hb)
          clear hb HS11 HH11 HN11
          by_cases hkl : kv < (L'.length : Int)
          · have d1 : decide (kv < (L'.length : Int)) = true := decide_eq_true hkl
            have h3 := HP2.out HK0.out hkl
            have HP := Aside0.mk h3
            clear hkl h3
            go_wp2_with fail
            refine (s_set kv An cn (getL L' kv) HS12.out HN12.out (by have := dom_len _ (getL_dom L' HS12.out.good.dom kv); omega) (by have := HI40.out; omega)).mono ?_
            rintro e w13 ⟨L2, C2, r2, T13, rfl, hset, hs, hk⟩
            rw [HP.out] at hset
            cases hset
            have HS13 := Aside0.mk hs
            have HH13 := Aside0.mk (hk _ _ _ _ HH12.out)
            clear hs hk HS12 HH12 HN12
            go_wp2_with fail
            refine (s_changes HS13.out).mono ?_
            rintro e w14 ⟨rfl, hb⟩
            have HS14 := Aside0.mk (HS13.out.read hb)
            have HH14 := Aside0.mk (HH13.out.below hb)
            clear hb
            go_wp2
            go_roundg j
            case measure => have := HJ.out; omega
            case rel =>
              have e0 := HI.out
              have e1 := HJ.out
              exact ⟨i + 1, by simp, ⟨by omega⟩, ⟨L', C', _, HS14.out.more (by omega), HH14.out⟩⟩
          · have d1 : decide (kv < (L'.length : Int)) = false := decide_eq_false hkl
            clear hkl
            go_wp2_with fail
            refine (s_changes HS12.out).mono ?_
            rintro e w14 ⟨rfl, hb⟩
            have HS14 := Aside0.mk (HS12.out.read hb)
            have HH14 := Aside0.mk (HH12.out.below hb)
            clear hb
            go_wp2
            go_roundg j
            case measure => have := HJ.out; omega
            case rel =>
              have e0 := HI.out
              have e1 := HJ.out
              exact ⟨i + 1, by simp, ⟨by omega⟩, ⟨L', C', _, HS14.out.more (by omega), HH14.out⟩⟩
      · have q3 : decide ((i : Int) < (l1.length : Int)) = true := decide_eq_true (by omega)
        have q4 : decide ((i : Int) < 40) = false := decide_eq_false (by omega)
        have q1 := eq_true (show (i : Int) < (l1.length : Int) by omega)
        have q2 := eq_true hlt
        have q5 := eq_false h40
        clear hlt h40
        go_wp2_with fail
        refine (fixed_calls wr).mono ?_
        rintro e wf ⟨rfl, hb⟩
        have HBF := Aside0.mk (HS.out.read hb).below
        go_wp2
        go_ret
        exact ⟨rfl, HB1.out.trans (HBF.out.mono HB1.out.size)⟩
    · have q3 : decide ((i : Int) < (l1.length : Int)) = false := decide_eq_false (by omega)
      have q1 := eq_false (show ¬ (i : Int) < (l1.length : Int) by omega)
      have q2 := eq_false hlt
      clear hlt
      go_wp2_with fail
      refine (fixed_calls wr).mono ?_
      rintro e wf ⟨rfl, hb⟩
      have HBF := Aside0.mk (HS.out.read hb).below
      go_wp2
      go_ret
      exact ⟨rfl, HB1.out.trans (HBF.out.mono HB1.out.size)⟩
end Go.Proofs.Ytcjachhdoogbaaa.PT
