-- Written by a program of this session (the kit's print, some functions given by hand).
import Derived.Test.YtommjjjlljmpbaaPStepsx0
import Derived.Test.YtommjjjlljmpbaaPStepsx2
import Derived.Test.YtommjjjlljmpbaaPStepsx3
import Derived.Test.YtommjjjlljmpbaaFixed
import Derived.Test.YtommjjjlljmpbaaReplay
namespace Go.Proofs.Ytommjjjlljmpbaa.PSteps
open Go.RowKit Go.Proofs.YtommjjjlljmpbaaW.PrintWords Go.Proofs.YtommjjjlljmpbaaW.PrintLast Go.Proofs.YtommjjjlljmpbaaW.PrintMore
attribute [local go_sem] max2_int min2_int max_two min_two max_three min_three max_four min_four   -- for this text's walks alone
set_option linter.unusedVariables false
set_option linter.unusedSimpArgs false

/-! ### secateurlaw15_StepsWhole: function 7 -/
def secateurlaw15_StepsWhole.l0 : Nat → List (S23) → List Int → List Int → Int → Option (Bool)
  | 0, _, _, _, _ => none
  | k + 1, x0, x1, x5, x7 => if x7 < (x0.length : Int) then (if 0 ≤ x7 then ((steps_Without.f k ((rd_T23 x0 x7).f0) ((rd_T23 x0 x7).f1) ((rd_T23 x0 x7).f2) ((rd_T23 x0 x7).f3) ((rd_T23 x0 x7).f4) x5).bind fun bt327 => ((steps_Back.f k ((rd_T23 x0 x7).f0) ((rd_T23 x0 x7).f1) ((rd_T23 x0 x7).f2) ((rd_T23 x0 x7).f3) ((rd_T23 x0 x7).f4) bt327.1).bind fun bt332 => (if bt327.2 = true then (if bt332.2 = 0 then ((secateurref02_Nums.f k bt332.1 x5).bind fun t336 => (if t336 = true then (if (bt327.1.length : Int) = (wrap64 ((x5.length : Int) - 1)) then (secateurlaw15_StepsWhole.l0 k x0 x1 bt327.1 (wrap64 (x7 + 1))) else (some false)) else (some false))) else (some false)) else (some false)))) else (none)) else ((secateurref02_Nums.f k x1 x5).bind fun t324 => (if t324 = true then ((secateurlaw15_fixed.f k).bind fun t325 => (some t325)) else (some false)))
def secateurlaw15_StepsWhole.f (k : Nat) (l0 : List (S23)) (l1 : List Int) : Option (Bool) := if 0 ≤ (mn (l0.length : Int) 40) then (if (mn (l0.length : Int) 40) ≤ (l0.length : Int) then ((some (l0.take ((mn (l0.length : Int) 40) : Int).toNat : List (S23))).bind fun y310 => (if 0 ≤ (mn (l1.length : Int) 40) then (if (mn (l1.length : Int) 40) ≤ (l1.length : Int) then ((some (l1.take ((mn (l1.length : Int) 40) : Int).toNat : List Int)).bind fun y314 => ((steps_Replay.f k y310 y314).bind fun bt318 => (if bt318.2 = 0 then (if (bt318.1.length : Int) = (wrap64 ((y314.length : Int) + (y310.length : Int))) then (secateurlaw15_StepsWhole.l0 k y310 y314 bt318.1 0) else (some false)) else (if (bt318.1.length : Int) = 0 then (if bt318.2 = 150 then ((secateurlaw15_fixed.f k).bind fun t322 => (some t322)) else (if bt318.2 = 10 then ((secateurlaw15_fixed.f k).bind fun t323 => (some t323)) else (some false))) else (some false))))) else (none)) else (none))) else (none)) else (none)
theorem secateurlaw15_StepsWhole.mono_l : ∀ k, (∀ y0 y1 y2 y3, LeO (secateurlaw15_StepsWhole.l0 k y0 y1 y2 y3) (secateurlaw15_StepsWhole.l0 (k + 1) y0 y1 y2 y3))
  | 0 => fun _ _ _ _ r h => by simp [secateurlaw15_StepsWhole.l0] at h
  | k + 1 => by
    have ih0 := secateurlaw15_StepsWhole.mono_l k
    · intro y0 y1 y2 y3
      unfold secateurlaw15_StepsWhole.l0
      repeat' first
      | (with_reducible exact ih0 _ _ _ _)
      | (with_reducible exact secateurlaw15_fixed.mono _)
      | (with_reducible exact secateurref02_Nums.mono _ _ _)
      | (with_reducible exact steps_Back.mono _ _ _ _ _ _ _)
      | (with_reducible exact steps_Replay.mono _ _ _)
      | (with_reducible exact steps_Without.mono _ _ _ _ _ _ _)
      | (with_reducible exact LeO.refl _)
      | (with_reducible exact LeO.none _)
      | (with_reducible refine LeO.ite ?_ ?_)
      | (with_reducible refine LeO.bind ?_ (fun _ => ?_))
      | exact ih0 _ _ _ _
      | exact secateurlaw15_fixed.mono _
      | exact secateurref02_Nums.mono _ _ _
      | exact steps_Back.mono _ _ _ _ _ _ _
      | exact steps_Replay.mono _ _ _
      | exact steps_Without.mono _ _ _ _ _ _ _
      | exact LeO.none _
      | refine LeO.ite ?_ ?_
      | refine LeO.bind ?_ (fun _ => ?_)
theorem secateurlaw15_StepsWhole.mono : ∀ a0 a1 k, LeO (secateurlaw15_StepsWhole.f k a0 a1) (secateurlaw15_StepsWhole.f (k + 1) a0 a1) := by
  intro a0 a1 k
  have ih0 := secateurlaw15_StepsWhole.mono_l k
  unfold secateurlaw15_StepsWhole.f
  repeat' first
      | (with_reducible exact ih0 _ _ _ _)
      | (with_reducible exact secateurlaw15_fixed.mono _)
      | (with_reducible exact secateurref02_Nums.mono _ _ _)
      | (with_reducible exact steps_Back.mono _ _ _ _ _ _ _)
      | (with_reducible exact steps_Replay.mono _ _ _)
      | (with_reducible exact steps_Without.mono _ _ _ _ _ _ _)
      | (with_reducible exact LeO.refl _)
      | (with_reducible exact LeO.none _)
      | (with_reducible refine LeO.ite ?_ ?_)
      | (with_reducible refine LeO.bind ?_ (fun _ => ?_))
      | exact ih0 _ _ _ _
      | exact secateurlaw15_fixed.mono _
      | exact secateurref02_Nums.mono _ _ _
      | exact steps_Back.mono _ _ _ _ _ _ _
      | exact steps_Replay.mono _ _ _
      | exact steps_Without.mono _ _ _ _ _ _ _
      | exact LeO.none _
      | refine LeO.ite ?_ ?_
      | refine LeO.bind ?_ (fun _ => ?_)
set_option maxHeartbeats 8000000 in
set_option maxRecDepth 100000 in
theorem secateurlaw15_StepsWhole.calls (k : Nat) (A0 : Option Addr) (c0 : Nat) (l0 : List (S23)) (A1 : Option Addr) (c1 : Nat) (l1 : List Int) (r : Bool) (w : World) (hr0 : Kd.C k23 w A0 l0.length l0) (hc0 : l0.length ≤ c0) (hr1 : Kd.C (Kd.int .i64) w A1 l1.length l1) (hc1 : l1.length ≤ c1) (h : secateurlaw15_StepsWhole.f k l0 l1 = some r) :
    Calls Try.prog 7 #[.slice A0 l0.length c0, .slice A1 l1.length c1] w fun e w' => e = .returned (.bool r) ∧ Below w.heap.size w w' := by
  have hu23 := Try.underlying23
  have HR0 := Aside0.mk hr0
  have HC0 := Aside0.mk hc0
  clear hr0 hc0
  have HR1 := Aside0.mk hr1
  have HC1 := Aside0.mk hc1
  clear hr1 hc1
  have HB := Aside0.mk (Below.refl w.heap.size w)
  have H : (if 0 ≤ (mn (l0.length : Int) 40) then (if (mn (l0.length : Int) 40) ≤ (l0.length : Int) then ((some (l0.take ((mn (l0.length : Int) 40) : Int).toNat : List (S23))).bind fun y310 => (if 0 ≤ (mn (l1.length : Int) 40) then (if (mn (l1.length : Int) 40) ≤ (l1.length : Int) then ((some (l1.take ((mn (l1.length : Int) 40) : Int).toNat : List Int)).bind fun y314 => ((steps_Replay.f k y310 y314).bind fun bt318 => (if bt318.2 = 0 then (if (bt318.1.length : Int) = (wrap64 ((y314.length : Int) + (y310.length : Int))) then (secateurlaw15_StepsWhole.l0 k y310 y314 bt318.1 0) else (some false)) else (if (bt318.1.length : Int) = 0 then (if bt318.2 = 150 then ((secateurlaw15_fixed.f k).bind fun t322 => (some t322)) else (if bt318.2 = 10 then ((secateurlaw15_fixed.f k).bind fun t323 => (some t323)) else (some false))) else (some false))))) else (none)) else (none))) else (none)) else (none)) = some r := h
  clear h
  obtain ⟨ji3, hji3⟩ : ∃ j_ : Int, (mn (l0.length : Int) 40) = j_ := ⟨_, rfl⟩
  replace H : (if 0 ≤ (ji3) then (if (ji3) ≤ (l0.length : Int) then ((some (l0.take ((ji3) : Int).toNat : List (S23))).bind fun y310 => (if 0 ≤ (mn (l1.length : Int) 40) then (if (mn (l1.length : Int) 40) ≤ (l1.length : Int) then ((some (l1.take ((mn (l1.length : Int) 40) : Int).toNat : List Int)).bind fun y314 => ((steps_Replay.f k y310 y314).bind fun bt318 => (if bt318.2 = 0 then (if (bt318.1.length : Int) = (wrap64 ((y314.length : Int) + (y310.length : Int))) then (secateurlaw15_StepsWhole.l0 k y310 y314 bt318.1 0) else (some false)) else (if (bt318.1.length : Int) = 0 then (if bt318.2 = 150 then ((secateurlaw15_fixed.f k).bind fun t322 => (some t322)) else (if bt318.2 = 10 then ((secateurlaw15_fixed.f k).bind fun t323 => (some t323)) else (some false))) else (some false))))) else (none)) else (none))) else (none)) else (none)) = some r := by first | (rw [hji3] at H; exact H) | (simp only [hji3] at H ⊢; exact H)
  (try (have hji3h : ji3 ≤ 40 := by (rw [← hji3]; unfold mn; (repeat' split) <;> omega)))
  (try (have hji3g : ji3 ≤ 64 := by omega))
  (try (have hji3l : 0 ≤ ji3 := by (rw [← hji3]; unfold mn; (repeat' split) <;> omega)))
  (try (have hji3m : 0 ≤ ji3 := by omega))
  have hji3_ : (if 40 < (l0.length : Int) then 40 else (l0.length : Int)) = ji3 := hji3
  by_cases c4 : 0 ≤ (ji3)
  · rw [if_pos c4] at H
    have c4b0 := eq_true c4
    have c4b1 : decide (0 ≤ (ji3)) = true := decide_eq_true c4
    clear c4
    by_cases c5 : (ji3) ≤ (l0.length : Int)
    · rw [if_pos c5] at H
      have c5b0 := eq_true c5
      have c5b1 : decide ((ji3) ≤ (l0.length : Int)) = true := decide_eq_true c5
      clear c5
      obtain ⟨y310, hy310⟩ : ∃ y_ : List (S23), y_ = (l0.take ((ji3) : Int).toNat) := ⟨_, rfl⟩
      replace H : (if 0 ≤ (mn (l1.length : Int) 40) then (if (mn (l1.length : Int) 40) ≤ (l1.length : Int) then ((some (l1.take ((mn (l1.length : Int) 40) : Int).toNat : List Int)).bind fun y314 => ((steps_Replay.f k y310 y314).bind fun bt318 => (if bt318.2 = 0 then (if (bt318.1.length : Int) = (wrap64 ((y314.length : Int) + (y310.length : Int))) then (secateurlaw15_StepsWhole.l0 k y310 y314 bt318.1 0) else (some false)) else (if (bt318.1.length : Int) = 0 then (if bt318.2 = 150 then ((secateurlaw15_fixed.f k).bind fun t322 => (some t322)) else (if bt318.2 = 10 then ((secateurlaw15_fixed.f k).bind fun t323 => (some t323)) else (some false))) else (some false))))) else (none)) else (none)) = some r := by first | (rw [hy310]; with_reducible exact H) | (have H2_ := (Option.bind_some _ _).symm.trans H; rw [hy310]; with_reducible exact H2_) | (have H2_ := (Option.bind_some _ _).symm.trans H; with_reducible exact H2_) | with_reducible exact H | (rw [hy310]; exact H) | exact H
      have Ny310 := Aside0.mk hy310
      clear hy310
      obtain ⟨ji6, hji6⟩ : ∃ j_ : Int, (mn (l1.length : Int) 40) = j_ := ⟨_, rfl⟩
      replace H : (if 0 ≤ (ji6) then (if (ji6) ≤ (l1.length : Int) then ((some (l1.take ((ji6) : Int).toNat : List Int)).bind fun y314 => ((steps_Replay.f k y310 y314).bind fun bt318 => (if bt318.2 = 0 then (if (bt318.1.length : Int) = (wrap64 ((y314.length : Int) + (y310.length : Int))) then (secateurlaw15_StepsWhole.l0 k y310 y314 bt318.1 0) else (some false)) else (if (bt318.1.length : Int) = 0 then (if bt318.2 = 150 then ((secateurlaw15_fixed.f k).bind fun t322 => (some t322)) else (if bt318.2 = 10 then ((secateurlaw15_fixed.f k).bind fun t323 => (some t323)) else (some false))) else (some false))))) else (none)) else (none)) = some r := by first | (rw [hji6] at H; exact H) | (simp only [hji6] at H ⊢; exact H)
      (try (have hji6h : ji6 ≤ 40 := by (rw [← hji6]; unfold mn; (repeat' split) <;> omega)))
      (try (have hji6g : ji6 ≤ 64 := by omega))
      (try (have hji6l : 0 ≤ ji6 := by (rw [← hji6]; unfold mn; (repeat' split) <;> omega)))
      (try (have hji6m : 0 ≤ ji6 := by omega))
      have hji6_ : (if 40 < (l1.length : Int) then 40 else (l1.length : Int)) = ji6 := hji6
      by_cases c7 : 0 ≤ (ji6)
      · rw [if_pos c7] at H
        have c7b0 := eq_true c7
        have c7b1 : decide (0 ≤ (ji6)) = true := decide_eq_true c7
        clear c7
        by_cases c8 : (ji6) ≤ (l1.length : Int)
        · rw [if_pos c8] at H
          have c8b0 := eq_true c8
          have c8b1 : decide ((ji6) ≤ (l1.length : Int)) = true := decide_eq_true c8
          clear c8
          obtain ⟨y314, hy314⟩ : ∃ y_ : List Int, y_ = (l1.take ((ji6) : Int).toNat) := ⟨_, rfl⟩
          replace H : ((steps_Replay.f k y310 y314).bind fun bt318 => (if bt318.2 = 0 then (if (bt318.1.length : Int) = (wrap64 ((y314.length : Int) + (y310.length : Int))) then (secateurlaw15_StepsWhole.l0 k y310 y314 bt318.1 0) else (some false)) else (if (bt318.1.length : Int) = 0 then (if bt318.2 = 150 then ((secateurlaw15_fixed.f k).bind fun t322 => (some t322)) else (if bt318.2 = 10 then ((secateurlaw15_fixed.f k).bind fun t323 => (some t323)) else (some false))) else (some false)))) = some r := by first | (rw [hy314]; with_reducible exact H) | (have H2_ := (Option.bind_some _ _).symm.trans H; rw [hy314]; with_reducible exact H2_) | (have H2_ := (Option.bind_some _ _).symm.trans H; with_reducible exact H2_) | with_reducible exact H | (rw [hy314]; exact H) | exact H
          have Ny314 := Aside0.mk hy314
          clear hy314
          replace H := Option.bind_eq_some_iff.mp H
          obtain ⟨⟨t318, t319⟩, A90, H⟩ := H
          replace H : (if t319 = 0 then (if (t318.length : Int) = (wrap64 ((y314.length : Int) + (y310.length : Int))) then (secateurlaw15_StepsWhole.l0 k y310 y314 t318 0) else (some false)) else (if (t318.length : Int) = 0 then (if t319 = 150 then ((secateurlaw15_fixed.f k).bind fun t322 => (some t322)) else (if t319 = 10 then ((secateurlaw15_fixed.f k).bind fun t323 => (some t323)) else (some false))) else (some false))) = some r := H
          have A9 := Aside0.mk A90
          clear A90
          by_cases c10 : t319 = 0
          · rw [if_pos c10] at H
            have c10b0 : (t319 == 0) = true := beq_iff_eq.mpr c10
            have c10b1 : (t319 != 0) = false := bne_eq_false_iff_eq.mpr c10
            clear c10
            by_cases c11 : (t318.length : Int) = (wrap64 ((y314.length : Int) + (y310.length : Int)))
            · rw [if_pos c11] at H
              have c11b0 : ((t318.length : Int) == (wrap64 ((y314.length : Int) + (y310.length : Int)))) = true := beq_iff_eq.mpr c11
              have c11b1 : ((t318.length : Int) != (wrap64 ((y314.length : Int) + (y310.length : Int)))) = false := bne_eq_false_iff_eq.mpr c11
              clear c11
              have H' := Aside0.mk H
              clear H
              have q12 : ((ji3) : Int) ≤ ((l0.length : Int) : Int) := of_decide_eq_true (by first | (with_reducible assumption) | assumption)
              obtain ⟨i012, hi012, _, hsz12, _⟩ := info_parts info23
              have hroom12 : l0.length ≤ c0 := HC0.out
              have hC12 : Kd.C k23 _ A0 l0.length l0 := HR0.out
              have hcut12 := cut_to (P := Try.prog) 35 23 .i64 Try.underlying35 hi012 A0 l0.length c0 (ji3) (of_decide_eq_true (by first | (with_reducible assumption) | assumption)) q12 hroom12
              have hr12 := Kd.C_take (m := ((ji3) : Int).toNat) hC12 (by omega)
              have hy12 : y310.length = ((ji3) : Int).toNat := (by rw [Ny310.out, List.length_take]; omega)
              rw [← Ny310.out] at hr12
              rw [← hy12] at hcut12
              have HR313 := Aside0.mk hr12
              have HC313 := Aside0.mk (show y310.length ≤ c0 from by omega)
              clear hr12 hC12 hroom12 hi012 hsz12
              have KY12 := Aside0.mk hy12
              clear hy12
              replace q12 := eq_true q12
              have q13 : ((ji6) : Int) ≤ ((l1.length : Int) : Int) := of_decide_eq_true (by first | (with_reducible assumption) | assumption)
              obtain ⟨i013, hi013, _, hsz13, _⟩ := info_parts info3
              have hroom13 : l1.length ≤ c1 := HC1.out
              have hC13 : Kd.C (Kd.int .i64) _ A1 l1.length l1 := HR1.out
              have hcut13 := cut_to (P := Try.prog) 28 3 .i64 Try.underlying28 hi013 A1 l1.length c1 (ji6) (of_decide_eq_true (by first | (with_reducible assumption) | assumption)) q13 hroom13
              have hr13 := Kd.C_take (m := ((ji6) : Int).toNat) hC13 (by omega)
              have hy13 : y314.length = ((ji6) : Int).toNat := (by rw [Ny314.out, List.length_take]; omega)
              rw [← Ny314.out] at hr13
              rw [← hy13] at hcut13
              have HR317 := Aside0.mk hr13
              have HC317 := Aside0.mk (show y314.length ≤ c1 from by omega)
              clear hr13 hC13 hroom13 hi013 hsz13
              have KY13 := Aside0.mk hy13
              clear hy13
              replace q13 := eq_true q13
              go_enter Try.func7, Try.ntmps7
              go_wp2_with (first | ((with_reducible refine gate_callee (f := 18) rfl ?_); refine goesL_ (some 25) rfl rfl Try.func18 (by kernel_rfl) rfl #[.slice A0 y310.length c0, .slice A1 y314.length c1] rfl (by (try simp only [List.map_toArray, List.map_cons, List.map_nil]); first | done | rfl | (simp only [List.length_drop, List.length_take]; rfl)) ?_; (with_reducible refine (steps_Replay.calls k _ _ y310 _ _ y314 t318 t319 _ ?side1 ?side2 ?side3 ?side4 A9.out).mono ?_); (case side1 => repeat (first | exact HR313.out | (with_reducible refine Kd.C_alloc ?_ _) | (with_reducible refine Kd.C_drewN ?_ _) | (with_reducible refine Kd.C_drew ?_))); (case side2 => exact HC313.out); (case side3 => repeat (first | exact HR317.out | (with_reducible refine Kd.C_alloc ?_ _) | (with_reducible refine Kd.C_drewN ?_ _) | (with_reducible refine Kd.C_drew ?_))); (case side4 => exact HC317.out); rintro e w14 ⟨v320, rfl, ho0, hb⟩; refine ⟨_, rfl, ?_⟩; have n0_ := Aside0.mk (Kd.R_lower ho0 (below_size (by repeat (first | (with_reducible first | exact HB.out | apply below_alloc | apply pw_below_drewN | apply below_drew1) | exact HB.out)))); have n1_ := Aside0.mk (below_step (by repeat (first | (with_reducible first | exact HB.out | apply below_alloc | apply pw_below_drewN | apply below_drew1) | exact HB.out)) hb); clear HB; have HO321 := n0_; have HB := n1_; clear n0_ n1_; (try clear hb); (try clear hb2); (try clear hk); (try clear hi); (try clear ho0); obtain ⟨Ao15, co15, eo15⟩ := Kd.R_slice HO321.out; subst eo15))
              go_loopg [5, 7] k (fun kq v5 v7 w' => ∃ (x5_1 : List Int) (x7_1 : Int), v7 = .int .i64 x7_1 ∧ Aside0 (secateurlaw15_StepsWhole.l0 kq y310 y314 x5_1 x7_1 = some r) ∧ Aside0 (kq ≤ k) ∧ Aside0 (Kd.R (Kd.int .i64) 3 w' w.heap.size (fun _ => True) v5 x5_1) ∧ Aside0 (Below w.heap.size w w'))
              case atStart => exact ⟨(t318), (0), (by first | rfl | (simp; done) | (simp [*]; done)), H', ⟨Nat.le_refl _⟩, ⟨by (with_reducible repeat (first | apply Kd.R_alloc | apply Kd.R_drewN | apply Kd.R_drew)); exact HO321.out⟩, ⟨by repeat (first | (with_reducible first | exact HB.out | apply below_alloc | apply pw_below_drewN | apply below_drew1) | exact HB.out)⟩⟩
              case round =>
                clear H'
                try clear c1
                try clear q1
                try clear p2
                try clear c4
                try clear c4b0
                try clear c4b1
                try clear c5
                try clear c5b0
                try clear c5b1
                try clear p6
                try clear c7
                try clear c7b0
                try clear c7b1
                try clear c8
                try clear c8b0
                try clear c8b1
                try clear c10
                try clear c10b0
                try clear c10b1
                try clear c11
                try clear c11b0
                try clear c11b1
                try clear q12
                try clear q13
                try clear q12
                try clear q13
                obtain ⟨x5_1, x7_1, rfl, HA, HK1, HO_5, HB⟩ := hrel
                cases gk with
                | zero => exact absurd HA.out (by simp [secateurlaw15_StepsWhole.l0])
                | succ k1 =>
                  have H := HA.out
                  clear HA
                  simp only [secateurlaw15_StepsWhole.l0] at H
                  by_cases c16 : x7_1 < (y310.length : Int)
                  · rw [if_pos c16] at H
                    have c16b0 : decide (x7_1 < (y310.length : Int)) = true := decide_eq_true c16
                    clear c16
                    by_cases c17 : 0 ≤ x7_1
                    · rw [if_pos c17] at H
                      have c17b0 : decide (0 ≤ x7_1) = true := decide_eq_true c17
                      clear c17
                      replace H := Option.bind_eq_some_iff.mp H
                      obtain ⟨⟨t327, t330⟩, A180, H⟩ := H
                      replace H : ((steps_Back.f k1 ((rd_T23 y310 x7_1).f0) ((rd_T23 y310 x7_1).f1) ((rd_T23 y310 x7_1).f2) ((rd_T23 y310 x7_1).f3) ((rd_T23 y310 x7_1).f4) t327).bind fun bt332 => (if t330 = true then (if bt332.2 = 0 then ((secateurref02_Nums.f k1 bt332.1 x5_1).bind fun t336 => (if t336 = true then (if (t327.length : Int) = (wrap64 ((x5_1.length : Int) - 1)) then (secateurlaw15_StepsWhole.l0 k1 y310 y314 t327 (wrap64 (x7_1 + 1))) else (some false)) else (some false))) else (some false)) else (some false))) = some r := H
                      have A18 := Aside0.mk A180
                      clear A180
                      replace H := Option.bind_eq_some_iff.mp H
                      obtain ⟨⟨t332, t335⟩, A190, H⟩ := H
                      replace H : (if t330 = true then (if t335 = 0 then ((secateurref02_Nums.f k1 t332 x5_1).bind fun t336 => (if t336 = true then (if (t327.length : Int) = (wrap64 ((x5_1.length : Int) - 1)) then (secateurlaw15_StepsWhole.l0 k1 y310 y314 t327 (wrap64 (x7_1 + 1))) else (some false)) else (some false))) else (some false)) else (some false)) = some r := H
                      have A19 := Aside0.mk A190
                      clear A190
                      by_cases c20 : t330 = true
                      · subst c20
                        have H1 : (if t335 = 0 then ((secateurref02_Nums.f k1 t332 x5_1).bind fun t336 => (if t336 = true then (if (t327.length : Int) = (wrap64 ((x5_1.length : Int) - 1)) then (secateurlaw15_StepsWhole.l0 k1 y310 y314 t327 (wrap64 (x7_1 + 1))) else (some false)) else (some false))) else (some false)) = some r := by rw [if_pos rfl] at H; exact H
                        clear H
                        have H := H1
                        clear H1
                        by_cases c21 : t335 = 0
                        · rw [if_pos c21] at H
                          have c21b0 : (t335 == 0) = true := beq_iff_eq.mpr c21
                          have c21b1 : (t335 != 0) = false := bne_eq_false_iff_eq.mpr c21
                          clear c21
                          replace H := Option.bind_eq_some_iff.mp H
                          obtain ⟨t336, A220, H⟩ := H
                          replace H : (if t336 = true then (if (t327.length : Int) = (wrap64 ((x5_1.length : Int) - 1)) then (secateurlaw15_StepsWhole.l0 k1 y310 y314 t327 (wrap64 (x7_1 + 1))) else (some false)) else (some false)) = some r := H
                          have A22 := Aside0.mk A220
                          clear A220
                          by_cases c23 : t336 = true
                          · subst c23
                            have H1 : (if (t327.length : Int) = (wrap64 ((x5_1.length : Int) - 1)) then (secateurlaw15_StepsWhole.l0 k1 y310 y314 t327 (wrap64 (x7_1 + 1))) else (some false)) = some r := by rw [if_pos rfl] at H; exact H
                            clear H
                            have H := H1
                            clear H1
                            by_cases c24 : (t327.length : Int) = (wrap64 ((x5_1.length : Int) - 1))
                            · rw [if_pos c24] at H
                              have c24b0 : ((t327.length : Int) == (wrap64 ((x5_1.length : Int) - 1))) = true := beq_iff_eq.mpr c24
                              have c24b1 : ((t327.length : Int) != (wrap64 ((x5_1.length : Int) - 1))) = false := bne_eq_false_iff_eq.mpr c24
                              clear c24
                              have H' := Aside0.mk H
                              clear H
                              have p326 : 0 ≤ (x7_1 : Int) := of_decide_eq_true (by first | (with_reducible assumption) | assumption)
                              have q326 : x7_1 < (y310.length : Int) := of_decide_eq_true (by first | (with_reducible assumption) | assumption)
                              obtain ⟨ad326, e326, hx326_0, hx326_1, hx326_2, hx326_3, hx326_4⟩ := at_T23 HR313.out x7_1 p326 q326
                              cases e326
                              replace hx326_0 := (HB.out.cell (World.block_lt_of_cell? w _ hx326_0)).trans hx326_0
                              replace hx326_1 := (HB.out.cell (World.block_lt_of_cell? w _ hx326_1)).trans hx326_1
                              replace hx326_2 := (HB.out.cell (World.block_lt_of_cell? w _ hx326_2)).trans hx326_2
                              replace hx326_3 := (HB.out.cell (World.block_lt_of_cell? w _ hx326_3)).trans hx326_3
                              replace hx326_4 := (HB.out.cell (World.block_lt_of_cell? w _ hx326_4)).trans hx326_4
                              replace p326 := eq_true p326
                              replace q326 := eq_true q326
                              obtain ⟨Ao25, co25, eo25⟩ := Kd.R_slice HO_5.out
                              subst eo25
                              go_wp2_with (first | ((with_reducible refine gate_callee (f := 15) rfl ?_); refine goesL_ (some 64) rfl rfl Try.func15 (by kernel_rfl) rfl #[.agg #[.int .i64 ((rd_T23 y310 x7_1).f0), .int .i64 ((rd_T23 y310 x7_1).f1), .int .i64 ((rd_T23 y310 x7_1).f2), .int .i64 ((rd_T23 y310 x7_1).f3), .int .i64 ((rd_T23 y310 x7_1).f4)], .slice Ao25 x5_1.length co25] rfl (by (try simp only [List.map_toArray, List.map_cons, List.map_nil]); first | done | rfl | (simp only [List.length_drop, List.length_take]; rfl)) ?_; (with_reducible refine (steps_Without.calls k1 ((rd_T23 y310 x7_1).f0) ((rd_T23 y310 x7_1).f1) ((rd_T23 y310 x7_1).f2) ((rd_T23 y310 x7_1).f3) ((rd_T23 y310 x7_1).f4) _ _ x5_1 t327 true _ ?side1 ?side2 A18.out).mono ?_); (case side1 => repeat (first | exact (Kd.R_reads' HO_5.out).2.2 | (with_reducible refine Kd.C_alloc ?_ _) | (with_reducible refine Kd.C_drewN ?_ _) | (with_reducible refine Kd.C_drew ?_))); (case side2 => exact (Kd.R_reads' HO_5.out).2.1); rintro e w26 ⟨v328, rfl, ho0, hb⟩; refine ⟨_, rfl, ?_⟩; have n0_ := Aside0.mk (Kd.R_elder' (by (with_reducible repeat (first | apply Kd.R_alloc | apply Kd.R_drewN | apply Kd.R_drew)); exact HO_5.out) (Kd.R_base ho0) hb); have n1_ := Aside0.mk (Kd.R_lower (Kd.R_new' ho0 (Kd.R_lt (by (with_reducible repeat (first | apply Kd.R_alloc | apply Kd.R_drewN | apply Kd.R_drew)); exact HO_5.out))) (below_size (by repeat (first | (with_reducible first | exact HB.out | apply below_alloc | apply pw_below_drewN | apply below_drew1) | exact HB.out)))); have n2_ := Aside0.mk (below_step (by repeat (first | (with_reducible first | exact HB.out | apply below_alloc | apply pw_below_drewN | apply below_drew1) | exact HB.out)) hb); clear HO_5; clear HB; have HO_5 := n0_; have HO329 := n1_; have HB := n2_; clear n0_ n1_ n2_; (try clear hb); (try clear hb2); (try clear hk); (try clear hi); (try clear ho0); have p331 : 0 ≤ (x7_1 : Int) := of_decide_eq_true (by first | (with_reducible assumption) | assumption); have q331 : x7_1 < (y310.length : Int) := of_decide_eq_true (by first | (with_reducible assumption) | assumption); obtain ⟨ad331, e331, hx331_0, hx331_1, hx331_2, hx331_3, hx331_4⟩ := at_T23 HR313.out x7_1 p331 q331; obtain rfl : ad326 = ad331 := (by injection e331); replace hx331_0 := (HB.out.cell (World.block_lt_of_cell? w _ hx331_0)).trans hx331_0; replace hx331_1 := (HB.out.cell (World.block_lt_of_cell? w _ hx331_1)).trans hx331_1; replace hx331_2 := (HB.out.cell (World.block_lt_of_cell? w _ hx331_2)).trans hx331_2; replace hx331_3 := (HB.out.cell (World.block_lt_of_cell? w _ hx331_3)).trans hx331_3; replace hx331_4 := (HB.out.cell (World.block_lt_of_cell? w _ hx331_4)).trans hx331_4; replace p331 := eq_true p331; replace q331 := eq_true q331; obtain ⟨Ao27, co27, eo27⟩ := Kd.R_slice HO329.out; subst eo27) | ((with_reducible refine gate_callee (f := 12) rfl ?_); refine goesL_ (some 73) rfl rfl Try.func12 (by kernel_rfl) rfl #[.agg #[.int .i64 ((rd_T23 y310 x7_1).f0), .int .i64 ((rd_T23 y310 x7_1).f1), .int .i64 ((rd_T23 y310 x7_1).f2), .int .i64 ((rd_T23 y310 x7_1).f3), .int .i64 ((rd_T23 y310 x7_1).f4)], .slice Ao27 t327.length co27] rfl (by (try simp only [List.map_toArray, List.map_cons, List.map_nil]); first | done | rfl | (simp only [List.length_drop, List.length_take]; rfl)) ?_; (with_reducible refine (steps_Back.calls k1 ((rd_T23 y310 x7_1).f0) ((rd_T23 y310 x7_1).f1) ((rd_T23 y310 x7_1).f2) ((rd_T23 y310 x7_1).f3) ((rd_T23 y310 x7_1).f4) _ _ t327 t332 t335 _ ?side1 ?side2 A19.out).mono ?_); (case side1 => repeat (first | exact (Kd.R_reads' HO329.out).2.2 | (with_reducible refine Kd.C_alloc ?_ _) | (with_reducible refine Kd.C_drewN ?_ _) | (with_reducible refine Kd.C_drew ?_))); (case side2 => exact (Kd.R_reads' HO329.out).2.1); rintro e w28 ⟨v333, rfl, ho0, hb⟩; refine ⟨_, rfl, ?_⟩; have n0_ := Aside0.mk (Kd.R_elder' (by (with_reducible repeat (first | apply Kd.R_alloc | apply Kd.R_drewN | apply Kd.R_drew)); exact HO_5.out) (Kd.R_base ho0) hb); have n1_ := Aside0.mk (Kd.R_elder' (by (with_reducible repeat (first | apply Kd.R_alloc | apply Kd.R_drewN | apply Kd.R_drew)); exact HO329.out) (Kd.R_base ho0) hb); have n2_ := Aside0.mk (Kd.R_lower (Kd.R_new' (Kd.R_new' ho0 (Kd.R_lt (by (with_reducible repeat (first | apply Kd.R_alloc | apply Kd.R_drewN | apply Kd.R_drew)); exact HO_5.out))) (Kd.R_lt (by (with_reducible repeat (first | apply Kd.R_alloc | apply Kd.R_drewN | apply Kd.R_drew)); exact HO329.out))) (below_size (by repeat (first | (with_reducible first | exact HB.out | apply below_alloc | apply pw_below_drewN | apply below_drew1) | exact HB.out)))); have n3_ := Aside0.mk (below_step (by repeat (first | (with_reducible first | exact HB.out | apply below_alloc | apply pw_below_drewN | apply below_drew1) | exact HB.out)) hb); clear HO_5; clear HO329; clear HB; have HO_5 := n0_; have HO329 := n1_; have HO334 := n2_; have HB := n3_; clear n0_ n1_ n2_ n3_; (try clear hb); (try clear hb2); (try clear hk); (try clear hi); (try clear ho0); obtain ⟨Ao29, co29, eo29⟩ := Kd.R_slice HO334.out; subst eo29) | (go_at_call 13; (with_reducible refine (secateurref02_Nums.calls k1 _ _ t332 _ _ x5_1 true _ ?side1 ?side2 ?side3 ?side4 A22.out).mono ?_); (case side1 => repeat (first | exact (Kd.R_reads' HO334.out).2.2 | (with_reducible refine Kd.C_alloc ?_ _) | (with_reducible refine Kd.C_drewN ?_ _) | (with_reducible refine Kd.C_drew ?_))); (case side2 => exact (Kd.R_reads' HO334.out).2.1); (case side3 => repeat (first | exact (Kd.R_reads' HO_5.out).2.2 | (with_reducible refine Kd.C_alloc ?_ _) | (with_reducible refine Kd.C_drewN ?_ _) | (with_reducible refine Kd.C_drew ?_))); (case side4 => exact (Kd.R_reads' HO_5.out).2.1); rintro e w' ⟨rfl, ⟨nd, rfl⟩⟩))
                              go_roundg k1
                              case measure => have := HK1.out; omega
                              case rel => exact ⟨(t327), (wrap64 (x7_1 + 1)), (by first | rfl | (simp; done) | (simp [*]; done)), H', ⟨by have := HK1.out; omega⟩, ⟨by (with_reducible repeat (first | apply Kd.R_alloc | apply Kd.R_drewN | apply Kd.R_drew)); exact Kd.R_mono HO329.out (fun _ hk => trivial)⟩, ⟨by repeat (first | (with_reducible first | exact HB.out | apply below_alloc | apply pw_below_drewN | apply below_drew1) | exact HB.out)⟩⟩
                            · rw [if_neg c24] at H
                              have c24b0 : ((t327.length : Int) == (wrap64 ((x5_1.length : Int) - 1))) = false := beq_eq_false_iff_ne.mpr c24
                              have c24b1 : ((t327.length : Int) != (wrap64 ((x5_1.length : Int) - 1))) = true := bne_iff_ne.mpr c24
                              obtain rfl := Option.some.inj H
                              have p326 : 0 ≤ (x7_1 : Int) := of_decide_eq_true (by first | (with_reducible assumption) | assumption)
                              have q326 : x7_1 < (y310.length : Int) := of_decide_eq_true (by first | (with_reducible assumption) | assumption)
                              obtain ⟨ad326, e326, hx326_0, hx326_1, hx326_2, hx326_3, hx326_4⟩ := at_T23 HR313.out x7_1 p326 q326
                              cases e326
                              replace hx326_0 := (HB.out.cell (World.block_lt_of_cell? w _ hx326_0)).trans hx326_0
                              replace hx326_1 := (HB.out.cell (World.block_lt_of_cell? w _ hx326_1)).trans hx326_1
                              replace hx326_2 := (HB.out.cell (World.block_lt_of_cell? w _ hx326_2)).trans hx326_2
                              replace hx326_3 := (HB.out.cell (World.block_lt_of_cell? w _ hx326_3)).trans hx326_3
                              replace hx326_4 := (HB.out.cell (World.block_lt_of_cell? w _ hx326_4)).trans hx326_4
                              replace p326 := eq_true p326
                              replace q326 := eq_true q326
                              obtain ⟨Ao30, co30, eo30⟩ := Kd.R_slice HO_5.out
                              subst eo30
                              go_wp2_with (first | ((with_reducible refine gate_callee (f := 15) rfl ?_); refine goesL_ (some 64) rfl rfl Try.func15 (by kernel_rfl) rfl #[.agg #[.int .i64 ((rd_T23 y310 x7_1).f0), .int .i64 ((rd_T23 y310 x7_1).f1), .int .i64 ((rd_T23 y310 x7_1).f2), .int .i64 ((rd_T23 y310 x7_1).f3), .int .i64 ((rd_T23 y310 x7_1).f4)], .slice Ao30 x5_1.length co30] rfl (by (try simp only [List.map_toArray, List.map_cons, List.map_nil]); first | done | rfl | (simp only [List.length_drop, List.length_take]; rfl)) ?_; (with_reducible refine (steps_Without.calls k1 ((rd_T23 y310 x7_1).f0) ((rd_T23 y310 x7_1).f1) ((rd_T23 y310 x7_1).f2) ((rd_T23 y310 x7_1).f3) ((rd_T23 y310 x7_1).f4) _ _ x5_1 t327 true _ ?side1 ?side2 A18.out).mono ?_); (case side1 => repeat (first | exact (Kd.R_reads' HO_5.out).2.2 | (with_reducible refine Kd.C_alloc ?_ _) | (with_reducible refine Kd.C_drewN ?_ _) | (with_reducible refine Kd.C_drew ?_))); (case side2 => exact (Kd.R_reads' HO_5.out).2.1); rintro e w31 ⟨v328, rfl, ho0, hb⟩; refine ⟨_, rfl, ?_⟩; have n0_ := Aside0.mk (Kd.R_elder' (by (with_reducible repeat (first | apply Kd.R_alloc | apply Kd.R_drewN | apply Kd.R_drew)); exact HO_5.out) (Kd.R_base ho0) hb); have n1_ := Aside0.mk (Kd.R_lower (Kd.R_new' ho0 (Kd.R_lt (by (with_reducible repeat (first | apply Kd.R_alloc | apply Kd.R_drewN | apply Kd.R_drew)); exact HO_5.out))) (below_size (by repeat (first | (with_reducible first | exact HB.out | apply below_alloc | apply pw_below_drewN | apply below_drew1) | exact HB.out)))); have n2_ := Aside0.mk (below_step (by repeat (first | (with_reducible first | exact HB.out | apply below_alloc | apply pw_below_drewN | apply below_drew1) | exact HB.out)) hb); clear HO_5; clear HB; have HO_5 := n0_; have HO329 := n1_; have HB := n2_; clear n0_ n1_ n2_; (try clear hb); (try clear hb2); (try clear hk); (try clear hi); (try clear ho0); have p331 : 0 ≤ (x7_1 : Int) := of_decide_eq_true (by first | (with_reducible assumption) | assumption); have q331 : x7_1 < (y310.length : Int) := of_decide_eq_true (by first | (with_reducible assumption) | assumption); obtain ⟨ad331, e331, hx331_0, hx331_1, hx331_2, hx331_3, hx331_4⟩ := at_T23 HR313.out x7_1 p331 q331; obtain rfl : ad326 = ad331 := (by injection e331); replace hx331_0 := (HB.out.cell (World.block_lt_of_cell? w _ hx331_0)).trans hx331_0; replace hx331_1 := (HB.out.cell (World.block_lt_of_cell? w _ hx331_1)).trans hx331_1; replace hx331_2 := (HB.out.cell (World.block_lt_of_cell? w _ hx331_2)).trans hx331_2; replace hx331_3 := (HB.out.cell (World.block_lt_of_cell? w _ hx331_3)).trans hx331_3; replace hx331_4 := (HB.out.cell (World.block_lt_of_cell? w _ hx331_4)).trans hx331_4; replace p331 := eq_true p331; replace q331 := eq_true q331; obtain ⟨Ao32, co32, eo32⟩ := Kd.R_slice HO329.out; subst eo32) | ((with_reducible refine gate_callee (f := 12) rfl ?_); refine goesL_ (some 73) rfl rfl Try.func12 (by kernel_rfl) rfl #[.agg #[.int .i64 ((rd_T23 y310 x7_1).f0), .int .i64 ((rd_T23 y310 x7_1).f1), .int .i64 ((rd_T23 y310 x7_1).f2), .int .i64 ((rd_T23 y310 x7_1).f3), .int .i64 ((rd_T23 y310 x7_1).f4)], .slice Ao32 t327.length co32] rfl (by (try simp only [List.map_toArray, List.map_cons, List.map_nil]); first | done | rfl | (simp only [List.length_drop, List.length_take]; rfl)) ?_; (with_reducible refine (steps_Back.calls k1 ((rd_T23 y310 x7_1).f0) ((rd_T23 y310 x7_1).f1) ((rd_T23 y310 x7_1).f2) ((rd_T23 y310 x7_1).f3) ((rd_T23 y310 x7_1).f4) _ _ t327 t332 t335 _ ?side1 ?side2 A19.out).mono ?_); (case side1 => repeat (first | exact (Kd.R_reads' HO329.out).2.2 | (with_reducible refine Kd.C_alloc ?_ _) | (with_reducible refine Kd.C_drewN ?_ _) | (with_reducible refine Kd.C_drew ?_))); (case side2 => exact (Kd.R_reads' HO329.out).2.1); rintro e w33 ⟨v333, rfl, ho0, hb⟩; refine ⟨_, rfl, ?_⟩; have n0_ := Aside0.mk (Kd.R_elder' (by (with_reducible repeat (first | apply Kd.R_alloc | apply Kd.R_drewN | apply Kd.R_drew)); exact HO_5.out) (Kd.R_base ho0) hb); have n1_ := Aside0.mk (Kd.R_elder' (by (with_reducible repeat (first | apply Kd.R_alloc | apply Kd.R_drewN | apply Kd.R_drew)); exact HO329.out) (Kd.R_base ho0) hb); have n2_ := Aside0.mk (Kd.R_lower (Kd.R_new' (Kd.R_new' ho0 (Kd.R_lt (by (with_reducible repeat (first | apply Kd.R_alloc | apply Kd.R_drewN | apply Kd.R_drew)); exact HO_5.out))) (Kd.R_lt (by (with_reducible repeat (first | apply Kd.R_alloc | apply Kd.R_drewN | apply Kd.R_drew)); exact HO329.out))) (below_size (by repeat (first | (with_reducible first | exact HB.out | apply below_alloc | apply pw_below_drewN | apply below_drew1) | exact HB.out)))); have n3_ := Aside0.mk (below_step (by repeat (first | (with_reducible first | exact HB.out | apply below_alloc | apply pw_below_drewN | apply below_drew1) | exact HB.out)) hb); clear HO_5; clear HO329; clear HB; have HO_5 := n0_; have HO329 := n1_; have HO334 := n2_; have HB := n3_; clear n0_ n1_ n2_ n3_; (try clear hb); (try clear hb2); (try clear hk); (try clear hi); (try clear ho0); obtain ⟨Ao34, co34, eo34⟩ := Kd.R_slice HO334.out; subst eo34) | (go_at_call 13; (with_reducible refine (secateurref02_Nums.calls k1 _ _ t332 _ _ x5_1 true _ ?side1 ?side2 ?side3 ?side4 A22.out).mono ?_); (case side1 => repeat (first | exact (Kd.R_reads' HO334.out).2.2 | (with_reducible refine Kd.C_alloc ?_ _) | (with_reducible refine Kd.C_drewN ?_ _) | (with_reducible refine Kd.C_drew ?_))); (case side2 => exact (Kd.R_reads' HO334.out).2.1); (case side3 => repeat (first | exact (Kd.R_reads' HO_5.out).2.2 | (with_reducible refine Kd.C_alloc ?_ _) | (with_reducible refine Kd.C_drewN ?_ _) | (with_reducible refine Kd.C_drew ?_))); (case side4 => exact (Kd.R_reads' HO_5.out).2.1); rintro e w' ⟨rfl, ⟨nd, rfl⟩⟩))
                              go_ret
                              exact ⟨by first | rfl | (simp [errW_none, errW_some] <;> rfl) | (simp only [← hji3, ← hji6]; first | rfl | (simp [errW_none, errW_some] <;> rfl)) | (simp [*, errW_none, errW_some] <;> rfl), by repeat (first | (with_reducible first | exact HB.out | apply below_alloc | apply pw_below_drewN | apply below_drew1) | exact HB.out)⟩
                          · replace c23 := Bool.eq_false_iff.mpr c23
                            subst c23
                            have H1 : (some false) = some r := by rw [if_neg (show ¬ (false = true) by decide)] at H; exact H
                            clear H
                            have H := H1
                            clear H1
                            obtain rfl := Option.some.inj H
                            have p326 : 0 ≤ (x7_1 : Int) := of_decide_eq_true (by first | (with_reducible assumption) | assumption)
                            have q326 : x7_1 < (y310.length : Int) := of_decide_eq_true (by first | (with_reducible assumption) | assumption)
                            obtain ⟨ad326, e326, hx326_0, hx326_1, hx326_2, hx326_3, hx326_4⟩ := at_T23 HR313.out x7_1 p326 q326
                            cases e326
                            replace hx326_0 := (HB.out.cell (World.block_lt_of_cell? w _ hx326_0)).trans hx326_0
                            replace hx326_1 := (HB.out.cell (World.block_lt_of_cell? w _ hx326_1)).trans hx326_1
                            replace hx326_2 := (HB.out.cell (World.block_lt_of_cell? w _ hx326_2)).trans hx326_2
                            replace hx326_3 := (HB.out.cell (World.block_lt_of_cell? w _ hx326_3)).trans hx326_3
                            replace hx326_4 := (HB.out.cell (World.block_lt_of_cell? w _ hx326_4)).trans hx326_4
                            replace p326 := eq_true p326
                            replace q326 := eq_true q326
                            obtain ⟨Ao35, co35, eo35⟩ := Kd.R_slice HO_5.out
                            subst eo35
                            go_wp2_with (first | ((with_reducible refine gate_callee (f := 15) rfl ?_); refine goesL_ (some 64) rfl rfl Try.func15 (by kernel_rfl) rfl #[.agg #[.int .i64 ((rd_T23 y310 x7_1).f0), .int .i64 ((rd_T23 y310 x7_1).f1), .int .i64 ((rd_T23 y310 x7_1).f2), .int .i64 ((rd_T23 y310 x7_1).f3), .int .i64 ((rd_T23 y310 x7_1).f4)], .slice Ao35 x5_1.length co35] rfl (by (try simp only [List.map_toArray, List.map_cons, List.map_nil]); first | done | rfl | (simp only [List.length_drop, List.length_take]; rfl)) ?_; (with_reducible refine (steps_Without.calls k1 ((rd_T23 y310 x7_1).f0) ((rd_T23 y310 x7_1).f1) ((rd_T23 y310 x7_1).f2) ((rd_T23 y310 x7_1).f3) ((rd_T23 y310 x7_1).f4) _ _ x5_1 t327 true _ ?side1 ?side2 A18.out).mono ?_); (case side1 => repeat (first | exact (Kd.R_reads' HO_5.out).2.2 | (with_reducible refine Kd.C_alloc ?_ _) | (with_reducible refine Kd.C_drewN ?_ _) | (with_reducible refine Kd.C_drew ?_))); (case side2 => exact (Kd.R_reads' HO_5.out).2.1); rintro e w36 ⟨v328, rfl, ho0, hb⟩; refine ⟨_, rfl, ?_⟩; have n0_ := Aside0.mk (Kd.R_elder' (by (with_reducible repeat (first | apply Kd.R_alloc | apply Kd.R_drewN | apply Kd.R_drew)); exact HO_5.out) (Kd.R_base ho0) hb); have n1_ := Aside0.mk (Kd.R_lower (Kd.R_new' ho0 (Kd.R_lt (by (with_reducible repeat (first | apply Kd.R_alloc | apply Kd.R_drewN | apply Kd.R_drew)); exact HO_5.out))) (below_size (by repeat (first | (with_reducible first | exact HB.out | apply below_alloc | apply pw_below_drewN | apply below_drew1) | exact HB.out)))); have n2_ := Aside0.mk (below_step (by repeat (first | (with_reducible first | exact HB.out | apply below_alloc | apply pw_below_drewN | apply below_drew1) | exact HB.out)) hb); clear HO_5; clear HB; have HO_5 := n0_; have HO329 := n1_; have HB := n2_; clear n0_ n1_ n2_; (try clear hb); (try clear hb2); (try clear hk); (try clear hi); (try clear ho0); have p331 : 0 ≤ (x7_1 : Int) := of_decide_eq_true (by first | (with_reducible assumption) | assumption); have q331 : x7_1 < (y310.length : Int) := of_decide_eq_true (by first | (with_reducible assumption) | assumption); obtain ⟨ad331, e331, hx331_0, hx331_1, hx331_2, hx331_3, hx331_4⟩ := at_T23 HR313.out x7_1 p331 q331; obtain rfl : ad326 = ad331 := (by injection e331); replace hx331_0 := (HB.out.cell (World.block_lt_of_cell? w _ hx331_0)).trans hx331_0; replace hx331_1 := (HB.out.cell (World.block_lt_of_cell? w _ hx331_1)).trans hx331_1; replace hx331_2 := (HB.out.cell (World.block_lt_of_cell? w _ hx331_2)).trans hx331_2; replace hx331_3 := (HB.out.cell (World.block_lt_of_cell? w _ hx331_3)).trans hx331_3; replace hx331_4 := (HB.out.cell (World.block_lt_of_cell? w _ hx331_4)).trans hx331_4; replace p331 := eq_true p331; replace q331 := eq_true q331; obtain ⟨Ao37, co37, eo37⟩ := Kd.R_slice HO329.out; subst eo37) | ((with_reducible refine gate_callee (f := 12) rfl ?_); refine goesL_ (some 73) rfl rfl Try.func12 (by kernel_rfl) rfl #[.agg #[.int .i64 ((rd_T23 y310 x7_1).f0), .int .i64 ((rd_T23 y310 x7_1).f1), .int .i64 ((rd_T23 y310 x7_1).f2), .int .i64 ((rd_T23 y310 x7_1).f3), .int .i64 ((rd_T23 y310 x7_1).f4)], .slice Ao37 t327.length co37] rfl (by (try simp only [List.map_toArray, List.map_cons, List.map_nil]); first | done | rfl | (simp only [List.length_drop, List.length_take]; rfl)) ?_; (with_reducible refine (steps_Back.calls k1 ((rd_T23 y310 x7_1).f0) ((rd_T23 y310 x7_1).f1) ((rd_T23 y310 x7_1).f2) ((rd_T23 y310 x7_1).f3) ((rd_T23 y310 x7_1).f4) _ _ t327 t332 t335 _ ?side1 ?side2 A19.out).mono ?_); (case side1 => repeat (first | exact (Kd.R_reads' HO329.out).2.2 | (with_reducible refine Kd.C_alloc ?_ _) | (with_reducible refine Kd.C_drewN ?_ _) | (with_reducible refine Kd.C_drew ?_))); (case side2 => exact (Kd.R_reads' HO329.out).2.1); rintro e w38 ⟨v333, rfl, ho0, hb⟩; refine ⟨_, rfl, ?_⟩; have n0_ := Aside0.mk (Kd.R_elder' (by (with_reducible repeat (first | apply Kd.R_alloc | apply Kd.R_drewN | apply Kd.R_drew)); exact HO_5.out) (Kd.R_base ho0) hb); have n1_ := Aside0.mk (Kd.R_elder' (by (with_reducible repeat (first | apply Kd.R_alloc | apply Kd.R_drewN | apply Kd.R_drew)); exact HO329.out) (Kd.R_base ho0) hb); have n2_ := Aside0.mk (Kd.R_lower (Kd.R_new' (Kd.R_new' ho0 (Kd.R_lt (by (with_reducible repeat (first | apply Kd.R_alloc | apply Kd.R_drewN | apply Kd.R_drew)); exact HO_5.out))) (Kd.R_lt (by (with_reducible repeat (first | apply Kd.R_alloc | apply Kd.R_drewN | apply Kd.R_drew)); exact HO329.out))) (below_size (by repeat (first | (with_reducible first | exact HB.out | apply below_alloc | apply pw_below_drewN | apply below_drew1) | exact HB.out)))); have n3_ := Aside0.mk (below_step (by repeat (first | (with_reducible first | exact HB.out | apply below_alloc | apply pw_below_drewN | apply below_drew1) | exact HB.out)) hb); clear HO_5; clear HO329; clear HB; have HO_5 := n0_; have HO329 := n1_; have HO334 := n2_; have HB := n3_; clear n0_ n1_ n2_ n3_; (try clear hb); (try clear hb2); (try clear hk); (try clear hi); (try clear ho0); obtain ⟨Ao39, co39, eo39⟩ := Kd.R_slice HO334.out; subst eo39) | (go_at_call 13; (with_reducible refine (secateurref02_Nums.calls k1 _ _ t332 _ _ x5_1 false _ ?side1 ?side2 ?side3 ?side4 A22.out).mono ?_); (case side1 => repeat (first | exact (Kd.R_reads' HO334.out).2.2 | (with_reducible refine Kd.C_alloc ?_ _) | (with_reducible refine Kd.C_drewN ?_ _) | (with_reducible refine Kd.C_drew ?_))); (case side2 => exact (Kd.R_reads' HO334.out).2.1); (case side3 => repeat (first | exact (Kd.R_reads' HO_5.out).2.2 | (with_reducible refine Kd.C_alloc ?_ _) | (with_reducible refine Kd.C_drewN ?_ _) | (with_reducible refine Kd.C_drew ?_))); (case side4 => exact (Kd.R_reads' HO_5.out).2.1); rintro e w' ⟨rfl, ⟨nd, rfl⟩⟩))
                            go_ret
                            exact ⟨by first | rfl | (simp [errW_none, errW_some] <;> rfl) | (simp only [← hji3, ← hji6]; first | rfl | (simp [errW_none, errW_some] <;> rfl)) | (simp [*, errW_none, errW_some] <;> rfl), by repeat (first | (with_reducible first | exact HB.out | apply below_alloc | apply pw_below_drewN | apply below_drew1) | exact HB.out)⟩
                        · rw [if_neg c21] at H
                          have c21b0 : (t335 == 0) = false := beq_eq_false_iff_ne.mpr c21
                          have c21b1 : (t335 != 0) = true := bne_iff_ne.mpr c21
                          obtain rfl := Option.some.inj H
                          have p326 : 0 ≤ (x7_1 : Int) := of_decide_eq_true (by first | (with_reducible assumption) | assumption)
                          have q326 : x7_1 < (y310.length : Int) := of_decide_eq_true (by first | (with_reducible assumption) | assumption)
                          obtain ⟨ad326, e326, hx326_0, hx326_1, hx326_2, hx326_3, hx326_4⟩ := at_T23 HR313.out x7_1 p326 q326
                          cases e326
                          replace hx326_0 := (HB.out.cell (World.block_lt_of_cell? w _ hx326_0)).trans hx326_0
                          replace hx326_1 := (HB.out.cell (World.block_lt_of_cell? w _ hx326_1)).trans hx326_1
                          replace hx326_2 := (HB.out.cell (World.block_lt_of_cell? w _ hx326_2)).trans hx326_2
                          replace hx326_3 := (HB.out.cell (World.block_lt_of_cell? w _ hx326_3)).trans hx326_3
                          replace hx326_4 := (HB.out.cell (World.block_lt_of_cell? w _ hx326_4)).trans hx326_4
                          replace p326 := eq_true p326
                          replace q326 := eq_true q326
                          obtain ⟨Ao40, co40, eo40⟩ := Kd.R_slice HO_5.out
                          subst eo40
                          go_wp2_with (first | ((with_reducible refine gate_callee (f := 15) rfl ?_); refine goesL_ (some 64) rfl rfl Try.func15 (by kernel_rfl) rfl #[.agg #[.int .i64 ((rd_T23 y310 x7_1).f0), .int .i64 ((rd_T23 y310 x7_1).f1), .int .i64 ((rd_T23 y310 x7_1).f2), .int .i64 ((rd_T23 y310 x7_1).f3), .int .i64 ((rd_T23 y310 x7_1).f4)], .slice Ao40 x5_1.length co40] rfl (by (try simp only [List.map_toArray, List.map_cons, List.map_nil]); first | done | rfl | (simp only [List.length_drop, List.length_take]; rfl)) ?_; (with_reducible refine (steps_Without.calls k1 ((rd_T23 y310 x7_1).f0) ((rd_T23 y310 x7_1).f1) ((rd_T23 y310 x7_1).f2) ((rd_T23 y310 x7_1).f3) ((rd_T23 y310 x7_1).f4) _ _ x5_1 t327 true _ ?side1 ?side2 A18.out).mono ?_); (case side1 => repeat (first | exact (Kd.R_reads' HO_5.out).2.2 | (with_reducible refine Kd.C_alloc ?_ _) | (with_reducible refine Kd.C_drewN ?_ _) | (with_reducible refine Kd.C_drew ?_))); (case side2 => exact (Kd.R_reads' HO_5.out).2.1); rintro e w41 ⟨v328, rfl, ho0, hb⟩; refine ⟨_, rfl, ?_⟩; have n0_ := Aside0.mk (Kd.R_elder' (by (with_reducible repeat (first | apply Kd.R_alloc | apply Kd.R_drewN | apply Kd.R_drew)); exact HO_5.out) (Kd.R_base ho0) hb); have n1_ := Aside0.mk (Kd.R_lower (Kd.R_new' ho0 (Kd.R_lt (by (with_reducible repeat (first | apply Kd.R_alloc | apply Kd.R_drewN | apply Kd.R_drew)); exact HO_5.out))) (below_size (by repeat (first | (with_reducible first | exact HB.out | apply below_alloc | apply pw_below_drewN | apply below_drew1) | exact HB.out)))); have n2_ := Aside0.mk (below_step (by repeat (first | (with_reducible first | exact HB.out | apply below_alloc | apply pw_below_drewN | apply below_drew1) | exact HB.out)) hb); clear HO_5; clear HB; have HO_5 := n0_; have HO329 := n1_; have HB := n2_; clear n0_ n1_ n2_; (try clear hb); (try clear hb2); (try clear hk); (try clear hi); (try clear ho0); have p331 : 0 ≤ (x7_1 : Int) := of_decide_eq_true (by first | (with_reducible assumption) | assumption); have q331 : x7_1 < (y310.length : Int) := of_decide_eq_true (by first | (with_reducible assumption) | assumption); obtain ⟨ad331, e331, hx331_0, hx331_1, hx331_2, hx331_3, hx331_4⟩ := at_T23 HR313.out x7_1 p331 q331; obtain rfl : ad326 = ad331 := (by injection e331); replace hx331_0 := (HB.out.cell (World.block_lt_of_cell? w _ hx331_0)).trans hx331_0; replace hx331_1 := (HB.out.cell (World.block_lt_of_cell? w _ hx331_1)).trans hx331_1; replace hx331_2 := (HB.out.cell (World.block_lt_of_cell? w _ hx331_2)).trans hx331_2; replace hx331_3 := (HB.out.cell (World.block_lt_of_cell? w _ hx331_3)).trans hx331_3; replace hx331_4 := (HB.out.cell (World.block_lt_of_cell? w _ hx331_4)).trans hx331_4; replace p331 := eq_true p331; replace q331 := eq_true q331; obtain ⟨Ao42, co42, eo42⟩ := Kd.R_slice HO329.out; subst eo42) | ((with_reducible refine gate_callee (f := 12) rfl ?_); refine goesL_ (some 73) rfl rfl Try.func12 (by kernel_rfl) rfl #[.agg #[.int .i64 ((rd_T23 y310 x7_1).f0), .int .i64 ((rd_T23 y310 x7_1).f1), .int .i64 ((rd_T23 y310 x7_1).f2), .int .i64 ((rd_T23 y310 x7_1).f3), .int .i64 ((rd_T23 y310 x7_1).f4)], .slice Ao42 t327.length co42] rfl (by (try simp only [List.map_toArray, List.map_cons, List.map_nil]); first | done | rfl | (simp only [List.length_drop, List.length_take]; rfl)) ?_; (with_reducible refine (steps_Back.calls k1 ((rd_T23 y310 x7_1).f0) ((rd_T23 y310 x7_1).f1) ((rd_T23 y310 x7_1).f2) ((rd_T23 y310 x7_1).f3) ((rd_T23 y310 x7_1).f4) _ _ t327 t332 t335 _ ?side1 ?side2 A19.out).mono ?_); (case side1 => repeat (first | exact (Kd.R_reads' HO329.out).2.2 | (with_reducible refine Kd.C_alloc ?_ _) | (with_reducible refine Kd.C_drewN ?_ _) | (with_reducible refine Kd.C_drew ?_))); (case side2 => exact (Kd.R_reads' HO329.out).2.1); rintro e w43 ⟨v333, rfl, ho0, hb⟩; refine ⟨_, rfl, ?_⟩; have n0_ := Aside0.mk (Kd.R_elder' (by (with_reducible repeat (first | apply Kd.R_alloc | apply Kd.R_drewN | apply Kd.R_drew)); exact HO_5.out) (Kd.R_base ho0) hb); have n1_ := Aside0.mk (Kd.R_elder' (by (with_reducible repeat (first | apply Kd.R_alloc | apply Kd.R_drewN | apply Kd.R_drew)); exact HO329.out) (Kd.R_base ho0) hb); have n2_ := Aside0.mk (Kd.R_lower (Kd.R_new' (Kd.R_new' ho0 (Kd.R_lt (by (with_reducible repeat (first | apply Kd.R_alloc | apply Kd.R_drewN | apply Kd.R_drew)); exact HO_5.out))) (Kd.R_lt (by (with_reducible repeat (first | apply Kd.R_alloc | apply Kd.R_drewN | apply Kd.R_drew)); exact HO329.out))) (below_size (by repeat (first | (with_reducible first | exact HB.out | apply below_alloc | apply pw_below_drewN | apply below_drew1) | exact HB.out)))); have n3_ := Aside0.mk (below_step (by repeat (first | (with_reducible first | exact HB.out | apply below_alloc | apply pw_below_drewN | apply below_drew1) | exact HB.out)) hb); clear HO_5; clear HO329; clear HB; have HO_5 := n0_; have HO329 := n1_; have HO334 := n2_; have HB := n3_; clear n0_ n1_ n2_ n3_; (try clear hb); (try clear hb2); (try clear hk); (try clear hi); (try clear ho0)))
                          go_ret
                          exact ⟨by first | rfl | (simp [errW_none, errW_some] <;> rfl) | (simp only [← hji3, ← hji6]; first | rfl | (simp [errW_none, errW_some] <;> rfl)) | (simp [*, errW_none, errW_some] <;> rfl), by repeat (first | (with_reducible first | exact HB.out | apply below_alloc | apply pw_below_drewN | apply below_drew1) | exact HB.out)⟩
                      · replace c20 := Bool.eq_false_iff.mpr c20
                        subst c20
                        have H1 : (some false) = some r := by rw [if_neg (show ¬ (false = true) by decide)] at H; exact H
                        clear H
                        have H := H1
                        clear H1
                        obtain rfl := Option.some.inj H
                        have p326 : 0 ≤ (x7_1 : Int) := of_decide_eq_true (by first | (with_reducible assumption) | assumption)
                        have q326 : x7_1 < (y310.length : Int) := of_decide_eq_true (by first | (with_reducible assumption) | assumption)
                        obtain ⟨ad326, e326, hx326_0, hx326_1, hx326_2, hx326_3, hx326_4⟩ := at_T23 HR313.out x7_1 p326 q326
                        cases e326
                        replace hx326_0 := (HB.out.cell (World.block_lt_of_cell? w _ hx326_0)).trans hx326_0
                        replace hx326_1 := (HB.out.cell (World.block_lt_of_cell? w _ hx326_1)).trans hx326_1
                        replace hx326_2 := (HB.out.cell (World.block_lt_of_cell? w _ hx326_2)).trans hx326_2
                        replace hx326_3 := (HB.out.cell (World.block_lt_of_cell? w _ hx326_3)).trans hx326_3
                        replace hx326_4 := (HB.out.cell (World.block_lt_of_cell? w _ hx326_4)).trans hx326_4
                        replace p326 := eq_true p326
                        replace q326 := eq_true q326
                        obtain ⟨Ao44, co44, eo44⟩ := Kd.R_slice HO_5.out
                        subst eo44
                        go_wp2_with (first | ((with_reducible refine gate_callee (f := 15) rfl ?_); refine goesL_ (some 64) rfl rfl Try.func15 (by kernel_rfl) rfl #[.agg #[.int .i64 ((rd_T23 y310 x7_1).f0), .int .i64 ((rd_T23 y310 x7_1).f1), .int .i64 ((rd_T23 y310 x7_1).f2), .int .i64 ((rd_T23 y310 x7_1).f3), .int .i64 ((rd_T23 y310 x7_1).f4)], .slice Ao44 x5_1.length co44] rfl (by (try simp only [List.map_toArray, List.map_cons, List.map_nil]); first | done | rfl | (simp only [List.length_drop, List.length_take]; rfl)) ?_; (with_reducible refine (steps_Without.calls k1 ((rd_T23 y310 x7_1).f0) ((rd_T23 y310 x7_1).f1) ((rd_T23 y310 x7_1).f2) ((rd_T23 y310 x7_1).f3) ((rd_T23 y310 x7_1).f4) _ _ x5_1 t327 false _ ?side1 ?side2 A18.out).mono ?_); (case side1 => repeat (first | exact (Kd.R_reads' HO_5.out).2.2 | (with_reducible refine Kd.C_alloc ?_ _) | (with_reducible refine Kd.C_drewN ?_ _) | (with_reducible refine Kd.C_drew ?_))); (case side2 => exact (Kd.R_reads' HO_5.out).2.1); rintro e w45 ⟨v328, rfl, ho0, hb⟩; refine ⟨_, rfl, ?_⟩; have n0_ := Aside0.mk (Kd.R_elder' (by (with_reducible repeat (first | apply Kd.R_alloc | apply Kd.R_drewN | apply Kd.R_drew)); exact HO_5.out) (Kd.R_base ho0) hb); have n1_ := Aside0.mk (Kd.R_lower (Kd.R_new' ho0 (Kd.R_lt (by (with_reducible repeat (first | apply Kd.R_alloc | apply Kd.R_drewN | apply Kd.R_drew)); exact HO_5.out))) (below_size (by repeat (first | (with_reducible first | exact HB.out | apply below_alloc | apply pw_below_drewN | apply below_drew1) | exact HB.out)))); have n2_ := Aside0.mk (below_step (by repeat (first | (with_reducible first | exact HB.out | apply below_alloc | apply pw_below_drewN | apply below_drew1) | exact HB.out)) hb); clear HO_5; clear HB; have HO_5 := n0_; have HO329 := n1_; have HB := n2_; clear n0_ n1_ n2_; (try clear hb); (try clear hb2); (try clear hk); (try clear hi); (try clear ho0); have p331 : 0 ≤ (x7_1 : Int) := of_decide_eq_true (by first | (with_reducible assumption) | assumption); have q331 : x7_1 < (y310.length : Int) := of_decide_eq_true (by first | (with_reducible assumption) | assumption); obtain ⟨ad331, e331, hx331_0, hx331_1, hx331_2, hx331_3, hx331_4⟩ := at_T23 HR313.out x7_1 p331 q331; obtain rfl : ad326 = ad331 := (by injection e331); replace hx331_0 := (HB.out.cell (World.block_lt_of_cell? w _ hx331_0)).trans hx331_0; replace hx331_1 := (HB.out.cell (World.block_lt_of_cell? w _ hx331_1)).trans hx331_1; replace hx331_2 := (HB.out.cell (World.block_lt_of_cell? w _ hx331_2)).trans hx331_2; replace hx331_3 := (HB.out.cell (World.block_lt_of_cell? w _ hx331_3)).trans hx331_3; replace hx331_4 := (HB.out.cell (World.block_lt_of_cell? w _ hx331_4)).trans hx331_4; replace p331 := eq_true p331; replace q331 := eq_true q331; obtain ⟨Ao46, co46, eo46⟩ := Kd.R_slice HO329.out; subst eo46) | ((with_reducible refine gate_callee (f := 12) rfl ?_); refine goesL_ (some 73) rfl rfl Try.func12 (by kernel_rfl) rfl #[.agg #[.int .i64 ((rd_T23 y310 x7_1).f0), .int .i64 ((rd_T23 y310 x7_1).f1), .int .i64 ((rd_T23 y310 x7_1).f2), .int .i64 ((rd_T23 y310 x7_1).f3), .int .i64 ((rd_T23 y310 x7_1).f4)], .slice Ao46 t327.length co46] rfl (by (try simp only [List.map_toArray, List.map_cons, List.map_nil]); first | done | rfl | (simp only [List.length_drop, List.length_take]; rfl)) ?_; (with_reducible refine (steps_Back.calls k1 ((rd_T23 y310 x7_1).f0) ((rd_T23 y310 x7_1).f1) ((rd_T23 y310 x7_1).f2) ((rd_T23 y310 x7_1).f3) ((rd_T23 y310 x7_1).f4) _ _ t327 t332 t335 _ ?side1 ?side2 A19.out).mono ?_); (case side1 => repeat (first | exact (Kd.R_reads' HO329.out).2.2 | (with_reducible refine Kd.C_alloc ?_ _) | (with_reducible refine Kd.C_drewN ?_ _) | (with_reducible refine Kd.C_drew ?_))); (case side2 => exact (Kd.R_reads' HO329.out).2.1); rintro e w47 ⟨v333, rfl, ho0, hb⟩; refine ⟨_, rfl, ?_⟩; have n0_ := Aside0.mk (Kd.R_elder' (by (with_reducible repeat (first | apply Kd.R_alloc | apply Kd.R_drewN | apply Kd.R_drew)); exact HO_5.out) (Kd.R_base ho0) hb); have n1_ := Aside0.mk (Kd.R_elder' (by (with_reducible repeat (first | apply Kd.R_alloc | apply Kd.R_drewN | apply Kd.R_drew)); exact HO329.out) (Kd.R_base ho0) hb); have n2_ := Aside0.mk (Kd.R_lower (Kd.R_new' (Kd.R_new' ho0 (Kd.R_lt (by (with_reducible repeat (first | apply Kd.R_alloc | apply Kd.R_drewN | apply Kd.R_drew)); exact HO_5.out))) (Kd.R_lt (by (with_reducible repeat (first | apply Kd.R_alloc | apply Kd.R_drewN | apply Kd.R_drew)); exact HO329.out))) (below_size (by repeat (first | (with_reducible first | exact HB.out | apply below_alloc | apply pw_below_drewN | apply below_drew1) | exact HB.out)))); have n3_ := Aside0.mk (below_step (by repeat (first | (with_reducible first | exact HB.out | apply below_alloc | apply pw_below_drewN | apply below_drew1) | exact HB.out)) hb); clear HO_5; clear HO329; clear HB; have HO_5 := n0_; have HO329 := n1_; have HO334 := n2_; have HB := n3_; clear n0_ n1_ n2_ n3_; (try clear hb); (try clear hb2); (try clear hk); (try clear hi); (try clear ho0)))
                        go_ret
                        exact ⟨by first | rfl | (simp [errW_none, errW_some] <;> rfl) | (simp only [← hji3, ← hji6]; first | rfl | (simp [errW_none, errW_some] <;> rfl)) | (simp [*, errW_none, errW_some] <;> rfl), by repeat (first | (with_reducible first | exact HB.out | apply below_alloc | apply pw_below_drewN | apply below_drew1) | exact HB.out)⟩
                    · rw [if_neg c17] at H
                      exact absurd H (by simp)
                  · rw [if_neg c16] at H
                    have c16b0 : decide (x7_1 < (y310.length : Int)) = false := decide_eq_false c16
                    clear c16
                    replace H := Option.bind_eq_some_iff.mp H
                    obtain ⟨t324, A480, H⟩ := H
                    replace H : (if t324 = true then ((secateurlaw15_fixed.f k1).bind fun t325 => (some t325)) else (some false)) = some r := H
                    have A48 := Aside0.mk A480
                    clear A480
                    by_cases c49 : t324 = true
                    · subst c49
                      have H1 : ((secateurlaw15_fixed.f k1).bind fun t325 => (some t325)) = some r := by rw [if_pos rfl] at H; exact H
                      clear H
                      have H := H1
                      clear H1
                      replace H := Option.bind_eq_some_iff.mp H
                      obtain ⟨t325, A500, H⟩ := H
                      replace H : (some t325) = some r := H
                      have A50 := Aside0.mk A500
                      clear A500
                      obtain rfl := Option.some.inj H
                      obtain ⟨Ao51, co51, eo51⟩ := Kd.R_slice HO_5.out
                      subst eo51
                      go_wp2_with (first | ((with_reducible refine gate_callee (f := 13) rfl ?_); refine goesL_ (some 99) rfl rfl Try.func13 (by kernel_rfl) rfl #[.slice A1 y314.length c1, .slice Ao51 x5_1.length co51] rfl (by (try simp only [List.map_toArray, List.map_cons, List.map_nil]); first | done | rfl | (simp only [List.length_drop, List.length_take]; rfl)) ?_; (with_reducible refine (secateurref02_Nums.calls k1 _ _ y314 _ _ x5_1 true _ ?side1 ?side2 ?side3 ?side4 A48.out).mono ?_); (case side1 => repeat (first | exact (Kd.C_below HR317.out HB.out) | (with_reducible refine Kd.C_alloc ?_ _) | (with_reducible refine Kd.C_drewN ?_ _) | (with_reducible refine Kd.C_drew ?_))); (case side2 => exact HC317.out); (case side3 => repeat (first | exact (Kd.R_reads' HO_5.out).2.2 | (with_reducible refine Kd.C_alloc ?_ _) | (with_reducible refine Kd.C_drewN ?_ _) | (with_reducible refine Kd.C_drew ?_))); (case side4 => exact (Kd.R_reads' HO_5.out).2.1); rintro e w' ⟨rfl, ⟨nd, rfl⟩⟩; refine ⟨_, rfl, ?_⟩) | (go_at_call 11; (with_reducible refine (secateurlaw15_fixed.calls k1  t325 _ A50.out).mono ?_); rintro e w52 ⟨rfl, hb⟩; have n0_ := Aside0.mk (Kd.R_below (by (with_reducible repeat (first | apply Kd.R_alloc | apply Kd.R_drewN | apply Kd.R_drew)); exact HO_5.out) hb); have n1_ := Aside0.mk (below_step (by repeat (first | (with_reducible first | exact HB.out | apply below_alloc | apply pw_below_drewN | apply below_drew1) | exact HB.out)) hb); clear HO_5; clear HB; have HO_5 := n0_; have HB := n1_; clear n0_ n1_; (try clear hb); (try clear hb2); (try clear hk); (try clear hi)))
                      go_ret
                      exact ⟨by first | rfl | (simp [errW_none, errW_some] <;> rfl) | (simp only [← hji3, ← hji6]; first | rfl | (simp [errW_none, errW_some] <;> rfl)) | (simp [*, errW_none, errW_some] <;> rfl), by repeat (first | (with_reducible first | exact HB.out | apply below_alloc | apply pw_below_drewN | apply below_drew1) | exact HB.out)⟩
                    · replace c49 := Bool.eq_false_iff.mpr c49
                      subst c49
                      have H1 : (some false) = some r := by rw [if_neg (show ¬ (false = true) by decide)] at H; exact H
                      clear H
                      have H := H1
                      clear H1
                      obtain rfl := Option.some.inj H
                      obtain ⟨Ao53, co53, eo53⟩ := Kd.R_slice HO_5.out
                      subst eo53
                      go_wp2_with (first | ((with_reducible refine gate_callee (f := 13) rfl ?_); refine goesL_ (some 99) rfl rfl Try.func13 (by kernel_rfl) rfl #[.slice A1 y314.length c1, .slice Ao53 x5_1.length co53] rfl (by (try simp only [List.map_toArray, List.map_cons, List.map_nil]); first | done | rfl | (simp only [List.length_drop, List.length_take]; rfl)) ?_; (with_reducible refine (secateurref02_Nums.calls k1 _ _ y314 _ _ x5_1 false _ ?side1 ?side2 ?side3 ?side4 A48.out).mono ?_); (case side1 => repeat (first | exact (Kd.C_below HR317.out HB.out) | (with_reducible refine Kd.C_alloc ?_ _) | (with_reducible refine Kd.C_drewN ?_ _) | (with_reducible refine Kd.C_drew ?_))); (case side2 => exact HC317.out); (case side3 => repeat (first | exact (Kd.R_reads' HO_5.out).2.2 | (with_reducible refine Kd.C_alloc ?_ _) | (with_reducible refine Kd.C_drewN ?_ _) | (with_reducible refine Kd.C_drew ?_))); (case side4 => exact (Kd.R_reads' HO_5.out).2.1); rintro e w' ⟨rfl, ⟨nd, rfl⟩⟩; refine ⟨_, rfl, ?_⟩))
                      go_ret
                      exact ⟨by first | rfl | (simp [errW_none, errW_some] <;> rfl) | (simp only [← hji3, ← hji6]; first | rfl | (simp [errW_none, errW_some] <;> rfl)) | (simp [*, errW_none, errW_some] <;> rfl), by repeat (first | (with_reducible first | exact HB.out | apply below_alloc | apply pw_below_drewN | apply below_drew1) | exact HB.out)⟩
            · rw [if_neg c11] at H
              have c11b0 : ((t318.length : Int) == (wrap64 ((y314.length : Int) + (y310.length : Int)))) = false := beq_eq_false_iff_ne.mpr c11
              have c11b1 : ((t318.length : Int) != (wrap64 ((y314.length : Int) + (y310.length : Int)))) = true := bne_iff_ne.mpr c11
              obtain rfl := Option.some.inj H
              have q54 : ((ji3) : Int) ≤ ((l0.length : Int) : Int) := of_decide_eq_true (by first | (with_reducible assumption) | assumption)
              obtain ⟨i054, hi054, _, hsz54, _⟩ := info_parts info23
              have hroom54 : l0.length ≤ c0 := HC0.out
              have hC54 : Kd.C k23 _ A0 l0.length l0 := HR0.out
              have hcut54 := cut_to (P := Try.prog) 35 23 .i64 Try.underlying35 hi054 A0 l0.length c0 (ji3) (of_decide_eq_true (by first | (with_reducible assumption) | assumption)) q54 hroom54
              have hr54 := Kd.C_take (m := ((ji3) : Int).toNat) hC54 (by omega)
              have hy54 : y310.length = ((ji3) : Int).toNat := (by rw [Ny310.out, List.length_take]; omega)
              rw [← Ny310.out] at hr54
              rw [← hy54] at hcut54
              have HR313 := Aside0.mk hr54
              have HC313 := Aside0.mk (show y310.length ≤ c0 from by omega)
              clear hr54 hC54 hroom54 hi054 hsz54
              have KY54 := Aside0.mk hy54
              clear hy54
              replace q54 := eq_true q54
              have q55 : ((ji6) : Int) ≤ ((l1.length : Int) : Int) := of_decide_eq_true (by first | (with_reducible assumption) | assumption)
              obtain ⟨i055, hi055, _, hsz55, _⟩ := info_parts info3
              have hroom55 : l1.length ≤ c1 := HC1.out
              have hC55 : Kd.C (Kd.int .i64) _ A1 l1.length l1 := HR1.out
              have hcut55 := cut_to (P := Try.prog) 28 3 .i64 Try.underlying28 hi055 A1 l1.length c1 (ji6) (of_decide_eq_true (by first | (with_reducible assumption) | assumption)) q55 hroom55
              have hr55 := Kd.C_take (m := ((ji6) : Int).toNat) hC55 (by omega)
              have hy55 : y314.length = ((ji6) : Int).toNat := (by rw [Ny314.out, List.length_take]; omega)
              rw [← Ny314.out] at hr55
              rw [← hy55] at hcut55
              have HR317 := Aside0.mk hr55
              have HC317 := Aside0.mk (show y314.length ≤ c1 from by omega)
              clear hr55 hC55 hroom55 hi055 hsz55
              have KY55 := Aside0.mk hy55
              clear hy55
              replace q55 := eq_true q55
              go_enter Try.func7, Try.ntmps7
              go_wp2_with (first | ((with_reducible refine gate_callee (f := 18) rfl ?_); refine goesL_ (some 25) rfl rfl Try.func18 (by kernel_rfl) rfl #[.slice A0 y310.length c0, .slice A1 y314.length c1] rfl (by (try simp only [List.map_toArray, List.map_cons, List.map_nil]); first | done | rfl | (simp only [List.length_drop, List.length_take]; rfl)) ?_; (with_reducible refine (steps_Replay.calls k _ _ y310 _ _ y314 t318 t319 _ ?side1 ?side2 ?side3 ?side4 A9.out).mono ?_); (case side1 => repeat (first | exact HR313.out | (with_reducible refine Kd.C_alloc ?_ _) | (with_reducible refine Kd.C_drewN ?_ _) | (with_reducible refine Kd.C_drew ?_))); (case side2 => exact HC313.out); (case side3 => repeat (first | exact HR317.out | (with_reducible refine Kd.C_alloc ?_ _) | (with_reducible refine Kd.C_drewN ?_ _) | (with_reducible refine Kd.C_drew ?_))); (case side4 => exact HC317.out); rintro e w56 ⟨v320, rfl, ho0, hb⟩; refine ⟨_, rfl, ?_⟩; have n0_ := Aside0.mk (Kd.R_lower ho0 (below_size (by repeat (first | (with_reducible first | exact HB.out | apply below_alloc | apply pw_below_drewN | apply below_drew1) | exact HB.out)))); have n1_ := Aside0.mk (below_step (by repeat (first | (with_reducible first | exact HB.out | apply below_alloc | apply pw_below_drewN | apply below_drew1) | exact HB.out)) hb); clear HB; have HO321 := n0_; have HB := n1_; clear n0_ n1_; (try clear hb); (try clear hb2); (try clear hk); (try clear hi); (try clear ho0); obtain ⟨Ao57, co57, eo57⟩ := Kd.R_slice HO321.out; subst eo57))
              go_ret
              exact ⟨by first | rfl | (simp [errW_none, errW_some] <;> rfl) | (simp only [← hji3, ← hji6]; first | rfl | (simp [errW_none, errW_some] <;> rfl)) | (simp [*, errW_none, errW_some] <;> rfl), by repeat (first | (with_reducible first | exact HB.out | apply below_alloc | apply pw_below_drewN | apply below_drew1) | exact HB.out)⟩
          · rw [if_neg c10] at H
            have c10b0 : (t319 == 0) = false := beq_eq_false_iff_ne.mpr c10
            have c10b1 : (t319 != 0) = true := bne_iff_ne.mpr c10
            by_cases c58 : (t318.length : Int) = 0
            · rw [if_pos c58] at H
              have c58b0 : ((t318.length : Int) == 0) = true := beq_iff_eq.mpr c58
              have c58b1 : ((t318.length : Int) != 0) = false := bne_eq_false_iff_eq.mpr c58
              clear c58
              by_cases c59 : t319 = 150
              · rw [if_pos c59] at H
                have c59b0 : (t319 == 150) = true := beq_iff_eq.mpr c59
                have c59b1 : (t319 != 150) = false := bne_eq_false_iff_eq.mpr c59
                clear c59
                replace H := Option.bind_eq_some_iff.mp H
                obtain ⟨t322, A600, H⟩ := H
                replace H : (some t322) = some r := H
                have A60 := Aside0.mk A600
                clear A600
                obtain rfl := Option.some.inj H
                have q61 : ((ji3) : Int) ≤ ((l0.length : Int) : Int) := of_decide_eq_true (by first | (with_reducible assumption) | assumption)
                obtain ⟨i061, hi061, _, hsz61, _⟩ := info_parts info23
                have hroom61 : l0.length ≤ c0 := HC0.out
                have hC61 : Kd.C k23 _ A0 l0.length l0 := HR0.out
                have hcut61 := cut_to (P := Try.prog) 35 23 .i64 Try.underlying35 hi061 A0 l0.length c0 (ji3) (of_decide_eq_true (by first | (with_reducible assumption) | assumption)) q61 hroom61
                have hr61 := Kd.C_take (m := ((ji3) : Int).toNat) hC61 (by omega)
                have hy61 : y310.length = ((ji3) : Int).toNat := (by rw [Ny310.out, List.length_take]; omega)
                rw [← Ny310.out] at hr61
                rw [← hy61] at hcut61
                have HR313 := Aside0.mk hr61
                have HC313 := Aside0.mk (show y310.length ≤ c0 from by omega)
                clear hr61 hC61 hroom61 hi061 hsz61
                have KY61 := Aside0.mk hy61
                clear hy61
                replace q61 := eq_true q61
                have q62 : ((ji6) : Int) ≤ ((l1.length : Int) : Int) := of_decide_eq_true (by first | (with_reducible assumption) | assumption)
                obtain ⟨i062, hi062, _, hsz62, _⟩ := info_parts info3
                have hroom62 : l1.length ≤ c1 := HC1.out
                have hC62 : Kd.C (Kd.int .i64) _ A1 l1.length l1 := HR1.out
                have hcut62 := cut_to (P := Try.prog) 28 3 .i64 Try.underlying28 hi062 A1 l1.length c1 (ji6) (of_decide_eq_true (by first | (with_reducible assumption) | assumption)) q62 hroom62
                have hr62 := Kd.C_take (m := ((ji6) : Int).toNat) hC62 (by omega)
                have hy62 : y314.length = ((ji6) : Int).toNat := (by rw [Ny314.out, List.length_take]; omega)
                rw [← Ny314.out] at hr62
                rw [← hy62] at hcut62
                have HR317 := Aside0.mk hr62
                have HC317 := Aside0.mk (show y314.length ≤ c1 from by omega)
                clear hr62 hC62 hroom62 hi062 hsz62
                have KY62 := Aside0.mk hy62
                clear hy62
                replace q62 := eq_true q62
                go_enter Try.func7, Try.ntmps7
                go_wp2_with (first | ((with_reducible refine gate_callee (f := 18) rfl ?_); refine goesL_ (some 25) rfl rfl Try.func18 (by kernel_rfl) rfl #[.slice A0 y310.length c0, .slice A1 y314.length c1] rfl (by (try simp only [List.map_toArray, List.map_cons, List.map_nil]); first | done | rfl | (simp only [List.length_drop, List.length_take]; rfl)) ?_; (with_reducible refine (steps_Replay.calls k _ _ y310 _ _ y314 t318 t319 _ ?side1 ?side2 ?side3 ?side4 A9.out).mono ?_); (case side1 => repeat (first | exact HR313.out | (with_reducible refine Kd.C_alloc ?_ _) | (with_reducible refine Kd.C_drewN ?_ _) | (with_reducible refine Kd.C_drew ?_))); (case side2 => exact HC313.out); (case side3 => repeat (first | exact HR317.out | (with_reducible refine Kd.C_alloc ?_ _) | (with_reducible refine Kd.C_drewN ?_ _) | (with_reducible refine Kd.C_drew ?_))); (case side4 => exact HC317.out); rintro e w63 ⟨v320, rfl, ho0, hb⟩; refine ⟨_, rfl, ?_⟩; have n0_ := Aside0.mk (Kd.R_lower ho0 (below_size (by repeat (first | (with_reducible first | exact HB.out | apply below_alloc | apply pw_below_drewN | apply below_drew1) | exact HB.out)))); have n1_ := Aside0.mk (below_step (by repeat (first | (with_reducible first | exact HB.out | apply below_alloc | apply pw_below_drewN | apply below_drew1) | exact HB.out)) hb); clear HB; have HO321 := n0_; have HB := n1_; clear n0_ n1_; (try clear hb); (try clear hb2); (try clear hk); (try clear hi); (try clear ho0); obtain ⟨Ao64, co64, eo64⟩ := Kd.R_slice HO321.out; subst eo64) | (go_at_call 11; (with_reducible refine (secateurlaw15_fixed.calls k  t322 _ A60.out).mono ?_); rintro e w65 ⟨rfl, hb⟩; have n0_ := Aside0.mk (Kd.R_below (by (with_reducible repeat (first | apply Kd.R_alloc | apply Kd.R_drewN | apply Kd.R_drew)); exact HO321.out) hb); have n1_ := Aside0.mk (below_step (by repeat (first | (with_reducible first | exact HB.out | apply below_alloc | apply pw_below_drewN | apply below_drew1) | exact HB.out)) hb); clear HO321; clear HB; have HO321 := n0_; have HB := n1_; clear n0_ n1_; (try clear hb); (try clear hb2); (try clear hk); (try clear hi)))
                go_ret
                exact ⟨by first | rfl | (simp [errW_none, errW_some] <;> rfl) | (simp only [← hji3, ← hji6]; first | rfl | (simp [errW_none, errW_some] <;> rfl)) | (simp [*, errW_none, errW_some] <;> rfl), by repeat (first | (with_reducible first | exact HB.out | apply below_alloc | apply pw_below_drewN | apply below_drew1) | exact HB.out)⟩
              · rw [if_neg c59] at H
                have c59b0 : (t319 == 150) = false := beq_eq_false_iff_ne.mpr c59
                have c59b1 : (t319 != 150) = true := bne_iff_ne.mpr c59
                by_cases c66 : t319 = 10
                · rw [if_pos c66] at H
                  have c66b0 : (t319 == 10) = true := beq_iff_eq.mpr c66
                  have c66b1 : (t319 != 10) = false := bne_eq_false_iff_eq.mpr c66
                  clear c66
                  replace H := Option.bind_eq_some_iff.mp H
                  obtain ⟨t323, A670, H⟩ := H
                  replace H : (some t323) = some r := H
                  have A67 := Aside0.mk A670
                  clear A670
                  obtain rfl := Option.some.inj H
                  have q68 : ((ji3) : Int) ≤ ((l0.length : Int) : Int) := of_decide_eq_true (by first | (with_reducible assumption) | assumption)
                  obtain ⟨i068, hi068, _, hsz68, _⟩ := info_parts info23
                  have hroom68 : l0.length ≤ c0 := HC0.out
                  have hC68 : Kd.C k23 _ A0 l0.length l0 := HR0.out
                  have hcut68 := cut_to (P := Try.prog) 35 23 .i64 Try.underlying35 hi068 A0 l0.length c0 (ji3) (of_decide_eq_true (by first | (with_reducible assumption) | assumption)) q68 hroom68
                  have hr68 := Kd.C_take (m := ((ji3) : Int).toNat) hC68 (by omega)
                  have hy68 : y310.length = ((ji3) : Int).toNat := (by rw [Ny310.out, List.length_take]; omega)
                  rw [← Ny310.out] at hr68
                  rw [← hy68] at hcut68
                  have HR313 := Aside0.mk hr68
                  have HC313 := Aside0.mk (show y310.length ≤ c0 from by omega)
                  clear hr68 hC68 hroom68 hi068 hsz68
                  have KY68 := Aside0.mk hy68
                  clear hy68
                  replace q68 := eq_true q68
                  have q69 : ((ji6) : Int) ≤ ((l1.length : Int) : Int) := of_decide_eq_true (by first | (with_reducible assumption) | assumption)
                  obtain ⟨i069, hi069, _, hsz69, _⟩ := info_parts info3
                  have hroom69 : l1.length ≤ c1 := HC1.out
                  have hC69 : Kd.C (Kd.int .i64) _ A1 l1.length l1 := HR1.out
                  have hcut69 := cut_to (P := Try.prog) 28 3 .i64 Try.underlying28 hi069 A1 l1.length c1 (ji6) (of_decide_eq_true (by first | (with_reducible assumption) | assumption)) q69 hroom69
                  have hr69 := Kd.C_take (m := ((ji6) : Int).toNat) hC69 (by omega)
                  have hy69 : y314.length = ((ji6) : Int).toNat := (by rw [Ny314.out, List.length_take]; omega)
                  rw [← Ny314.out] at hr69
                  rw [← hy69] at hcut69
                  have HR317 := Aside0.mk hr69
                  have HC317 := Aside0.mk (show y314.length ≤ c1 from by omega)
                  clear hr69 hC69 hroom69 hi069 hsz69
                  have KY69 := Aside0.mk hy69
                  clear hy69
                  replace q69 := eq_true q69
                  go_enter Try.func7, Try.ntmps7
                  go_wp2_with (first | ((with_reducible refine gate_callee (f := 18) rfl ?_); refine goesL_ (some 25) rfl rfl Try.func18 (by kernel_rfl) rfl #[.slice A0 y310.length c0, .slice A1 y314.length c1] rfl (by (try simp only [List.map_toArray, List.map_cons, List.map_nil]); first | done | rfl | (simp only [List.length_drop, List.length_take]; rfl)) ?_; (with_reducible refine (steps_Replay.calls k _ _ y310 _ _ y314 t318 t319 _ ?side1 ?side2 ?side3 ?side4 A9.out).mono ?_); (case side1 => repeat (first | exact HR313.out | (with_reducible refine Kd.C_alloc ?_ _) | (with_reducible refine Kd.C_drewN ?_ _) | (with_reducible refine Kd.C_drew ?_))); (case side2 => exact HC313.out); (case side3 => repeat (first | exact HR317.out | (with_reducible refine Kd.C_alloc ?_ _) | (with_reducible refine Kd.C_drewN ?_ _) | (with_reducible refine Kd.C_drew ?_))); (case side4 => exact HC317.out); rintro e w70 ⟨v320, rfl, ho0, hb⟩; refine ⟨_, rfl, ?_⟩; have n0_ := Aside0.mk (Kd.R_lower ho0 (below_size (by repeat (first | (with_reducible first | exact HB.out | apply below_alloc | apply pw_below_drewN | apply below_drew1) | exact HB.out)))); have n1_ := Aside0.mk (below_step (by repeat (first | (with_reducible first | exact HB.out | apply below_alloc | apply pw_below_drewN | apply below_drew1) | exact HB.out)) hb); clear HB; have HO321 := n0_; have HB := n1_; clear n0_ n1_; (try clear hb); (try clear hb2); (try clear hk); (try clear hi); (try clear ho0); obtain ⟨Ao71, co71, eo71⟩ := Kd.R_slice HO321.out; subst eo71) | (go_at_call 11; (with_reducible refine (secateurlaw15_fixed.calls k  t323 _ A67.out).mono ?_); rintro e w72 ⟨rfl, hb⟩; have n0_ := Aside0.mk (Kd.R_below (by (with_reducible repeat (first | apply Kd.R_alloc | apply Kd.R_drewN | apply Kd.R_drew)); exact HO321.out) hb); have n1_ := Aside0.mk (below_step (by repeat (first | (with_reducible first | exact HB.out | apply below_alloc | apply pw_below_drewN | apply below_drew1) | exact HB.out)) hb); clear HO321; clear HB; have HO321 := n0_; have HB := n1_; clear n0_ n1_; (try clear hb); (try clear hb2); (try clear hk); (try clear hi)))
                  go_ret
                  exact ⟨by first | rfl | (simp [errW_none, errW_some] <;> rfl) | (simp only [← hji3, ← hji6]; first | rfl | (simp [errW_none, errW_some] <;> rfl)) | (simp [*, errW_none, errW_some] <;> rfl), by repeat (first | (with_reducible first | exact HB.out | apply below_alloc | apply pw_below_drewN | apply below_drew1) | exact HB.out)⟩
                · rw [if_neg c66] at H
                  have c66b0 : (t319 == 10) = false := beq_eq_false_iff_ne.mpr c66
                  have c66b1 : (t319 != 10) = true := bne_iff_ne.mpr c66
                  obtain rfl := Option.some.inj H
                  have q73 : ((ji3) : Int) ≤ ((l0.length : Int) : Int) := of_decide_eq_true (by first | (with_reducible assumption) | assumption)
                  obtain ⟨i073, hi073, _, hsz73, _⟩ := info_parts info23
                  have hroom73 : l0.length ≤ c0 := HC0.out
                  have hC73 : Kd.C k23 _ A0 l0.length l0 := HR0.out
                  have hcut73 := cut_to (P := Try.prog) 35 23 .i64 Try.underlying35 hi073 A0 l0.length c0 (ji3) (of_decide_eq_true (by first | (with_reducible assumption) | assumption)) q73 hroom73
                  have hr73 := Kd.C_take (m := ((ji3) : Int).toNat) hC73 (by omega)
                  have hy73 : y310.length = ((ji3) : Int).toNat := (by rw [Ny310.out, List.length_take]; omega)
                  rw [← Ny310.out] at hr73
                  rw [← hy73] at hcut73
                  have HR313 := Aside0.mk hr73
                  have HC313 := Aside0.mk (show y310.length ≤ c0 from by omega)
                  clear hr73 hC73 hroom73 hi073 hsz73
                  have KY73 := Aside0.mk hy73
                  clear hy73
                  replace q73 := eq_true q73
                  have q74 : ((ji6) : Int) ≤ ((l1.length : Int) : Int) := of_decide_eq_true (by first | (with_reducible assumption) | assumption)
                  obtain ⟨i074, hi074, _, hsz74, _⟩ := info_parts info3
                  have hroom74 : l1.length ≤ c1 := HC1.out
                  have hC74 : Kd.C (Kd.int .i64) _ A1 l1.length l1 := HR1.out
                  have hcut74 := cut_to (P := Try.prog) 28 3 .i64 Try.underlying28 hi074 A1 l1.length c1 (ji6) (of_decide_eq_true (by first | (with_reducible assumption) | assumption)) q74 hroom74
                  have hr74 := Kd.C_take (m := ((ji6) : Int).toNat) hC74 (by omega)
                  have hy74 : y314.length = ((ji6) : Int).toNat := (by rw [Ny314.out, List.length_take]; omega)
                  rw [← Ny314.out] at hr74
                  rw [← hy74] at hcut74
                  have HR317 := Aside0.mk hr74
                  have HC317 := Aside0.mk (show y314.length ≤ c1 from by omega)
                  clear hr74 hC74 hroom74 hi074 hsz74
                  have KY74 := Aside0.mk hy74
                  clear hy74
                  replace q74 := eq_true q74
                  go_enter Try.func7, Try.ntmps7
                  go_wp2_with (first | ((with_reducible refine gate_callee (f := 18) rfl ?_); refine goesL_ (some 25) rfl rfl Try.func18 (by kernel_rfl) rfl #[.slice A0 y310.length c0, .slice A1 y314.length c1] rfl (by (try simp only [List.map_toArray, List.map_cons, List.map_nil]); first | done | rfl | (simp only [List.length_drop, List.length_take]; rfl)) ?_; (with_reducible refine (steps_Replay.calls k _ _ y310 _ _ y314 t318 t319 _ ?side1 ?side2 ?side3 ?side4 A9.out).mono ?_); (case side1 => repeat (first | exact HR313.out | (with_reducible refine Kd.C_alloc ?_ _) | (with_reducible refine Kd.C_drewN ?_ _) | (with_reducible refine Kd.C_drew ?_))); (case side2 => exact HC313.out); (case side3 => repeat (first | exact HR317.out | (with_reducible refine Kd.C_alloc ?_ _) | (with_reducible refine Kd.C_drewN ?_ _) | (with_reducible refine Kd.C_drew ?_))); (case side4 => exact HC317.out); rintro e w75 ⟨v320, rfl, ho0, hb⟩; refine ⟨_, rfl, ?_⟩; have n0_ := Aside0.mk (Kd.R_lower ho0 (below_size (by repeat (first | (with_reducible first | exact HB.out | apply below_alloc | apply pw_below_drewN | apply below_drew1) | exact HB.out)))); have n1_ := Aside0.mk (below_step (by repeat (first | (with_reducible first | exact HB.out | apply below_alloc | apply pw_below_drewN | apply below_drew1) | exact HB.out)) hb); clear HB; have HO321 := n0_; have HB := n1_; clear n0_ n1_; (try clear hb); (try clear hb2); (try clear hk); (try clear hi); (try clear ho0); obtain ⟨Ao76, co76, eo76⟩ := Kd.R_slice HO321.out; subst eo76))
                  go_ret
                  exact ⟨by first | rfl | (simp [errW_none, errW_some] <;> rfl) | (simp only [← hji3, ← hji6]; first | rfl | (simp [errW_none, errW_some] <;> rfl)) | (simp [*, errW_none, errW_some] <;> rfl), by repeat (first | (with_reducible first | exact HB.out | apply below_alloc | apply pw_below_drewN | apply below_drew1) | exact HB.out)⟩
            · rw [if_neg c58] at H
              have c58b0 : ((t318.length : Int) == 0) = false := beq_eq_false_iff_ne.mpr c58
              have c58b1 : ((t318.length : Int) != 0) = true := bne_iff_ne.mpr c58
              have c58b2 : ¬ (t318 = []) := fun h_ => c58 (by rw [h_]; rfl)
              obtain rfl := Option.some.inj H
              have q77 : ((ji3) : Int) ≤ ((l0.length : Int) : Int) := of_decide_eq_true (by first | (with_reducible assumption) | assumption)
              obtain ⟨i077, hi077, _, hsz77, _⟩ := info_parts info23
              have hroom77 : l0.length ≤ c0 := HC0.out
              have hC77 : Kd.C k23 _ A0 l0.length l0 := HR0.out
              have hcut77 := cut_to (P := Try.prog) 35 23 .i64 Try.underlying35 hi077 A0 l0.length c0 (ji3) (of_decide_eq_true (by first | (with_reducible assumption) | assumption)) q77 hroom77
              have hr77 := Kd.C_take (m := ((ji3) : Int).toNat) hC77 (by omega)
              have hy77 : y310.length = ((ji3) : Int).toNat := (by rw [Ny310.out, List.length_take]; omega)
              rw [← Ny310.out] at hr77
              rw [← hy77] at hcut77
              have HR313 := Aside0.mk hr77
              have HC313 := Aside0.mk (show y310.length ≤ c0 from by omega)
              clear hr77 hC77 hroom77 hi077 hsz77
              have KY77 := Aside0.mk hy77
              clear hy77
              replace q77 := eq_true q77
              have q78 : ((ji6) : Int) ≤ ((l1.length : Int) : Int) := of_decide_eq_true (by first | (with_reducible assumption) | assumption)
              obtain ⟨i078, hi078, _, hsz78, _⟩ := info_parts info3
              have hroom78 : l1.length ≤ c1 := HC1.out
              have hC78 : Kd.C (Kd.int .i64) _ A1 l1.length l1 := HR1.out
              have hcut78 := cut_to (P := Try.prog) 28 3 .i64 Try.underlying28 hi078 A1 l1.length c1 (ji6) (of_decide_eq_true (by first | (with_reducible assumption) | assumption)) q78 hroom78
              have hr78 := Kd.C_take (m := ((ji6) : Int).toNat) hC78 (by omega)
              have hy78 : y314.length = ((ji6) : Int).toNat := (by rw [Ny314.out, List.length_take]; omega)
              rw [← Ny314.out] at hr78
              rw [← hy78] at hcut78
              have HR317 := Aside0.mk hr78
              have HC317 := Aside0.mk (show y314.length ≤ c1 from by omega)
              clear hr78 hC78 hroom78 hi078 hsz78
              have KY78 := Aside0.mk hy78
              clear hy78
              replace q78 := eq_true q78
              go_enter Try.func7, Try.ntmps7
              go_wp2_with (first | ((with_reducible refine gate_callee (f := 18) rfl ?_); refine goesL_ (some 25) rfl rfl Try.func18 (by kernel_rfl) rfl #[.slice A0 y310.length c0, .slice A1 y314.length c1] rfl (by (try simp only [List.map_toArray, List.map_cons, List.map_nil]); first | done | rfl | (simp only [List.length_drop, List.length_take]; rfl)) ?_; (with_reducible refine (steps_Replay.calls k _ _ y310 _ _ y314 t318 t319 _ ?side1 ?side2 ?side3 ?side4 A9.out).mono ?_); (case side1 => repeat (first | exact HR313.out | (with_reducible refine Kd.C_alloc ?_ _) | (with_reducible refine Kd.C_drewN ?_ _) | (with_reducible refine Kd.C_drew ?_))); (case side2 => exact HC313.out); (case side3 => repeat (first | exact HR317.out | (with_reducible refine Kd.C_alloc ?_ _) | (with_reducible refine Kd.C_drewN ?_ _) | (with_reducible refine Kd.C_drew ?_))); (case side4 => exact HC317.out); rintro e w79 ⟨v320, rfl, ho0, hb⟩; refine ⟨_, rfl, ?_⟩; have n0_ := Aside0.mk (Kd.R_lower ho0 (below_size (by repeat (first | (with_reducible first | exact HB.out | apply below_alloc | apply pw_below_drewN | apply below_drew1) | exact HB.out)))); have n1_ := Aside0.mk (below_step (by repeat (first | (with_reducible first | exact HB.out | apply below_alloc | apply pw_below_drewN | apply below_drew1) | exact HB.out)) hb); clear HB; have HO321 := n0_; have HB := n1_; clear n0_ n1_; (try clear hb); (try clear hb2); (try clear hk); (try clear hi); (try clear ho0); obtain ⟨Ao80, co80, eo80⟩ := Kd.R_slice HO321.out; subst eo80))
              go_ret
              exact ⟨by first | rfl | (simp [errW_none, errW_some] <;> rfl) | (simp only [← hji3, ← hji6]; first | rfl | (simp [errW_none, errW_some] <;> rfl)) | (simp [*, errW_none, errW_some] <;> rfl), by repeat (first | (with_reducible first | exact HB.out | apply below_alloc | apply pw_below_drewN | apply below_drew1) | exact HB.out)⟩
        · rw [if_neg c8] at H
          exact absurd H (by simp)
      · rw [if_neg c7] at H
        exact absurd H (by simp)
    · rw [if_neg c5] at H
      exact absurd H (by simp)
  · rw [if_neg c4] at H
    exact absurd H (by simp)

end Go.Proofs.Ytommjjjlljmpbaa.PSteps
