-- Written by a program of this session (the kit's print, some functions given by hand).
import Derived.Test.YtommjjjlljmpbaaPStepsx0
import Derived.Test.YtommjjjlljmpbaaPStepsx3
import Derived.Test.YtommjjjlljmpbaaFixed
import Derived.Test.YtommjjjlljmpbaaReplay
namespace Go.Proofs.Ytommjjjlljmpbaa.PSteps
open Go.RowKit Go.Proofs.YtommjjjlljmpbaaW.PrintWords Go.Proofs.YtommjjjlljmpbaaW.PrintLast Go.Proofs.YtommjjjlljmpbaaW.PrintMore
attribute [local go_sem] max2_int min2_int max_two min_two max_three min_three max_four min_four   -- for this text's walks alone
set_option linter.unusedVariables false
set_option linter.unusedSimpArgs false

/-! ### secateurlaw15_StepsParts: function 8 -/
def secateurlaw15_StepsParts.j0 : Nat → List (S23) → List Int → Int → List Int → Int → Bool → Option (Bool)
  | 0, _, _, _, _, _, _ => none
  | k + 1, x0, x8, x9, x10, x11, x61 => if x61 = true then (some false) else (if x9 = 0 then ((steps_Replay.f k x0 x8).bind fun bt371 => (if x11 = bt371.2 then ((secateurref02_Nums.f k x10 bt371.1).bind fun t375 => (if t375 = true then ((secateurlaw15_fixed.f k).bind fun t376 => (some t376)) else (some false))) else (some false))) else (if x11 = x9 then ((secateurlaw15_fixed.f k).bind fun t377 => (some t377)) else (some false)))
def secateurlaw15_StepsParts.f (k : Nat) (l0 : List (S23)) (l1 : List (S23)) (l2 : List Int) : Option (Bool) := if 0 ≤ (mn (l0.length : Int) 20) then (if (mn (l0.length : Int) 20) ≤ (l0.length : Int) then ((some (l0.take ((mn (l0.length : Int) 20) : Int).toNat : List (S23))).bind fun y337 => (if 0 ≤ (mn (l1.length : Int) 20) then (if (mn (l1.length : Int) 20) ≤ (l1.length : Int) then ((some (l1.take ((mn (l1.length : Int) 20) : Int).toNat : List (S23))).bind fun y341 => (if 0 ≤ (mn (l2.length : Int) 40) then (if (mn (l2.length : Int) 40) ≤ (l2.length : Int) then ((some (l2.take ((mn (l2.length : Int) 40) : Int).toNat : List Int)).bind fun y345 => ((some (([] : List (S23)) : List (S23))).bind fun y349 => (if y349.length + y337.length < 3518437208883 then ((some (y349 ++ y337 : List (S23))).bind fun y352 => (if y352.length + y341.length < 3518437208883 then ((steps_Replay.f k y341 y345).bind fun bt358 => ((steps_Replay.f k (y352 ++ y341) y345).bind fun bt362 => ((steps_Replay.f k ([] : List (S23)) y345).bind fun bt366 => (if bt366.2 = 0 then ((secateurref02_Nums.f k bt366.1 y345).bind fun t370 => (secateurlaw15_StepsParts.j0 k y337 bt358.1 bt358.2 bt362.1 bt362.2 (!t370))) else (secateurlaw15_StepsParts.j0 k y337 bt358.1 bt358.2 bt362.1 bt362.2 true))))) else (none))) else (none)))) else (none)) else (none))) else (none)) else (none))) else (none)) else (none)
theorem secateurlaw15_StepsParts.mono_l : ∀ k, (∀ y0 y1 y2 y3 y4 y5, LeO (secateurlaw15_StepsParts.j0 k y0 y1 y2 y3 y4 y5) (secateurlaw15_StepsParts.j0 (k + 1) y0 y1 y2 y3 y4 y5))
  | 0 => fun _ _ _ _ _ _ r h => by simp [secateurlaw15_StepsParts.j0] at h
  | k + 1 => by
    have ih0 := secateurlaw15_StepsParts.mono_l k
    · intro y0 y1 y2 y3 y4 y5
      unfold secateurlaw15_StepsParts.j0
      repeat' first
      | (with_reducible exact ih0 _ _ _ _ _ _)
      | (with_reducible exact secateurlaw15_fixed.mono _)
      | (with_reducible exact secateurref02_Nums.mono _ _ _)
      | (with_reducible exact steps_Replay.mono _ _ _)
      | (with_reducible exact LeO.refl _)
      | (with_reducible exact LeO.none _)
      | (with_reducible refine LeO.ite ?_ ?_)
      | (with_reducible refine LeO.bind ?_ (fun _ => ?_))
      | exact ih0 _ _ _ _ _ _
      | exact secateurlaw15_fixed.mono _
      | exact secateurref02_Nums.mono _ _ _
      | exact steps_Replay.mono _ _ _
      | exact LeO.none _
      | refine LeO.ite ?_ ?_
      | refine LeO.bind ?_ (fun _ => ?_)
theorem secateurlaw15_StepsParts.mono : ∀ a0 a1 a2 k, LeO (secateurlaw15_StepsParts.f k a0 a1 a2) (secateurlaw15_StepsParts.f (k + 1) a0 a1 a2) := by
  intro a0 a1 a2 k
  have ih0 := secateurlaw15_StepsParts.mono_l k
  unfold secateurlaw15_StepsParts.f
  repeat' first
      | (with_reducible exact ih0 _ _ _ _ _ _)
      | (with_reducible exact secateurlaw15_fixed.mono _)
      | (with_reducible exact secateurref02_Nums.mono _ _ _)
      | (with_reducible exact steps_Replay.mono _ _ _)
      | (with_reducible exact LeO.refl _)
      | (with_reducible exact LeO.none _)
      | (with_reducible refine LeO.ite ?_ ?_)
      | (with_reducible refine LeO.bind ?_ (fun _ => ?_))
      | exact ih0 _ _ _ _ _ _
      | exact secateurlaw15_fixed.mono _
      | exact secateurref02_Nums.mono _ _ _
      | exact steps_Replay.mono _ _ _
      | exact LeO.none _
      | refine LeO.ite ?_ ?_
      | refine LeO.bind ?_ (fun _ => ?_)
set_option maxHeartbeats 8000000 in
set_option maxRecDepth 100000 in
theorem secateurlaw15_StepsParts.calls (k : Nat) (A0 : Option Addr) (c0 : Nat) (l0 : List (S23)) (A1 : Option Addr) (c1 : Nat) (l1 : List (S23)) (A2 : Option Addr) (c2 : Nat) (l2 : List Int) (r : Bool) (w : World) (hr0 : Kd.C k23 w A0 l0.length l0) (hc0 : l0.length ≤ c0) (hr1 : Kd.C k23 w A1 l1.length l1) (hc1 : l1.length ≤ c1) (hr2 : Kd.C (Kd.int .i64) w A2 l2.length l2) (hc2 : l2.length ≤ c2) (h : secateurlaw15_StepsParts.f k l0 l1 l2 = some r) :
    Calls Try.prog 8 #[.slice A0 l0.length c0, .slice A1 l1.length c1, .slice A2 l2.length c2] w fun e w' => e = .returned (.bool r) ∧ Below w.heap.size w w' := by
  have HR0 := Aside0.mk hr0
  have HC0 := Aside0.mk hc0
  clear hr0 hc0
  have HR1 := Aside0.mk hr1
  have HC1 := Aside0.mk hc1
  clear hr1 hc1
  have HR2 := Aside0.mk hr2
  have HC2 := Aside0.mk hc2
  clear hr2 hc2
  have HB := Aside0.mk (Below.refl w.heap.size w)
  have H : (if 0 ≤ (mn (l0.length : Int) 20) then (if (mn (l0.length : Int) 20) ≤ (l0.length : Int) then ((some (l0.take ((mn (l0.length : Int) 20) : Int).toNat : List (S23))).bind fun y337 => (if 0 ≤ (mn (l1.length : Int) 20) then (if (mn (l1.length : Int) 20) ≤ (l1.length : Int) then ((some (l1.take ((mn (l1.length : Int) 20) : Int).toNat : List (S23))).bind fun y341 => (if 0 ≤ (mn (l2.length : Int) 40) then (if (mn (l2.length : Int) 40) ≤ (l2.length : Int) then ((some (l2.take ((mn (l2.length : Int) 40) : Int).toNat : List Int)).bind fun y345 => ((some (([] : List (S23)) : List (S23))).bind fun y349 => (if y349.length + y337.length < 3518437208883 then ((some (y349 ++ y337 : List (S23))).bind fun y352 => (if y352.length + y341.length < 3518437208883 then ((steps_Replay.f k y341 y345).bind fun bt358 => ((steps_Replay.f k (y352 ++ y341) y345).bind fun bt362 => ((steps_Replay.f k ([] : List (S23)) y345).bind fun bt366 => (if bt366.2 = 0 then ((secateurref02_Nums.f k bt366.1 y345).bind fun t370 => (secateurlaw15_StepsParts.j0 k y337 bt358.1 bt358.2 bt362.1 bt362.2 (!t370))) else (secateurlaw15_StepsParts.j0 k y337 bt358.1 bt358.2 bt362.1 bt362.2 true))))) else (none))) else (none)))) else (none)) else (none))) else (none)) else (none))) else (none)) else (none)) = some r := h
  clear h
  obtain ⟨ji4, hji4⟩ : ∃ j_ : Int, (mn (l0.length : Int) 20) = j_ := ⟨_, rfl⟩
  replace H : (if 0 ≤ (ji4) then (if (ji4) ≤ (l0.length : Int) then ((some (l0.take ((ji4) : Int).toNat : List (S23))).bind fun y337 => (if 0 ≤ (mn (l1.length : Int) 20) then (if (mn (l1.length : Int) 20) ≤ (l1.length : Int) then ((some (l1.take ((mn (l1.length : Int) 20) : Int).toNat : List (S23))).bind fun y341 => (if 0 ≤ (mn (l2.length : Int) 40) then (if (mn (l2.length : Int) 40) ≤ (l2.length : Int) then ((some (l2.take ((mn (l2.length : Int) 40) : Int).toNat : List Int)).bind fun y345 => ((some (([] : List (S23)) : List (S23))).bind fun y349 => (if y349.length + y337.length < 3518437208883 then ((some (y349 ++ y337 : List (S23))).bind fun y352 => (if y352.length + y341.length < 3518437208883 then ((steps_Replay.f k y341 y345).bind fun bt358 => ((steps_Replay.f k (y352 ++ y341) y345).bind fun bt362 => ((steps_Replay.f k ([] : List (S23)) y345).bind fun bt366 => (if bt366.2 = 0 then ((secateurref02_Nums.f k bt366.1 y345).bind fun t370 => (secateurlaw15_StepsParts.j0 k y337 bt358.1 bt358.2 bt362.1 bt362.2 (!t370))) else (secateurlaw15_StepsParts.j0 k y337 bt358.1 bt358.2 bt362.1 bt362.2 true))))) else (none))) else (none)))) else (none)) else (none))) else (none)) else (none))) else (none)) else (none)) = some r := by first | (rw [hji4] at H; exact H) | (simp only [hji4] at H ⊢; exact H)
  (try (have hji4h : ji4 ≤ 20 := by (rw [← hji4]; unfold mn; (repeat' split) <;> omega)))
  (try (have hji4g : ji4 ≤ 64 := by omega))
  (try (have hji4l : 0 ≤ ji4 := by (rw [← hji4]; unfold mn; (repeat' split) <;> omega)))
  (try (have hji4m : 0 ≤ ji4 := by omega))
  have hji4_ : (if 20 < (l0.length : Int) then 20 else (l0.length : Int)) = ji4 := hji4
  by_cases c5 : 0 ≤ (ji4)
  · rw [if_pos c5] at H
    have c5b0 := eq_true c5
    have c5b1 : decide (0 ≤ (ji4)) = true := decide_eq_true c5
    clear c5
    by_cases c6 : (ji4) ≤ (l0.length : Int)
    · rw [if_pos c6] at H
      have c6b0 := eq_true c6
      have c6b1 : decide ((ji4) ≤ (l0.length : Int)) = true := decide_eq_true c6
      clear c6
      obtain ⟨y337, hy337⟩ : ∃ y_ : List (S23), y_ = (l0.take ((ji4) : Int).toNat) := ⟨_, rfl⟩
      replace H : (if 0 ≤ (mn (l1.length : Int) 20) then (if (mn (l1.length : Int) 20) ≤ (l1.length : Int) then ((some (l1.take ((mn (l1.length : Int) 20) : Int).toNat : List (S23))).bind fun y341 => (if 0 ≤ (mn (l2.length : Int) 40) then (if (mn (l2.length : Int) 40) ≤ (l2.length : Int) then ((some (l2.take ((mn (l2.length : Int) 40) : Int).toNat : List Int)).bind fun y345 => ((some (([] : List (S23)) : List (S23))).bind fun y349 => (if y349.length + y337.length < 3518437208883 then ((some (y349 ++ y337 : List (S23))).bind fun y352 => (if y352.length + y341.length < 3518437208883 then ((steps_Replay.f k y341 y345).bind fun bt358 => ((steps_Replay.f k (y352 ++ y341) y345).bind fun bt362 => ((steps_Replay.f k ([] : List (S23)) y345).bind fun bt366 => (if bt366.2 = 0 then ((secateurref02_Nums.f k bt366.1 y345).bind fun t370 => (secateurlaw15_StepsParts.j0 k y337 bt358.1 bt358.2 bt362.1 bt362.2 (!t370))) else (secateurlaw15_StepsParts.j0 k y337 bt358.1 bt358.2 bt362.1 bt362.2 true))))) else (none))) else (none)))) else (none)) else (none))) else (none)) else (none)) = some r := by first | (rw [hy337]; with_reducible exact H) | (have H2_ := (Option.bind_some _ _).symm.trans H; rw [hy337]; with_reducible exact H2_) | (have H2_ := (Option.bind_some _ _).symm.trans H; with_reducible exact H2_) | with_reducible exact H | (rw [hy337]; exact H) | exact H
      have Ny337 := Aside0.mk hy337
      clear hy337
      obtain ⟨ji7, hji7⟩ : ∃ j_ : Int, (mn (l1.length : Int) 20) = j_ := ⟨_, rfl⟩
      replace H : (if 0 ≤ (ji7) then (if (ji7) ≤ (l1.length : Int) then ((some (l1.take ((ji7) : Int).toNat : List (S23))).bind fun y341 => (if 0 ≤ (mn (l2.length : Int) 40) then (if (mn (l2.length : Int) 40) ≤ (l2.length : Int) then ((some (l2.take ((mn (l2.length : Int) 40) : Int).toNat : List Int)).bind fun y345 => ((some (([] : List (S23)) : List (S23))).bind fun y349 => (if y349.length + y337.length < 3518437208883 then ((some (y349 ++ y337 : List (S23))).bind fun y352 => (if y352.length + y341.length < 3518437208883 then ((steps_Replay.f k y341 y345).bind fun bt358 => ((steps_Replay.f k (y352 ++ y341) y345).bind fun bt362 => ((steps_Replay.f k ([] : List (S23)) y345).bind fun bt366 => (if bt366.2 = 0 then ((secateurref02_Nums.f k bt366.1 y345).bind fun t370 => (secateurlaw15_StepsParts.j0 k y337 bt358.1 bt358.2 bt362.1 bt362.2 (!t370))) else (secateurlaw15_StepsParts.j0 k y337 bt358.1 bt358.2 bt362.1 bt362.2 true))))) else (none))) else (none)))) else (none)) else (none))) else (none)) else (none)) = some r := by first | (rw [hji7] at H; exact H) | (simp only [hji7] at H ⊢; exact H)
      (try (have hji7h : ji7 ≤ 20 := by (rw [← hji7]; unfold mn; (repeat' split) <;> omega)))
      (try (have hji7g : ji7 ≤ 64 := by omega))
      (try (have hji7l : 0 ≤ ji7 := by (rw [← hji7]; unfold mn; (repeat' split) <;> omega)))
      (try (have hji7m : 0 ≤ ji7 := by omega))
      have hji7_ : (if 20 < (l1.length : Int) then 20 else (l1.length : Int)) = ji7 := hji7
      by_cases c8 : 0 ≤ (ji7)
      · rw [if_pos c8] at H
        have c8b0 := eq_true c8
        have c8b1 : decide (0 ≤ (ji7)) = true := decide_eq_true c8
        clear c8
        by_cases c9 : (ji7) ≤ (l1.length : Int)
        · rw [if_pos c9] at H
          have c9b0 := eq_true c9
          have c9b1 : decide ((ji7) ≤ (l1.length : Int)) = true := decide_eq_true c9
          clear c9
          obtain ⟨y341, hy341⟩ : ∃ y_ : List (S23), y_ = (l1.take ((ji7) : Int).toNat) := ⟨_, rfl⟩
          replace H : (if 0 ≤ (mn (l2.length : Int) 40) then (if (mn (l2.length : Int) 40) ≤ (l2.length : Int) then ((some (l2.take ((mn (l2.length : Int) 40) : Int).toNat : List Int)).bind fun y345 => ((some (([] : List (S23)) : List (S23))).bind fun y349 => (if y349.length + y337.length < 3518437208883 then ((some (y349 ++ y337 : List (S23))).bind fun y352 => (if y352.length + y341.length < 3518437208883 then ((steps_Replay.f k y341 y345).bind fun bt358 => ((steps_Replay.f k (y352 ++ y341) y345).bind fun bt362 => ((steps_Replay.f k ([] : List (S23)) y345).bind fun bt366 => (if bt366.2 = 0 then ((secateurref02_Nums.f k bt366.1 y345).bind fun t370 => (secateurlaw15_StepsParts.j0 k y337 bt358.1 bt358.2 bt362.1 bt362.2 (!t370))) else (secateurlaw15_StepsParts.j0 k y337 bt358.1 bt358.2 bt362.1 bt362.2 true))))) else (none))) else (none)))) else (none)) else (none)) = some r := by first | (rw [hy341]; with_reducible exact H) | (have H2_ := (Option.bind_some _ _).symm.trans H; rw [hy341]; with_reducible exact H2_) | (have H2_ := (Option.bind_some _ _).symm.trans H; with_reducible exact H2_) | with_reducible exact H | (rw [hy341]; exact H) | exact H
          have Ny341 := Aside0.mk hy341
          clear hy341
          obtain ⟨ji10, hji10⟩ : ∃ j_ : Int, (mn (l2.length : Int) 40) = j_ := ⟨_, rfl⟩
          replace H : (if 0 ≤ (ji10) then (if (ji10) ≤ (l2.length : Int) then ((some (l2.take ((ji10) : Int).toNat : List Int)).bind fun y345 => ((some (([] : List (S23)) : List (S23))).bind fun y349 => (if y349.length + y337.length < 3518437208883 then ((some (y349 ++ y337 : List (S23))).bind fun y352 => (if y352.length + y341.length < 3518437208883 then ((steps_Replay.f k y341 y345).bind fun bt358 => ((steps_Replay.f k (y352 ++ y341) y345).bind fun bt362 => ((steps_Replay.f k ([] : List (S23)) y345).bind fun bt366 => (if bt366.2 = 0 then ((secateurref02_Nums.f k bt366.1 y345).bind fun t370 => (secateurlaw15_StepsParts.j0 k y337 bt358.1 bt358.2 bt362.1 bt362.2 (!t370))) else (secateurlaw15_StepsParts.j0 k y337 bt358.1 bt358.2 bt362.1 bt362.2 true))))) else (none))) else (none)))) else (none)) else (none)) = some r := by first | (rw [hji10] at H; exact H) | (simp only [hji10] at H ⊢; exact H)
          (try (have hji10h : ji10 ≤ 40 := by (rw [← hji10]; unfold mn; (repeat' split) <;> omega)))
          (try (have hji10g : ji10 ≤ 64 := by omega))
          (try (have hji10l : 0 ≤ ji10 := by (rw [← hji10]; unfold mn; (repeat' split) <;> omega)))
          (try (have hji10m : 0 ≤ ji10 := by omega))
          have hji10_ : (if 40 < (l2.length : Int) then 40 else (l2.length : Int)) = ji10 := hji10
          by_cases c11 : 0 ≤ (ji10)
          · rw [if_pos c11] at H
            have c11b0 := eq_true c11
            have c11b1 : decide (0 ≤ (ji10)) = true := decide_eq_true c11
            clear c11
            by_cases c12 : (ji10) ≤ (l2.length : Int)
            · rw [if_pos c12] at H
              have c12b0 := eq_true c12
              have c12b1 : decide ((ji10) ≤ (l2.length : Int)) = true := decide_eq_true c12
              clear c12
              obtain ⟨y345, hy345⟩ : ∃ y_ : List Int, y_ = (l2.take ((ji10) : Int).toNat) := ⟨_, rfl⟩
              replace H : ((some (([] : List (S23)) : List (S23))).bind fun y349 => (if y349.length + y337.length < 3518437208883 then ((some (y349 ++ y337 : List (S23))).bind fun y352 => (if y352.length + y341.length < 3518437208883 then ((steps_Replay.f k y341 y345).bind fun bt358 => ((steps_Replay.f k (y352 ++ y341) y345).bind fun bt362 => ((steps_Replay.f k ([] : List (S23)) y345).bind fun bt366 => (if bt366.2 = 0 then ((secateurref02_Nums.f k bt366.1 y345).bind fun t370 => (secateurlaw15_StepsParts.j0 k y337 bt358.1 bt358.2 bt362.1 bt362.2 (!t370))) else (secateurlaw15_StepsParts.j0 k y337 bt358.1 bt358.2 bt362.1 bt362.2 true))))) else (none))) else (none))) = some r := by first | (rw [hy345]; with_reducible exact H) | (have H2_ := (Option.bind_some _ _).symm.trans H; rw [hy345]; with_reducible exact H2_) | (have H2_ := (Option.bind_some _ _).symm.trans H; with_reducible exact H2_) | with_reducible exact H | (rw [hy345]; exact H) | exact H
              have Ny345 := Aside0.mk hy345
              clear hy345
              obtain ⟨y349, hy349⟩ : ∃ y_ : List (S23), y_ = (([] : List (S23))) := ⟨_, rfl⟩
              replace H : (if y349.length + y337.length < 3518437208883 then ((some (y349 ++ y337 : List (S23))).bind fun y352 => (if y352.length + y341.length < 3518437208883 then ((steps_Replay.f k y341 y345).bind fun bt358 => ((steps_Replay.f k (y352 ++ y341) y345).bind fun bt362 => ((steps_Replay.f k ([] : List (S23)) y345).bind fun bt366 => (if bt366.2 = 0 then ((secateurref02_Nums.f k bt366.1 y345).bind fun t370 => (secateurlaw15_StepsParts.j0 k y337 bt358.1 bt358.2 bt362.1 bt362.2 (!t370))) else (secateurlaw15_StepsParts.j0 k y337 bt358.1 bt358.2 bt362.1 bt362.2 true))))) else (none))) else (none)) = some r := by first | (rw [hy349]; with_reducible exact H) | (have H2_ := (Option.bind_some _ _).symm.trans H; rw [hy349]; with_reducible exact H2_) | (have H2_ := (Option.bind_some _ _).symm.trans H; with_reducible exact H2_) | with_reducible exact H | (rw [hy349]; exact H) | exact H
              have Ny349 := Aside0.mk hy349
              clear hy349
              by_cases c13 : y349.length + y337.length < 3518437208883
              · rw [if_pos c13] at H
                have LMc13 := Aside0.mk c13
                clear c13
                obtain ⟨y352, hy352⟩ : ∃ y_ : List (S23), y_ = (y349 ++ y337) := ⟨_, rfl⟩
                replace H : (if y352.length + y341.length < 3518437208883 then ((steps_Replay.f k y341 y345).bind fun bt358 => ((steps_Replay.f k (y352 ++ y341) y345).bind fun bt362 => ((steps_Replay.f k ([] : List (S23)) y345).bind fun bt366 => (if bt366.2 = 0 then ((secateurref02_Nums.f k bt366.1 y345).bind fun t370 => (secateurlaw15_StepsParts.j0 k y337 bt358.1 bt358.2 bt362.1 bt362.2 (!t370))) else (secateurlaw15_StepsParts.j0 k y337 bt358.1 bt358.2 bt362.1 bt362.2 true))))) else (none)) = some r := by first | (rw [hy352]; with_reducible exact H) | (have H2_ := (Option.bind_some _ _).symm.trans H; rw [hy352]; with_reducible exact H2_) | (have H2_ := (Option.bind_some _ _).symm.trans H; with_reducible exact H2_) | with_reducible exact H | (rw [hy352]; exact H) | exact H
                have Ny352 := Aside0.mk hy352
                clear hy352
                by_cases c14 : y352.length + y341.length < 3518437208883
                · rw [if_pos c14] at H
                  have LMc14 := Aside0.mk c14
                  clear c14
                  obtain ⟨y355, hy355⟩ : ∃ y_ : List (S23), y_ = (y352 ++ y341) := ⟨_, rfl⟩
                  replace H : ((steps_Replay.f k y341 y345).bind fun bt358 => ((steps_Replay.f k y355 y345).bind fun bt362 => ((steps_Replay.f k ([] : List (S23)) y345).bind fun bt366 => (if bt366.2 = 0 then ((secateurref02_Nums.f k bt366.1 y345).bind fun t370 => (secateurlaw15_StepsParts.j0 k y337 bt358.1 bt358.2 bt362.1 bt362.2 (!t370))) else (secateurlaw15_StepsParts.j0 k y337 bt358.1 bt358.2 bt362.1 bt362.2 true))))) = some r := by first | (rw [hy355]; with_reducible exact H) | (have H2_ := (Option.bind_some _ _).symm.trans H; rw [hy355]; with_reducible exact H2_) | (have H2_ := (Option.bind_some _ _).symm.trans H; with_reducible exact H2_) | with_reducible exact H | (rw [hy355]; exact H) | exact H
                  have Ny355 := Aside0.mk hy355
                  clear hy355
                  replace H := Option.bind_eq_some_iff.mp H
                  obtain ⟨⟨t358, t359⟩, A150, H⟩ := H
                  replace H : ((steps_Replay.f k y355 y345).bind fun bt362 => ((steps_Replay.f k ([] : List (S23)) y345).bind fun bt366 => (if bt366.2 = 0 then ((secateurref02_Nums.f k bt366.1 y345).bind fun t370 => (secateurlaw15_StepsParts.j0 k y337 t358 t359 bt362.1 bt362.2 (!t370))) else (secateurlaw15_StepsParts.j0 k y337 t358 t359 bt362.1 bt362.2 true)))) = some r := H
                  have A15 := Aside0.mk A150
                  clear A150
                  replace H := Option.bind_eq_some_iff.mp H
                  obtain ⟨⟨t362, t363⟩, A160, H⟩ := H
                  replace H : ((steps_Replay.f k ([] : List (S23)) y345).bind fun bt366 => (if bt366.2 = 0 then ((secateurref02_Nums.f k bt366.1 y345).bind fun t370 => (secateurlaw15_StepsParts.j0 k y337 t358 t359 t362 t363 (!t370))) else (secateurlaw15_StepsParts.j0 k y337 t358 t359 t362 t363 true))) = some r := H
                  have A16 := Aside0.mk A160
                  clear A160
                  replace H := Option.bind_eq_some_iff.mp H
                  obtain ⟨⟨t366, t367⟩, A170, H⟩ := H
                  replace H : (if t367 = 0 then ((secateurref02_Nums.f k t366 y345).bind fun t370 => (secateurlaw15_StepsParts.j0 k y337 t358 t359 t362 t363 (!t370))) else (secateurlaw15_StepsParts.j0 k y337 t358 t359 t362 t363 true)) = some r := H
                  have A17 := Aside0.mk A170
                  clear A170
                  have HC18 := Aside0.mk H
                  clear H
                  have q19 : ((ji4) : Int) ≤ ((l0.length : Int) : Int) := of_decide_eq_true (by first | (with_reducible assumption) | assumption)
                  obtain ⟨i019, hi019, _, hsz19, _⟩ := info_parts info23
                  have hroom19 : l0.length ≤ c0 := HC0.out
                  have hC19 : Kd.C k23 _ A0 l0.length l0 := HR0.out
                  have hcut19 := cut_to (P := Try.prog) 35 23 .i64 Try.underlying35 hi019 A0 l0.length c0 (ji4) (of_decide_eq_true (by first | (with_reducible assumption) | assumption)) q19 hroom19
                  have hr19 := Kd.C_take (m := ((ji4) : Int).toNat) hC19 (by omega)
                  have hy19 : y337.length = ((ji4) : Int).toNat := (by rw [Ny337.out, List.length_take]; omega)
                  rw [← Ny337.out] at hr19
                  rw [← hy19] at hcut19
                  have HR340 := Aside0.mk hr19
                  have HC340 := Aside0.mk (show y337.length ≤ c0 from by omega)
                  clear hr19 hC19 hroom19 hi019 hsz19
                  have KY19 := Aside0.mk hy19
                  clear hy19
                  replace q19 := eq_true q19
                  have q20 : ((ji7) : Int) ≤ ((l1.length : Int) : Int) := of_decide_eq_true (by first | (with_reducible assumption) | assumption)
                  obtain ⟨i020, hi020, _, hsz20, _⟩ := info_parts info23
                  have hroom20 : l1.length ≤ c1 := HC1.out
                  have hC20 : Kd.C k23 _ A1 l1.length l1 := HR1.out
                  have hcut20 := cut_to (P := Try.prog) 35 23 .i64 Try.underlying35 hi020 A1 l1.length c1 (ji7) (of_decide_eq_true (by first | (with_reducible assumption) | assumption)) q20 hroom20
                  have hr20 := Kd.C_take (m := ((ji7) : Int).toNat) hC20 (by omega)
                  have hy20 : y341.length = ((ji7) : Int).toNat := (by rw [Ny341.out, List.length_take]; omega)
                  rw [← Ny341.out] at hr20
                  rw [← hy20] at hcut20
                  have HR344 := Aside0.mk hr20
                  have HC344 := Aside0.mk (show y341.length ≤ c1 from by omega)
                  clear hr20 hC20 hroom20 hi020 hsz20
                  have KY20 := Aside0.mk hy20
                  clear hy20
                  replace q20 := eq_true q20
                  have q21 : ((ji10) : Int) ≤ ((l2.length : Int) : Int) := of_decide_eq_true (by first | (with_reducible assumption) | assumption)
                  obtain ⟨i021, hi021, _, hsz21, _⟩ := info_parts info3
                  have hroom21 : l2.length ≤ c2 := HC2.out
                  have hC21 : Kd.C (Kd.int .i64) _ A2 l2.length l2 := HR2.out
                  have hcut21 := cut_to (P := Try.prog) 28 3 .i64 Try.underlying28 hi021 A2 l2.length c2 (ji10) (of_decide_eq_true (by first | (with_reducible assumption) | assumption)) q21 hroom21
                  have hr21 := Kd.C_take (m := ((ji10) : Int).toNat) hC21 (by omega)
                  have hy21 : y345.length = ((ji10) : Int).toNat := (by rw [Ny345.out, List.length_take]; omega)
                  rw [← Ny345.out] at hr21
                  rw [← hy21] at hcut21
                  have HR348 := Aside0.mk hr21
                  have HC348 := Aside0.mk (show y345.length ≤ c2 from by omega)
                  clear hr21 hC21 hroom21 hi021 hsz21
                  have KY21 := Aside0.mk hy21
                  clear hy21
                  replace q21 := eq_true q21
                  go_enter Try.func8, Try.ntmps8
                  go_upto_region 9 with (first | ((with_reducible refine gate_dst (N := 31) rfl ?_); refine Kd.R_lit k23 _ 23 ?hg (N := 31) ?hd (xs := ([] : List (S23))) (inner := []) (ok := fun _ => True) (okp := fun _ => True) ?hr ?hp (fun _ hk => hk) trivial (Below.refl _ _) (Nat.le_refl _) (by simp) ?_; (case hd => rfl); (case hg => rfl); (case hr => first | (go_simp; done) | (go_simp; rfl)); (case hp => exact (Reps.none _ _)); intro v350 w22 ho23 hb hg_ hnew_; clear hg_ hnew_; (first | rw [← Ny349.out] at ho23 | (simp only [Int.reduceToNat] at ho23; rw [← Ny349.out] at ho23)); have n0_ := Aside0.mk (Kd.R_lower ho23 (below_size (by repeat (first | (with_reducible first | exact HB.out | apply below_alloc | apply pw_below_drewN | apply below_drew1) | exact HB.out)))); have n1_ := Aside0.mk (below_step (by repeat (first | (with_reducible first | exact HB.out | apply below_alloc | apply pw_below_drewN | apply below_drew1) | exact HB.out)) hb); clear HB; have HO351 := n0_; have HB := n1_; clear n0_ n1_; clear hb ho23) | ((with_reducible refine gate_builtin (b := .append) (xs := #[.tmp 31, .tmp 32]) rfl ?_); at_builtin; refine Kd.R_append_rows k23 (w0 := w) w.heap.size rfl (.tmp 31) (.tmp 32) 35 23 (.agg #[(.int .i64 0), (.int .i64 0), (.int .i64 0), (.int .i64 0), (.int .i64 0)]) 40 rfl Try.underlying35 info23 rfl (by decide) (by omega) v350 y349 y337 _ _ _ (fun _ => True) (fun _ => False) rfl rfl ?aO ?aR (fun _ _ h => h) (fun _ h => h.elim) ?aF ?aB ?aS ?aL ?_; (case aR => repeat (first | exact (Kd.C_below HR340.out HB.out) | (with_reducible refine Kd.C_alloc ?_ _) | (with_reducible refine Kd.C_drewN ?_ _) | (with_reducible refine Kd.C_drew ?_))); (case aB => exact (by repeat (first | (with_reducible first | exact HB.out | apply below_alloc | apply pw_below_drewN | apply below_drew1) | exact HB.out))); (case aF => exact (fun _ _ => trivial)); (case aO => exact (by (with_reducible repeat (first | apply Kd.R_alloc | apply Kd.R_drewN | apply Kd.R_drew)); exact HO351.out)); (case aS => exact (below_size (by repeat (first | (with_reducible first | exact HB.out | apply below_alloc | apply pw_below_drewN | apply below_drew1) | exact HB.out)))); (case aL => have := LMc13.out; omega); intro v353 w24 ho hb hg hat; rw [← Ny352.out] at ho; have n0_ := Aside0.mk (hb); have n1_ := Aside0.mk (ho); clear HB; clear HO351; have HB := n0_; have HO354 := n1_; clear n0_ n1_; clear ho hb hg hat) | ((with_reducible refine gate_builtin (b := .append) (xs := #[.tmp 34, .tmp 35]) rfl ?_); at_builtin; refine Kd.R_append_rows k23 (w0 := w) w.heap.size rfl (.tmp 34) (.tmp 35) 35 23 (.agg #[(.int .i64 0), (.int .i64 0), (.int .i64 0), (.int .i64 0), (.int .i64 0)]) 40 rfl Try.underlying35 info23 rfl (by decide) (by omega) v353 y352 y341 _ _ _ (fun _ => True) (fun _ => False) rfl rfl ?aO ?aR (fun _ _ h => h) (fun _ h => h.elim) ?aF ?aB ?aS ?aL ?_; (case aR => repeat (first | exact (Kd.C_below HR344.out HB.out) | (with_reducible refine Kd.C_alloc ?_ _) | (with_reducible refine Kd.C_drewN ?_ _) | (with_reducible refine Kd.C_drew ?_))); (case aB => exact (by repeat (first | (with_reducible first | exact HB.out | apply below_alloc | apply pw_below_drewN | apply below_drew1) | exact HB.out))); (case aF => exact (fun _ _ => trivial)); (case aO => exact (by (with_reducible repeat (first | apply Kd.R_alloc | apply Kd.R_drewN | apply Kd.R_drew)); exact HO354.out)); (case aS => exact (below_size (by repeat (first | (with_reducible first | exact HB.out | apply below_alloc | apply pw_below_drewN | apply below_drew1) | exact HB.out)))); (case aL => have := LMc14.out; omega); intro v356 w25 ho hb hg hat; rw [← Ny355.out] at ho; have n0_ := Aside0.mk (hb); have n1_ := Aside0.mk (ho); clear HB; clear HO354; have HB := n0_; have HO357 := n1_; clear n0_ n1_; clear ho hb hg hat) | ((with_reducible refine gate_callee (f := 18) rfl ?_); refine goesL_ (some 40) rfl rfl Try.func18 (by kernel_rfl) rfl #[.slice A1 y341.length c1, .slice A2 y345.length c2] rfl (by (try simp only [List.map_toArray, List.map_cons, List.map_nil]); first | done | rfl | (simp only [List.length_drop, List.length_take]; rfl)) ?_; (with_reducible refine (steps_Replay.calls k _ _ y341 _ _ y345 t358 t359 _ ?side1 ?side2 ?side3 ?side4 A15.out).mono ?_); (case side1 => repeat (first | exact (Kd.C_below HR344.out HB.out) | (with_reducible refine Kd.C_alloc ?_ _) | (with_reducible refine Kd.C_drewN ?_ _) | (with_reducible refine Kd.C_drew ?_))); (case side2 => exact HC344.out); (case side3 => repeat (first | exact (Kd.C_below HR348.out HB.out) | (with_reducible refine Kd.C_alloc ?_ _) | (with_reducible refine Kd.C_drewN ?_ _) | (with_reducible refine Kd.C_drew ?_))); (case side4 => exact HC348.out); rintro e w26 ⟨v360, rfl, ho0, hb⟩; refine ⟨_, rfl, ?_⟩; have n0_ := Aside0.mk (Kd.R_below (by (with_reducible repeat (first | apply Kd.R_alloc | apply Kd.R_drewN | apply Kd.R_drew)); exact HO357.out) hb); have n1_ := Aside0.mk (Kd.R_lower ho0 (below_size (by repeat (first | (with_reducible first | exact HB.out | apply below_alloc | apply pw_below_drewN | apply below_drew1) | exact HB.out)))); have n2_ := Aside0.mk (below_step (by repeat (first | (with_reducible first | exact HB.out | apply below_alloc | apply pw_below_drewN | apply below_drew1) | exact HB.out)) hb); clear HO357; clear HB; have HO357 := n0_; have HO361 := n1_; have HB := n2_; clear n0_ n1_ n2_; (try clear hb); (try clear hb2); (try clear hk); (try clear hi); (try clear ho0); obtain ⟨Ao27, co27, eo27⟩ := Kd.R_slice HO357.out; subst eo27) | ((with_reducible refine gate_callee (f := 18) rfl ?_); refine goesL_ (some 46) rfl rfl Try.func18 (by kernel_rfl) rfl #[.slice Ao27 y355.length co27, .slice A2 y345.length c2] rfl (by (try simp only [List.map_toArray, List.map_cons, List.map_nil]); first | done | rfl | (simp only [List.length_drop, List.length_take]; rfl)) ?_; (with_reducible refine (steps_Replay.calls k _ _ y355 _ _ y345 t362 t363 _ ?side1 ?side2 ?side3 ?side4 A16.out).mono ?_); (case side1 => repeat (first | exact (Kd.R_reads' HO357.out).2.2 | (with_reducible refine Kd.C_alloc ?_ _) | (with_reducible refine Kd.C_drewN ?_ _) | (with_reducible refine Kd.C_drew ?_))); (case side2 => exact (Kd.R_reads' HO357.out).2.1); (case side3 => repeat (first | exact (Kd.C_below HR348.out HB.out) | (with_reducible refine Kd.C_alloc ?_ _) | (with_reducible refine Kd.C_drewN ?_ _) | (with_reducible refine Kd.C_drew ?_))); (case side4 => exact HC348.out); rintro e w28 ⟨v364, rfl, ho0, hb⟩; refine ⟨_, rfl, ?_⟩; have n0_ := Aside0.mk (Kd.R_below (by (with_reducible repeat (first | apply Kd.R_alloc | apply Kd.R_drewN | apply Kd.R_drew)); exact HO357.out) hb); have n1_ := Aside0.mk (Kd.R_elder' (by (with_reducible repeat (first | apply Kd.R_alloc | apply Kd.R_drewN | apply Kd.R_drew)); exact HO361.out) (Kd.R_base ho0) hb); have n2_ := Aside0.mk (Kd.R_lower (Kd.R_new' ho0 (Kd.R_lt (by (with_reducible repeat (first | apply Kd.R_alloc | apply Kd.R_drewN | apply Kd.R_drew)); exact HO361.out))) (below_size (by repeat (first | (with_reducible first | exact HB.out | apply below_alloc | apply pw_below_drewN | apply below_drew1) | exact HB.out)))); have n3_ := Aside0.mk (below_step (by repeat (first | (with_reducible first | exact HB.out | apply below_alloc | apply pw_below_drewN | apply below_drew1) | exact HB.out)) hb); clear HO357; clear HO361; clear HB; have HO357 := n0_; have HO361 := n1_; have HO365 := n2_; have HB := n3_; clear n0_ n1_ n2_ n3_; (try clear hb); (try clear hb2); (try clear hk); (try clear hi); (try clear ho0)) | ((with_reducible refine gate_callee (f := 18) rfl ?_); refine goesL_ (some 51) rfl rfl Try.func18 (by kernel_rfl) rfl #[.slice none 0 0, .slice A2 y345.length c2] rfl (by (try simp only [List.map_toArray, List.map_cons, List.map_nil]); first | done | rfl | (simp only [List.length_drop, List.length_take]; rfl)) ?_; (refine (steps_Replay.calls k _ _ ([] : List (S23)) _ _ y345 t366 t367 _ ?side1 ?side2 ?side3 ?side4 A17.out).mono ?_); (case side1 => exact Kd.C_nil _ _); (case side2 => exact Nat.le_refl _); (case side3 => repeat (first | exact (Kd.C_below HR348.out HB.out) | (with_reducible refine Kd.C_alloc ?_ _) | (with_reducible refine Kd.C_drewN ?_ _) | (with_reducible refine Kd.C_drew ?_))); (case side4 => exact HC348.out); rintro e w29 ⟨v368, rfl, ho0, hb⟩; refine ⟨_, rfl, ?_⟩; have n0_ := Aside0.mk (Kd.R_below (by (with_reducible repeat (first | apply Kd.R_alloc | apply Kd.R_drewN | apply Kd.R_drew)); exact HO357.out) hb); have n1_ := Aside0.mk (Kd.R_elder' (by (with_reducible repeat (first | apply Kd.R_alloc | apply Kd.R_drewN | apply Kd.R_drew)); exact HO361.out) (Kd.R_base ho0) hb); have n2_ := Aside0.mk (Kd.R_elder' (by (with_reducible repeat (first | apply Kd.R_alloc | apply Kd.R_drewN | apply Kd.R_drew)); exact HO365.out) (Kd.R_base ho0) hb); have n3_ := Aside0.mk (Kd.R_lower (Kd.R_new' (Kd.R_new' ho0 (Kd.R_lt (by (with_reducible repeat (first | apply Kd.R_alloc | apply Kd.R_drewN | apply Kd.R_drew)); exact HO361.out))) (Kd.R_lt (by (with_reducible repeat (first | apply Kd.R_alloc | apply Kd.R_drewN | apply Kd.R_drew)); exact HO365.out))) (below_size (by repeat (first | (with_reducible first | exact HB.out | apply below_alloc | apply pw_below_drewN | apply below_drew1) | exact HB.out)))); have n4_ := Aside0.mk (below_step (by repeat (first | (with_reducible first | exact HB.out | apply below_alloc | apply pw_below_drewN | apply below_drew1) | exact HB.out)) hb); clear HO357; clear HO361; clear HO365; clear HB; have HO357 := n0_; have HO361 := n1_; have HO365 := n2_; have HO369 := n3_; have HB := n4_; clear n0_ n1_ n2_ n3_ n4_; (try clear hb); (try clear hb2); (try clear hk); (try clear hi); (try clear ho0)))
                  (try simp only [Act.put, List.setIfInBounds_toArray, List.set_cons_zero, List.set_cons_succ])
                  go_cut [61] (fun v61 wc => ∃ (kq : Nat) (x61_17 : Bool), v61 = .bool x61_17 ∧ Aside0 (secateurlaw15_StepsParts.j0 kq y337 t358 t359 t362 t363 x61_17 = some r) ∧ Aside0 (kq ≤ k) ∧ Aside0 (Kd.R (Kd.int .i64) 3 wc w.heap.size (fun k_ => some k_ ≠ (v364 : Value).ownBlock) v360 t358) ∧ Aside0 (Kd.R (Kd.int .i64) 3 wc w.heap.size (fun k_ => some k_ ≠ (v360 : Value).ownBlock) v364 t362) ∧ Aside0 (Below w.heap.size w wc))
                  case first =>
                    have H := HC18.out
                    clear HC18
                    by_cases c30 : t367 = 0
                    · rw [if_pos c30] at H
                      have c30b0 : (t367 == 0) = true := beq_iff_eq.mpr c30
                      have c30b1 : (t367 != 0) = false := bne_eq_false_iff_eq.mpr c30
                      clear c30
                      (first | rw [c30b0] | (simp only [i64_w, i32_w]; rw [c30b0]) | skip)
                      replace H := Option.bind_eq_some_iff.mp H
                      obtain ⟨t370, A310, H⟩ := H
                      replace H : (secateurlaw15_StepsParts.j0 k y337 t358 t359 t362 t363 (!t370)) = some r := H
                      have A31 := Aside0.mk A310
                      clear A310
                      have H' := Aside0.mk H
                      clear H
                      obtain ⟨Ao32, co32, eo32⟩ := Kd.R_slice HO369.out
                      subst eo32
                      go_wp2_with (first | (go_at_call 13; (with_reducible refine (secateurref02_Nums.calls k _ _ t366 _ _ y345 t370 _ ?side1 ?side2 ?side3 ?side4 A31.out).mono ?_); (case side1 => repeat (first | exact (Kd.R_reads' HO369.out).2.2 | (with_reducible refine Kd.C_alloc ?_ _) | (with_reducible refine Kd.C_drewN ?_ _) | (with_reducible refine Kd.C_drew ?_))); (case side2 => exact (Kd.R_reads' HO369.out).2.1); (case side3 => repeat (first | exact (Kd.C_below HR348.out HB.out) | (with_reducible refine Kd.C_alloc ?_ _) | (with_reducible refine Kd.C_drewN ?_ _) | (with_reducible refine Kd.C_drew ?_))); (case side4 => exact HC348.out); rintro e w' ⟨rfl, ⟨nd, rfl⟩⟩))
                      go_meet
                      case rel => exact ⟨_, (!t370), (by first | rfl | (simp; done) | (simp [*]; done)), H', ⟨by first | omega | exact Nat.le_refl _⟩, ⟨by (with_reducible repeat (first | apply Kd.R_alloc | apply Kd.R_drewN | apply Kd.R_drew)); exact Kd.R_mono HO361.out (fun _ hk => hk.1.2)⟩, ⟨by (with_reducible repeat (first | apply Kd.R_alloc | apply Kd.R_drewN | apply Kd.R_drew)); exact Kd.R_mono HO365.out (fun _ hk => hk.1.2)⟩, ⟨by repeat (first | (with_reducible first | exact HB.out | apply below_alloc | apply pw_below_drewN | apply below_drew1) | exact HB.out)⟩⟩
                    · rw [if_neg c30] at H
                      have c30b0 : (t367 == 0) = false := beq_eq_false_iff_ne.mpr c30
                      have c30b1 : (t367 != 0) = true := bne_iff_ne.mpr c30
                      (first | rw [c30b0] | (simp only [i64_w, i32_w]; rw [c30b0]) | skip)
                      have H' := Aside0.mk H
                      clear H
                      go_wp2
                      go_meet
                      case rel => exact ⟨_, (true), (by first | rfl | (simp; done) | (simp [*]; done)), H', ⟨by first | omega | exact Nat.le_refl _⟩, ⟨by (with_reducible repeat (first | apply Kd.R_alloc | apply Kd.R_drewN | apply Kd.R_drew)); exact Kd.R_mono HO361.out (fun _ hk => hk.1.2)⟩, ⟨by (with_reducible repeat (first | apply Kd.R_alloc | apply Kd.R_drewN | apply Kd.R_drew)); exact Kd.R_mono HO365.out (fun _ hk => hk.1.2)⟩, ⟨by repeat (first | (with_reducible first | exact HB.out | apply below_alloc | apply pw_below_drewN | apply below_drew1) | exact HB.out)⟩⟩
                  case rest =>
                    clear HC18
                    try clear c1
                    try clear q1
                    try clear c2
                    try clear p2
                    try clear q2
                    try clear c3
                    try clear c5
                    try clear c5b0
                    try clear c5b1
                    try clear c6
                    try clear c6b0
                    try clear c6b1
                    try clear c8
                    try clear c8b0
                    try clear c8b1
                    try clear c9
                    try clear c9b0
                    try clear c9b1
                    try clear c11
                    try clear c11b0
                    try clear c11b1
                    try clear c12
                    try clear c12b0
                    try clear c12b1
                    try clear c13
                    try clear c14
                    try clear c18
                    try clear q19
                    try clear q20
                    try clear q21
                    try clear c30
                    try clear c30b0
                    try clear c30b1
                    try clear q19
                    try clear q20
                    try clear q21
                    obtain ⟨kq, x61_17, rfl, HA, HJ17, HO_8, HO_10, HB⟩ := hcut
                    cases kq with
                    | zero => exact absurd HA.out (by simp [secateurlaw15_StepsParts.j0])
                    | succ kj17 =>
                      have H := HA.out
                      clear HA
                      simp only [secateurlaw15_StepsParts.j0] at H
                      by_cases c33 : x61_17 = true
                      · subst c33
                        have H1 : (some false) = some r := by rw [if_pos rfl] at H; exact H
                        clear H
                        have H := H1
                        clear H1
                        obtain rfl := Option.some.inj H
                        go_wp2
                        go_ret
                        exact ⟨by first | rfl | (simp [errW_none, errW_some] <;> rfl) | (simp only [← hji4, ← hji7, ← hji10]; first | rfl | (simp [errW_none, errW_some] <;> rfl)) | (simp [*, errW_none, errW_some] <;> rfl), by repeat (first | (with_reducible first | exact HB.out | apply below_alloc | apply pw_below_drewN | apply below_drew1) | exact HB.out)⟩
                      · replace c33 := Bool.eq_false_iff.mpr c33
                        subst c33
                        have H1 : (if t359 = 0 then ((steps_Replay.f kj17 y337 t358).bind fun bt371 => (if t363 = bt371.2 then ((secateurref02_Nums.f kj17 t362 bt371.1).bind fun t375 => (if t375 = true then ((secateurlaw15_fixed.f kj17).bind fun t376 => (some t376)) else (some false))) else (some false))) else (if t363 = t359 then ((secateurlaw15_fixed.f kj17).bind fun t377 => (some t377)) else (some false))) = some r := by rw [if_neg (show ¬ (false = true) by decide)] at H; exact H
                        clear H
                        have H := H1
                        clear H1
                        by_cases c34 : t359 = 0
                        · rw [if_pos c34] at H
                          have c34b0 : (t359 == 0) = true := beq_iff_eq.mpr c34
                          have c34b1 : (t359 != 0) = false := bne_eq_false_iff_eq.mpr c34
                          clear c34
                          replace H := Option.bind_eq_some_iff.mp H
                          obtain ⟨⟨t371, t372⟩, A350, H⟩ := H
                          replace H : (if t363 = t372 then ((secateurref02_Nums.f kj17 t362 t371).bind fun t375 => (if t375 = true then ((secateurlaw15_fixed.f kj17).bind fun t376 => (some t376)) else (some false))) else (some false)) = some r := H
                          have A35 := Aside0.mk A350
                          clear A350
                          by_cases c36 : t363 = t372
                          · rw [if_pos c36] at H
                            have c36b0 : (t363 == t372) = true := beq_iff_eq.mpr c36
                            have c36b1 : (t363 != t372) = false := bne_eq_false_iff_eq.mpr c36
                            clear c36
                            replace H := Option.bind_eq_some_iff.mp H
                            obtain ⟨t375, A370, H⟩ := H
                            replace H : (if t375 = true then ((secateurlaw15_fixed.f kj17).bind fun t376 => (some t376)) else (some false)) = some r := H
                            have A37 := Aside0.mk A370
                            clear A370
                            by_cases c38 : t375 = true
                            · subst c38
                              have H1 : ((secateurlaw15_fixed.f kj17).bind fun t376 => (some t376)) = some r := by rw [if_pos rfl] at H; exact H
                              clear H
                              have H := H1
                              clear H1
                              replace H := Option.bind_eq_some_iff.mp H
                              obtain ⟨t376, A390, H⟩ := H
                              replace H : (some t376) = some r := H
                              have A39 := Aside0.mk A390
                              clear A390
                              obtain rfl := Option.some.inj H
                              obtain ⟨Ao40, co40, eo40⟩ := Kd.R_slice HO_8.out
                              subst eo40
                              go_wp2_with (first | ((with_reducible refine gate_callee (f := 18) rfl ?_); refine goesL_ (some 73) rfl rfl Try.func18 (by kernel_rfl) rfl #[.slice A0 y337.length c0, .slice Ao40 t358.length co40] rfl (by (try simp only [List.map_toArray, List.map_cons, List.map_nil]); first | done | rfl | (simp only [List.length_drop, List.length_take]; rfl)) ?_; (with_reducible refine (steps_Replay.calls kj17 _ _ y337 _ _ t358 t371 t372 _ ?side1 ?side2 ?side3 ?side4 A35.out).mono ?_); (case side1 => repeat (first | exact (Kd.C_below HR340.out HB.out) | (with_reducible refine Kd.C_alloc ?_ _) | (with_reducible refine Kd.C_drewN ?_ _) | (with_reducible refine Kd.C_drew ?_))); (case side2 => exact HC340.out); (case side3 => repeat (first | exact (Kd.R_reads' HO_8.out).2.2 | (with_reducible refine Kd.C_alloc ?_ _) | (with_reducible refine Kd.C_drewN ?_ _) | (with_reducible refine Kd.C_drew ?_))); (case side4 => exact (Kd.R_reads' HO_8.out).2.1); rintro e w41 ⟨v373, rfl, ho0, hb⟩; refine ⟨_, rfl, ?_⟩; have n0_ := Aside0.mk (Kd.R_elder' (by (with_reducible repeat (first | apply Kd.R_alloc | apply Kd.R_drewN | apply Kd.R_drew)); exact HO_8.out) (Kd.R_base ho0) hb); have n1_ := Aside0.mk (Kd.R_elder' (by (with_reducible repeat (first | apply Kd.R_alloc | apply Kd.R_drewN | apply Kd.R_drew)); exact HO_10.out) (Kd.R_base ho0) hb); have n2_ := Aside0.mk (Kd.R_lower (Kd.R_new' (Kd.R_new' ho0 (Kd.R_lt (by (with_reducible repeat (first | apply Kd.R_alloc | apply Kd.R_drewN | apply Kd.R_drew)); exact HO_8.out))) (Kd.R_lt (by (with_reducible repeat (first | apply Kd.R_alloc | apply Kd.R_drewN | apply Kd.R_drew)); exact HO_10.out))) (below_size (by repeat (first | (with_reducible first | exact HB.out | apply below_alloc | apply pw_below_drewN | apply below_drew1) | exact HB.out)))); have n3_ := Aside0.mk (below_step (by repeat (first | (with_reducible first | exact HB.out | apply below_alloc | apply pw_below_drewN | apply below_drew1) | exact HB.out)) hb); clear HO_8; clear HO_10; clear HB; have HO_8 := n0_; have HO_10 := n1_; have HO374 := n2_; have HB := n3_; clear n0_ n1_ n2_ n3_; (try clear hb); (try clear hb2); (try clear hk); (try clear hi); (try clear ho0); obtain ⟨Ao42, co42, eo42⟩ := Kd.R_slice HO_10.out; subst eo42; obtain ⟨Ao43, co43, eo43⟩ := Kd.R_slice HO374.out; subst eo43) | (go_at_call 13; (with_reducible refine (secateurref02_Nums.calls kj17 _ _ t362 _ _ t371 true _ ?side1 ?side2 ?side3 ?side4 A37.out).mono ?_); (case side1 => repeat (first | exact (Kd.R_reads' HO_10.out).2.2 | (with_reducible refine Kd.C_alloc ?_ _) | (with_reducible refine Kd.C_drewN ?_ _) | (with_reducible refine Kd.C_drew ?_))); (case side2 => exact (Kd.R_reads' HO_10.out).2.1); (case side3 => repeat (first | exact (Kd.R_reads' HO374.out).2.2 | (with_reducible refine Kd.C_alloc ?_ _) | (with_reducible refine Kd.C_drewN ?_ _) | (with_reducible refine Kd.C_drew ?_))); (case side4 => exact (Kd.R_reads' HO374.out).2.1); rintro e w' ⟨rfl, ⟨nd, rfl⟩⟩) | (go_at_call 11; (with_reducible refine (secateurlaw15_fixed.calls kj17  t376 _ A39.out).mono ?_); rintro e w44 ⟨rfl, hb⟩; have n0_ := Aside0.mk (Kd.R_below (by (with_reducible repeat (first | apply Kd.R_alloc | apply Kd.R_drewN | apply Kd.R_drew)); exact HO_8.out) hb); have n1_ := Aside0.mk (Kd.R_below (by (with_reducible repeat (first | apply Kd.R_alloc | apply Kd.R_drewN | apply Kd.R_drew)); exact HO_10.out) hb); have n2_ := Aside0.mk (Kd.R_below (by (with_reducible repeat (first | apply Kd.R_alloc | apply Kd.R_drewN | apply Kd.R_drew)); exact HO374.out) hb); have n3_ := Aside0.mk (below_step (by repeat (first | (with_reducible first | exact HB.out | apply below_alloc | apply pw_below_drewN | apply below_drew1) | exact HB.out)) hb); clear HO_8; clear HO_10; clear HO374; clear HB; have HO_8 := n0_; have HO_10 := n1_; have HO374 := n2_; have HB := n3_; clear n0_ n1_ n2_ n3_; (try clear hb); (try clear hb2); (try clear hk); (try clear hi)))
                              go_ret
                              exact ⟨by first | rfl | (simp [errW_none, errW_some] <;> rfl) | (simp only [← hji4, ← hji7, ← hji10]; first | rfl | (simp [errW_none, errW_some] <;> rfl)) | (simp [*, errW_none, errW_some] <;> rfl), by repeat (first | (with_reducible first | exact HB.out | apply below_alloc | apply pw_below_drewN | apply below_drew1) | exact HB.out)⟩
                            · replace c38 := Bool.eq_false_iff.mpr c38
                              subst c38
                              have H1 : (some false) = some r := by rw [if_neg (show ¬ (false = true) by decide)] at H; exact H
                              clear H
                              have H := H1
                              clear H1
                              obtain rfl := Option.some.inj H
                              obtain ⟨Ao45, co45, eo45⟩ := Kd.R_slice HO_8.out
                              subst eo45
                              go_wp2_with (first | ((with_reducible refine gate_callee (f := 18) rfl ?_); refine goesL_ (some 73) rfl rfl Try.func18 (by kernel_rfl) rfl #[.slice A0 y337.length c0, .slice Ao45 t358.length co45] rfl (by (try simp only [List.map_toArray, List.map_cons, List.map_nil]); first | done | rfl | (simp only [List.length_drop, List.length_take]; rfl)) ?_; (with_reducible refine (steps_Replay.calls kj17 _ _ y337 _ _ t358 t371 t372 _ ?side1 ?side2 ?side3 ?side4 A35.out).mono ?_); (case side1 => repeat (first | exact (Kd.C_below HR340.out HB.out) | (with_reducible refine Kd.C_alloc ?_ _) | (with_reducible refine Kd.C_drewN ?_ _) | (with_reducible refine Kd.C_drew ?_))); (case side2 => exact HC340.out); (case side3 => repeat (first | exact (Kd.R_reads' HO_8.out).2.2 | (with_reducible refine Kd.C_alloc ?_ _) | (with_reducible refine Kd.C_drewN ?_ _) | (with_reducible refine Kd.C_drew ?_))); (case side4 => exact (Kd.R_reads' HO_8.out).2.1); rintro e w46 ⟨v373, rfl, ho0, hb⟩; refine ⟨_, rfl, ?_⟩; have n0_ := Aside0.mk (Kd.R_elder' (by (with_reducible repeat (first | apply Kd.R_alloc | apply Kd.R_drewN | apply Kd.R_drew)); exact HO_8.out) (Kd.R_base ho0) hb); have n1_ := Aside0.mk (Kd.R_elder' (by (with_reducible repeat (first | apply Kd.R_alloc | apply Kd.R_drewN | apply Kd.R_drew)); exact HO_10.out) (Kd.R_base ho0) hb); have n2_ := Aside0.mk (Kd.R_lower (Kd.R_new' (Kd.R_new' ho0 (Kd.R_lt (by (with_reducible repeat (first | apply Kd.R_alloc | apply Kd.R_drewN | apply Kd.R_drew)); exact HO_8.out))) (Kd.R_lt (by (with_reducible repeat (first | apply Kd.R_alloc | apply Kd.R_drewN | apply Kd.R_drew)); exact HO_10.out))) (below_size (by repeat (first | (with_reducible first | exact HB.out | apply below_alloc | apply pw_below_drewN | apply below_drew1) | exact HB.out)))); have n3_ := Aside0.mk (below_step (by repeat (first | (with_reducible first | exact HB.out | apply below_alloc | apply pw_below_drewN | apply below_drew1) | exact HB.out)) hb); clear HO_8; clear HO_10; clear HB; have HO_8 := n0_; have HO_10 := n1_; have HO374 := n2_; have HB := n3_; clear n0_ n1_ n2_ n3_; (try clear hb); (try clear hb2); (try clear hk); (try clear hi); (try clear ho0); obtain ⟨Ao47, co47, eo47⟩ := Kd.R_slice HO_10.out; subst eo47; obtain ⟨Ao48, co48, eo48⟩ := Kd.R_slice HO374.out; subst eo48) | (go_at_call 13; (with_reducible refine (secateurref02_Nums.calls kj17 _ _ t362 _ _ t371 false _ ?side1 ?side2 ?side3 ?side4 A37.out).mono ?_); (case side1 => repeat (first | exact (Kd.R_reads' HO_10.out).2.2 | (with_reducible refine Kd.C_alloc ?_ _) | (with_reducible refine Kd.C_drewN ?_ _) | (with_reducible refine Kd.C_drew ?_))); (case side2 => exact (Kd.R_reads' HO_10.out).2.1); (case side3 => repeat (first | exact (Kd.R_reads' HO374.out).2.2 | (with_reducible refine Kd.C_alloc ?_ _) | (with_reducible refine Kd.C_drewN ?_ _) | (with_reducible refine Kd.C_drew ?_))); (case side4 => exact (Kd.R_reads' HO374.out).2.1); rintro e w' ⟨rfl, ⟨nd, rfl⟩⟩))
                              go_ret
                              exact ⟨by first | rfl | (simp [errW_none, errW_some] <;> rfl) | (simp only [← hji4, ← hji7, ← hji10]; first | rfl | (simp [errW_none, errW_some] <;> rfl)) | (simp [*, errW_none, errW_some] <;> rfl), by repeat (first | (with_reducible first | exact HB.out | apply below_alloc | apply pw_below_drewN | apply below_drew1) | exact HB.out)⟩
                          · rw [if_neg c36] at H
                            have c36b0 : (t363 == t372) = false := beq_eq_false_iff_ne.mpr c36
                            have c36b1 : (t363 != t372) = true := bne_iff_ne.mpr c36
                            obtain rfl := Option.some.inj H
                            obtain ⟨Ao49, co49, eo49⟩ := Kd.R_slice HO_8.out
                            subst eo49
                            go_wp2_with (first | ((with_reducible refine gate_callee (f := 18) rfl ?_); refine goesL_ (some 73) rfl rfl Try.func18 (by kernel_rfl) rfl #[.slice A0 y337.length c0, .slice Ao49 t358.length co49] rfl (by (try simp only [List.map_toArray, List.map_cons, List.map_nil]); first | done | rfl | (simp only [List.length_drop, List.length_take]; rfl)) ?_; (with_reducible refine (steps_Replay.calls kj17 _ _ y337 _ _ t358 t371 t372 _ ?side1 ?side2 ?side3 ?side4 A35.out).mono ?_); (case side1 => repeat (first | exact (Kd.C_below HR340.out HB.out) | (with_reducible refine Kd.C_alloc ?_ _) | (with_reducible refine Kd.C_drewN ?_ _) | (with_reducible refine Kd.C_drew ?_))); (case side2 => exact HC340.out); (case side3 => repeat (first | exact (Kd.R_reads' HO_8.out).2.2 | (with_reducible refine Kd.C_alloc ?_ _) | (with_reducible refine Kd.C_drewN ?_ _) | (with_reducible refine Kd.C_drew ?_))); (case side4 => exact (Kd.R_reads' HO_8.out).2.1); rintro e w50 ⟨v373, rfl, ho0, hb⟩; refine ⟨_, rfl, ?_⟩; have n0_ := Aside0.mk (Kd.R_elder' (by (with_reducible repeat (first | apply Kd.R_alloc | apply Kd.R_drewN | apply Kd.R_drew)); exact HO_8.out) (Kd.R_base ho0) hb); have n1_ := Aside0.mk (Kd.R_elder' (by (with_reducible repeat (first | apply Kd.R_alloc | apply Kd.R_drewN | apply Kd.R_drew)); exact HO_10.out) (Kd.R_base ho0) hb); have n2_ := Aside0.mk (Kd.R_lower (Kd.R_new' (Kd.R_new' ho0 (Kd.R_lt (by (with_reducible repeat (first | apply Kd.R_alloc | apply Kd.R_drewN | apply Kd.R_drew)); exact HO_8.out))) (Kd.R_lt (by (with_reducible repeat (first | apply Kd.R_alloc | apply Kd.R_drewN | apply Kd.R_drew)); exact HO_10.out))) (below_size (by repeat (first | (with_reducible first | exact HB.out | apply below_alloc | apply pw_below_drewN | apply below_drew1) | exact HB.out)))); have n3_ := Aside0.mk (below_step (by repeat (first | (with_reducible first | exact HB.out | apply below_alloc | apply pw_below_drewN | apply below_drew1) | exact HB.out)) hb); clear HO_8; clear HO_10; clear HB; have HO_8 := n0_; have HO_10 := n1_; have HO374 := n2_; have HB := n3_; clear n0_ n1_ n2_ n3_; (try clear hb); (try clear hb2); (try clear hk); (try clear hi); (try clear ho0)))
                            go_ret
                            exact ⟨by first | rfl | (simp [errW_none, errW_some] <;> rfl) | (simp only [← hji4, ← hji7, ← hji10]; first | rfl | (simp [errW_none, errW_some] <;> rfl)) | (simp [*, errW_none, errW_some] <;> rfl), by repeat (first | (with_reducible first | exact HB.out | apply below_alloc | apply pw_below_drewN | apply below_drew1) | exact HB.out)⟩
                        · rw [if_neg c34] at H
                          have c34b0 : (t359 == 0) = false := beq_eq_false_iff_ne.mpr c34
                          have c34b1 : (t359 != 0) = true := bne_iff_ne.mpr c34
                          by_cases c51 : t363 = t359
                          · rw [if_pos c51] at H
                            have c51b0 : (t363 == t359) = true := beq_iff_eq.mpr c51
                            have c51b1 : (t363 != t359) = false := bne_eq_false_iff_eq.mpr c51
                            clear c51
                            replace H := Option.bind_eq_some_iff.mp H
                            obtain ⟨t377, A520, H⟩ := H
                            replace H : (some t377) = some r := H
                            have A52 := Aside0.mk A520
                            clear A520
                            obtain rfl := Option.some.inj H
                            go_wp2_with (first | (go_at_call 11; (with_reducible refine (secateurlaw15_fixed.calls kj17  t377 _ A52.out).mono ?_); rintro e w53 ⟨rfl, hb⟩; have n0_ := Aside0.mk (Kd.R_below (by (with_reducible repeat (first | apply Kd.R_alloc | apply Kd.R_drewN | apply Kd.R_drew)); exact HO_8.out) hb); have n1_ := Aside0.mk (Kd.R_below (by (with_reducible repeat (first | apply Kd.R_alloc | apply Kd.R_drewN | apply Kd.R_drew)); exact HO_10.out) hb); have n2_ := Aside0.mk (below_step (by repeat (first | (with_reducible first | exact HB.out | apply below_alloc | apply pw_below_drewN | apply below_drew1) | exact HB.out)) hb); clear HO_8; clear HO_10; clear HB; have HO_8 := n0_; have HO_10 := n1_; have HB := n2_; clear n0_ n1_ n2_; (try clear hb); (try clear hb2); (try clear hk); (try clear hi)))
                            go_ret
                            exact ⟨by first | rfl | (simp [errW_none, errW_some] <;> rfl) | (simp only [← hji4, ← hji7, ← hji10]; first | rfl | (simp [errW_none, errW_some] <;> rfl)) | (simp [*, errW_none, errW_some] <;> rfl), by repeat (first | (with_reducible first | exact HB.out | apply below_alloc | apply pw_below_drewN | apply below_drew1) | exact HB.out)⟩
                          · rw [if_neg c51] at H
                            have c51b0 : (t363 == t359) = false := beq_eq_false_iff_ne.mpr c51
                            have c51b1 : (t363 != t359) = true := bne_iff_ne.mpr c51
                            obtain rfl := Option.some.inj H
                            go_wp2
                            go_ret
                            exact ⟨by first | rfl | (simp [errW_none, errW_some] <;> rfl) | (simp only [← hji4, ← hji7, ← hji10]; first | rfl | (simp [errW_none, errW_some] <;> rfl)) | (simp [*, errW_none, errW_some] <;> rfl), by repeat (first | (with_reducible first | exact HB.out | apply below_alloc | apply pw_below_drewN | apply below_drew1) | exact HB.out)⟩
                · rw [if_neg c14] at H
                  exact absurd H (by simp)
              · rw [if_neg c13] at H
                exact absurd H (by simp)
            · rw [if_neg c12] at H
              exact absurd H (by simp)
          · rw [if_neg c11] at H
            exact absurd H (by simp)
        · rw [if_neg c9] at H
          exact absurd H (by simp)
      · rw [if_neg c8] at H
        exact absurd H (by simp)
    · rw [if_neg c6] at H
      exact absurd H (by simp)
  · rw [if_neg c5] at H
    exact absurd H (by simp)

end Go.Proofs.Ytommjjjlljmpbaa.PSteps
