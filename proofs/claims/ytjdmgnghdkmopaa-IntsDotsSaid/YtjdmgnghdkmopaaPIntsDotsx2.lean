-- PRINTED BY print.sh 35421559b90ae4d0a3588c463048766b98c2df88dd9212a6774a882060cdf62d: not written by this session
import Derived.Test.YtjdmgnghdkmopaaPIntsDotsx0
import Derived.Test.YtjdmgnghdkmopaaPIntsDotsx1
namespace Go.Proofs.Ytjdmgnghdkmopaa.PIntsDots
open Go.RowKit Go.Proofs.YtjdmgnghdkmopaaW.PrintWords Go.Proofs.YtjdmgnghdkmopaaW.PrintLast Go.Proofs.YtjdmgnghdkmopaaW.PrintMore
attribute [local go_sem] max2_int min2_int max_two min_two max_three min_three max_four min_four   -- for this text's walks alone
set_option linter.unusedVariables false
set_option linter.unusedSimpArgs false

/-! ### secateurref01_Add: function 24 -/
def secateurref01_Add.j0 : Nat → Int → Int → Bool → Option (Int × Bool)
  | 0, _, _, _ => none
  | k + 1, x0, x1, x15 => if x15 = true then (some (0, false)) else (if (wrap64 ((wrap64 (Int.tdiv x0 2)) + (wrap64 (Int.tdiv x1 2)))) > 2305843009213693952 then (some (0, false)) else (if (wrap64 ((wrap64 (Int.tdiv x0 2)) + (wrap64 (Int.tdiv x1 2)))) < (-2305843009213693952) then (some (0, false)) else (if (wrap64 ((wrap64 (Int.tdiv x0 2)) + (wrap64 (Int.tdiv x1 2)))) = 2305843009213693952 then (if (wrap64 ((Int.tmod x0 2) + (Int.tmod x1 2))) > 0 then (some (0, false)) else (if (wrap64 ((wrap64 (Int.tdiv x0 2)) + (wrap64 (Int.tdiv x1 2)))) = (-2305843009213693952) then (if (wrap64 ((Int.tmod x0 2) + (Int.tmod x1 2))) < 0 then (some (0, false)) else (some (wrap64 ((wrap64 (2 * (wrap64 ((wrap64 (Int.tdiv x0 2)) + (wrap64 (Int.tdiv x1 2)))))) + (wrap64 ((Int.tmod x0 2) + (Int.tmod x1 2)))), true))) else (some (wrap64 ((wrap64 (2 * (wrap64 ((wrap64 (Int.tdiv x0 2)) + (wrap64 (Int.tdiv x1 2)))))) + (wrap64 ((Int.tmod x0 2) + (Int.tmod x1 2)))), true)))) else (if (wrap64 ((wrap64 (Int.tdiv x0 2)) + (wrap64 (Int.tdiv x1 2)))) = (-2305843009213693952) then (if (wrap64 ((Int.tmod x0 2) + (Int.tmod x1 2))) < 0 then (some (0, false)) else (some (wrap64 ((wrap64 (2 * (wrap64 ((wrap64 (Int.tdiv x0 2)) + (wrap64 (Int.tdiv x1 2)))))) + (wrap64 ((Int.tmod x0 2) + (Int.tmod x1 2)))), true))) else (some (wrap64 ((wrap64 (2 * (wrap64 ((wrap64 (Int.tdiv x0 2)) + (wrap64 (Int.tdiv x1 2)))))) + (wrap64 ((Int.tmod x0 2) + (Int.tmod x1 2)))), true))))))
def secateurref01_Add.f (k : Nat) (a0 : Int) (a1 : Int) : Option (Int × Bool) := (secateurref01_Small.f a0).bind fun t132 => (if t132 = true then ((secateurref01_Small.f a1).bind fun t133 => (secateurref01_Add.j0 k a0 a1 (!t133))) else (secateurref01_Add.j0 k a0 a1 true))
theorem secateurref01_Add.mono_l : ∀ k, (∀ y0 y1 y2, LeO (secateurref01_Add.j0 k y0 y1 y2) (secateurref01_Add.j0 (k + 1) y0 y1 y2))
  | 0 => fun _ _ _ r h => by simp [secateurref01_Add.j0] at h
  | k + 1 => by
    have ih0 := secateurref01_Add.mono_l k
    · intro y0 y1 y2
      unfold secateurref01_Add.j0
      repeat' first
      | (with_reducible exact ih0 _ _ _)
      | (with_reducible exact LeO.refl _)
      | (with_reducible exact LeO.none _)
      | (with_reducible refine LeO.ite ?_ ?_)
      | (with_reducible refine LeO.bind ?_ (fun _ => ?_))
      | exact ih0 _ _ _
      | exact LeO.none _
      | refine LeO.ite ?_ ?_
      | refine LeO.bind ?_ (fun _ => ?_)
theorem secateurref01_Add.mono : ∀ a0 a1 k, LeO (secateurref01_Add.f k a0 a1) (secateurref01_Add.f (k + 1) a0 a1) := by
  intro a0 a1 k
  have ih0 := secateurref01_Add.mono_l k
  unfold secateurref01_Add.f
  repeat' first
      | (with_reducible exact ih0 _ _ _)
      | (with_reducible exact LeO.refl _)
      | (with_reducible exact LeO.none _)
      | (with_reducible refine LeO.ite ?_ ?_)
      | (with_reducible refine LeO.bind ?_ (fun _ => ?_))
      | exact ih0 _ _ _
      | exact LeO.none _
      | refine LeO.ite ?_ ?_
      | refine LeO.bind ?_ (fun _ => ?_)
set_option maxHeartbeats 8000000 in
set_option maxRecDepth 100000 in
theorem secateurref01_Add.calls (k : Nat) (a0 : Int) (a1 : Int) (r1 : Int) (r2 : Bool) (w : World) (h : secateurref01_Add.f k a0 a1 = some (r1, r2)) :
    Calls Try.prog 24 #[.int .i64 a0, .int .i64 a1] w fun e w' => e = .returned (.tuple #[.int .i64 r1, .bool r2]) ∧ Drawn0 w w' := by
  have H : ((secateurref01_Small.f a0).bind fun t132 => (if t132 = true then ((secateurref01_Small.f a1).bind fun t133 => (secateurref01_Add.j0 k a0 a1 (!t133))) else (secateurref01_Add.j0 k a0 a1 true))) = some (r1, r2) := h
  clear h
  have HC3 := Aside0.mk H
  clear H
  go_enter Try.func24, Try.ntmps24
  go_upto_region 1 with (fail)
  go_cut [15] (fun v15 wc => ∃ (kq : Nat) (x15_2 : Bool), v15 = .bool x15_2 ∧ Aside0 (secateurref01_Add.j0 kq a0 a1 x15_2 = some (r1, r2)) ∧ Aside0 (kq ≤ k) ∧ Drawn0 w wc)
  case first =>
    have H := HC3.out
    clear HC3
    replace H := Option.bind_eq_some_iff.mp H
    obtain ⟨t132, A40, H⟩ := H
    replace H : (if t132 = true then ((secateurref01_Small.f a1).bind fun t133 => (secateurref01_Add.j0 k a0 a1 (!t133))) else (secateurref01_Add.j0 k a0 a1 true)) = some (r1, r2) := H
    have A4 := Aside0.mk A40
    clear A40
    by_cases c5 : t132 = true
    · subst c5
      have H1 : ((secateurref01_Small.f a1).bind fun t133 => (secateurref01_Add.j0 k a0 a1 (!t133))) = some (r1, r2) := by rw [if_pos rfl] at H; exact H
      clear H
      have H := H1
      clear H1
      replace H := Option.bind_eq_some_iff.mp H
      obtain ⟨t133, A60, H⟩ := H
      replace H : (secateurref01_Add.j0 k a0 a1 (!t133)) = some (r1, r2) := H
      have A6 := Aside0.mk A60
      clear A60
      have H' := Aside0.mk H
      clear H
      go_wp2_with (first | ((with_reducible refine gate_callee (f := 29) rfl ?_); refine goesL_ (some 9) rfl rfl Try.func29 (by kernel_rfl) rfl #[.int .i64 a0] rfl (by (try simp only [List.map_toArray, List.map_cons, List.map_nil]); first | done | rfl | (simp only [List.length_drop, List.length_take]; rfl)) ?_; (with_reducible refine (secateurref01_Small.calls a0 true _ A4.out).mono ?_); rintro e w' ⟨rfl, ⟨nd, rfl⟩⟩; refine ⟨_, rfl, ?_⟩) | (go_at_call 29; (with_reducible refine (secateurref01_Small.calls a1 t133 _ A6.out).mono ?_); rintro e w' ⟨rfl, ⟨nd, rfl⟩⟩))
      go_meet
      case rel => exact ⟨_, (!t133), (by first | rfl | (simp; done) | (simp [*]; done)), H', ⟨by first | omega | exact Nat.le_refl _⟩, by repeat (first | exact Drawn0.refl _ | apply Drawn0.step)⟩
    · replace c5 := Bool.eq_false_iff.mpr c5
      subst c5
      have H1 : (secateurref01_Add.j0 k a0 a1 true) = some (r1, r2) := by rw [if_neg (show ¬ (false = true) by decide)] at H; exact H
      clear H
      have H := H1
      clear H1
      have H' := Aside0.mk H
      clear H
      go_wp2_with (first | ((with_reducible refine gate_callee (f := 29) rfl ?_); refine goesL_ (some 9) rfl rfl Try.func29 (by kernel_rfl) rfl #[.int .i64 a0] rfl (by (try simp only [List.map_toArray, List.map_cons, List.map_nil]); first | done | rfl | (simp only [List.length_drop, List.length_take]; rfl)) ?_; (with_reducible refine (secateurref01_Small.calls a0 false _ A4.out).mono ?_); rintro e w' ⟨rfl, ⟨nd, rfl⟩⟩; refine ⟨_, rfl, ?_⟩))
      go_meet
      case rel => exact ⟨_, (true), (by first | rfl | (simp; done) | (simp [*]; done)), H', ⟨by first | omega | exact Nat.le_refl _⟩, by repeat (first | exact Drawn0.refl _ | apply Drawn0.step)⟩
  case rest =>
    clear HC3
    try clear c2
    try clear p2
    try clear c5
    obtain ⟨kq, x15_2, rfl, HA, HJ2, ⟨mc2, rfl⟩⟩ := hcut
    cases kq with
    | zero => exact absurd HA.out (by simp [secateurref01_Add.j0])
    | succ kj2 =>
      have H := HA.out
      clear HA
      simp only [secateurref01_Add.j0] at H
      by_cases c7 : x15_2 = true
      · subst c7
        have H1 : (some (0, false)) = some (r1, r2) := by rw [if_pos rfl] at H; exact H
        clear H
        have H := H1
        clear H1
        simp only [Option.some.injEq, Prod.mk.injEq] at H
        obtain ⟨rfl, rfl⟩ := H
        go_wp2
        go_ret2
        exact ⟨by first | rfl | (simp; done) | (simp [*]; done), by repeat (first | exact Drawn0.refl _ | apply Drawn0.step)⟩
      · replace c7 := Bool.eq_false_iff.mpr c7
        subst c7
        have H1 : (if (wrap64 ((wrap64 (Int.tdiv a0 2)) + (wrap64 (Int.tdiv a1 2)))) > 2305843009213693952 then (some (0, false)) else (if (wrap64 ((wrap64 (Int.tdiv a0 2)) + (wrap64 (Int.tdiv a1 2)))) < (-2305843009213693952) then (some (0, false)) else (if (wrap64 ((wrap64 (Int.tdiv a0 2)) + (wrap64 (Int.tdiv a1 2)))) = 2305843009213693952 then (if (wrap64 ((Int.tmod a0 2) + (Int.tmod a1 2))) > 0 then (some (0, false)) else (if (wrap64 ((wrap64 (Int.tdiv a0 2)) + (wrap64 (Int.tdiv a1 2)))) = (-2305843009213693952) then (if (wrap64 ((Int.tmod a0 2) + (Int.tmod a1 2))) < 0 then (some (0, false)) else (some (wrap64 ((wrap64 (2 * (wrap64 ((wrap64 (Int.tdiv a0 2)) + (wrap64 (Int.tdiv a1 2)))))) + (wrap64 ((Int.tmod a0 2) + (Int.tmod a1 2)))), true))) else (some (wrap64 ((wrap64 (2 * (wrap64 ((wrap64 (Int.tdiv a0 2)) + (wrap64 (Int.tdiv a1 2)))))) + (wrap64 ((Int.tmod a0 2) + (Int.tmod a1 2)))), true)))) else (if (wrap64 ((wrap64 (Int.tdiv a0 2)) + (wrap64 (Int.tdiv a1 2)))) = (-2305843009213693952) then (if (wrap64 ((Int.tmod a0 2) + (Int.tmod a1 2))) < 0 then (some (0, false)) else (some (wrap64 ((wrap64 (2 * (wrap64 ((wrap64 (Int.tdiv a0 2)) + (wrap64 (Int.tdiv a1 2)))))) + (wrap64 ((Int.tmod a0 2) + (Int.tmod a1 2)))), true))) else (some (wrap64 ((wrap64 (2 * (wrap64 ((wrap64 (Int.tdiv a0 2)) + (wrap64 (Int.tdiv a1 2)))))) + (wrap64 ((Int.tmod a0 2) + (Int.tmod a1 2)))), true)))))) = some (r1, r2) := by rw [if_neg (show ¬ (false = true) by decide)] at H; exact H
        clear H
        have H := H1
        clear H1
        by_cases c8 : (wrap64 ((wrap64 (Int.tdiv a0 2)) + (wrap64 (Int.tdiv a1 2)))) > 2305843009213693952
        · rw [if_pos c8] at H
          have c8b0 : decide (2305843009213693952 < (wrap64 ((wrap64 (Int.tdiv a0 2)) + (wrap64 (Int.tdiv a1 2))))) = true := decide_eq_true c8
          clear c8
          simp only [Option.some.injEq, Prod.mk.injEq] at H
          obtain ⟨rfl, rfl⟩ := H
          go_wp2
          go_ret2
          exact ⟨by first | rfl | (simp; done) | (simp [*]; done), by repeat (first | exact Drawn0.refl _ | apply Drawn0.step)⟩
        · rw [if_neg c8] at H
          have c8b0 : decide (2305843009213693952 < (wrap64 ((wrap64 (Int.tdiv a0 2)) + (wrap64 (Int.tdiv a1 2))))) = false := decide_eq_false c8
          clear c8
          by_cases c9 : (wrap64 ((wrap64 (Int.tdiv a0 2)) + (wrap64 (Int.tdiv a1 2)))) < (-2305843009213693952)
          · rw [if_pos c9] at H
            have c9b0 : decide ((wrap64 ((wrap64 (Int.tdiv a0 2)) + (wrap64 (Int.tdiv a1 2)))) < (-2305843009213693952)) = true := decide_eq_true c9
            clear c9
            simp only [Option.some.injEq, Prod.mk.injEq] at H
            obtain ⟨rfl, rfl⟩ := H
            go_wp2
            go_ret2
            exact ⟨by first | rfl | (simp; done) | (simp [*]; done), by repeat (first | exact Drawn0.refl _ | apply Drawn0.step)⟩
          · rw [if_neg c9] at H
            have c9b0 : decide ((wrap64 ((wrap64 (Int.tdiv a0 2)) + (wrap64 (Int.tdiv a1 2)))) < (-2305843009213693952)) = false := decide_eq_false c9
            clear c9
            by_cases c10 : (wrap64 ((wrap64 (Int.tdiv a0 2)) + (wrap64 (Int.tdiv a1 2)))) = 2305843009213693952
            · rw [if_pos c10] at H
              have c10b0 : ((wrap64 ((wrap64 (Int.tdiv a0 2)) + (wrap64 (Int.tdiv a1 2)))) == 2305843009213693952) = true := beq_iff_eq.mpr c10
              have c10b1 : ((wrap64 ((wrap64 (Int.tdiv a0 2)) + (wrap64 (Int.tdiv a1 2)))) != 2305843009213693952) = false := bne_eq_false_iff_eq.mpr c10
              clear c10
              by_cases c11 : (wrap64 ((Int.tmod a0 2) + (Int.tmod a1 2))) > 0
              · rw [if_pos c11] at H
                have c11b0 : decide (0 < (wrap64 ((Int.tmod a0 2) + (Int.tmod a1 2)))) = true := decide_eq_true c11
                clear c11
                simp only [Option.some.injEq, Prod.mk.injEq] at H
                obtain ⟨rfl, rfl⟩ := H
                go_wp2
                go_ret2
                exact ⟨by first | rfl | (simp; done) | (simp [*]; done), by repeat (first | exact Drawn0.refl _ | apply Drawn0.step)⟩
              · rw [if_neg c11] at H
                have c11b0 : decide (0 < (wrap64 ((Int.tmod a0 2) + (Int.tmod a1 2)))) = false := decide_eq_false c11
                clear c11
                by_cases c12 : (wrap64 ((wrap64 (Int.tdiv a0 2)) + (wrap64 (Int.tdiv a1 2)))) = (-2305843009213693952)
                · rw [if_pos c12] at H
                  have c12b0 : ((wrap64 ((wrap64 (Int.tdiv a0 2)) + (wrap64 (Int.tdiv a1 2)))) == (-2305843009213693952)) = true := beq_iff_eq.mpr c12
                  have c12b1 : ((wrap64 ((wrap64 (Int.tdiv a0 2)) + (wrap64 (Int.tdiv a1 2)))) != (-2305843009213693952)) = false := bne_eq_false_iff_eq.mpr c12
                  clear c12
                  by_cases c13 : (wrap64 ((Int.tmod a0 2) + (Int.tmod a1 2))) < 0
                  · rw [if_pos c13] at H
                    have c13b0 : decide ((wrap64 ((Int.tmod a0 2) + (Int.tmod a1 2))) < 0) = true := decide_eq_true c13
                    clear c13
                    simp only [Option.some.injEq, Prod.mk.injEq] at H
                    obtain ⟨rfl, rfl⟩ := H
                    go_wp2
                    go_ret2
                    exact ⟨by first | rfl | (simp; done) | (simp [*]; done), by repeat (first | exact Drawn0.refl _ | apply Drawn0.step)⟩
                  · rw [if_neg c13] at H
                    have c13b0 : decide ((wrap64 ((Int.tmod a0 2) + (Int.tmod a1 2))) < 0) = false := decide_eq_false c13
                    clear c13
                    simp only [Option.some.injEq, Prod.mk.injEq] at H
                    obtain ⟨rfl, rfl⟩ := H
                    go_wp2
                    go_ret2
                    exact ⟨by first | rfl | (simp; done) | (simp [*]; done), by repeat (first | exact Drawn0.refl _ | apply Drawn0.step)⟩
                · rw [if_neg c12] at H
                  have c12b0 : ((wrap64 ((wrap64 (Int.tdiv a0 2)) + (wrap64 (Int.tdiv a1 2)))) == (-2305843009213693952)) = false := beq_eq_false_iff_ne.mpr c12
                  have c12b1 : ((wrap64 ((wrap64 (Int.tdiv a0 2)) + (wrap64 (Int.tdiv a1 2)))) != (-2305843009213693952)) = true := bne_iff_ne.mpr c12
                  simp only [Option.some.injEq, Prod.mk.injEq] at H
                  obtain ⟨rfl, rfl⟩ := H
                  go_wp2
                  go_ret2
                  exact ⟨by first | rfl | (simp; done) | (simp [*]; done), by repeat (first | exact Drawn0.refl _ | apply Drawn0.step)⟩
            · rw [if_neg c10] at H
              have c10b0 : ((wrap64 ((wrap64 (Int.tdiv a0 2)) + (wrap64 (Int.tdiv a1 2)))) == 2305843009213693952) = false := beq_eq_false_iff_ne.mpr c10
              have c10b1 : ((wrap64 ((wrap64 (Int.tdiv a0 2)) + (wrap64 (Int.tdiv a1 2)))) != 2305843009213693952) = true := bne_iff_ne.mpr c10
              by_cases c14 : (wrap64 ((wrap64 (Int.tdiv a0 2)) + (wrap64 (Int.tdiv a1 2)))) = (-2305843009213693952)
              · rw [if_pos c14] at H
                have c14b0 : ((wrap64 ((wrap64 (Int.tdiv a0 2)) + (wrap64 (Int.tdiv a1 2)))) == (-2305843009213693952)) = true := beq_iff_eq.mpr c14
                have c14b1 : ((wrap64 ((wrap64 (Int.tdiv a0 2)) + (wrap64 (Int.tdiv a1 2)))) != (-2305843009213693952)) = false := bne_eq_false_iff_eq.mpr c14
                clear c14
                by_cases c15 : (wrap64 ((Int.tmod a0 2) + (Int.tmod a1 2))) < 0
                · rw [if_pos c15] at H
                  have c15b0 : decide ((wrap64 ((Int.tmod a0 2) + (Int.tmod a1 2))) < 0) = true := decide_eq_true c15
                  clear c15
                  simp only [Option.some.injEq, Prod.mk.injEq] at H
                  obtain ⟨rfl, rfl⟩ := H
                  go_wp2
                  go_ret2
                  exact ⟨by first | rfl | (simp; done) | (simp [*]; done), by repeat (first | exact Drawn0.refl _ | apply Drawn0.step)⟩
                · rw [if_neg c15] at H
                  have c15b0 : decide ((wrap64 ((Int.tmod a0 2) + (Int.tmod a1 2))) < 0) = false := decide_eq_false c15
                  clear c15
                  simp only [Option.some.injEq, Prod.mk.injEq] at H
                  obtain ⟨rfl, rfl⟩ := H
                  go_wp2
                  go_ret2
                  exact ⟨by first | rfl | (simp; done) | (simp [*]; done), by repeat (first | exact Drawn0.refl _ | apply Drawn0.step)⟩
              · rw [if_neg c14] at H
                have c14b0 : ((wrap64 ((wrap64 (Int.tdiv a0 2)) + (wrap64 (Int.tdiv a1 2)))) == (-2305843009213693952)) = false := beq_eq_false_iff_ne.mpr c14
                have c14b1 : ((wrap64 ((wrap64 (Int.tdiv a0 2)) + (wrap64 (Int.tdiv a1 2)))) != (-2305843009213693952)) = true := bne_iff_ne.mpr c14
                simp only [Option.some.injEq, Prod.mk.injEq] at H
                obtain ⟨rfl, rfl⟩ := H
                go_wp2
                go_ret2
                exact ⟨by first | rfl | (simp; done) | (simp [*]; done), by repeat (first | exact Drawn0.refl _ | apply Drawn0.step)⟩

/-! ### secateurref01_Mul: function 27 -/
mutual
def secateurref01_Mul.j0 : Nat → Int → Int → Bool → Option (Int × Bool)
  | 0, _, _, _ => none
  | k + 1, x0, x1, x17 => if x17 = true then (some (0, false)) else (if x1 < 0 then (secateurref01_Mul.j1 k (wrap64 (-x0)) (wrap64 (-x1))) else (secateurref01_Mul.j1 k x0 x1))
def secateurref01_Mul.j1 : Nat → Int → Int → Option (Int × Bool)
  | 0, _, _ => none
  | k + 1, x0, x1 => secateurref01_Mul.l0 k x0 x1 0 62
def secateurref01_Mul.l0 : Nat → Int → Int → Int → Int → Option (Int × Bool)
  | 0, _, _, _, _ => none
  | k + 1, x0, x1, x6, x7 => if x7 ≥ 0 then ((secateurref01_Add.f k x6 x6).bind fun bt136 => (if bt136.2 = true then (if 0 ≤ x7 then (secateurref01_Mul.j3 k x0 x1 x7 bt136.1 bt136.2 ((Go.bits .and .i64 (shr .i64 x1 x7) 1) == 1)) else (none)) else (secateurref01_Mul.j3 k x0 x1 x7 bt136.1 bt136.2 false))) else (some (x6, true))
def secateurref01_Mul.j3 : Nat → Int → Int → Int → Int → Bool → Bool → Option (Int × Bool)
  | 0, _, _, _, _, _, _ => none
  | k + 1, x0, x1, x7, x8, x9, x41 => if x41 = true then ((secateurref01_Add.f k x8 x0).bind fun bt138 => (if bt138.2 = true then (secateurref01_Mul.l0 k x0 x1 bt138.1 (wrap64 (x7 - 1))) else (some (0, false)))) else (if x9 = true then (secateurref01_Mul.l0 k x0 x1 x8 (wrap64 (x7 - 1))) else (some (0, false)))
end
def secateurref01_Mul.f (k : Nat) (a0 : Int) (a1 : Int) : Option (Int × Bool) := (secateurref01_Small.f a0).bind fun t134 => (if t134 = true then ((secateurref01_Small.f a1).bind fun t135 => (secateurref01_Mul.j0 k a0 a1 (!t135))) else (secateurref01_Mul.j0 k a0 a1 true))
theorem secateurref01_Mul.mono_l : ∀ k, (∀ y0 y1 y2, LeO (secateurref01_Mul.j0 k y0 y1 y2) (secateurref01_Mul.j0 (k + 1) y0 y1 y2)) ∧ (∀ y0 y1, LeO (secateurref01_Mul.j1 k y0 y1) (secateurref01_Mul.j1 (k + 1) y0 y1)) ∧ (∀ y0 y1 y2 y3, LeO (secateurref01_Mul.l0 k y0 y1 y2 y3) (secateurref01_Mul.l0 (k + 1) y0 y1 y2 y3)) ∧ (∀ y0 y1 y2 y3 y4 y5, LeO (secateurref01_Mul.j3 k y0 y1 y2 y3 y4 y5) (secateurref01_Mul.j3 (k + 1) y0 y1 y2 y3 y4 y5))
  | 0 => ⟨fun _ _ _ r h => by simp [secateurref01_Mul.j0] at h, fun _ _ r h => by simp [secateurref01_Mul.j1] at h, fun _ _ _ _ r h => by simp [secateurref01_Mul.l0] at h, fun _ _ _ _ _ _ r h => by simp [secateurref01_Mul.j3] at h⟩
  | k + 1 => by
    obtain ⟨ih0, ih1, ih2, ih3⟩ := secateurref01_Mul.mono_l k
    refine ⟨?_, ?_, ?_, ?_⟩
    · intro y0 y1 y2
      unfold secateurref01_Mul.j0
      repeat' first
      | (with_reducible exact ih0 _ _ _)
      | (with_reducible exact ih1 _ _)
      | (with_reducible exact ih2 _ _ _ _)
      | (with_reducible exact ih3 _ _ _ _ _ _)
      | (with_reducible exact secateurref01_Add.mono _ _ _)
      | (with_reducible exact LeO.refl _)
      | (with_reducible exact LeO.none _)
      | (with_reducible refine LeO.ite ?_ ?_)
      | (with_reducible refine LeO.bind ?_ (fun _ => ?_))
      | exact ih0 _ _ _
      | exact ih1 _ _
      | exact ih2 _ _ _ _
      | exact ih3 _ _ _ _ _ _
      | exact secateurref01_Add.mono _ _ _
      | exact LeO.none _
      | refine LeO.ite ?_ ?_
      | refine LeO.bind ?_ (fun _ => ?_)
    · intro y0 y1
      unfold secateurref01_Mul.j1
      repeat' first
      | (with_reducible exact ih0 _ _ _)
      | (with_reducible exact ih1 _ _)
      | (with_reducible exact ih2 _ _ _ _)
      | (with_reducible exact ih3 _ _ _ _ _ _)
      | (with_reducible exact secateurref01_Add.mono _ _ _)
      | (with_reducible exact LeO.refl _)
      | (with_reducible exact LeO.none _)
      | (with_reducible refine LeO.ite ?_ ?_)
      | (with_reducible refine LeO.bind ?_ (fun _ => ?_))
      | exact ih0 _ _ _
      | exact ih1 _ _
      | exact ih2 _ _ _ _
      | exact ih3 _ _ _ _ _ _
      | exact secateurref01_Add.mono _ _ _
      | exact LeO.none _
      | refine LeO.ite ?_ ?_
      | refine LeO.bind ?_ (fun _ => ?_)
    · intro y0 y1 y2 y3
      unfold secateurref01_Mul.l0
      repeat' first
      | (with_reducible exact ih0 _ _ _)
      | (with_reducible exact ih1 _ _)
      | (with_reducible exact ih2 _ _ _ _)
      | (with_reducible exact ih3 _ _ _ _ _ _)
      | (with_reducible exact secateurref01_Add.mono _ _ _)
      | (with_reducible exact LeO.refl _)
      | (with_reducible exact LeO.none _)
      | (with_reducible refine LeO.ite ?_ ?_)
      | (with_reducible refine LeO.bind ?_ (fun _ => ?_))
      | exact ih0 _ _ _
      | exact ih1 _ _
      | exact ih2 _ _ _ _
      | exact ih3 _ _ _ _ _ _
      | exact secateurref01_Add.mono _ _ _
      | exact LeO.none _
      | refine LeO.ite ?_ ?_
      | refine LeO.bind ?_ (fun _ => ?_)
    · intro y0 y1 y2 y3 y4 y5
      unfold secateurref01_Mul.j3
      repeat' first
      | (with_reducible exact ih0 _ _ _)
      | (with_reducible exact ih1 _ _)
      | (with_reducible exact ih2 _ _ _ _)
      | (with_reducible exact ih3 _ _ _ _ _ _)
      | (with_reducible exact secateurref01_Add.mono _ _ _)
      | (with_reducible exact LeO.refl _)
      | (with_reducible exact LeO.none _)
      | (with_reducible refine LeO.ite ?_ ?_)
      | (with_reducible refine LeO.bind ?_ (fun _ => ?_))
      | exact ih0 _ _ _
      | exact ih1 _ _
      | exact ih2 _ _ _ _
      | exact ih3 _ _ _ _ _ _
      | exact secateurref01_Add.mono _ _ _
      | exact LeO.none _
      | refine LeO.ite ?_ ?_
      | refine LeO.bind ?_ (fun _ => ?_)
theorem secateurref01_Mul.mono : ∀ a0 a1 k, LeO (secateurref01_Mul.f k a0 a1) (secateurref01_Mul.f (k + 1) a0 a1) := by
  intro a0 a1 k
  obtain ⟨ih0, ih1, ih2, ih3⟩ := secateurref01_Mul.mono_l k
  unfold secateurref01_Mul.f
  repeat' first
      | (with_reducible exact ih0 _ _ _)
      | (with_reducible exact ih1 _ _)
      | (with_reducible exact ih2 _ _ _ _)
      | (with_reducible exact ih3 _ _ _ _ _ _)
      | (with_reducible exact secateurref01_Add.mono _ _ _)
      | (with_reducible exact LeO.refl _)
      | (with_reducible exact LeO.none _)
      | (with_reducible refine LeO.ite ?_ ?_)
      | (with_reducible refine LeO.bind ?_ (fun _ => ?_))
      | exact ih0 _ _ _
      | exact ih1 _ _
      | exact ih2 _ _ _ _
      | exact ih3 _ _ _ _ _ _
      | exact secateurref01_Add.mono _ _ _
      | exact LeO.none _
      | refine LeO.ite ?_ ?_
      | refine LeO.bind ?_ (fun _ => ?_)
set_option maxHeartbeats 8000000 in
set_option maxRecDepth 100000 in
theorem secateurref01_Mul.calls (k : Nat) (a0 : Int) (a1 : Int) (r1 : Int) (r2 : Bool) (w : World) (h : secateurref01_Mul.f k a0 a1 = some (r1, r2)) :
    Calls Try.prog 27 #[.int .i64 a0, .int .i64 a1] w fun e w' => e = .returned (.tuple #[.int .i64 r1, .bool r2]) ∧ Drawn0 w w' := by
  have H : ((secateurref01_Small.f a0).bind fun t134 => (if t134 = true then ((secateurref01_Small.f a1).bind fun t135 => (secateurref01_Mul.j0 k a0 a1 (!t135))) else (secateurref01_Mul.j0 k a0 a1 true))) = some (r1, r2) := h
  clear h
  have HC3 := Aside0.mk H
  clear H
  go_enter Try.func27, Try.ntmps27
  go_upto_region 1 with (fail)
  go_cut [17] (fun v17 wc => ∃ (kq : Nat) (x17_2 : Bool), v17 = .bool x17_2 ∧ Aside0 (secateurref01_Mul.j0 kq a0 a1 x17_2 = some (r1, r2)) ∧ Aside0 (kq ≤ k) ∧ Drawn0 w wc)
  case first =>
    have H := HC3.out
    clear HC3
    replace H := Option.bind_eq_some_iff.mp H
    obtain ⟨t134, A40, H⟩ := H
    replace H : (if t134 = true then ((secateurref01_Small.f a1).bind fun t135 => (secateurref01_Mul.j0 k a0 a1 (!t135))) else (secateurref01_Mul.j0 k a0 a1 true)) = some (r1, r2) := H
    have A4 := Aside0.mk A40
    clear A40
    by_cases c5 : t134 = true
    · subst c5
      have H1 : ((secateurref01_Small.f a1).bind fun t135 => (secateurref01_Mul.j0 k a0 a1 (!t135))) = some (r1, r2) := by rw [if_pos rfl] at H; exact H
      clear H
      have H := H1
      clear H1
      replace H := Option.bind_eq_some_iff.mp H
      obtain ⟨t135, A60, H⟩ := H
      replace H : (secateurref01_Mul.j0 k a0 a1 (!t135)) = some (r1, r2) := H
      have A6 := Aside0.mk A60
      clear A60
      have H' := Aside0.mk H
      clear H
      go_wp2_with (first | ((with_reducible refine gate_callee (f := 29) rfl ?_); refine goesL_ (some 11) rfl rfl Try.func29 (by kernel_rfl) rfl #[.int .i64 a0] rfl (by (try simp only [List.map_toArray, List.map_cons, List.map_nil]); first | done | rfl | (simp only [List.length_drop, List.length_take]; rfl)) ?_; (with_reducible refine (secateurref01_Small.calls a0 true _ A4.out).mono ?_); rintro e w' ⟨rfl, ⟨nd, rfl⟩⟩; refine ⟨_, rfl, ?_⟩) | (go_at_call 29; (with_reducible refine (secateurref01_Small.calls a1 t135 _ A6.out).mono ?_); rintro e w' ⟨rfl, ⟨nd, rfl⟩⟩))
      go_meet
      case rel => exact ⟨_, (!t135), (by first | rfl | (simp; done) | (simp [*]; done)), H', ⟨by first | omega | exact Nat.le_refl _⟩, by repeat (first | exact Drawn0.refl _ | apply Drawn0.step)⟩
    · replace c5 := Bool.eq_false_iff.mpr c5
      subst c5
      have H1 : (secateurref01_Mul.j0 k a0 a1 true) = some (r1, r2) := by rw [if_neg (show ¬ (false = true) by decide)] at H; exact H
      clear H
      have H := H1
      clear H1
      have H' := Aside0.mk H
      clear H
      go_wp2_with (first | ((with_reducible refine gate_callee (f := 29) rfl ?_); refine goesL_ (some 11) rfl rfl Try.func29 (by kernel_rfl) rfl #[.int .i64 a0] rfl (by (try simp only [List.map_toArray, List.map_cons, List.map_nil]); first | done | rfl | (simp only [List.length_drop, List.length_take]; rfl)) ?_; (with_reducible refine (secateurref01_Small.calls a0 false _ A4.out).mono ?_); rintro e w' ⟨rfl, ⟨nd, rfl⟩⟩; refine ⟨_, rfl, ?_⟩))
      go_meet
      case rel => exact ⟨_, (true), (by first | rfl | (simp; done) | (simp [*]; done)), H', ⟨by first | omega | exact Nat.le_refl _⟩, by repeat (first | exact Drawn0.refl _ | apply Drawn0.step)⟩
  case rest =>
    clear HC3
    try clear c2
    try clear p2
    try clear c5
    obtain ⟨kq, x17_2, rfl, HA, HJ2, ⟨mc2, rfl⟩⟩ := hcut
    cases kq with
    | zero => exact absurd HA.out (by simp [secateurref01_Mul.j0])
    | succ kj2 =>
      have H := HA.out
      clear HA
      simp only [secateurref01_Mul.j0] at H
      by_cases c7 : x17_2 = true
      · subst c7
        have H1 : (some (0, false)) = some (r1, r2) := by rw [if_pos rfl] at H; exact H
        clear H
        have H := H1
        clear H1
        simp only [Option.some.injEq, Prod.mk.injEq] at H
        obtain ⟨rfl, rfl⟩ := H
        go_wp2
        go_ret2
        exact ⟨by first | rfl | (simp; done) | (simp [*]; done), by repeat (first | exact Drawn0.refl _ | apply Drawn0.step)⟩
      · replace c7 := Bool.eq_false_iff.mpr c7
        subst c7
        have H1 : (if a1 < 0 then (secateurref01_Mul.j1 kj2 (wrap64 (-a0)) (wrap64 (-a1))) else (secateurref01_Mul.j1 kj2 a0 a1)) = some (r1, r2) := by rw [if_neg (show ¬ (false = true) by decide)] at H; exact H
        clear H
        have H := H1
        clear H1
        have HC8 := Aside0.mk H
        clear H
        go_upto_if 19 with (fail)
        go_cut [0, 1] (fun v0 v1 wc => ∃ (kq : Nat) (x0_7 : Int) (x1_7 : Int), v0 = .int .i64 x0_7 ∧ v1 = .int .i64 x1_7 ∧ Aside0 (secateurref01_Mul.j1 kq x0_7 x1_7 = some (r1, r2)) ∧ Aside0 (kq ≤ kj2) ∧ Drawn0 w wc)
        case first =>
          have H := HC8.out
          clear HC8
          by_cases c9 : a1 < 0
          · rw [if_pos c9] at H
            have c9b0 : decide (a1 < 0) = true := decide_eq_true c9
            clear c9
            (first | rw [c9b0] | (simp only [i64_w, i32_w]; rw [c9b0]) | skip)
            have H' := Aside0.mk H
            clear H
            go_wp2
            go_meet
            case rel => exact ⟨_, (wrap64 (-a0)), (wrap64 (-a1)), (by first | rfl | (simp; done) | (simp [*]; done)), (by first | rfl | (simp; done) | (simp [*]; done)), H', ⟨by have := HJ2.out; first | omega | exact Nat.le_refl _⟩, by repeat (first | exact Drawn0.refl _ | apply Drawn0.step)⟩
          · rw [if_neg c9] at H
            have c9b0 : decide (a1 < 0) = false := decide_eq_false c9
            clear c9
            (first | rw [c9b0] | (simp only [i64_w, i32_w]; rw [c9b0]) | skip)
            have H' := Aside0.mk H
            clear H
            go_wp2
            go_meet
            case rel => exact ⟨_, (a0), (a1), (by first | rfl | (simp; done) | (simp [*]; done)), (by first | rfl | (simp; done) | (simp [*]; done)), H', ⟨by have := HJ2.out; first | omega | exact Nat.le_refl _⟩, by repeat (first | exact Drawn0.refl _ | apply Drawn0.step)⟩
        case rest =>
          clear HC8
          try clear c2
          try clear p2
          try clear c5
          try clear p6
          try clear c7
          try clear c9
          try clear c9b0
          try clear p2
          obtain ⟨kq, x0_7, x1_7, rfl, rfl, HA, HJ7, ⟨mc7, rfl⟩⟩ := hcut
          cases kq with
          | zero => exact absurd HA.out (by simp [secateurref01_Mul.j1])
          | succ kj7 =>
            have H := HA.out
            clear HA
            simp only [secateurref01_Mul.j1] at H
            have H' := Aside0.mk H
            clear H
            go_wp2
            go_loopg [6, 7] kj7 (fun kq v6 v7 w' => ∃ (x6_3 : Int) (x7_3 : Int), v6 = .int .i64 x6_3 ∧ v7 = .int .i64 x7_3 ∧ Aside0 (secateurref01_Mul.l0 kq x0_7 x1_7 x6_3 x7_3 = some (r1, r2)) ∧ Aside0 (kq ≤ kj7) ∧ Drawn0 w w')
            case atStart => exact ⟨(0), (62), (by first | rfl | (simp; done) | (simp [*]; done)), (by first | rfl | (simp; done) | (simp [*]; done)), H', ⟨Nat.le_refl _⟩, by repeat (first | exact Drawn0.refl _ | apply Drawn0.step)⟩
            case round =>
              clear H'
              try clear c2
              try clear p2
              try clear c5
              try clear p6
              try clear c7
              try clear c9
              try clear c9b0
              try clear p2
              try clear p6
              obtain ⟨x6_3, x7_3, rfl, rfl, HA, HK3, ⟨m3, rfl⟩⟩ := hrel
              cases gk with
              | zero => exact absurd HA.out (by simp [secateurref01_Mul.l0])
              | succ k3 =>
                have H := HA.out
                clear HA
                simp only [secateurref01_Mul.l0] at H
                by_cases c10 : x7_3 ≥ 0
                · rw [if_pos c10] at H
                  have c10b0 : decide (0 ≤ x7_3) = true := decide_eq_true c10
                  clear c10
                  replace H := Option.bind_eq_some_iff.mp H
                  obtain ⟨⟨t136, t137⟩, A110, H⟩ := H
                  replace H : (if t137 = true then (if 0 ≤ x7_3 then (secateurref01_Mul.j3 k3 x0_7 x1_7 x7_3 t136 t137 ((Go.bits .and .i64 (shr .i64 x1_7 x7_3) 1) == 1)) else (none)) else (secateurref01_Mul.j3 k3 x0_7 x1_7 x7_3 t136 t137 false)) = some (r1, r2) := H
                  have A11 := Aside0.mk A110
                  clear A110
                  have HC12 := Aside0.mk H
                  clear H
                  go_upto_region 11 with (first | ((with_reducible refine gate_callee (f := 24) rfl ?_); refine goesL_ (some 31) rfl rfl Try.func24 (by kernel_rfl) rfl #[.int .i64 x6_3, .int .i64 x6_3] rfl (by (try simp only [List.map_toArray, List.map_cons, List.map_nil]); first | done | rfl | (simp only [List.length_drop, List.length_take]; rfl)) ?_; (with_reducible refine (secateurref01_Add.calls k3 x6_3 x6_3 t136 t137 _ A11.out).mono ?_); rintro e w' ⟨rfl, ⟨nd, rfl⟩⟩; refine ⟨_, rfl, ?_⟩))
                  (try simp only [Act.put, List.setIfInBounds_toArray, List.set_cons_zero, List.set_cons_succ])
                  go_cut [41] (fun v41 wc => ∃ (kq : Nat) (x41_11 : Bool), v41 = .bool x41_11 ∧ Aside0 (secateurref01_Mul.j3 kq x0_7 x1_7 x7_3 t136 t137 x41_11 = some (r1, r2)) ∧ Aside0 (kq ≤ k3) ∧ Drawn0 w wc)
                  case first =>
                    have H := HC12.out
                    clear HC12
                    by_cases c13 : t137 = true
                    · subst c13
                      have H1 : (if 0 ≤ x7_3 then (secateurref01_Mul.j3 k3 x0_7 x1_7 x7_3 t136 true ((Go.bits .and .i64 (shr .i64 x1_7 x7_3) 1) == 1)) else (none)) = some (r1, r2) := by rw [if_pos rfl] at H; exact H
                      clear H
                      have H := H1
                      clear H1
                      by_cases c14 : 0 ≤ x7_3
                      · rw [if_pos c14] at H
                        have c14b0 := eq_true c14
                        have c14b1 : decide (0 ≤ x7_3) = true := decide_eq_true c14
                        clear c14
                        obtain ⟨ji15, hji15⟩ : ∃ j_ : Int, (shr .i64 x1_7 x7_3) = j_ := ⟨_, rfl⟩
                        replace H : (secateurref01_Mul.j3 k3 x0_7 x1_7 x7_3 t136 true ((Go.bits .and .i64 (ji15) 1) == 1)) = some (r1, r2) := by first | (rw [hji15] at H; exact H) | (simp only [hji15] at H ⊢; exact H)
                        have hji15_ : (x1_7 / 2 ^ min x7_3.toNat 64) = ji15 := hji15
                        have hji15z : x7_3 ≤ 64 → (x1_7 / 2 ^ x7_3.toNat) = ji15 := shr_small hji15
                        have H' := Aside0.mk H
                        clear H
                        go_wp2
                        go_meet
                        case rel => exact ⟨_, (((Go.bits .and .i64 (ji15) 1) == 1)), (by first | rfl | (simp; done) | (simp only [← hji15] <;> (first | rfl | simp)) | (simp [*]; done)), H', ⟨by have := HJ2.out; have := HJ7.out; have := HK3.out; first | omega | exact Nat.le_refl _⟩, by repeat (first | exact Drawn0.refl _ | apply Drawn0.step)⟩
                      · rw [if_neg c14] at H
                        exact absurd H (by simp)
                    · replace c13 := Bool.eq_false_iff.mpr c13
                      subst c13
                      have H1 : (secateurref01_Mul.j3 k3 x0_7 x1_7 x7_3 t136 false false) = some (r1, r2) := by rw [if_neg (show ¬ (false = true) by decide)] at H; exact H
                      clear H
                      have H := H1
                      clear H1
                      have H' := Aside0.mk H
                      clear H
                      go_wp2
                      go_meet
                      case rel => exact ⟨_, (false), (by first | rfl | (simp; done) | (simp [*]; done)), H', ⟨by have := HJ2.out; have := HJ7.out; have := HK3.out; first | omega | exact Nat.le_refl _⟩, by repeat (first | exact Drawn0.refl _ | apply Drawn0.step)⟩
                  case rest =>
                    clear HC12
                    try clear c1
                    try clear c2
                    try clear p2
                    try clear c5
                    try clear p6
                    try clear c7
                    try clear c9
                    try clear c9b0
                    try clear c10
                    try clear c10b0
                    try clear c13
                    try clear c14
                    try clear c14b0
                    try clear c14b1
                    try clear p2
                    try clear p6
                    obtain ⟨kq, x41_11, rfl, HA, HJ11, ⟨mc11, rfl⟩⟩ := hcut
                    cases kq with
                    | zero => exact absurd HA.out (by simp [secateurref01_Mul.j3])
                    | succ kj11 =>
                      have H := HA.out
                      clear HA
                      simp only [secateurref01_Mul.j3] at H
                      by_cases c16 : x41_11 = true
                      · subst c16
                        have H1 : ((secateurref01_Add.f kj11 t136 x0_7).bind fun bt138 => (if bt138.2 = true then (secateurref01_Mul.l0 kj11 x0_7 x1_7 bt138.1 (wrap64 (x7_3 - 1))) else (some (0, false)))) = some (r1, r2) := by rw [if_pos rfl] at H; exact H
                        clear H
                        have H := H1
                        clear H1
                        replace H := Option.bind_eq_some_iff.mp H
                        obtain ⟨⟨t138, t139⟩, A170, H⟩ := H
                        replace H : (if t139 = true then (secateurref01_Mul.l0 kj11 x0_7 x1_7 t138 (wrap64 (x7_3 - 1))) else (some (0, false))) = some (r1, r2) := H
                        have A17 := Aside0.mk A170
                        clear A170
                        by_cases c18 : t139 = true
                        · subst c18
                          have H1 : (secateurref01_Mul.l0 kj11 x0_7 x1_7 t138 (wrap64 (x7_3 - 1))) = some (r1, r2) := by rw [if_pos rfl] at H; exact H
                          clear H
                          have H := H1
                          clear H1
                          have H' := Aside0.mk H
                          clear H
                          go_wp2_with (first | ((with_reducible refine gate_callee (f := 24) rfl ?_); refine goesL_ (some 45) rfl rfl Try.func24 (by kernel_rfl) rfl #[.int .i64 t136, .int .i64 x0_7] rfl (by (try simp only [List.map_toArray, List.map_cons, List.map_nil]); first | done | rfl | (simp only [List.length_drop, List.length_take]; rfl)) ?_; (with_reducible refine (secateurref01_Add.calls kj11 t136 x0_7 t138 true _ A17.out).mono ?_); rintro e w' ⟨rfl, ⟨nd, rfl⟩⟩; refine ⟨_, rfl, ?_⟩))
                          go_roundg kj11
                          case measure => have := HJ2.out; have := HJ7.out; have := HK3.out; have := HJ11.out; omega
                          case rel => exact ⟨(t138), (wrap64 (x7_3 - 1)), (by first | rfl | (simp; done) | (simp [*]; done)), (by first | rfl | (simp; done) | (simp [*]; done)), H', ⟨by have := HJ2.out; have := HJ7.out; have := HK3.out; have := HJ11.out; omega⟩, by repeat (first | exact Drawn0.refl _ | apply Drawn0.step)⟩
                        · replace c18 := Bool.eq_false_iff.mpr c18
                          subst c18
                          have H1 : (some (0, false)) = some (r1, r2) := by rw [if_neg (show ¬ (false = true) by decide)] at H; exact H
                          clear H
                          have H := H1
                          clear H1
                          simp only [Option.some.injEq, Prod.mk.injEq] at H
                          obtain ⟨rfl, rfl⟩ := H
                          go_wp2_with (first | ((with_reducible refine gate_callee (f := 24) rfl ?_); refine goesL_ (some 45) rfl rfl Try.func24 (by kernel_rfl) rfl #[.int .i64 t136, .int .i64 x0_7] rfl (by (try simp only [List.map_toArray, List.map_cons, List.map_nil]); first | done | rfl | (simp only [List.length_drop, List.length_take]; rfl)) ?_; (with_reducible refine (secateurref01_Add.calls kj11 t136 x0_7 t138 false _ A17.out).mono ?_); rintro e w' ⟨rfl, ⟨nd, rfl⟩⟩; refine ⟨_, rfl, ?_⟩))
                          go_ret2
                          exact ⟨by first | rfl | (simp; done) | (simp [*]; done), by repeat (first | exact Drawn0.refl _ | apply Drawn0.step)⟩
                      · replace c16 := Bool.eq_false_iff.mpr c16
                        subst c16
                        have H1 : (if t137 = true then (secateurref01_Mul.l0 kj11 x0_7 x1_7 t136 (wrap64 (x7_3 - 1))) else (some (0, false))) = some (r1, r2) := by rw [if_neg (show ¬ (false = true) by decide)] at H; exact H
                        clear H
                        have H := H1
                        clear H1
                        by_cases c19 : t137 = true
                        · subst c19
                          have H1 : (secateurref01_Mul.l0 kj11 x0_7 x1_7 t136 (wrap64 (x7_3 - 1))) = some (r1, r2) := by rw [if_pos rfl] at H; exact H
                          clear H
                          have H := H1
                          clear H1
                          have H' := Aside0.mk H
                          clear H
                          go_wp2
                          go_roundg kj11
                          case measure => have := HJ2.out; have := HJ7.out; have := HK3.out; have := HJ11.out; omega
                          case rel => exact ⟨(t136), (wrap64 (x7_3 - 1)), (by first | rfl | (simp; done) | (simp [*]; done)), (by first | rfl | (simp; done) | (simp [*]; done)), H', ⟨by have := HJ2.out; have := HJ7.out; have := HK3.out; have := HJ11.out; omega⟩, by repeat (first | exact Drawn0.refl _ | apply Drawn0.step)⟩
                        · replace c19 := Bool.eq_false_iff.mpr c19
                          subst c19
                          have H1 : (some (0, false)) = some (r1, r2) := by rw [if_neg (show ¬ (false = true) by decide)] at H; exact H
                          clear H
                          have H := H1
                          clear H1
                          simp only [Option.some.injEq, Prod.mk.injEq] at H
                          obtain ⟨rfl, rfl⟩ := H
                          go_wp2
                          go_ret2
                          exact ⟨by first | rfl | (simp; done) | (simp [*]; done), by repeat (first | exact Drawn0.refl _ | apply Drawn0.step)⟩
                · rw [if_neg c10] at H
                  have c10b0 : decide (0 ≤ x7_3) = false := decide_eq_false c10
                  clear c10
                  simp only [Option.some.injEq, Prod.mk.injEq] at H
                  obtain ⟨rfl, rfl⟩ := H
                  go_wp2
                  go_ret2
                  exact ⟨by first | rfl | (simp; done) | (simp [*]; done), by repeat (first | exact Drawn0.refl _ | apply Drawn0.step)⟩

/-! ### secateurref01_Dot: function 14 -/
mutual
def secateurref01_Dot.l0 : Nat → List Int → List Int → Int → Int → Option (Int × Bool)
  | 0, _, _, _, _ => none
  | k + 1, x0, x1, x6, x7 => if x7 < (x0.length : Int) then (secateurref01_Dot.j1 k x0 x1 x6 x7 ((x0.length : Int) == (x1.length : Int))) else (secateurref01_Dot.j1 k x0 x1 x6 x7 false)
def secateurref01_Dot.j1 : Nat → List Int → List Int → Int → Int → Bool → Option (Int × Bool)
  | 0, _, _, _, _, _ => none
  | k + 1, x0, x1, x6, x7, x22 => if x22 = true then (if 0 ≤ x7 then (if x7 < (x0.length : Int) then (if x7 < (x1.length : Int) then ((secateurref01_Mul.f k (rd x0 x7) (rd x1 x7)).bind fun bt142 => ((secateurref01_Add.f k x6 bt142.1).bind fun bt144 => (if bt142.2 = true then (if bt144.2 = true then (secateurref01_Dot.l0 k x0 x1 bt144.1 (wrap64 (x7 + 1))) else (some (0, false))) else (some (0, false))))) else (none)) else (none)) else (none)) else (some (x6, ((x0.length : Int) == (x1.length : Int))))
end
def secateurref01_Dot.f (k : Nat) (l0 : List Int) (l1 : List Int) : Option (Int × Bool) := secateurref01_Dot.l0 k l0 l1 0 0
theorem secateurref01_Dot.mono_l : ∀ k, (∀ y0 y1 y2 y3, LeO (secateurref01_Dot.l0 k y0 y1 y2 y3) (secateurref01_Dot.l0 (k + 1) y0 y1 y2 y3)) ∧ (∀ y0 y1 y2 y3 y4, LeO (secateurref01_Dot.j1 k y0 y1 y2 y3 y4) (secateurref01_Dot.j1 (k + 1) y0 y1 y2 y3 y4))
  | 0 => ⟨fun _ _ _ _ r h => by simp [secateurref01_Dot.l0] at h, fun _ _ _ _ _ r h => by simp [secateurref01_Dot.j1] at h⟩
  | k + 1 => by
    obtain ⟨ih0, ih1⟩ := secateurref01_Dot.mono_l k
    refine ⟨?_, ?_⟩
    · intro y0 y1 y2 y3
      unfold secateurref01_Dot.l0
      repeat' first
      | (with_reducible exact ih0 _ _ _ _)
      | (with_reducible exact ih1 _ _ _ _ _)
      | (with_reducible exact secateurref01_Add.mono _ _ _)
      | (with_reducible exact secateurref01_Mul.mono _ _ _)
      | (with_reducible exact LeO.refl _)
      | (with_reducible exact LeO.none _)
      | (with_reducible refine LeO.ite ?_ ?_)
      | (with_reducible refine LeO.bind ?_ (fun _ => ?_))
      | exact ih0 _ _ _ _
      | exact ih1 _ _ _ _ _
      | exact secateurref01_Add.mono _ _ _
      | exact secateurref01_Mul.mono _ _ _
      | exact LeO.none _
      | refine LeO.ite ?_ ?_
      | refine LeO.bind ?_ (fun _ => ?_)
    · intro y0 y1 y2 y3 y4
      unfold secateurref01_Dot.j1
      repeat' first
      | (with_reducible exact ih0 _ _ _ _)
      | (with_reducible exact ih1 _ _ _ _ _)
      | (with_reducible exact secateurref01_Add.mono _ _ _)
      | (with_reducible exact secateurref01_Mul.mono _ _ _)
      | (with_reducible exact LeO.refl _)
      | (with_reducible exact LeO.none _)
      | (with_reducible refine LeO.ite ?_ ?_)
      | (with_reducible refine LeO.bind ?_ (fun _ => ?_))
      | exact ih0 _ _ _ _
      | exact ih1 _ _ _ _ _
      | exact secateurref01_Add.mono _ _ _
      | exact secateurref01_Mul.mono _ _ _
      | exact LeO.none _
      | refine LeO.ite ?_ ?_
      | refine LeO.bind ?_ (fun _ => ?_)
theorem secateurref01_Dot.mono : ∀ a0 a1 k, LeO (secateurref01_Dot.f k a0 a1) (secateurref01_Dot.f (k + 1) a0 a1) := by
  intro a0 a1 k
  obtain ⟨ih0, ih1⟩ := secateurref01_Dot.mono_l k
  unfold secateurref01_Dot.f
  repeat' first
      | (with_reducible exact ih0 _ _ _ _)
      | (with_reducible exact ih1 _ _ _ _ _)
      | (with_reducible exact secateurref01_Add.mono _ _ _)
      | (with_reducible exact secateurref01_Mul.mono _ _ _)
      | (with_reducible exact LeO.refl _)
      | (with_reducible exact LeO.none _)
      | (with_reducible refine LeO.ite ?_ ?_)
      | (with_reducible refine LeO.bind ?_ (fun _ => ?_))
      | exact ih0 _ _ _ _
      | exact ih1 _ _ _ _ _
      | exact secateurref01_Add.mono _ _ _
      | exact secateurref01_Mul.mono _ _ _
      | exact LeO.none _
      | refine LeO.ite ?_ ?_
      | refine LeO.bind ?_ (fun _ => ?_)
set_option maxHeartbeats 8000000 in
set_option maxRecDepth 100000 in
theorem secateurref01_Dot.calls (k : Nat) (A0 : Option Addr) (c0 : Nat) (l0 : List Int) (A1 : Option Addr) (c1 : Nat) (l1 : List Int) (r1 : Int) (r2 : Bool) (w : World) (hr0 : Kd.C (Kd.int .i64) w A0 l0.length l0) (hc0 : l0.length ≤ c0) (hr1 : Kd.C (Kd.int .i64) w A1 l1.length l1) (hc1 : l1.length ≤ c1) (h : secateurref01_Dot.f k l0 l1 = some (r1, r2)) :
    Calls Try.prog 14 #[.slice A0 l0.length c0, .slice A1 l1.length c1] w fun e w' => e = .returned (.tuple #[.int .i64 r1, .bool r2]) ∧ Drawn0 w w' := by
  have HR0 := Aside0.mk hr0
  have HC0 := Aside0.mk hc0
  clear hr0 hc0
  have HR1 := Aside0.mk hr1
  have HC1 := Aside0.mk hc1
  clear hr1 hc1
  have H : (secateurref01_Dot.l0 k l0 l1 0 0) = some (r1, r2) := h
  clear h
  have H' := Aside0.mk H
  clear H
  go_enter Try.func14, Try.ntmps14
  go_wp2
  repeat (go_quiet (fail); try go_wp2)
  go_loopg [6, 7] k (fun kq v6 v7 w' => ∃ (x6_1 : Int) (x7_1 : Int), v6 = .int .i64 x6_1 ∧ v7 = .int .i64 x7_1 ∧ Aside0 (secateurref01_Dot.l0 kq l0 l1 x6_1 x7_1 = some (r1, r2)) ∧ Aside0 (kq ≤ k) ∧ Drawn0 w w')
  case atStart => exact ⟨(0), (0), (by first | rfl | (simp; done) | (simp [*]; done)), (by first | rfl | (simp; done) | (simp [*]; done)), H', ⟨Nat.le_refl _⟩, by repeat (first | exact Drawn0.refl _ | apply Drawn0.step)⟩
  case round =>
    clear H'
    try clear c1
    try clear p2
    obtain ⟨x6_1, x7_1, rfl, rfl, HA, HK1, ⟨m1, rfl⟩⟩ := hrel
    cases gk with
    | zero => exact absurd HA.out (by simp [secateurref01_Dot.l0])
    | succ k1 =>
      have H := HA.out
      clear HA
      simp only [secateurref01_Dot.l0] at H
      have HC3 := Aside0.mk H
      clear H
      go_upto_region 3 with (fail)
      repeat (go_quiet (fail); go_upto_region 3 with (fail))
      go_cut [22] (fun v22 wc => ∃ (kq : Nat) (x22_2 : Bool), v22 = .bool x22_2 ∧ Aside0 (secateurref01_Dot.j1 kq l0 l1 x6_1 x7_1 x22_2 = some (r1, r2)) ∧ Aside0 (kq ≤ k1) ∧ Drawn0 w wc)
      case first =>
        have H := HC3.out
        clear HC3
        by_cases c4 : x7_1 < (l0.length : Int)
        · rw [if_pos c4] at H
          have c4b0 : decide (x7_1 < (l0.length : Int)) = true := decide_eq_true c4
          clear c4
          (first | rw [c4b0] | (simp only [i64_w, i32_w]; rw [c4b0]) | skip)
          have H' := Aside0.mk H
          clear H
          go_wp2
          repeat (go_quiet (fail); try go_wp2)
          go_meet
          case rel => exact ⟨_, (((l0.length : Int) == (l1.length : Int))), (by first | rfl | (simp; done) | (simp [*]; done)), H', ⟨by have := HK1.out; first | omega | exact Nat.le_refl _⟩, by repeat (first | exact Drawn0.refl _ | apply Drawn0.step)⟩
        · rw [if_neg c4] at H
          have c4b0 : decide (x7_1 < (l0.length : Int)) = false := decide_eq_false c4
          clear c4
          (first | rw [c4b0] | (simp only [i64_w, i32_w]; rw [c4b0]) | skip)
          have H' := Aside0.mk H
          clear H
          go_wp2
          repeat (go_quiet (fail); try go_wp2)
          go_meet
          case rel => exact ⟨_, (false), (by first | rfl | (simp; done) | (simp [*]; done)), H', ⟨by have := HK1.out; first | omega | exact Nat.le_refl _⟩, by repeat (first | exact Drawn0.refl _ | apply Drawn0.step)⟩
      case rest =>
        clear HC3
        try clear c1
        try clear p2
        try clear c4
        try clear c4b0
        try clear p2
        obtain ⟨kq, x22_2, rfl, HA, HJ2, ⟨mc2, rfl⟩⟩ := hcut
        cases kq with
        | zero => exact absurd HA.out (by simp [secateurref01_Dot.j1])
        | succ kj2 =>
          have H := HA.out
          clear HA
          simp only [secateurref01_Dot.j1] at H
          by_cases c5 : x22_2 = true
          · subst c5
            have H1 : (if 0 ≤ x7_1 then (if x7_1 < (l0.length : Int) then (if x7_1 < (l1.length : Int) then ((secateurref01_Mul.f kj2 (rd l0 x7_1) (rd l1 x7_1)).bind fun bt142 => ((secateurref01_Add.f kj2 x6_1 bt142.1).bind fun bt144 => (if bt142.2 = true then (if bt144.2 = true then (secateurref01_Dot.l0 kj2 l0 l1 bt144.1 (wrap64 (x7_1 + 1))) else (some (0, false))) else (some (0, false))))) else (none)) else (none)) else (none)) = some (r1, r2) := by rw [if_pos rfl] at H; exact H
            clear H
            have H := H1
            clear H1
            by_cases c6 : 0 ≤ x7_1
            · rw [if_pos c6] at H
              have c6b0 : decide (0 ≤ x7_1) = true := decide_eq_true c6
              clear c6
              by_cases c7 : x7_1 < (l0.length : Int)
              · rw [if_pos c7] at H
                have c7b0 : decide (x7_1 < (l0.length : Int)) = true := decide_eq_true c7
                clear c7
                by_cases c8 : x7_1 < (l1.length : Int)
                · rw [if_pos c8] at H
                  have c8b0 : decide (x7_1 < (l1.length : Int)) = true := decide_eq_true c8
                  clear c8
                  replace H := Option.bind_eq_some_iff.mp H
                  obtain ⟨⟨t142, t143⟩, A90, H⟩ := H
                  replace H : ((secateurref01_Add.f kj2 x6_1 t142).bind fun bt144 => (if t143 = true then (if bt144.2 = true then (secateurref01_Dot.l0 kj2 l0 l1 bt144.1 (wrap64 (x7_1 + 1))) else (some (0, false))) else (some (0, false)))) = some (r1, r2) := H
                  have A9 := Aside0.mk A90
                  clear A90
                  replace H := Option.bind_eq_some_iff.mp H
                  obtain ⟨⟨t144, t145⟩, A100, H⟩ := H
                  replace H : (if t143 = true then (if t145 = true then (secateurref01_Dot.l0 kj2 l0 l1 t144 (wrap64 (x7_1 + 1))) else (some (0, false))) else (some (0, false))) = some (r1, r2) := H
                  have A10 := Aside0.mk A100
                  clear A100
                  by_cases c11 : t143 = true
                  · subst c11
                    have H1 : (if t145 = true then (secateurref01_Dot.l0 kj2 l0 l1 t144 (wrap64 (x7_1 + 1))) else (some (0, false))) = some (r1, r2) := by rw [if_pos rfl] at H; exact H
                    clear H
                    have H := H1
                    clear H1
                    by_cases c12 : t145 = true
                    · subst c12
                      have H1 : (secateurref01_Dot.l0 kj2 l0 l1 t144 (wrap64 (x7_1 + 1))) = some (r1, r2) := by rw [if_pos rfl] at H; exact H
                      clear H
                      have H := H1
                      clear H1
                      have H' := Aside0.mk H
                      clear H
                      have p140 : 0 ≤ (x7_1 : Int) := of_decide_eq_true (by first | (with_reducible assumption) | assumption)
                      have q140 : x7_1 < (l0.length : Int) := of_decide_eq_true (by first | (with_reducible assumption) | assumption)
                      obtain ⟨ad140, e140, hx140_0⟩ := Kd.at_int HR0.out x7_1 p140 q140
                      cases e140
                      replace p140 := eq_true p140
                      replace q140 := eq_true q140
                      have p141 : 0 ≤ (x7_1 : Int) := of_decide_eq_true (by first | (with_reducible assumption) | assumption)
                      have q141 : x7_1 < (l1.length : Int) := of_decide_eq_true (by first | (with_reducible assumption) | assumption)
                      obtain ⟨ad141, e141, hx141_0⟩ := Kd.at_int HR1.out x7_1 p141 q141
                      cases e141
                      replace p141 := eq_true p141
                      replace q141 := eq_true q141
                      go_wp2_with (first | (go_at_call 27; (with_reducible refine (secateurref01_Mul.calls kj2 (rd l0 x7_1) (rd l1 x7_1) t142 true _ A9.out).mono ?_); rintro e w' ⟨rfl, ⟨nd, rfl⟩⟩; (try first | exact ⟨rfl, _, World.drewN_drewN _ _ _⟩ | exact ⟨rfl, _, Eq.trans (World.drewN_drewN _ _ _) (congrArg (World.drewN _) (Nat.add_assoc _ _ _))⟩)) | (go_at_call 24; (with_reducible refine (secateurref01_Add.calls kj2 x6_1 t142 t144 true _ A10.out).mono ?_); rintro e w' ⟨rfl, ⟨nd, rfl⟩⟩; (try first | exact ⟨rfl, _, World.drewN_drewN _ _ _⟩ | exact ⟨rfl, _, Eq.trans (World.drewN_drewN _ _ _) (congrArg (World.drewN _) (Nat.add_assoc _ _ _))⟩)))
                      repeat (go_quiet (first | (go_at_call 27; (with_reducible refine (secateurref01_Mul.calls kj2 (rd l0 x7_1) (rd l1 x7_1) t142 true _ A9.out).mono ?_); rintro e w' ⟨rfl, ⟨nd, rfl⟩⟩; (try first | exact ⟨rfl, _, World.drewN_drewN _ _ _⟩ | exact ⟨rfl, _, Eq.trans (World.drewN_drewN _ _ _) (congrArg (World.drewN _) (Nat.add_assoc _ _ _))⟩)) | (go_at_call 24; (with_reducible refine (secateurref01_Add.calls kj2 x6_1 t142 t144 true _ A10.out).mono ?_); rintro e w' ⟨rfl, ⟨nd, rfl⟩⟩; (try first | exact ⟨rfl, _, World.drewN_drewN _ _ _⟩ | exact ⟨rfl, _, Eq.trans (World.drewN_drewN _ _ _) (congrArg (World.drewN _) (Nat.add_assoc _ _ _))⟩))); try go_wp2_with (first | (go_at_call 27; (with_reducible refine (secateurref01_Mul.calls kj2 (rd l0 x7_1) (rd l1 x7_1) t142 true _ A9.out).mono ?_); rintro e w' ⟨rfl, ⟨nd, rfl⟩⟩; (try first | exact ⟨rfl, _, World.drewN_drewN _ _ _⟩ | exact ⟨rfl, _, Eq.trans (World.drewN_drewN _ _ _) (congrArg (World.drewN _) (Nat.add_assoc _ _ _))⟩)) | (go_at_call 24; (with_reducible refine (secateurref01_Add.calls kj2 x6_1 t142 t144 true _ A10.out).mono ?_); rintro e w' ⟨rfl, ⟨nd, rfl⟩⟩; (try first | exact ⟨rfl, _, World.drewN_drewN _ _ _⟩ | exact ⟨rfl, _, Eq.trans (World.drewN_drewN _ _ _) (congrArg (World.drewN _) (Nat.add_assoc _ _ _))⟩))))
                      go_roundg kj2
                      case measure => have := HK1.out; have := HJ2.out; omega
                      case rel => exact ⟨(t144), (wrap64 (x7_1 + 1)), (by first | rfl | (simp; done) | (simp [*]; done)), (by first | rfl | (simp; done) | (simp [*]; done)), H', ⟨by have := HK1.out; have := HJ2.out; omega⟩, by repeat (first | exact Drawn0.refl _ | apply Drawn0.step)⟩
                    · replace c12 := Bool.eq_false_iff.mpr c12
                      subst c12
                      have H1 : (some (0, false)) = some (r1, r2) := by rw [if_neg (show ¬ (false = true) by decide)] at H; exact H
                      clear H
                      have H := H1
                      clear H1
                      simp only [Option.some.injEq, Prod.mk.injEq] at H
                      obtain ⟨rfl, rfl⟩ := H
                      have p140 : 0 ≤ (x7_1 : Int) := of_decide_eq_true (by first | (with_reducible assumption) | assumption)
                      have q140 : x7_1 < (l0.length : Int) := of_decide_eq_true (by first | (with_reducible assumption) | assumption)
                      obtain ⟨ad140, e140, hx140_0⟩ := Kd.at_int HR0.out x7_1 p140 q140
                      cases e140
                      replace p140 := eq_true p140
                      replace q140 := eq_true q140
                      have p141 : 0 ≤ (x7_1 : Int) := of_decide_eq_true (by first | (with_reducible assumption) | assumption)
                      have q141 : x7_1 < (l1.length : Int) := of_decide_eq_true (by first | (with_reducible assumption) | assumption)
                      obtain ⟨ad141, e141, hx141_0⟩ := Kd.at_int HR1.out x7_1 p141 q141
                      cases e141
                      replace p141 := eq_true p141
                      replace q141 := eq_true q141
                      go_wp2_with (first | (go_at_call 27; (with_reducible refine (secateurref01_Mul.calls kj2 (rd l0 x7_1) (rd l1 x7_1) t142 true _ A9.out).mono ?_); rintro e w' ⟨rfl, ⟨nd, rfl⟩⟩; (try first | exact ⟨rfl, _, World.drewN_drewN _ _ _⟩ | exact ⟨rfl, _, Eq.trans (World.drewN_drewN _ _ _) (congrArg (World.drewN _) (Nat.add_assoc _ _ _))⟩)) | (go_at_call 24; (with_reducible refine (secateurref01_Add.calls kj2 x6_1 t142 t144 false _ A10.out).mono ?_); rintro e w' ⟨rfl, ⟨nd, rfl⟩⟩; (try first | exact ⟨rfl, _, World.drewN_drewN _ _ _⟩ | exact ⟨rfl, _, Eq.trans (World.drewN_drewN _ _ _) (congrArg (World.drewN _) (Nat.add_assoc _ _ _))⟩)))
                      repeat (go_quiet (first | (go_at_call 27; (with_reducible refine (secateurref01_Mul.calls kj2 (rd l0 x7_1) (rd l1 x7_1) t142 true _ A9.out).mono ?_); rintro e w' ⟨rfl, ⟨nd, rfl⟩⟩; (try first | exact ⟨rfl, _, World.drewN_drewN _ _ _⟩ | exact ⟨rfl, _, Eq.trans (World.drewN_drewN _ _ _) (congrArg (World.drewN _) (Nat.add_assoc _ _ _))⟩)) | (go_at_call 24; (with_reducible refine (secateurref01_Add.calls kj2 x6_1 t142 t144 false _ A10.out).mono ?_); rintro e w' ⟨rfl, ⟨nd, rfl⟩⟩; (try first | exact ⟨rfl, _, World.drewN_drewN _ _ _⟩ | exact ⟨rfl, _, Eq.trans (World.drewN_drewN _ _ _) (congrArg (World.drewN _) (Nat.add_assoc _ _ _))⟩))); try go_wp2_with (first | (go_at_call 27; (with_reducible refine (secateurref01_Mul.calls kj2 (rd l0 x7_1) (rd l1 x7_1) t142 true _ A9.out).mono ?_); rintro e w' ⟨rfl, ⟨nd, rfl⟩⟩; (try first | exact ⟨rfl, _, World.drewN_drewN _ _ _⟩ | exact ⟨rfl, _, Eq.trans (World.drewN_drewN _ _ _) (congrArg (World.drewN _) (Nat.add_assoc _ _ _))⟩)) | (go_at_call 24; (with_reducible refine (secateurref01_Add.calls kj2 x6_1 t142 t144 false _ A10.out).mono ?_); rintro e w' ⟨rfl, ⟨nd, rfl⟩⟩; (try first | exact ⟨rfl, _, World.drewN_drewN _ _ _⟩ | exact ⟨rfl, _, Eq.trans (World.drewN_drewN _ _ _) (congrArg (World.drewN _) (Nat.add_assoc _ _ _))⟩))))
                      go_ret2
                      exact ⟨by first | rfl | (simp; done) | (simp [*]; done), by repeat (first | exact Drawn0.refl _ | apply Drawn0.step)⟩
                  · replace c11 := Bool.eq_false_iff.mpr c11
                    subst c11
                    have H1 : (some (0, false)) = some (r1, r2) := by rw [if_neg (show ¬ (false = true) by decide)] at H; exact H
                    clear H
                    have H := H1
                    clear H1
                    simp only [Option.some.injEq, Prod.mk.injEq] at H
                    obtain ⟨rfl, rfl⟩ := H
                    have p140 : 0 ≤ (x7_1 : Int) := of_decide_eq_true (by first | (with_reducible assumption) | assumption)
                    have q140 : x7_1 < (l0.length : Int) := of_decide_eq_true (by first | (with_reducible assumption) | assumption)
                    obtain ⟨ad140, e140, hx140_0⟩ := Kd.at_int HR0.out x7_1 p140 q140
                    cases e140
                    replace p140 := eq_true p140
                    replace q140 := eq_true q140
                    have p141 : 0 ≤ (x7_1 : Int) := of_decide_eq_true (by first | (with_reducible assumption) | assumption)
                    have q141 : x7_1 < (l1.length : Int) := of_decide_eq_true (by first | (with_reducible assumption) | assumption)
                    obtain ⟨ad141, e141, hx141_0⟩ := Kd.at_int HR1.out x7_1 p141 q141
                    cases e141
                    replace p141 := eq_true p141
                    replace q141 := eq_true q141
                    go_wp2_with (first | (go_at_call 27; (with_reducible refine (secateurref01_Mul.calls kj2 (rd l0 x7_1) (rd l1 x7_1) t142 false _ A9.out).mono ?_); rintro e w' ⟨rfl, ⟨nd, rfl⟩⟩; (try first | exact ⟨rfl, _, World.drewN_drewN _ _ _⟩ | exact ⟨rfl, _, Eq.trans (World.drewN_drewN _ _ _) (congrArg (World.drewN _) (Nat.add_assoc _ _ _))⟩)) | (go_at_call 24; (with_reducible refine (secateurref01_Add.calls kj2 x6_1 t142 t144 t145 _ A10.out).mono ?_); rintro e w' ⟨rfl, ⟨nd, rfl⟩⟩; (try first | exact ⟨rfl, _, World.drewN_drewN _ _ _⟩ | exact ⟨rfl, _, Eq.trans (World.drewN_drewN _ _ _) (congrArg (World.drewN _) (Nat.add_assoc _ _ _))⟩)))
                    repeat (go_quiet (first | (go_at_call 27; (with_reducible refine (secateurref01_Mul.calls kj2 (rd l0 x7_1) (rd l1 x7_1) t142 false _ A9.out).mono ?_); rintro e w' ⟨rfl, ⟨nd, rfl⟩⟩; (try first | exact ⟨rfl, _, World.drewN_drewN _ _ _⟩ | exact ⟨rfl, _, Eq.trans (World.drewN_drewN _ _ _) (congrArg (World.drewN _) (Nat.add_assoc _ _ _))⟩)) | (go_at_call 24; (with_reducible refine (secateurref01_Add.calls kj2 x6_1 t142 t144 t145 _ A10.out).mono ?_); rintro e w' ⟨rfl, ⟨nd, rfl⟩⟩; (try first | exact ⟨rfl, _, World.drewN_drewN _ _ _⟩ | exact ⟨rfl, _, Eq.trans (World.drewN_drewN _ _ _) (congrArg (World.drewN _) (Nat.add_assoc _ _ _))⟩))); try go_wp2_with (first | (go_at_call 27; (with_reducible refine (secateurref01_Mul.calls kj2 (rd l0 x7_1) (rd l1 x7_1) t142 false _ A9.out).mono ?_); rintro e w' ⟨rfl, ⟨nd, rfl⟩⟩; (try first | exact ⟨rfl, _, World.drewN_drewN _ _ _⟩ | exact ⟨rfl, _, Eq.trans (World.drewN_drewN _ _ _) (congrArg (World.drewN _) (Nat.add_assoc _ _ _))⟩)) | (go_at_call 24; (with_reducible refine (secateurref01_Add.calls kj2 x6_1 t142 t144 t145 _ A10.out).mono ?_); rintro e w' ⟨rfl, ⟨nd, rfl⟩⟩; (try first | exact ⟨rfl, _, World.drewN_drewN _ _ _⟩ | exact ⟨rfl, _, Eq.trans (World.drewN_drewN _ _ _) (congrArg (World.drewN _) (Nat.add_assoc _ _ _))⟩))))
                    go_ret2
                    exact ⟨by first | rfl | (simp; done) | (simp [*]; done), by repeat (first | exact Drawn0.refl _ | apply Drawn0.step)⟩
                · rw [if_neg c8] at H
                  exact absurd H (by simp)
              · rw [if_neg c7] at H
                exact absurd H (by simp)
            · rw [if_neg c6] at H
              exact absurd H (by simp)
          · replace c5 := Bool.eq_false_iff.mpr c5
            subst c5
            have H1 : (some (x6_1, ((l0.length : Int) == (l1.length : Int)))) = some (r1, r2) := by rw [if_neg (show ¬ (false = true) by decide)] at H; exact H
            clear H
            have H := H1
            clear H1
            simp only [Option.some.injEq, Prod.mk.injEq] at H
            obtain ⟨rfl, rfl⟩ := H
            go_wp2
            repeat (go_quiet (fail); try go_wp2)
            go_ret2
            exact ⟨by first | rfl | (simp; done) | (simp [*]; done), by repeat (first | exact Drawn0.refl _ | apply Drawn0.step)⟩

end Go.Proofs.Ytjdmgnghdkmopaa.PIntsDots
