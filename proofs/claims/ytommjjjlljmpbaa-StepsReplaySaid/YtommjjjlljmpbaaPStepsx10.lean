-- Written by a program of this session (the kit's print, some functions given by hand).
import Derived.Test.YtommjjjlljmpbaaPStepsx0
import Derived.Test.YtommjjjlljmpbaaPStepsx3
import Derived.Test.YtommjjjlljmpbaaPStepsx8
import Derived.Test.YtommjjjlljmpbaaFixed
import Derived.Test.YtommjjjlljmpbaaReplay
namespace Go.Proofs.Ytommjjjlljmpbaa.PSteps
open Go.RowKit Go.Proofs.YtommjjjlljmpbaaW.PrintWords Go.Proofs.YtommjjjlljmpbaaW.PrintLast Go.Proofs.YtommjjjlljmpbaaW.PrintMore
attribute [local go_sem] max2_int min2_int max_two min_two max_three min_three max_four min_four   -- for this text's walks alone
set_option linter.unusedVariables false
set_option linter.unusedSimpArgs false

/-! ### secateurref15_Replay: function 19 -/
def secateurref15_Replay.l0 : Nat → List (S23) → List Int → Int → Option (List Int × Int)
  | 0, _, _, _ => none
  | k + 1, x0, x6, x7 => if x7 ≥ 0 then (if 0 ≤ x7 then (if x7 < (x0.length : Int) then ((secateurref15_Back.f k ((rd_T23 x0 x7).f0) ((rd_T23 x0 x7).f1) ((rd_T23 x0 x7).f2) ((rd_T23 x0 x7).f3) ((rd_T23 x0 x7).f4) x6).bind fun bt280 => (if bt280.2 = 0 then (secateurref15_Replay.l0 k x0 bt280.1 (wrap64 (x7 - 1))) else (some (([] : List Int), bt280.2)))) else (none)) else (none)) else (some (x6, 0))
def secateurref15_Replay.f (k : Nat) (l0 : List (S23)) (l1 : List Int) : Option (List Int × Int) := (some (([] : List Int) : List Int)).bind fun y273 => (if y273.length + l1.length < 17592186044416 then (secateurref15_Replay.l0 k l0 (y273 ++ l1) (wrap64 ((l0.length : Int) - 1))) else (none))
theorem secateurref15_Replay.mono_l : ∀ k, (∀ y0 y1 y2, LeO (secateurref15_Replay.l0 k y0 y1 y2) (secateurref15_Replay.l0 (k + 1) y0 y1 y2))
  | 0 => fun _ _ _ r h => by simp [secateurref15_Replay.l0] at h
  | k + 1 => by
    have ih0 := secateurref15_Replay.mono_l k
    · intro y0 y1 y2
      unfold secateurref15_Replay.l0
      repeat' first
      | (with_reducible exact ih0 _ _ _)
      | (with_reducible exact secateurref15_Back.mono _ _ _ _ _ _ _)
      | (with_reducible exact LeO.refl _)
      | (with_reducible exact LeO.none _)
      | (with_reducible refine LeO.ite ?_ ?_)
      | (with_reducible refine LeO.bind ?_ (fun _ => ?_))
      | exact ih0 _ _ _
      | exact secateurref15_Back.mono _ _ _ _ _ _ _
      | exact LeO.none _
      | refine LeO.ite ?_ ?_
      | refine LeO.bind ?_ (fun _ => ?_)
theorem secateurref15_Replay.mono : ∀ a0 a1 k, LeO (secateurref15_Replay.f k a0 a1) (secateurref15_Replay.f (k + 1) a0 a1) := by
  intro a0 a1 k
  have ih0 := secateurref15_Replay.mono_l k
  unfold secateurref15_Replay.f
  repeat' first
      | (with_reducible exact ih0 _ _ _)
      | (with_reducible exact secateurref15_Back.mono _ _ _ _ _ _ _)
      | (with_reducible exact LeO.refl _)
      | (with_reducible exact LeO.none _)
      | (with_reducible refine LeO.ite ?_ ?_)
      | (with_reducible refine LeO.bind ?_ (fun _ => ?_))
      | exact ih0 _ _ _
      | exact secateurref15_Back.mono _ _ _ _ _ _ _
      | exact LeO.none _
      | refine LeO.ite ?_ ?_
      | refine LeO.bind ?_ (fun _ => ?_)
set_option maxHeartbeats 8000000 in
set_option maxRecDepth 100000 in
theorem secateurref15_Replay.calls (k : Nat) (A0 : Option Addr) (c0 : Nat) (l0 : List (S23)) (A1 : Option Addr) (c1 : Nat) (l1 : List Int) (r1 : List Int) (r2 : Int) (w : World) (hr0 : Kd.C k23 w A0 l0.length l0) (hc0 : l0.length ≤ c0) (hr1 : Kd.C (Kd.int .i64) w A1 l1.length l1) (hc1 : l1.length ≤ c1) (h : secateurref15_Replay.f k l0 l1 = some (r1, r2)) :
    Calls Try.prog 19 #[.slice A0 l0.length c0, .slice A1 l1.length c1] w fun e w' => ∃ v0_ : Value, e = .returned (.tuple #[v0_, .int .i64 r2]) ∧ Kd.R (Kd.int .i64) 3 w' w.heap.size (fun _ => True) v0_ r1 ∧ Below w.heap.size w w' := by
  have hu23 := Try.underlying23
  have HR0 := Aside0.mk hr0
  have HC0 := Aside0.mk hc0
  clear hr0 hc0
  have HR1 := Aside0.mk hr1
  have HC1 := Aside0.mk hc1
  clear hr1 hc1
  have HB := Aside0.mk (Below.refl w.heap.size w)
  have H : ((some (([] : List Int) : List Int)).bind fun y273 => (if y273.length + l1.length < 17592186044416 then (secateurref15_Replay.l0 k l0 (y273 ++ l1) (wrap64 ((l0.length : Int) - 1))) else (none))) = some (r1, r2) := h
  clear h
  obtain ⟨y273, hy273⟩ : ∃ y_ : List Int, y_ = (([] : List Int)) := ⟨_, rfl⟩
  replace H : (if y273.length + l1.length < 17592186044416 then (secateurref15_Replay.l0 k l0 (y273 ++ l1) (wrap64 ((l0.length : Int) - 1))) else (none)) = some (r1, r2) := by first | (rw [hy273]; with_reducible exact H) | (have H2_ := (Option.bind_some _ _).symm.trans H; rw [hy273]; with_reducible exact H2_) | (have H2_ := (Option.bind_some _ _).symm.trans H; with_reducible exact H2_) | with_reducible exact H | (rw [hy273]; exact H) | exact H
  have Ny273 := Aside0.mk hy273
  clear hy273
  by_cases c3 : y273.length + l1.length < 17592186044416
  · rw [if_pos c3] at H
    have LMc3 := Aside0.mk c3
    clear c3
    obtain ⟨y276, hy276⟩ : ∃ y_ : List Int, y_ = (y273 ++ l1) := ⟨_, rfl⟩
    replace H : (secateurref15_Replay.l0 k l0 y276 (wrap64 ((l0.length : Int) - 1))) = some (r1, r2) := by first | (rw [hy276]; with_reducible exact H) | (have H2_ := (Option.bind_some _ _).symm.trans H; rw [hy276]; with_reducible exact H2_) | (have H2_ := (Option.bind_some _ _).symm.trans H; with_reducible exact H2_) | with_reducible exact H | (rw [hy276]; exact H) | exact H
    have Ny276 := Aside0.mk hy276
    clear hy276
    have H' := Aside0.mk H
    clear H
    go_enter Try.func19, Try.ntmps19
    go_wp2_with (first | ((with_reducible refine gate_dst (N := 10) rfl ?_); refine Kd.R_lit (Kd.int .i64) _ 3 ?hg (N := 10) ?hd (xs := ([] : List Int)) (inner := []) (ok := fun _ => True) (okp := fun _ => True) ?hr ?hp (fun _ hk => hk) trivial (Below.refl _ _) (Nat.le_refl _) (by simp) ?_; (case hd => rfl); (case hg => rfl); (case hr => first | (go_simp; done) | (go_simp; rfl)); (case hp => exact (Reps.none _ _)); intro v274 w4 ho5 hb hg_ hnew_; clear hg_ hnew_; (first | rw [← Ny273.out] at ho5 | (simp only [Int.reduceToNat] at ho5; rw [← Ny273.out] at ho5)); have n0_ := Aside0.mk (Kd.R_lower ho5 (below_size (by repeat (first | (with_reducible first | exact HB.out | apply below_alloc | apply pw_below_drewN | apply below_drew1) | exact HB.out)))); have n1_ := Aside0.mk (below_step (by repeat (first | (with_reducible first | exact HB.out | apply below_alloc | apply pw_below_drewN | apply below_drew1) | exact HB.out)) hb); clear HB; have HO275 := n0_; have HB := n1_; clear n0_ n1_; clear hb ho5) | ((with_reducible refine gate_builtin (b := .append) (xs := #[.tmp 10, .tmp 11]) rfl ?_); at_builtin; refine Kd.R_append_rows (Kd.int .i64) (w0 := w) w.heap.size rfl (.tmp 10) (.tmp 11) 28 3 (.int .i64 0) 8 rfl Try.underlying28 info3 rfl (by decide) (by omega) v274 y273 l1 _ _ _ (fun _ => True) (fun _ => False) rfl rfl ?aO ?aR (fun _ _ h => h) (fun _ h => h.elim) ?aF ?aB ?aS ?aL ?_; (case aR => repeat (first | exact (Kd.C_below HR1.out HB.out) | (with_reducible refine Kd.C_alloc ?_ _) | (with_reducible refine Kd.C_drewN ?_ _) | (with_reducible refine Kd.C_drew ?_))); (case aB => exact (by repeat (first | (with_reducible first | exact HB.out | apply below_alloc | apply pw_below_drewN | apply below_drew1) | exact HB.out))); (case aF => exact (fun _ _ => trivial)); (case aO => exact (by (with_reducible repeat (first | apply Kd.R_alloc | apply Kd.R_drewN | apply Kd.R_drew)); exact HO275.out)); (case aS => exact (below_size (by repeat (first | (with_reducible first | exact HB.out | apply below_alloc | apply pw_below_drewN | apply below_drew1) | exact HB.out)))); (case aL => have := LMc3.out; omega); intro v277 w6 ho hb hg hat; rw [← Ny276.out] at ho; have n0_ := Aside0.mk (hb); have n1_ := Aside0.mk (ho); clear HB; clear HO275; have HB := n0_; have HO278 := n1_; clear n0_ n1_; clear ho hb hg hat))
    go_loopg [6, 7] k (fun kq v6 v7 w' => ∃ (x6_1 : List Int) (x7_1 : Int), v7 = .int .i64 x7_1 ∧ Aside0 (secateurref15_Replay.l0 kq l0 x6_1 x7_1 = some (r1, r2)) ∧ Aside0 (kq ≤ k) ∧ Aside0 (Kd.R (Kd.int .i64) 3 w' w.heap.size (fun _ => True) v6 x6_1) ∧ Aside0 (Below w.heap.size w w'))
    case atStart => exact ⟨(y276), (wrap64 ((l0.length : Int) - 1)), (by first | rfl | (simp; done) | (simp [*]; done)), H', ⟨Nat.le_refl _⟩, ⟨by (with_reducible repeat (first | apply Kd.R_alloc | apply Kd.R_drewN | apply Kd.R_drew)); exact HO278.out⟩, ⟨by repeat (first | (with_reducible first | exact HB.out | apply below_alloc | apply pw_below_drewN | apply below_drew1) | exact HB.out)⟩⟩
    case round =>
      clear H'
      try clear c1
      try clear p2
      try clear c3
      try clear p6
      obtain ⟨x6_1, x7_1, rfl, HA, HK1, HO_6, HB⟩ := hrel
      cases gk with
      | zero => exact absurd HA.out (by simp [secateurref15_Replay.l0])
      | succ k1 =>
        have H := HA.out
        clear HA
        simp only [secateurref15_Replay.l0] at H
        by_cases c7 : x7_1 ≥ 0
        · rw [if_pos c7] at H
          have c7b0 : decide (0 ≤ x7_1) = true := decide_eq_true c7
          clear c7
          by_cases c8 : 0 ≤ x7_1
          · rw [if_pos c8] at H
            have c8b0 : decide (0 ≤ x7_1) = true := decide_eq_true c8
            clear c8
            by_cases c9 : x7_1 < (l0.length : Int)
            · rw [if_pos c9] at H
              have c9b0 : decide (x7_1 < (l0.length : Int)) = true := decide_eq_true c9
              clear c9
              replace H := Option.bind_eq_some_iff.mp H
              obtain ⟨⟨t280, t283⟩, A100, H⟩ := H
              replace H : (if t283 = 0 then (secateurref15_Replay.l0 k1 l0 t280 (wrap64 (x7_1 - 1))) else (some (([] : List Int), t283))) = some (r1, r2) := H
              have A10 := Aside0.mk A100
              clear A100
              by_cases c11 : t283 = 0
              · rw [if_pos c11] at H
                have c11b0 : (t283 == 0) = true := beq_iff_eq.mpr c11
                have c11b1 : (t283 != 0) = false := bne_eq_false_iff_eq.mpr c11
                clear c11
                have H' := Aside0.mk H
                clear H
                have p279 : 0 ≤ (x7_1 : Int) := of_decide_eq_true (by first | (with_reducible assumption) | assumption)
                have q279 : x7_1 < (l0.length : Int) := of_decide_eq_true (by first | (with_reducible assumption) | assumption)
                obtain ⟨ad279, e279, hx279_0, hx279_1, hx279_2, hx279_3, hx279_4⟩ := at_T23 HR0.out x7_1 p279 q279
                cases e279
                replace hx279_0 := (HB.out.cell (World.block_lt_of_cell? w _ hx279_0)).trans hx279_0
                replace hx279_1 := (HB.out.cell (World.block_lt_of_cell? w _ hx279_1)).trans hx279_1
                replace hx279_2 := (HB.out.cell (World.block_lt_of_cell? w _ hx279_2)).trans hx279_2
                replace hx279_3 := (HB.out.cell (World.block_lt_of_cell? w _ hx279_3)).trans hx279_3
                replace hx279_4 := (HB.out.cell (World.block_lt_of_cell? w _ hx279_4)).trans hx279_4
                replace p279 := eq_true p279
                replace q279 := eq_true q279
                obtain ⟨Ao12, co12, eo12⟩ := Kd.R_slice HO_6.out
                subst eo12
                go_wp2_with (first | ((with_reducible refine gate_callee (f := 14) rfl ?_); refine goesL_ (some 26) rfl rfl Try.func14 (by kernel_rfl) rfl #[.agg #[.int .i64 ((rd_T23 l0 x7_1).f0), .int .i64 ((rd_T23 l0 x7_1).f1), .int .i64 ((rd_T23 l0 x7_1).f2), .int .i64 ((rd_T23 l0 x7_1).f3), .int .i64 ((rd_T23 l0 x7_1).f4)], .slice Ao12 x6_1.length co12] rfl (by (try simp only [List.map_toArray, List.map_cons, List.map_nil]); first | done | rfl | (simp only [List.length_drop, List.length_take]; rfl)) ?_; (with_reducible refine (secateurref15_Back.calls k1 ((rd_T23 l0 x7_1).f0) ((rd_T23 l0 x7_1).f1) ((rd_T23 l0 x7_1).f2) ((rd_T23 l0 x7_1).f3) ((rd_T23 l0 x7_1).f4) _ _ x6_1 t280 t283 _ ?side1 ?side2 A10.out).mono ?_); (case side1 => repeat (first | exact (Kd.R_reads' HO_6.out).2.2 | (with_reducible refine Kd.C_alloc ?_ _) | (with_reducible refine Kd.C_drewN ?_ _) | (with_reducible refine Kd.C_drew ?_))); (case side2 => exact (Kd.R_reads' HO_6.out).2.1); rintro e w13 ⟨v281, rfl, ho0, hb⟩; refine ⟨_, rfl, ?_⟩; have n0_ := Aside0.mk (Kd.R_elder' (by (with_reducible repeat (first | apply Kd.R_alloc | apply Kd.R_drewN | apply Kd.R_drew)); exact HO_6.out) (Kd.R_base ho0) hb); have n1_ := Aside0.mk (Kd.R_lower (Kd.R_new' ho0 (Kd.R_lt (by (with_reducible repeat (first | apply Kd.R_alloc | apply Kd.R_drewN | apply Kd.R_drew)); exact HO_6.out))) (below_size (by repeat (first | (with_reducible first | exact HB.out | apply below_alloc | apply pw_below_drewN | apply below_drew1) | exact HB.out)))); have n2_ := Aside0.mk (below_step (by repeat (first | (with_reducible first | exact HB.out | apply below_alloc | apply pw_below_drewN | apply below_drew1) | exact HB.out)) hb); clear HO_6; clear HB; have HO_6 := n0_; have HO282 := n1_; have HB := n2_; clear n0_ n1_ n2_; (try clear hb); (try clear hb2); (try clear hk); (try clear hi); (try clear ho0)))
                go_roundg k1
                case measure => have := HK1.out; omega
                case rel => exact ⟨(t280), (wrap64 (x7_1 - 1)), (by first | rfl | (simp; done) | (simp [*]; done)), H', ⟨by have := HK1.out; omega⟩, ⟨by (with_reducible repeat (first | apply Kd.R_alloc | apply Kd.R_drewN | apply Kd.R_drew)); exact Kd.R_mono HO282.out (fun _ hk => trivial)⟩, ⟨by repeat (first | (with_reducible first | exact HB.out | apply below_alloc | apply pw_below_drewN | apply below_drew1) | exact HB.out)⟩⟩
              · rw [if_neg c11] at H
                have c11b0 : (t283 == 0) = false := beq_eq_false_iff_ne.mpr c11
                have c11b1 : (t283 != 0) = true := bne_iff_ne.mpr c11
                simp only [Option.some.injEq, Prod.mk.injEq] at H
                obtain ⟨rfl, rfl⟩ := H
                have p279 : 0 ≤ (x7_1 : Int) := of_decide_eq_true (by first | (with_reducible assumption) | assumption)
                have q279 : x7_1 < (l0.length : Int) := of_decide_eq_true (by first | (with_reducible assumption) | assumption)
                obtain ⟨ad279, e279, hx279_0, hx279_1, hx279_2, hx279_3, hx279_4⟩ := at_T23 HR0.out x7_1 p279 q279
                cases e279
                replace hx279_0 := (HB.out.cell (World.block_lt_of_cell? w _ hx279_0)).trans hx279_0
                replace hx279_1 := (HB.out.cell (World.block_lt_of_cell? w _ hx279_1)).trans hx279_1
                replace hx279_2 := (HB.out.cell (World.block_lt_of_cell? w _ hx279_2)).trans hx279_2
                replace hx279_3 := (HB.out.cell (World.block_lt_of_cell? w _ hx279_3)).trans hx279_3
                replace hx279_4 := (HB.out.cell (World.block_lt_of_cell? w _ hx279_4)).trans hx279_4
                replace p279 := eq_true p279
                replace q279 := eq_true q279
                obtain ⟨Ao14, co14, eo14⟩ := Kd.R_slice HO_6.out
                subst eo14
                go_wp2_with (first | ((with_reducible refine gate_callee (f := 14) rfl ?_); refine goesL_ (some 26) rfl rfl Try.func14 (by kernel_rfl) rfl #[.agg #[.int .i64 ((rd_T23 l0 x7_1).f0), .int .i64 ((rd_T23 l0 x7_1).f1), .int .i64 ((rd_T23 l0 x7_1).f2), .int .i64 ((rd_T23 l0 x7_1).f3), .int .i64 ((rd_T23 l0 x7_1).f4)], .slice Ao14 x6_1.length co14] rfl (by (try simp only [List.map_toArray, List.map_cons, List.map_nil]); first | done | rfl | (simp only [List.length_drop, List.length_take]; rfl)) ?_; (with_reducible refine (secateurref15_Back.calls k1 ((rd_T23 l0 x7_1).f0) ((rd_T23 l0 x7_1).f1) ((rd_T23 l0 x7_1).f2) ((rd_T23 l0 x7_1).f3) ((rd_T23 l0 x7_1).f4) _ _ x6_1 t280 t283 _ ?side1 ?side2 A10.out).mono ?_); (case side1 => repeat (first | exact (Kd.R_reads' HO_6.out).2.2 | (with_reducible refine Kd.C_alloc ?_ _) | (with_reducible refine Kd.C_drewN ?_ _) | (with_reducible refine Kd.C_drew ?_))); (case side2 => exact (Kd.R_reads' HO_6.out).2.1); rintro e w15 ⟨v281, rfl, ho0, hb⟩; refine ⟨_, rfl, ?_⟩; have n0_ := Aside0.mk (Kd.R_elder' (by (with_reducible repeat (first | apply Kd.R_alloc | apply Kd.R_drewN | apply Kd.R_drew)); exact HO_6.out) (Kd.R_base ho0) hb); have n1_ := Aside0.mk (Kd.R_lower (Kd.R_new' ho0 (Kd.R_lt (by (with_reducible repeat (first | apply Kd.R_alloc | apply Kd.R_drewN | apply Kd.R_drew)); exact HO_6.out))) (below_size (by repeat (first | (with_reducible first | exact HB.out | apply below_alloc | apply pw_below_drewN | apply below_drew1) | exact HB.out)))); have n2_ := Aside0.mk (below_step (by repeat (first | (with_reducible first | exact HB.out | apply below_alloc | apply pw_below_drewN | apply below_drew1) | exact HB.out)) hb); clear HO_6; clear HB; have HO_6 := n0_; have HO282 := n1_; have HB := n2_; clear n0_ n1_ n2_; (try clear hb); (try clear hb2); (try clear hk); (try clear hi); (try clear ho0)))
                go_ret2
                exact ⟨_, by first | rfl | (simp [errW_none, errW_some] <;> rfl) | (simp [*, errW_none, errW_some] <;> rfl), by first | exact Kd.R_nil _ _ _ _ _ | exact Kd.N_nil _ _ _ _ _ | exact Kd.V_nil _ _ _ _ _ | exact Kd.Q_nil _ _ _ _ _ | exact Kd.S_nil _ _ _ _ _, by repeat (first | (with_reducible first | exact HB.out | apply below_alloc | apply pw_below_drewN | apply below_drew1) | exact HB.out)⟩
            · rw [if_neg c9] at H
              exact absurd H (by simp)
          · rw [if_neg c8] at H
            exact absurd H (by simp)
        · rw [if_neg c7] at H
          have c7b0 : decide (0 ≤ x7_1) = false := decide_eq_false c7
          clear c7
          simp only [Option.some.injEq, Prod.mk.injEq] at H
          obtain ⟨rfl, rfl⟩ := H
          go_wp2
          go_ret2
          exact ⟨_, by first | rfl | (simp [errW_none, errW_some] <;> rfl) | (simp [*, errW_none, errW_some] <;> rfl), by (with_reducible repeat (first | apply Kd.R_alloc | apply Kd.R_drewN | apply Kd.R_drew)); exact HO_6.out, by repeat (first | (with_reducible first | exact HB.out | apply below_alloc | apply pw_below_drewN | apply below_drew1) | exact HB.out)⟩
  · rw [if_neg c3] at H
    exact absurd H (by simp)

/-! ### secateurlaw15_StepsReplay: function 6 -/
mutual
def secateurlaw15_StepsReplay.j0 : Nat → List Int → List Int → List Int → Bool → Option (Bool)
  | 0, _, _, _, _ => none
  | k + 1, x1, x5, x6, x44 => if x44 = true then (some false) else (secateurlaw15_StepsReplay.l0 k x1 x5 x6 0)
def secateurlaw15_StepsReplay.l0 : Nat → List Int → List Int → List Int → Int → Option (Bool)
  | 0, _, _, _, _ => none
  | k + 1, x1, x5, x6, x10 => if x10 < (x6.length : Int) then (if 0 ≤ x10 then (secateurlaw15_StepsReplay.l0 k x1 x5 (x6.set (x10 : Int).toNat 99) (wrap64 (x10 + 1))) else (none)) else ((secateurref02_Nums.f k x1 x5).bind fun t308 => (if t308 = true then ((secateurlaw15_fixed.f k).bind fun t309 => (some t309)) else (some false)))
end
def secateurlaw15_StepsReplay.f (k : Nat) (l0 : List (S23)) (l1 : List Int) : Option (Bool) := if 0 ≤ (mn (l0.length : Int) 40) then (if (mn (l0.length : Int) 40) ≤ (l0.length : Int) then ((some (l0.take ((mn (l0.length : Int) 40) : Int).toNat : List (S23))).bind fun y284 => (if 0 ≤ (mn (l1.length : Int) 40) then (if (mn (l1.length : Int) 40) ≤ (l1.length : Int) then ((some (l1.take ((mn (l1.length : Int) 40) : Int).toNat : List Int)).bind fun y288 => ((some (([] : List Int) : List Int)).bind fun y292 => (if y292.length + y288.length < 17592186044416 then ((some (y292 ++ y288 : List Int)).bind fun y295 => ((steps_Replay.f k y284 y288).bind fun bt298 => ((secateurref15_Replay.f k y284 y288).bind fun bt302 => (if bt298.2 = bt302.2 then ((secateurref02_Nums.f k bt298.1 bt302.1).bind fun t306 => (secateurlaw15_StepsReplay.j0 k y288 y295 bt298.1 (!t306))) else (secateurlaw15_StepsReplay.j0 k y288 y295 bt298.1 true))))) else (none)))) else (none)) else (none))) else (none)) else (none)
theorem secateurlaw15_StepsReplay.mono_l : ∀ k, (∀ y0 y1 y2 y3, LeO (secateurlaw15_StepsReplay.j0 k y0 y1 y2 y3) (secateurlaw15_StepsReplay.j0 (k + 1) y0 y1 y2 y3)) ∧ (∀ y0 y1 y2 y3, LeO (secateurlaw15_StepsReplay.l0 k y0 y1 y2 y3) (secateurlaw15_StepsReplay.l0 (k + 1) y0 y1 y2 y3))
  | 0 => ⟨fun _ _ _ _ r h => by simp [secateurlaw15_StepsReplay.j0] at h, fun _ _ _ _ r h => by simp [secateurlaw15_StepsReplay.l0] at h⟩
  | k + 1 => by
    obtain ⟨ih0, ih1⟩ := secateurlaw15_StepsReplay.mono_l k
    refine ⟨?_, ?_⟩
    · intro y0 y1 y2 y3
      unfold secateurlaw15_StepsReplay.j0
      repeat' first
      | (with_reducible exact ih0 _ _ _ _)
      | (with_reducible exact ih1 _ _ _ _)
      | (with_reducible exact secateurlaw15_fixed.mono _)
      | (with_reducible exact secateurref02_Nums.mono _ _ _)
      | (with_reducible exact secateurref15_Replay.mono _ _ _)
      | (with_reducible exact steps_Replay.mono _ _ _)
      | (with_reducible exact LeO.refl _)
      | (with_reducible exact LeO.none _)
      | (with_reducible refine LeO.ite ?_ ?_)
      | (with_reducible refine LeO.bind ?_ (fun _ => ?_))
      | exact ih0 _ _ _ _
      | exact ih1 _ _ _ _
      | exact secateurlaw15_fixed.mono _
      | exact secateurref02_Nums.mono _ _ _
      | exact secateurref15_Replay.mono _ _ _
      | exact steps_Replay.mono _ _ _
      | exact LeO.none _
      | refine LeO.ite ?_ ?_
      | refine LeO.bind ?_ (fun _ => ?_)
    · intro y0 y1 y2 y3
      unfold secateurlaw15_StepsReplay.l0
      repeat' first
      | (with_reducible exact ih0 _ _ _ _)
      | (with_reducible exact ih1 _ _ _ _)
      | (with_reducible exact secateurlaw15_fixed.mono _)
      | (with_reducible exact secateurref02_Nums.mono _ _ _)
      | (with_reducible exact secateurref15_Replay.mono _ _ _)
      | (with_reducible exact steps_Replay.mono _ _ _)
      | (with_reducible exact LeO.refl _)
      | (with_reducible exact LeO.none _)
      | (with_reducible refine LeO.ite ?_ ?_)
      | (with_reducible refine LeO.bind ?_ (fun _ => ?_))
      | exact ih0 _ _ _ _
      | exact ih1 _ _ _ _
      | exact secateurlaw15_fixed.mono _
      | exact secateurref02_Nums.mono _ _ _
      | exact secateurref15_Replay.mono _ _ _
      | exact steps_Replay.mono _ _ _
      | exact LeO.none _
      | refine LeO.ite ?_ ?_
      | refine LeO.bind ?_ (fun _ => ?_)
theorem secateurlaw15_StepsReplay.mono : ∀ a0 a1 k, LeO (secateurlaw15_StepsReplay.f k a0 a1) (secateurlaw15_StepsReplay.f (k + 1) a0 a1) := by
  intro a0 a1 k
  obtain ⟨ih0, ih1⟩ := secateurlaw15_StepsReplay.mono_l k
  unfold secateurlaw15_StepsReplay.f
  repeat' first
      | (with_reducible exact ih0 _ _ _ _)
      | (with_reducible exact ih1 _ _ _ _)
      | (with_reducible exact secateurlaw15_fixed.mono _)
      | (with_reducible exact secateurref02_Nums.mono _ _ _)
      | (with_reducible exact secateurref15_Replay.mono _ _ _)
      | (with_reducible exact steps_Replay.mono _ _ _)
      | (with_reducible exact LeO.refl _)
      | (with_reducible exact LeO.none _)
      | (with_reducible refine LeO.ite ?_ ?_)
      | (with_reducible refine LeO.bind ?_ (fun _ => ?_))
      | exact ih0 _ _ _ _
      | exact ih1 _ _ _ _
      | exact secateurlaw15_fixed.mono _
      | exact secateurref02_Nums.mono _ _ _
      | exact secateurref15_Replay.mono _ _ _
      | exact steps_Replay.mono _ _ _
      | exact LeO.none _
      | refine LeO.ite ?_ ?_
      | refine LeO.bind ?_ (fun _ => ?_)
set_option maxHeartbeats 8000000 in
set_option maxRecDepth 100000 in
theorem secateurlaw15_StepsReplay.calls (k : Nat) (A0 : Option Addr) (c0 : Nat) (l0 : List (S23)) (A1 : Option Addr) (c1 : Nat) (l1 : List Int) (r : Bool) (w : World) (hr0 : Kd.C k23 w A0 l0.length l0) (hc0 : l0.length ≤ c0) (hr1 : Kd.C (Kd.int .i64) w A1 l1.length l1) (hc1 : l1.length ≤ c1) (h : secateurlaw15_StepsReplay.f k l0 l1 = some r) :
    Calls Try.prog 6 #[.slice A0 l0.length c0, .slice A1 l1.length c1] w fun e w' => e = .returned (.bool r) ∧ Below w.heap.size w w' := by
  have HR0 := Aside0.mk hr0
  have HC0 := Aside0.mk hc0
  clear hr0 hc0
  have HR1 := Aside0.mk hr1
  have HC1 := Aside0.mk hc1
  clear hr1 hc1
  have HB := Aside0.mk (Below.refl w.heap.size w)
  have H : (if 0 ≤ (mn (l0.length : Int) 40) then (if (mn (l0.length : Int) 40) ≤ (l0.length : Int) then ((some (l0.take ((mn (l0.length : Int) 40) : Int).toNat : List (S23))).bind fun y284 => (if 0 ≤ (mn (l1.length : Int) 40) then (if (mn (l1.length : Int) 40) ≤ (l1.length : Int) then ((some (l1.take ((mn (l1.length : Int) 40) : Int).toNat : List Int)).bind fun y288 => ((some (([] : List Int) : List Int)).bind fun y292 => (if y292.length + y288.length < 17592186044416 then ((some (y292 ++ y288 : List Int)).bind fun y295 => ((steps_Replay.f k y284 y288).bind fun bt298 => ((secateurref15_Replay.f k y284 y288).bind fun bt302 => (if bt298.2 = bt302.2 then ((secateurref02_Nums.f k bt298.1 bt302.1).bind fun t306 => (secateurlaw15_StepsReplay.j0 k y288 y295 bt298.1 (!t306))) else (secateurlaw15_StepsReplay.j0 k y288 y295 bt298.1 true))))) else (none)))) else (none)) else (none))) else (none)) else (none)) = some r := h
  clear h
  obtain ⟨ji3, hji3⟩ : ∃ j_ : Int, (mn (l0.length : Int) 40) = j_ := ⟨_, rfl⟩
  replace H : (if 0 ≤ (ji3) then (if (ji3) ≤ (l0.length : Int) then ((some (l0.take ((ji3) : Int).toNat : List (S23))).bind fun y284 => (if 0 ≤ (mn (l1.length : Int) 40) then (if (mn (l1.length : Int) 40) ≤ (l1.length : Int) then ((some (l1.take ((mn (l1.length : Int) 40) : Int).toNat : List Int)).bind fun y288 => ((some (([] : List Int) : List Int)).bind fun y292 => (if y292.length + y288.length < 17592186044416 then ((some (y292 ++ y288 : List Int)).bind fun y295 => ((steps_Replay.f k y284 y288).bind fun bt298 => ((secateurref15_Replay.f k y284 y288).bind fun bt302 => (if bt298.2 = bt302.2 then ((secateurref02_Nums.f k bt298.1 bt302.1).bind fun t306 => (secateurlaw15_StepsReplay.j0 k y288 y295 bt298.1 (!t306))) else (secateurlaw15_StepsReplay.j0 k y288 y295 bt298.1 true))))) else (none)))) else (none)) else (none))) else (none)) else (none)) = some r := by first | (rw [hji3] at H; exact H) | (simp only [hji3] at H ⊢; exact H)
  (try (have hji3h : ji3 ≤ 40 := by (rw [← hji3]; unfold mn; (repeat' split) <;> omega)))
  (try (have hji3g : ji3 ≤ 64 := by omega))
  (try (have hji3l : 0 ≤ ji3 := by (rw [← hji3]; unfold mn; (repeat' split) <;> omega)))
  (try (have hji3m : 0 ≤ ji3 := by omega))
  have hji3_ : (if 40 < (l0.length : Int) then 40 else (l0.length : Int)) = ji3 := hji3
  by_cases c4 : 0 ≤ (ji3)
  · rw [if_pos c4] at H
    have c4b0 := eq_true c4
    have c4b1 : decide (0 ≤ (ji3)) = true := decide_eq_true c4
    clear c4
    by_cases c5 : (ji3) ≤ (l0.length : Int)
    · rw [if_pos c5] at H
      have c5b0 := eq_true c5
      have c5b1 : decide ((ji3) ≤ (l0.length : Int)) = true := decide_eq_true c5
      clear c5
      obtain ⟨y284, hy284⟩ : ∃ y_ : List (S23), y_ = (l0.take ((ji3) : Int).toNat) := ⟨_, rfl⟩
      replace H : (if 0 ≤ (mn (l1.length : Int) 40) then (if (mn (l1.length : Int) 40) ≤ (l1.length : Int) then ((some (l1.take ((mn (l1.length : Int) 40) : Int).toNat : List Int)).bind fun y288 => ((some (([] : List Int) : List Int)).bind fun y292 => (if y292.length + y288.length < 17592186044416 then ((some (y292 ++ y288 : List Int)).bind fun y295 => ((steps_Replay.f k y284 y288).bind fun bt298 => ((secateurref15_Replay.f k y284 y288).bind fun bt302 => (if bt298.2 = bt302.2 then ((secateurref02_Nums.f k bt298.1 bt302.1).bind fun t306 => (secateurlaw15_StepsReplay.j0 k y288 y295 bt298.1 (!t306))) else (secateurlaw15_StepsReplay.j0 k y288 y295 bt298.1 true))))) else (none)))) else (none)) else (none)) = some r := by first | (rw [hy284]; with_reducible exact H) | (have H2_ := (Option.bind_some _ _).symm.trans H; rw [hy284]; with_reducible exact H2_) | (have H2_ := (Option.bind_some _ _).symm.trans H; with_reducible exact H2_) | with_reducible exact H | (rw [hy284]; exact H) | exact H
      have Ny284 := Aside0.mk hy284
      clear hy284
      obtain ⟨ji6, hji6⟩ : ∃ j_ : Int, (mn (l1.length : Int) 40) = j_ := ⟨_, rfl⟩
      replace H : (if 0 ≤ (ji6) then (if (ji6) ≤ (l1.length : Int) then ((some (l1.take ((ji6) : Int).toNat : List Int)).bind fun y288 => ((some (([] : List Int) : List Int)).bind fun y292 => (if y292.length + y288.length < 17592186044416 then ((some (y292 ++ y288 : List Int)).bind fun y295 => ((steps_Replay.f k y284 y288).bind fun bt298 => ((secateurref15_Replay.f k y284 y288).bind fun bt302 => (if bt298.2 = bt302.2 then ((secateurref02_Nums.f k bt298.1 bt302.1).bind fun t306 => (secateurlaw15_StepsReplay.j0 k y288 y295 bt298.1 (!t306))) else (secateurlaw15_StepsReplay.j0 k y288 y295 bt298.1 true))))) else (none)))) else (none)) else (none)) = some r := by first | (rw [hji6] at H; exact H) | (simp only [hji6] at H ⊢; exact H)
      (try (have hji6h : ji6 ≤ 40 := by (rw [← hji6]; unfold mn; (repeat' split) <;> omega)))
      (try (have hji6g : ji6 ≤ 64 := by omega))
      (try (have hji6l : 0 ≤ ji6 := by (rw [← hji6]; unfold mn; (repeat' split) <;> omega)))
      (try (have hji6m : 0 ≤ ji6 := by omega))
      have hji6_ : (if 40 < (l1.length : Int) then 40 else (l1.length : Int)) = ji6 := hji6
      by_cases c7 : 0 ≤ (ji6)
      · rw [if_pos c7] at H
        have c7b0 := eq_true c7
        have c7b1 : decide (0 ≤ (ji6)) = true := decide_eq_true c7
        clear c7
        by_cases c8 : (ji6) ≤ (l1.length : Int)
        · rw [if_pos c8] at H
          have c8b0 := eq_true c8
          have c8b1 : decide ((ji6) ≤ (l1.length : Int)) = true := decide_eq_true c8
          clear c8
          obtain ⟨y288, hy288⟩ : ∃ y_ : List Int, y_ = (l1.take ((ji6) : Int).toNat) := ⟨_, rfl⟩
          replace H : ((some (([] : List Int) : List Int)).bind fun y292 => (if y292.length + y288.length < 17592186044416 then ((some (y292 ++ y288 : List Int)).bind fun y295 => ((steps_Replay.f k y284 y288).bind fun bt298 => ((secateurref15_Replay.f k y284 y288).bind fun bt302 => (if bt298.2 = bt302.2 then ((secateurref02_Nums.f k bt298.1 bt302.1).bind fun t306 => (secateurlaw15_StepsReplay.j0 k y288 y295 bt298.1 (!t306))) else (secateurlaw15_StepsReplay.j0 k y288 y295 bt298.1 true))))) else (none))) = some r := by first | (rw [hy288]; with_reducible exact H) | (have H2_ := (Option.bind_some _ _).symm.trans H; rw [hy288]; with_reducible exact H2_) | (have H2_ := (Option.bind_some _ _).symm.trans H; with_reducible exact H2_) | with_reducible exact H | (rw [hy288]; exact H) | exact H
          have Ny288 := Aside0.mk hy288
          clear hy288
          obtain ⟨y292, hy292⟩ : ∃ y_ : List Int, y_ = (([] : List Int)) := ⟨_, rfl⟩
          replace H : (if y292.length + y288.length < 17592186044416 then ((some (y292 ++ y288 : List Int)).bind fun y295 => ((steps_Replay.f k y284 y288).bind fun bt298 => ((secateurref15_Replay.f k y284 y288).bind fun bt302 => (if bt298.2 = bt302.2 then ((secateurref02_Nums.f k bt298.1 bt302.1).bind fun t306 => (secateurlaw15_StepsReplay.j0 k y288 y295 bt298.1 (!t306))) else (secateurlaw15_StepsReplay.j0 k y288 y295 bt298.1 true))))) else (none)) = some r := by first | (rw [hy292]; with_reducible exact H) | (have H2_ := (Option.bind_some _ _).symm.trans H; rw [hy292]; with_reducible exact H2_) | (have H2_ := (Option.bind_some _ _).symm.trans H; with_reducible exact H2_) | with_reducible exact H | (rw [hy292]; exact H) | exact H
          have Ny292 := Aside0.mk hy292
          clear hy292
          by_cases c9 : y292.length + y288.length < 17592186044416
          · rw [if_pos c9] at H
            have LMc9 := Aside0.mk c9
            clear c9
            obtain ⟨y295, hy295⟩ : ∃ y_ : List Int, y_ = (y292 ++ y288) := ⟨_, rfl⟩
            replace H : ((steps_Replay.f k y284 y288).bind fun bt298 => ((secateurref15_Replay.f k y284 y288).bind fun bt302 => (if bt298.2 = bt302.2 then ((secateurref02_Nums.f k bt298.1 bt302.1).bind fun t306 => (secateurlaw15_StepsReplay.j0 k y288 y295 bt298.1 (!t306))) else (secateurlaw15_StepsReplay.j0 k y288 y295 bt298.1 true)))) = some r := by first | (rw [hy295]; with_reducible exact H) | (have H2_ := (Option.bind_some _ _).symm.trans H; rw [hy295]; with_reducible exact H2_) | (have H2_ := (Option.bind_some _ _).symm.trans H; with_reducible exact H2_) | with_reducible exact H | (rw [hy295]; exact H) | exact H
            have Ny295 := Aside0.mk hy295
            clear hy295
            replace H := Option.bind_eq_some_iff.mp H
            obtain ⟨⟨t298, t299⟩, A100, H⟩ := H
            replace H : ((secateurref15_Replay.f k y284 y288).bind fun bt302 => (if t299 = bt302.2 then ((secateurref02_Nums.f k t298 bt302.1).bind fun t306 => (secateurlaw15_StepsReplay.j0 k y288 y295 t298 (!t306))) else (secateurlaw15_StepsReplay.j0 k y288 y295 t298 true))) = some r := H
            have A10 := Aside0.mk A100
            clear A100
            replace H := Option.bind_eq_some_iff.mp H
            obtain ⟨⟨t302, t303⟩, A110, H⟩ := H
            replace H : (if t299 = t303 then ((secateurref02_Nums.f k t298 t302).bind fun t306 => (secateurlaw15_StepsReplay.j0 k y288 y295 t298 (!t306))) else (secateurlaw15_StepsReplay.j0 k y288 y295 t298 true)) = some r := H
            have A11 := Aside0.mk A110
            clear A110
            have HC12 := Aside0.mk H
            clear H
            have q13 : ((ji3) : Int) ≤ ((l0.length : Int) : Int) := of_decide_eq_true (by first | (with_reducible assumption) | assumption)
            obtain ⟨i013, hi013, _, hsz13, _⟩ := info_parts info23
            have hroom13 : l0.length ≤ c0 := HC0.out
            have hC13 : Kd.C k23 _ A0 l0.length l0 := HR0.out
            have hcut13 := cut_to (P := Try.prog) 35 23 .i64 Try.underlying35 hi013 A0 l0.length c0 (ji3) (of_decide_eq_true (by first | (with_reducible assumption) | assumption)) q13 hroom13
            have hr13 := Kd.C_take (m := ((ji3) : Int).toNat) hC13 (by omega)
            have hy13 : y284.length = ((ji3) : Int).toNat := (by rw [Ny284.out, List.length_take]; omega)
            rw [← Ny284.out] at hr13
            rw [← hy13] at hcut13
            have HR287 := Aside0.mk hr13
            have HC287 := Aside0.mk (show y284.length ≤ c0 from by omega)
            clear hr13 hC13 hroom13 hi013 hsz13
            have KY13 := Aside0.mk hy13
            clear hy13
            replace q13 := eq_true q13
            have q14 : ((ji6) : Int) ≤ ((l1.length : Int) : Int) := of_decide_eq_true (by first | (with_reducible assumption) | assumption)
            obtain ⟨i014, hi014, _, hsz14, _⟩ := info_parts info3
            have hroom14 : l1.length ≤ c1 := HC1.out
            have hC14 : Kd.C (Kd.int .i64) _ A1 l1.length l1 := HR1.out
            have hcut14 := cut_to (P := Try.prog) 28 3 .i64 Try.underlying28 hi014 A1 l1.length c1 (ji6) (of_decide_eq_true (by first | (with_reducible assumption) | assumption)) q14 hroom14
            have hr14 := Kd.C_take (m := ((ji6) : Int).toNat) hC14 (by omega)
            have hy14 : y288.length = ((ji6) : Int).toNat := (by rw [Ny288.out, List.length_take]; omega)
            rw [← Ny288.out] at hr14
            rw [← hy14] at hcut14
            have HR291 := Aside0.mk hr14
            have HC291 := Aside0.mk (show y288.length ≤ c1 from by omega)
            clear hr14 hC14 hroom14 hi014 hsz14
            have KY14 := Aside0.mk hy14
            clear hy14
            replace q14 := eq_true q14
            go_enter Try.func6, Try.ntmps6
            go_upto_region 6 with (first | ((with_reducible refine gate_dst (N := 21) rfl ?_); refine Kd.R_lit (Kd.int .i64) _ 3 ?hg (N := 21) ?hd (xs := ([] : List Int)) (inner := []) (ok := fun _ => True) (okp := fun _ => True) ?hr ?hp (fun _ hk => hk) trivial (Below.refl _ _) (Nat.le_refl _) (by simp) ?_; (case hd => rfl); (case hg => rfl); (case hr => first | (go_simp; done) | (go_simp; rfl)); (case hp => exact (Reps.none _ _)); intro v293 w15 ho16 hb hg_ hnew_; clear hg_ hnew_; (first | rw [← Ny292.out] at ho16 | (simp only [Int.reduceToNat] at ho16; rw [← Ny292.out] at ho16)); have n0_ := Aside0.mk (Kd.R_lower ho16 (below_size (by repeat (first | (with_reducible first | exact HB.out | apply below_alloc | apply pw_below_drewN | apply below_drew1) | exact HB.out)))); have n1_ := Aside0.mk (below_step (by repeat (first | (with_reducible first | exact HB.out | apply below_alloc | apply pw_below_drewN | apply below_drew1) | exact HB.out)) hb); clear HB; have HO294 := n0_; have HB := n1_; clear n0_ n1_; clear hb ho16) | ((with_reducible refine gate_builtin (b := .append) (xs := #[.tmp 21, .tmp 22]) rfl ?_); at_builtin; refine Kd.R_append_rows (Kd.int .i64) (w0 := w) w.heap.size rfl (.tmp 21) (.tmp 22) 28 3 (.int .i64 0) 8 rfl Try.underlying28 info3 rfl (by decide) (by omega) v293 y292 y288 _ _ _ (fun _ => True) (fun _ => False) rfl rfl ?aO ?aR (fun _ _ h => h) (fun _ h => h.elim) ?aF ?aB ?aS ?aL ?_; (case aR => repeat (first | exact (Kd.C_below HR291.out HB.out) | (with_reducible refine Kd.C_alloc ?_ _) | (with_reducible refine Kd.C_drewN ?_ _) | (with_reducible refine Kd.C_drew ?_))); (case aB => exact (by repeat (first | (with_reducible first | exact HB.out | apply below_alloc | apply pw_below_drewN | apply below_drew1) | exact HB.out))); (case aF => exact (fun _ _ => trivial)); (case aO => exact (by (with_reducible repeat (first | apply Kd.R_alloc | apply Kd.R_drewN | apply Kd.R_drew)); exact HO294.out)); (case aS => exact (below_size (by repeat (first | (with_reducible first | exact HB.out | apply below_alloc | apply pw_below_drewN | apply below_drew1) | exact HB.out)))); (case aL => have := LMc9.out; omega); intro v296 w17 ho hb hg hat; rw [← Ny295.out] at ho; have n0_ := Aside0.mk (hb); have n1_ := Aside0.mk (ho); clear HB; clear HO294; have HB := n0_; have HO297 := n1_; clear n0_ n1_; clear ho hb hg hat) | ((with_reducible refine gate_callee (f := 18) rfl ?_); refine goesL_ (some 27) rfl rfl Try.func18 (by kernel_rfl) rfl #[.slice A0 y284.length c0, .slice A1 y288.length c1] rfl (by (try simp only [List.map_toArray, List.map_cons, List.map_nil]); first | done | rfl | (simp only [List.length_drop, List.length_take]; rfl)) ?_; (with_reducible refine (steps_Replay.calls k _ _ y284 _ _ y288 t298 t299 _ ?side1 ?side2 ?side3 ?side4 A10.out).mono ?_); (case side1 => repeat (first | exact (Kd.C_below HR287.out HB.out) | (with_reducible refine Kd.C_alloc ?_ _) | (with_reducible refine Kd.C_drewN ?_ _) | (with_reducible refine Kd.C_drew ?_))); (case side2 => exact HC287.out); (case side3 => repeat (first | exact (Kd.C_below HR291.out HB.out) | (with_reducible refine Kd.C_alloc ?_ _) | (with_reducible refine Kd.C_drewN ?_ _) | (with_reducible refine Kd.C_drew ?_))); (case side4 => exact HC291.out); rintro e w18 ⟨v300, rfl, ho0, hb⟩; refine ⟨_, rfl, ?_⟩; have n0_ := Aside0.mk (Kd.R_elder' (by (with_reducible repeat (first | apply Kd.R_alloc | apply Kd.R_drewN | apply Kd.R_drew)); exact HO297.out) (Kd.R_base ho0) hb); have n1_ := Aside0.mk (Kd.R_lower (Kd.R_new' ho0 (Kd.R_lt (by (with_reducible repeat (first | apply Kd.R_alloc | apply Kd.R_drewN | apply Kd.R_drew)); exact HO297.out))) (below_size (by repeat (first | (with_reducible first | exact HB.out | apply below_alloc | apply pw_below_drewN | apply below_drew1) | exact HB.out)))); have n2_ := Aside0.mk (below_step (by repeat (first | (with_reducible first | exact HB.out | apply below_alloc | apply pw_below_drewN | apply below_drew1) | exact HB.out)) hb); clear HO297; clear HB; have HO297 := n0_; have HO301 := n1_; have HB := n2_; clear n0_ n1_ n2_; (try clear hb); (try clear hb2); (try clear hk); (try clear hi); (try clear ho0)) | ((with_reducible refine gate_callee (f := 19) rfl ?_); refine goesL_ (some 33) rfl rfl Try.func19 (by kernel_rfl) rfl #[.slice A0 y284.length c0, .slice A1 y288.length c1] rfl (by (try simp only [List.map_toArray, List.map_cons, List.map_nil]); first | done | rfl | (simp only [List.length_drop, List.length_take]; rfl)) ?_; (with_reducible refine (secateurref15_Replay.calls k _ _ y284 _ _ y288 t302 t303 _ ?side1 ?side2 ?side3 ?side4 A11.out).mono ?_); (case side1 => repeat (first | exact (Kd.C_below HR287.out HB.out) | (with_reducible refine Kd.C_alloc ?_ _) | (with_reducible refine Kd.C_drewN ?_ _) | (with_reducible refine Kd.C_drew ?_))); (case side2 => exact HC287.out); (case side3 => repeat (first | exact (Kd.C_below HR291.out HB.out) | (with_reducible refine Kd.C_alloc ?_ _) | (with_reducible refine Kd.C_drewN ?_ _) | (with_reducible refine Kd.C_drew ?_))); (case side4 => exact HC291.out); rintro e w19 ⟨v304, rfl, ho0, hb⟩; refine ⟨_, rfl, ?_⟩; have n0_ := Aside0.mk (Kd.R_elder' (by (with_reducible repeat (first | apply Kd.R_alloc | apply Kd.R_drewN | apply Kd.R_drew)); exact HO297.out) (Kd.R_base ho0) hb); have n1_ := Aside0.mk (Kd.R_elder' (by (with_reducible repeat (first | apply Kd.R_alloc | apply Kd.R_drewN | apply Kd.R_drew)); exact HO301.out) (Kd.R_base ho0) hb); have n2_ := Aside0.mk (Kd.R_lower (Kd.R_new' (Kd.R_new' ho0 (Kd.R_lt (by (with_reducible repeat (first | apply Kd.R_alloc | apply Kd.R_drewN | apply Kd.R_drew)); exact HO297.out))) (Kd.R_lt (by (with_reducible repeat (first | apply Kd.R_alloc | apply Kd.R_drewN | apply Kd.R_drew)); exact HO301.out))) (below_size (by repeat (first | (with_reducible first | exact HB.out | apply below_alloc | apply pw_below_drewN | apply below_drew1) | exact HB.out)))); have n3_ := Aside0.mk (below_step (by repeat (first | (with_reducible first | exact HB.out | apply below_alloc | apply pw_below_drewN | apply below_drew1) | exact HB.out)) hb); clear HO297; clear HO301; clear HB; have HO297 := n0_; have HO301 := n1_; have HO305 := n2_; have HB := n3_; clear n0_ n1_ n2_ n3_; (try clear hb); (try clear hb2); (try clear hk); (try clear hi); (try clear ho0)))
            (try simp only [Act.put, List.setIfInBounds_toArray, List.set_cons_zero, List.set_cons_succ])
            go_cut [44] (fun v44 wc => ∃ (kq : Nat) (x44_11 : Bool), v44 = .bool x44_11 ∧ Aside0 (secateurlaw15_StepsReplay.j0 kq y288 y295 t298 x44_11 = some r) ∧ Aside0 (kq ≤ k) ∧ Aside0 (Kd.R (Kd.int .i64) 3 wc w.heap.size (fun k_ => some k_ ≠ (v300 : Value).ownBlock) v296 y295) ∧ Aside0 (Kd.R (Kd.int .i64) 3 wc w.heap.size (fun k_ => some k_ ≠ (v296 : Value).ownBlock) v300 t298) ∧ Aside0 (Below w.heap.size w wc))
            case first =>
              have H := HC12.out
              clear HC12
              by_cases c20 : t299 = t303
              · rw [if_pos c20] at H
                have c20b0 : (t299 == t303) = true := beq_iff_eq.mpr c20
                have c20b1 : (t299 != t303) = false := bne_eq_false_iff_eq.mpr c20
                clear c20
                (first | rw [c20b0] | (simp only [i64_w, i32_w]; rw [c20b0]) | skip)
                replace H := Option.bind_eq_some_iff.mp H
                obtain ⟨t306, A210, H⟩ := H
                replace H : (secateurlaw15_StepsReplay.j0 k y288 y295 t298 (!t306)) = some r := H
                have A21 := Aside0.mk A210
                clear A210
                have H' := Aside0.mk H
                clear H
                obtain ⟨Ao22, co22, eo22⟩ := Kd.R_slice HO301.out
                subst eo22
                obtain ⟨Ao23, co23, eo23⟩ := Kd.R_slice HO305.out
                subst eo23
                go_wp2_with (first | (go_at_call 13; (with_reducible refine (secateurref02_Nums.calls k _ _ t298 _ _ t302 t306 _ ?side1 ?side2 ?side3 ?side4 A21.out).mono ?_); (case side1 => repeat (first | exact (Kd.R_reads' HO301.out).2.2 | (with_reducible refine Kd.C_alloc ?_ _) | (with_reducible refine Kd.C_drewN ?_ _) | (with_reducible refine Kd.C_drew ?_))); (case side2 => exact (Kd.R_reads' HO301.out).2.1); (case side3 => repeat (first | exact (Kd.R_reads' HO305.out).2.2 | (with_reducible refine Kd.C_alloc ?_ _) | (with_reducible refine Kd.C_drewN ?_ _) | (with_reducible refine Kd.C_drew ?_))); (case side4 => exact (Kd.R_reads' HO305.out).2.1); rintro e w' ⟨rfl, ⟨nd, rfl⟩⟩))
                go_meet
                case rel => exact ⟨_, (!t306), (by first | rfl | (simp; done) | (simp [*]; done)), H', ⟨by first | omega | exact Nat.le_refl _⟩, ⟨by (with_reducible repeat (first | apply Kd.R_alloc | apply Kd.R_drewN | apply Kd.R_drew)); exact Kd.R_mono HO297.out (fun _ hk => hk.1.2)⟩, ⟨by (with_reducible repeat (first | apply Kd.R_alloc | apply Kd.R_drewN | apply Kd.R_drew)); exact Kd.R_mono HO301.out (fun _ hk => hk.1.2)⟩, ⟨by repeat (first | (with_reducible first | exact HB.out | apply below_alloc | apply pw_below_drewN | apply below_drew1) | exact HB.out)⟩⟩
              · rw [if_neg c20] at H
                have c20b0 : (t299 == t303) = false := beq_eq_false_iff_ne.mpr c20
                have c20b1 : (t299 != t303) = true := bne_iff_ne.mpr c20
                (first | rw [c20b0] | (simp only [i64_w, i32_w]; rw [c20b0]) | skip)
                have H' := Aside0.mk H
                clear H
                go_wp2
                go_meet
                case rel => exact ⟨_, (true), (by first | rfl | (simp; done) | (simp [*]; done)), H', ⟨by first | omega | exact Nat.le_refl _⟩, ⟨by (with_reducible repeat (first | apply Kd.R_alloc | apply Kd.R_drewN | apply Kd.R_drew)); exact Kd.R_mono HO297.out (fun _ hk => hk.1.2)⟩, ⟨by (with_reducible repeat (first | apply Kd.R_alloc | apply Kd.R_drewN | apply Kd.R_drew)); exact Kd.R_mono HO301.out (fun _ hk => hk.1.2)⟩, ⟨by repeat (first | (with_reducible first | exact HB.out | apply below_alloc | apply pw_below_drewN | apply below_drew1) | exact HB.out)⟩⟩
            case rest =>
              clear HC12
              try clear c1
              try clear q1
              try clear c2
              try clear p2
              try clear c4
              try clear c4b0
              try clear c4b1
              try clear c5
              try clear c5b0
              try clear c5b1
              try clear c6
              try clear c7
              try clear c7b0
              try clear c7b1
              try clear c8
              try clear c8b0
              try clear c8b1
              try clear c9
              try clear q13
              try clear q14
              try clear c18
              try clear c19
              try clear c20
              try clear c20b0
              try clear c20b1
              try clear q13
              try clear q14
              obtain ⟨kq, x44_11, rfl, HA, HJ11, HO_5, HO_6, HB⟩ := hcut
              cases kq with
              | zero => exact absurd HA.out (by simp [secateurlaw15_StepsReplay.j0])
              | succ kj11 =>
                have H := HA.out
                clear HA
                simp only [secateurlaw15_StepsReplay.j0] at H
                by_cases c24 : x44_11 = true
                · subst c24
                  have H1 : (some false) = some r := by rw [if_pos rfl] at H; exact H
                  clear H
                  have H := H1
                  clear H1
                  obtain rfl := Option.some.inj H
                  go_wp2
                  go_ret
                  exact ⟨by first | rfl | (simp [errW_none, errW_some] <;> rfl) | (simp only [← hji3, ← hji6]; first | rfl | (simp [errW_none, errW_some] <;> rfl)) | (simp [*, errW_none, errW_some] <;> rfl), by repeat (first | (with_reducible first | exact HB.out | apply below_alloc | apply pw_below_drewN | apply below_drew1) | exact HB.out)⟩
                · replace c24 := Bool.eq_false_iff.mpr c24
                  subst c24
                  have H1 : (secateurlaw15_StepsReplay.l0 kj11 y288 y295 t298 0) = some r := by rw [if_neg (show ¬ (false = true) by decide)] at H; exact H
                  clear H
                  have H := H1
                  clear H1
                  have H' := Aside0.mk H
                  clear H
                  go_wp2
                  go_loopg [10] kj11 (fun kq v10 w' => ∃ (x6_2 : List Int) (x10_2 : Int), v10 = .int .i64 x10_2 ∧ Aside0 (secateurlaw15_StepsReplay.l0 kq y288 y295 x6_2 x10_2 = some r) ∧ Aside0 (kq ≤ kj11) ∧ Aside0 (Kd.R (Kd.int .i64) 3 w' w.heap.size (fun k_ => some k_ ≠ (v300 : Value).ownBlock) v296 y295) ∧ Aside0 (Kd.R (Kd.int .i64) 3 w' w.heap.size (fun k_ => some k_ ≠ (v296 : Value).ownBlock) v300 x6_2) ∧ Aside0 (Below w.heap.size w w'))
                  case atStart => exact ⟨(t298), (0), (by first | rfl | (simp; done) | (simp [*]; done)), H', ⟨Nat.le_refl _⟩, ⟨by (with_reducible repeat (first | apply Kd.R_alloc | apply Kd.R_drewN | apply Kd.R_drew)); exact HO_5.out⟩, ⟨by (with_reducible repeat (first | apply Kd.R_alloc | apply Kd.R_drewN | apply Kd.R_drew)); exact HO_6.out⟩, ⟨by repeat (first | (with_reducible first | exact HB.out | apply below_alloc | apply pw_below_drewN | apply below_drew1) | exact HB.out)⟩⟩
                  case round =>
                    clear H'
                    try clear c1
                    try clear q1
                    try clear c2
                    try clear p2
                    try clear c4
                    try clear c4b0
                    try clear c4b1
                    try clear c5
                    try clear c5b0
                    try clear c5b1
                    try clear c6
                    try clear c7
                    try clear c7b0
                    try clear c7b1
                    try clear c8
                    try clear c8b0
                    try clear c8b1
                    try clear c9
                    try clear q13
                    try clear q14
                    try clear c18
                    try clear c19
                    try clear c20
                    try clear c20b0
                    try clear c20b1
                    try clear c24
                    try clear p2
                    try clear q1
                    try clear q13
                    try clear q14
                    obtain ⟨x6_2, x10_2, rfl, HA, HK2, HO_5, HO_6, HB⟩ := hrel
                    cases gk with
                    | zero => exact absurd HA.out (by simp [secateurlaw15_StepsReplay.l0])
                    | succ k2 =>
                      have H := HA.out
                      clear HA
                      simp only [secateurlaw15_StepsReplay.l0] at H
                      by_cases c25 : x10_2 < (x6_2.length : Int)
                      · rw [if_pos c25] at H
                        have c25b0 : decide (x10_2 < (x6_2.length : Int)) = true := decide_eq_true c25
                        clear c25
                        by_cases c26 : 0 ≤ x10_2
                        · rw [if_pos c26] at H
                          have c26b0 : decide (0 ≤ x10_2) = true := decide_eq_true c26
                          clear c26
                          obtain ⟨y307, hy307⟩ : ∃ y_ : List Int, y_ = (x6_2.set (x10_2 : Int).toNat 99) := ⟨_, rfl⟩
                          replace H : (secateurlaw15_StepsReplay.l0 k2 y288 y295 y307 (wrap64 (x10_2 + 1))) = some r := by first | (rw [hy307]; with_reducible exact H) | (have H2_ := (Option.bind_some _ _).symm.trans H; rw [hy307]; with_reducible exact H2_) | (have H2_ := (Option.bind_some _ _).symm.trans H; with_reducible exact H2_) | with_reducible exact H | (rw [hy307]; exact H) | exact H
                          have Ny307 := Aside0.mk hy307
                          clear hy307
                          have H' := Aside0.mk H
                          clear H
                          obtain ⟨Ao28, co28, eo28⟩ := Kd.R_slice HO_6.out
                          subst eo28
                          have p27 : 0 ≤ (x10_2 : Int) := of_decide_eq_true (by first | (with_reducible assumption) | assumption)
                          have q27 : (x10_2 : Int) < ((x6_2.length : Int) : Int) := of_decide_eq_true (by first | (with_reducible assumption) | assumption)
                          obtain ⟨go27, co27, eo27, gb27, gl27, cl27, HG27⟩ := Kd.R_form HO_6.out (by omega)
                          (first | cases eo27 | (injection eo27 with ea_ en_ ec_; (first | subst ea_ | (injection ea_ with ea_; subst ea_)); subst ec_; clear en_))
                          have GB27 := Aside0.mk gb27
                          have GG27 := Aside0.mk HG27
                          clear gb27 gl27 HG27
                          obtain ⟨hx27_0, hf27_0⟩ := Kd.R_celln 0 HO_6.out (x10_2 : Int) p27 q27
                          replace p27 := eq_true p27
                          replace q27 := eq_true q27
                          have HP29 := Kd.R_putg HO_6.out (x10_2 : Int) 99
                          go_wp2_with (first | ((with_reducible refine gate_store (t := 3) (p := 53) rfl ?_); refine store_event (t := 3) (p := 53) (v := ?vo_w30) (w1 := (wr.setCell ⟨go27, (x10_2 : Int).toNat, none⟩ (.int .i64 99))) ?hg ?ho ?hn ?hr ?_; (case ho => rfl); (case hg => rfl); (case hn => rfl); (case hr => first | (go_simp; done) | (go_simp; rfl)); intro w30 hw; have hg : wr.grownBy w30 (some go27) := (by rw [hw]; exact HP29.2); have hp_ : Kd.R (Kd.int .i64) 3 w30 w.heap.size (fun k_ => some k_ ≠ (v296 : Value).ownBlock) (.slice (some ⟨go27, 0, none⟩) x6_2.length co28) y307 := (by rw [hw, Ny307.out]; exact HP29.1); clear HP29; have n0_ := Aside0.mk (Kd.R_after (v := (.slice (some ⟨go27, 0, none⟩) x6_2.length co28)) (v1 := (.slice (some ⟨go27, 0, none⟩) x6_2.length co28)) (ok := (fun _ => True)) (by (with_reducible repeat (first | apply Kd.R_alloc | apply Kd.R_drewN | apply Kd.R_drew)); exact Kd.R_mono HO_5.out (fun _ hk => ⟨trivial, hk⟩)) hg (.inl rfl)); have n1_ := Aside0.mk (hp_); have n2_ := Aside0.mk ((by rw [hw]; exact below_set (HB.out) GB27.out : Below w.heap.size w w30)); clear HO_5; clear HO_6; clear HB; have HO_5 := n0_; have HO_6 := n1_; have HB := n2_; clear n0_ n1_ n2_; clear hg hw hp_))
                          go_roundg k2
                          case measure => have := HJ11.out; have := HK2.out; omega
                          case rel => exact ⟨(y307), (wrap64 (x10_2 + 1)), (by first | rfl | (simp; done) | (simp [*]; done)), H', ⟨by have := HJ11.out; have := HK2.out; omega⟩, ⟨by (with_reducible repeat (first | apply Kd.R_alloc | apply Kd.R_drewN | apply Kd.R_drew)); exact Kd.R_mono HO_5.out (fun _ hk => hk.2)⟩, ⟨by (with_reducible repeat (first | apply Kd.R_alloc | apply Kd.R_drewN | apply Kd.R_drew)); exact HO_6.out⟩, ⟨by repeat (first | (with_reducible first | exact HB.out | apply below_alloc | apply pw_below_drewN | apply below_drew1) | exact HB.out)⟩⟩
                        · rw [if_neg c26] at H
                          exact absurd H (by simp)
                      · rw [if_neg c25] at H
                        have c25b0 : decide (x10_2 < (x6_2.length : Int)) = false := decide_eq_false c25
                        clear c25
                        replace H := Option.bind_eq_some_iff.mp H
                        obtain ⟨t308, A310, H⟩ := H
                        replace H : (if t308 = true then ((secateurlaw15_fixed.f k2).bind fun t309 => (some t309)) else (some false)) = some r := H
                        have A31 := Aside0.mk A310
                        clear A310
                        by_cases c32 : t308 = true
                        · subst c32
                          have H1 : ((secateurlaw15_fixed.f k2).bind fun t309 => (some t309)) = some r := by rw [if_pos rfl] at H; exact H
                          clear H
                          have H := H1
                          clear H1
                          replace H := Option.bind_eq_some_iff.mp H
                          obtain ⟨t309, A330, H⟩ := H
                          replace H : (some t309) = some r := H
                          have A33 := Aside0.mk A330
                          clear A330
                          obtain rfl := Option.some.inj H
                          obtain ⟨Ao34, co34, eo34⟩ := Kd.R_slice HO_6.out
                          subst eo34
                          obtain ⟨Ao35, co35, eo35⟩ := Kd.R_slice HO_5.out
                          subst eo35
                          go_wp2_with (first | ((with_reducible refine gate_callee (f := 13) rfl ?_); refine goesL_ (some 56) rfl rfl Try.func13 (by kernel_rfl) rfl #[.slice A1 y288.length c1, .slice Ao35 y295.length co35] rfl (by (try simp only [List.map_toArray, List.map_cons, List.map_nil]); first | done | rfl | (simp only [List.length_drop, List.length_take]; rfl)) ?_; (with_reducible refine (secateurref02_Nums.calls k2 _ _ y288 _ _ y295 true _ ?side1 ?side2 ?side3 ?side4 A31.out).mono ?_); (case side1 => repeat (first | exact (Kd.C_below HR291.out HB.out) | (with_reducible refine Kd.C_alloc ?_ _) | (with_reducible refine Kd.C_drewN ?_ _) | (with_reducible refine Kd.C_drew ?_))); (case side2 => exact HC291.out); (case side3 => repeat (first | exact (Kd.R_reads' HO_5.out).2.2 | (with_reducible refine Kd.C_alloc ?_ _) | (with_reducible refine Kd.C_drewN ?_ _) | (with_reducible refine Kd.C_drew ?_))); (case side4 => exact (Kd.R_reads' HO_5.out).2.1); rintro e w' ⟨rfl, ⟨nd, rfl⟩⟩; refine ⟨_, rfl, ?_⟩) | (go_at_call 11; (with_reducible refine (secateurlaw15_fixed.calls k2  t309 _ A33.out).mono ?_); rintro e w36 ⟨rfl, hb⟩; have n0_ := Aside0.mk (Kd.R_below (by (with_reducible repeat (first | apply Kd.R_alloc | apply Kd.R_drewN | apply Kd.R_drew)); exact HO_5.out) hb); have n1_ := Aside0.mk (Kd.R_below (by (with_reducible repeat (first | apply Kd.R_alloc | apply Kd.R_drewN | apply Kd.R_drew)); exact HO_6.out) hb); have n2_ := Aside0.mk (below_step (by repeat (first | (with_reducible first | exact HB.out | apply below_alloc | apply pw_below_drewN | apply below_drew1) | exact HB.out)) hb); clear HO_5; clear HO_6; clear HB; have HO_5 := n0_; have HO_6 := n1_; have HB := n2_; clear n0_ n1_ n2_; (try clear hb); (try clear hb2); (try clear hk); (try clear hi)))
                          go_ret
                          exact ⟨by first | rfl | (simp [errW_none, errW_some] <;> rfl) | (simp only [← hji3, ← hji6]; first | rfl | (simp [errW_none, errW_some] <;> rfl)) | (simp [*, errW_none, errW_some] <;> rfl), by repeat (first | (with_reducible first | exact HB.out | apply below_alloc | apply pw_below_drewN | apply below_drew1) | exact HB.out)⟩
                        · replace c32 := Bool.eq_false_iff.mpr c32
                          subst c32
                          have H1 : (some false) = some r := by rw [if_neg (show ¬ (false = true) by decide)] at H; exact H
                          clear H
                          have H := H1
                          clear H1
                          obtain rfl := Option.some.inj H
                          obtain ⟨Ao37, co37, eo37⟩ := Kd.R_slice HO_6.out
                          subst eo37
                          obtain ⟨Ao38, co38, eo38⟩ := Kd.R_slice HO_5.out
                          subst eo38
                          go_wp2_with (first | ((with_reducible refine gate_callee (f := 13) rfl ?_); refine goesL_ (some 56) rfl rfl Try.func13 (by kernel_rfl) rfl #[.slice A1 y288.length c1, .slice Ao38 y295.length co38] rfl (by (try simp only [List.map_toArray, List.map_cons, List.map_nil]); first | done | rfl | (simp only [List.length_drop, List.length_take]; rfl)) ?_; (with_reducible refine (secateurref02_Nums.calls k2 _ _ y288 _ _ y295 false _ ?side1 ?side2 ?side3 ?side4 A31.out).mono ?_); (case side1 => repeat (first | exact (Kd.C_below HR291.out HB.out) | (with_reducible refine Kd.C_alloc ?_ _) | (with_reducible refine Kd.C_drewN ?_ _) | (with_reducible refine Kd.C_drew ?_))); (case side2 => exact HC291.out); (case side3 => repeat (first | exact (Kd.R_reads' HO_5.out).2.2 | (with_reducible refine Kd.C_alloc ?_ _) | (with_reducible refine Kd.C_drewN ?_ _) | (with_reducible refine Kd.C_drew ?_))); (case side4 => exact (Kd.R_reads' HO_5.out).2.1); rintro e w' ⟨rfl, ⟨nd, rfl⟩⟩; refine ⟨_, rfl, ?_⟩))
                          go_ret
                          exact ⟨by first | rfl | (simp [errW_none, errW_some] <;> rfl) | (simp only [← hji3, ← hji6]; first | rfl | (simp [errW_none, errW_some] <;> rfl)) | (simp [*, errW_none, errW_some] <;> rfl), by repeat (first | (with_reducible first | exact HB.out | apply below_alloc | apply pw_below_drewN | apply below_drew1) | exact HB.out)⟩
          · rw [if_neg c9] at H
            exact absurd H (by simp)
        · rw [if_neg c8] at H
          exact absurd H (by simp)
      · rw [if_neg c7] at H
        exact absurd H (by simp)
    · rw [if_neg c5] at H
      exact absurd H (by simp)
  · rw [if_neg c4] at H
    exact absurd H (by simp)

end Go.Proofs.Ytommjjjlljmpbaa.PSteps
